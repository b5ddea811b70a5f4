/- PRINTED by my own tool (wip/tool/gen.py): contracts of Go functions of this seat, each with its proof. -/
import Derived.Test.YtgjakhpjmapelaaGreatDoorProg
import Derived.Test.YtgjakhpjmapelaaGreatDoorQwnB
import Derived.Test.YtgjakhpjmapelaaGreatDoorQwnA
import Derived.Test.YtgjakhpjmapelaaGreatDoorQwnC
import Derived.Test.YtgjakhpjmapelaaGreatDoorQwnD
set_option linter.unusedVariables false
set_option linter.unusedSimpArgs false
namespace Go.Proofs.YtgjakhpjmapelaaGreatDoor
open Go.Ew Go.RowKit
set_option maxRecDepth 100000
set_option maxHeartbeats 1600000
attribute [local irreducible] WL WC SO PW PX PZ WE Code.wp wpList sM ck
attribute [local irreducible] ku yA jH fy eo A3 D4 LQ words ej cZ jT fJ wy
theorem cE {P:Program} {g:Nat} {fn:Func} {c:Code} (h:P.funcs[g]? =some fn) (hb:fn.body=some c:=by exact rfl) (hn:(fn.name== "runtime.NumGoroutine")=false:=by kernel_rfl):cD P g:=⟨fn,c,h,hb,hn⟩
theorem j1 {P:Program} {s:TypeId} {j o:Nat} {fs:Array _} {fd:_} (h:P.underlying s=some (.struct fs)) (h1:fs[j]? =some fd:=by exact rfl) (h2:fd.offset=o:=by exact rfl) (h3:((P.info? fd.type).map fun i=>Nat.beq i.size 0)=some false:=by kernel_rfl):gV P s j o:=⟨fs,fd,h,h1,h2,h3⟩
theorem dU {M0 M1:Nat→Prop} {w0 w:World} {l:List Go.Ew.Item} {α:Type} [GT α] {a:OA} {c:Nat} {xs:List α} (H:HI M0 w0 w l) (h:RV M1 w (.slice a xs.length c) xs) (e:MS M0 l=M1:=by first|with_reducible rfl|(repeat first|rw[bQ]|rw[aG rfl])):HI M0 w0 w (iL a xs c::l):=H.put (it:=iL a xs c) rfl (by rw[e];exact h)
noncomputable abbrev aM:Program:=Tryz.prog
theorem aS {x:Int} (h:aK x:=by first|assumption|(unfold aK at *;omega)):aK x:=h
theorem ao_ {p:Prop} (h:p:=by first|omega|assumption|simp):p:=h
theorem aV {p:Prop} (h:p:=by kernel_rfl):p:=h
theorem bH {v:Value} {k:IntKind} {a b:Int} (h:v=.int k a) (e:a=b:=by first|rfl|omega|simp):v=.int k b:=e▸h
theorem dv {M0:Nat→Prop} {P:Program} {g:FuncId} {fn:Func} {c:Code} {args:Array Value} {w:World} {ai:Value→World→Prop} (n:Nat) (hf:P.funcs[g]? =some fn) (hb:fn.body=some c) (hn:fn.ntmps=n) (ha:Nat.ble args.size n=true) (hM:∀b,M0 b→b<w.heap.size) (h:∀f:aR,(∀(i:Nat) {v:Value},args.toList[i]? =some v→f i=v)→HI M0 w w []→WC P n c (sM P n fn ai) f w):Calls P g args w (ck ai):=
  enter n hf hb hn ha fun f h1=>h f (fun i v hv=>by
    rw[aqB] at hv
    obtain⟨h2,h3⟩:=apU.1 hv
    rw[←h3]
    exact h1 i h2) (HI.start hM)
theorem qF {w:World}:∀b,(fun _:Nat=>False) b→b<w.heap.size:=fun _ h=>h.elim
theorem kZ {F S:OA→Nat→Value} {D:Nat→Prop} {α:Type} [GT α] {X:List α}:sD (fun N v w=>∃(a:OA) (c:Nat),v=F a c∧RV (MN D N) w (S a c) X):=
  ⟨by rintro _ _ _ _ x_ ⟨a,c,e_,r⟩;exact⟨a,c,e_,r.lift (Up.ext x_)⟩,by rintro _ _ _ _ _ k_ ⟨a,c,e_,r⟩;exact⟨a,c,e_,ig r k_⟩⟩
theorem oA {F S:OA→Nat→Value} {D:Nat→Prop} {α:Type} [GT α] {X:List α}:sD (fun _ v w=>∃(a:OA) (c:Nat),v=F a c∧RV D w (S a c) X):=
  mN (by rintro _ _ _ x_ ⟨a,c,e_,r⟩;exact⟨a,c,e_,r.lift (Up.ext x_)⟩)
abbrev cz {α:Type} [GT α] (M:Nat→Prop) (w:World) (a:OA) (c:Nat) (l:List α):Prop:=RV M w (.slice a l.length c) l
abbrev eC (M:Nat→Prop) (w:World):Prop:=∀b,M b→b<w.heap.size
section
variable {P:Program} {n id:Nat} {l:List Oper} {y:Code} {Q:Exit→Act→World→Prop} {f:aR} {w:World} {ops:Array Oper}
theorem av (h:WC P n y Q f w):WL P n ops (Exit.then (fun a w=>y.wp P Q a w) Q) [] f w:=z (nx h)
theorem aD (h:WL P n l.toArray (Exit.then (fun a w=>y.wp P Q a w) Q) l f w):WC P n (.seq (.region id l.toArray false) y) Q f w:=sq (rg h)
theorem bz (h:WL P n l.toArray (Exit.then (fun a w=>y.wp P Q a w) Q) l f w):WL P n ops (Exit.then (fun a w=>(Code.seq (.region id l.toArray false) y).wp P Q a w) Q) [] f w:=z (nx (sq (rg h)))
section
variable {rest:List Oper} {d t j off bb:Nat} {dd:Option Nat} {x:Operand} {v z:Value} {ty T t2:TypeId} {ps:String} {af:Array Edge} {ad:Addr} {op:Op} {want b:Bool} {bytes:Nat} {cs:Array Value} {M0:Nat→Prop} {w0:World} {l:List Go.Ew.Item}
theorem bS {aj:UN} {zk:ZK} {ks:List ZK} {ag:World→Prop} {K0:UN→aR→Prop} {rest:List Oper} {o:Oper} {w0:World} (h:PW P n ops w0 (fun f'=>PZ P n ops w0 ag K0 rest ks aj f') [o] f) (hz:Lu zk=true:=by exact rfl) (hf:(lB n o&&ED ops o aj)=true:=by exact rfl):PW P n ops w0 (fun f=>PZ P n ops w0 ag K0 (o::rest) (zk::ks) aj f) [] f:=zq (yq hz hf h)
theorem ak (ox:bM n x=true) (hx:ev f x=v) (h:WL P n ops Q rest (cq f d v) w):WL P n ops Q (⟨some d,.move x,ty,ps,af,none⟩::rest) f w:=k (mv ox hx h)
theorem au (ox:bM n x=true) (hx:ev f x=v) (h:WL P n ops Q rest (cq f d v) w):WL P n ops Q (⟨some d,.assign x,ty,ps,af,none⟩::rest) f w:=k (jV ox hx h)
theorem aU (F:gV P T j off) (ox:bM n x=true) (hx:ev f x=.pointer (some ad)) (h:WL P n ops Q rest (cq f d (.pointer (some (ad.add off)))) w):WL P n ops Q (⟨some d,.fieldAddr T x j,ty,ps,af,none⟩::rest) f w:=k (fa F ox hx h)
theorem aZ (hj:yE ops j=some t) (ht:Nat.blt t n=true) (hv:f t=.bool b) (hb:b=!want) (h:WL P n ops Q rest (de f dd undef) w):WL P n ops Q (⟨dd,op,ty,ps,af,some (j,want)⟩::rest) f w:=k (gn hj ht hv hb h)
theorem bl (hj:yE ops j=some t) (ht:Nat.blt t n=true) (hv:f t=.bool b) (hb:b=want) (h:SO P n ops ⟨dd,op,ty,ps,af,none⟩ f w (WL P n ops Q rest)):WL P n ops Q (⟨dd,op,ty,ps,af,some (j,want)⟩::rest) f w:=k (gy hj ht hv hb h)
theorem bq (H:HI M0 w0 w l) (i:Nat) (hi:l[i]? =some (box bb cs t2)) (F:ez P T 1 false bytes z) (ox:bM n x=true) (hx:ev f x=.pointer (some ⟨bb,off,none⟩)) (hl:((cs.toList.drop off).take 1).length=1) (h:WL P n ops Q rest (cq f d (ta false ((cs.toList.drop off).take 1))) w):WL P n ops Q (⟨some d,.load T x,ty,ps,af,none⟩::rest) f w:=k (lx H i hi F ox hx hl h)
end
theorem cQ (h:WL P n l.toArray (Exit.then (fun a w=>y.wp P Q a w) Q) l f w):Exit.then (fun a w=>(Code.seq (.region id l.toArray false) y).wp P Q a w) Q .normal (cp n f) w:=nx (sq (rg h))
end
variable {M:cg} {w w_:aJ}
variable {i n n1 fE fH gK mT mS nA mn j o vr ui:Int} {x:bw} {jW xe xc fX bG ee aC aA ay zK gM:OA} {j8 xb xa gb dW qN yN bF aF aB az dY ax bP zE kE gh mG mH gL:Nat} {a b:List bw} {l xs U se kp:aE} {r:List Go.Ew.Item} {qQ:List Value} {p:Int→Bool} {IH LG:TypeId} {mr:List (List bw)} {I:List aO} {met:List ((Int×Int)×Bool)}
theorem Ep:aM.underlying 152=some (.int .u64):=aV
theorem CN:aM.underlying 3=some (.int .i64):=aV
theorem RQ:cD aM 127:=cE Tryz.func127
theorem Ym:aM.underlying 227=some (.array 64 5):=aV
theorem Yt:ez aM 5 1 false 1 (.int .u8 0):=⟨aV,aV⟩
theorem Yl:aM.underlying 5=some (.int .u8):=aV
theorem agW:cD aM 157:=cE Tryz.func157
theorem iq:aM.underlying 144=some (.slice 151):=aV
theorem Zz:cD aM 124:=cE Tryz.func124
theorem fA:ez aM 151 1 false 8 (.int .u64 0):=⟨aV,aV⟩
theorem ahb:cD aM 125:=cE Tryz.func125
theorem RR:cD aM 126:=cE Tryz.func126
theorem ahc:cD aM 123:=cE Tryz.func123
theorem ag':cD aM 129:=cE Tryz.func129
theorem cw:aM.underlying 27=some (.slice 3):=aV
theorem aT:ez aM 3 1 false 8 (.int .i64 0):=⟨aV,aV⟩
theorem FE (rp:aK i):Calls aM 127 #[C i] w (ck fun v w'=>v=aj (ku i)∧Ext w w'):=by
 refine dv 9 Tryz.func127 J J J qF fun f0 ha H=>?_
 have i0:f0 0=C i:=ha 0 bm
 refine aD<|au (v:=aj (0#64)) J J<|av<|sq<|aD<|ak J i0<|k<|Qe J J CN Ep<|k<|Zs (BitVec.ofInt 64 i) (63#64) J J J J<|z<|nx<|cd (b:=decide ((63#64).toNat<(BitVec.ofInt 64 i).toNat)) J J (fun b0=>?_)<|fun b0=>?_
 ·
  have p0:=dT b0
  refine aD<|au (v:=aj (0#64)) J J<|av<|rt<|aL<|r1 J J ?_
  exact⟨apj aj (by exact abJ rp p0),H.below⟩
 have p0:=dF b0
 refine sk<|cQ<|ak J i0<|k<|Qe J J CN Ep<|k<|aco (1#64) ((BitVec.ofInt 64 i).toNat:Int) aq J J J J<|au (v:=aj ((1#64) <<< ((BitVec.ofInt 64 i).toNat:Int).toNat)) J J<|av<|rt<|r1 J J ?_
 exact⟨apj aj (by exact abI rp p0),H.below⟩
theorem VT (rp:aK i):Calls aM 125 #[aj x,C i] w (ck fun v w'=>v=.bool (yA x i)∧Ext w w'):=by
 refine dv 10 Tryz.func125 J J J qF fun f0 ha H=>?_
 have i0:f0 0=aj x:=ha 0 bm
 have i1:f0 1=C i:=ha 1 bm
 refine aD<|au (v:=.bool false) J J<|bz<|ak J i0<|ak J i1<|k ?_
 have bT:=FE (i:=i) (w:=w) rp
 refine ca RQ J (ec J e0) bT ?_
 rintro _ w0 ⟨rfl,bY⟩
 have H0:=H.ext bY
 refine k<|D' x (ku i) J J J J<|k<|neU (x &&& (ku i)) (0#64) J J J J<|au (v:=.bool (!decide ((x &&& (ku i))=(0#64)))) J J<|av<|rt<|r1 J J ?_
 exact⟨apj Value.bool (by exact aa_ _ _),H0.below⟩
theorem Z8 (hT:fY 0 w):Calls aM 157 #[aj x] w (ck fun v w'=>v=C ((fJ x:Nat):Int)∧Ext w w'):=by
 refine dv 14 Tryz.func157 J J J qF fun f0 ha H=>?_
 have i0:f0 0=aj x:=ha 0 bm
 refine aD<|au (v:=C 0) J J<|av<|sq<|aD<|ak J i0<|k<|eqU x (0#64) J J J J<|z<|nx<|cd (b:=decide (x=(0#64))) J J (fun b0=>?_)<|fun b0=>?_
 ·
  have p0:=dT b0
  refine aD<|au (v:=C 64) J J<|av<|rt<|aL<|r1 J J ?_
  exact⟨apj (Value.int .i64) (by have e_:=p0;subst e_;rw[Fe];rfl),H.below⟩
 have p0:=dF b0
 refine sk<|cQ<|ak J i0<|ak J i0<|k<|ac6 x J J<|k<|D' x (-x) J J J J<|k<|F3 (x &&& (-x)) (285870213051353865#64) J J J J<|k<|Er ((x &&& (-x))*(285870213051353865#64)) 58 J J J J<|k<|ajt (i:=(((x &&& (-x))*(285870213051353865#64)) >>> 58).toNat) J J J J (by exact FC (by simpa using p0)) Ym Yt<|k<|ld8 (ajd (M:=fun _=>False) hT H.below J<|by exact FC (by simpa using p0)) Yt J J<|k<|cvI J J aS Yl CN<|au (v:=C ((wy (((x &&& (-x))*(285870213051353865#64)) >>> 58).toNat).toNat:Int)) J J<|av<|rt<|r1 J J ?_
 exact⟨apj (Value.int .i64) (by exact VO (by simpa using p0)),H.below⟩
theorem QB (hT:fY 0 w):Calls aM 129 #[aj x] w (ck fun v w'=>v=C ((fJ x:Nat):Int)∧Ext w w'):=by
 refine dv 5 Tryz.func129 J J J qF fun f0 ha H=>?_
 have i0:f0 0=aj x:=ha 0 bm
 refine aD<|au (v:=C 0) J J<|bz<|ak J i0<|k ?_
 have bT:=Z8 (x:=x) (w:=w)<|hT.ext H.below
 refine ca agW J (ec J e0) bT ?_
 rintro _ w0 ⟨rfl,bY⟩
 have H0:=H.ext bY
 refine au (v:=C ((fJ x:Nat):Int)) J J<|av<|rt<|r1 J J ?_
 exact⟨J,H0.below⟩
theorem S4 {r:List bw} (hM:eC M w) (qd:cz M w jW j8 r) (rp:aK i):Calls aM 124 #[R jW r j8,C i] w (ck fun v w'=>v=.bool (jH r i)∧Ext w w'):=by
 refine dv 14 Tryz.func124 J J J hM fun f0 ha H=>?_
 have H0:=dU H qd
 have WV:=bg qd
 have i0:f0 0=R jW r j8:=ha 0 bm
 have i1:f0 1=C i:=ha 1 bm
 refine aD<|au (v:=.bool false) J J<|bz<|ak J i1<|k<|geq J J J J<|ak (v:=.bool (decide (0≤i))) J J ?_
 rcases bE (decide (0≤i)) with b0|b0
 ·
  have p0:=dT b0
  refine bl J J J b0<|mv J i1<|bl J J J b0<|LZ J J J J<|bl J J J b0<|mv J i0<|bl J J J b0<|dP J J iq<|bl J J J b0<|lss J J J J<|k<|aQ J J J J b0 J<|au (v:=.bool (decide ((i/64)<(r.length:Int)))) J J<|av<|rt<|r1 J J ?_
  exact⟨apj Value.bool (by exact aa6 p0),H0.below⟩
 have p0:=dF b0
 refine aZ J J J b0<|aZ J J J b0<|aZ J J J b0<|aZ J J J b0<|aZ J J J b0<|k<|cU J J J J b0 J<|au (v:=.bool false) J J<|av<|rt<|r1 J J ?_
 exact⟨apj Value.bool (by exact adw aq),H0.below⟩
theorem Aw {r:List bw} (hM:eC M w) (qd:cz M w jW j8 r) (rp:aK i):Calls aM 85 #[R jW r j8,C i] w (ck fun v w'=>v=.bool (fy r i)∧Ext w w'):=by
 refine dv 18 Tryz.func85 J J J hM fun f0 ha H=>?_
 have H0:=dU H qd
 have i0:f0 0=R jW r j8:=ha 0 bm
 have i1:f0 1=C i:=ha 1 bm
 refine aD<|au (v:=.bool false) J J<|bz<|ak J i0<|ak J i1<|k ?_
 have bT:=S4 (r:=r) (i:=i) H0.mb (H0.rv 0 J) rp
 refine ca Zz J (ec J<|ec J e0) bT ?_
 rintro _ w0 ⟨rfl,bY⟩
 have H1:=H0.ext bY
 refine ak (v:=.bool (jH r i)) J J ?_
 rcases bE (jH r i) with b0|b0
 ·
  refine bl J J J b0<|mv J i0<|bl J J J b0<|mv J i1<|bl J J J b0<|LZ J J J J<|bl J J J b0<|ia (H1.rv 0 J) J J J J (by have hb:=b0;unfold jH at hb;simp only[apl] at hb;omega) iq fA ?_
  intro iy x0 aN cB
  refine bl J J J b0<|zi cB.w fA J J<|bl J J J b0<|mv J i1<|bl J J J b0<|Ls J J J J<|bl J J J b0 ?_
  have df:=VT (x:=x0) (i:=(i%64)) (w:=w0) aS
  refine ca ahb J (ec J<|ec J e0) df ?_
  rintro _ w1 ⟨rfl,cS⟩
  have H2:=H1.ext cS
  refine k<|aQ J J J J b0 J<|au (v:=.bool (yA x0<|i%64)) J J<|av<|rt<|r1 J J ?_
  exact⟨apj Value.bool (by exact abb b0 aN),H2.below⟩
 refine aZ J J J b0<|aZ J J J b0<|aZ J J J b0<|aZ J J J b0<|aZ J J J b0<|aZ J J J b0<|aZ J J J b0<|aZ J J J b0<|k<|cU J J J J b0 J<|au (v:=.bool false) J J<|av<|rt<|r1 J J ?_
 exact⟨apj Value.bool (by exact yB b0),H1.below⟩
theorem D6 {r:List bw} (hM:eC M w) (qd:cz M w jW j8 r) (Xb:r.length≤1000000000):Calls aM 126 #[R jW r j8] w (ck fun v w'=>∃(a0:OA) (c0:Nat),v=R a0 r c0∧Ext w w'∧bo M 151 w r (R a0 r c0) w'):=by
 refine dv 8 Tryz.func126 J J J hM fun f0 ha H=>?_
 have H0:=dU H qd
 have i0:f0 0=R jW r j8:=ha 0 bm
 refine aD<|au (v:=.slice none 0 0) J J<|av<|sq<|aD<|ak J i0<|k<|UR J J J J iq<|z<|nx<|cd (b:=jW.isNone) J J (fun b0=>?_)<|fun b0=>?_
 ·
  refine aD<|au (v:=.slice none 0 0) J J<|av<|rt<|aL<|r1 J J ?_
  have e0:([]:List bw)=r:=by exact(IM qd b0).symm
  have bt:=iD (fun (cb:List bw)=>(.slice none cb.length 0:Value)) e0
  exact⟨none,0,bt,H0.below,(apj (fun (x_:List bw)=>bo _ _ _ x_ (.slice none x_.length 0) _) e0).mp (fV H0.below)⟩
 refine sk<|cQ<|k<|bs (xs:=([]:List bw)) (cells:=#[]) (e:=151) H0 J eA (fun _=>aV) J J aw ?_
 intro g0 w0 bY H1
 refine ak J i0<|k<|l7 H1 0 J J J J J J (H1.rv 1 J).src iq fA J (by simp;omega) J ?_
 intro a0 c0 w1 (H2:HI M w w1 [oL w 151 a0 r c0,iL jW r j8])
 refine au (v:=R a0 r c0) J J<|av<|rt<|r1 J J ?_
 exact⟨a0,c0,J,H2.below,(H2.dx 0 J)⟩
theorem uO {r:List bw} (hM:eC M w) (qd:cz M w jW j8 r) (rp:aK i) (Xb:r.length≤1000000000):Calls aM 86 #[R jW r j8,C i] w (ck fun v w'=>∃(a0:OA) (c0:Nat),v=.slice a0 (eo r i).length c0∧Ext w w'∧bo M 151 w (eo r i) (.slice a0 (eo r i).length c0) w'):=by
 refine dv 22 Tryz.func86 J J J hM fun f0 ha H=>?_
 have H0:=dU H qd
 have i0:f0 0=R jW r j8:=ha 0 bm
 have i1:f0 1=C i:=ha 1 bm
 refine aD<|au (v:=.slice none 0 0) J J<|bz<|ak J i0<|k ?_
 have bT:=D6 (r:=r) H0.mb (H0.rv 0 J) aq
 refine ca RR J (ec J e0) bT ?_
 rintro _ w0 ⟨a0,c0,rfl,bY,cm⟩
 have H1:=H0.eU cm
 refine au (v:=R a0 r c0) J J<|av<|sq<|aD<|ak J i0<|ak J i1<|k ?_
 have df:=S4 (r:=r) (i:=i) H1.mb (H1.rv 1 J) rp
 refine ca Zz J (ec J<|ec J e0) df ?_
 rintro _ w1 ⟨rfl,cS⟩
 have H2:=H1.ext cS
 refine z<|nx<|cd (b:=jH r i) J J (fun b0=>?_)<|fun b0=>?_
 ·
  refine mw [.r,.r,.r,.r,.r,.r,.r,.r,.r,.e,.e] (fun _=>True) J aV (fun _ _=>trivial)<|yq J J<|kq (fun _ _=>mv (v:=R a0 r c0) J J e1)<|bS<|kq (fun _ _=>mv J i1 e1)<|bS<|kq (fun _ _=>LZ J J J J e1)<|bS<|tL (H2.at_ 0 J) J J J J (by have hb:=b0;unfold jH at hb;simp only[apl] at hb;omega) iq fA ?_
  intro iy x0 aN cB
  refine bS<|ags cB fA J J<|bS<|kq (fun _ _=>mv J i1 e1)<|bS<|kq (fun _ _=>Ls J J J J e1)<|zq<|yq J J<|kq (v:=aj (ku<|i%64)) (fun v_ _=>have cc:=FE (i:=(i%64)) (w:=v_) aS;ca RQ rfl (ec J e0) cc fun _ _ h_=>e2 h_)<|bS<|kq (fun _ _=>Tv x0 (ku<|i%64) J J J J e1)<|zq<|ye<|ye<|yz ?_
  intro w2 f0 _ fm _ _ cG jc
  have H3:=H2.ext fm
  have s0:=cG 5 J
  have s1:=cG 11 J
  have s2:=cG 13 J
  have s3:=cG 19 J
  refine km<|iC (H3.at_ 0 J) J J s1 s2 (by have hb:=b0;unfold jH at hb;simp only[apl] at hb;omega) iq fA ?_
  intro g0 x1 iP cO gx
  refine km<|qE H3 0 J iP J (by have hb:=b0;unfold jH at hb;simp only[apl] at hb;omega) fA J J J s3 (RV.bv.2 J) ?_
  intro w3 (H4:HI M w w3 [own w.heap.size 151 (.slice a0 r.length c0) (r.set ((i/64).toNat) (x0 ||| (ku (i%64)))),iL jW r j8])
  refine kz<|cQ<|ak J s0<|au (v:=R a0 r c0) J J<|av<|rt<|r1 J J ?_
  have e0:(r.set ((i/64).toNat) (x0 ||| (ku (i%64))):List bw)=eo r i:=by exact O' b0 aN
  have l0:r.length=(eo r i).length:=by rw[←e0];simp
  have bt:=iD (fun (vE:Nat)=>(.slice a0 vE c0:Value)) l0
  exact⟨a0,c0,bt,H4.below,(apj (fun (n_:Nat)=>bo _ _ _ (eo r i) (.slice a0 n_ c0) _) l0).mp ((apj (fun (x_:List bw)=>bo _ _ _ x_ (.slice a0 r.length c0) _) e0).mp (H4.dx 0 J))⟩
 refine sk<|cQ<|ak (v:=R a0 r c0) J J<|au (v:=R a0 r c0) J J<|av<|rt<|r1 J J ?_
 have e0:(r:List bw)=eo r i:=by exact FJ b0
 have bt:=iD (fun (cb:List bw)=>(.slice a0 cb.length c0:Value)) e0
 exact⟨a0,c0,bt,H2.below,(apj (fun (x_:List bw)=>bo _ _ _ x_ (.slice a0 x_.length c0) _) e0).mp (H2.dx 0 J)⟩
theorem S5 (Ni:aK n) (hn:n≤1000000000000000000):Calls aM 123 #[C n] w (ck fun v w'=>v=C ((words n:Nat):Int)∧Ext w w'):=by
 refine dv 8 Tryz.func123 J J J qF fun f0 ha H=>?_
 have i0:f0 0=C n:=ha 0 bm
 refine aD<|au (v:=C 0) J J<|bz<|ak J i0<|k<|max2 J J J J<|k<|add J J J J aS<|k<|sub J J J J aS<|k<|quo J J J J aq<|au (v:=C ((((max n 0)+64)-1)/64)) J J<|av<|rt<|r1 J J ?_
 exact⟨apj (Value.int .i64) (by unfold words;omega),H.below⟩
theorem Et (hM:eC M w) (Ni:aK n) (hn:n≤1000000):Calls aM 84 #[C n] w (ck fun v w'=>∃(a0:OA) (c0:Nat),v=.slice a0 (ej n).length c0∧Ext w w'∧bo M 151 w (ej n) (.slice a0 (ej n).length c0) w'):=by
 refine dv 6 Tryz.func84 J J J hM fun f0 ha H=>?_
 have i0:f0 0=C n:=ha 0 bm
 refine aD<|au (v:=.slice none 0 0) J J<|bz<|ak J i0<|k ?_
 have bT:=S5 (n:=n) (w:=w) Ni aq
 refine ca ahc J (ec J e0) bT ?_
 rintro _ w0 ⟨rfl,bY⟩
 have H0:=H.ext bY
 refine k<|mk (m:=(words n:Nat)) (zx:=(0#64:bw)) H0 J J J J iq fA (fun _ _=>rfl) (by unfold words;omega) (by unfold words;omega) ?_
 intro g0 w1 cS (H1:HI M w w1 [own w.heap.size 151 (.slice (some ⟨g0,0,none⟩) (words n:Nat) (words n:Nat)) (List.replicate (words n:Nat) (0#64:bw))])
 refine au (v:=.slice (some ⟨g0,0,none⟩) (words n:Nat) (words n:Nat)) J J<|av<|rt<|r1 J J ?_
 have e0:((List.replicate (words n:Nat) (0#64:bw)):List bw)=ej n:=by unfold ej;rfl
 have l0:(words n:Nat)=(ej n).length:=by rw[←e0];simp
 have bt:=iD (fun (vE:Nat)=>(.slice (some ⟨g0,0,none⟩) vE (words n:Nat):Value)) l0
 exact⟨(some ⟨g0,0,none⟩),(words n:Nat),bt,H1.below,(apj (fun (n_:Nat)=>bo _ _ _ (ej n) (.slice (some ⟨g0,0,none⟩) n_ (words n:Nat)) _) l0).mp ((apj (fun (x_:List bw)=>bo _ _ _ x_ (.slice (some ⟨g0,0,none⟩) (words n:Nat) (words n:Nat)) _) e0).mp (H1.dx 0 J))⟩
theorem acM (hM:eC M w) (Uq:cz M w xe xb a) (DQ:cz M w xc xa b) (ajQ:a.length≤1000000000) (aoc:b.length≤1000000000):Calls aM 135 #[R xe a xb,R xc b xa] w (ck fun v w'=>∃(a0:OA) (c0:Nat),v=.slice a0 (jT a b).length c0∧Ext w w'∧bo M 151 w (jT a b) (.slice a0 (jT a b).length c0) w'):=by
 refine dv 33 Tryz.func135 J J J hM fun f0 ha H=>?_
 have H0:=dU H Uq
 have H1:=dU H0 DQ
 have ajr:=bg Uq
 have ajq:=bg DQ
 have i0:f0 0=R xe a xb:=ha 0 bm
 have i1:f0 1=R xc b xa:=ha 1 bm
 refine aD<|au (v:=.slice none 0 0) J J<|av<|sq<|aD<|ak J i0<|k<|dP J J iq<|ak J i1<|k<|dP J J iq<|k<|lss J J J J<|z<|nx<|cd (b:=decide ((a.length:Int)<(b.length:Int))) J J (fun b0=>?_)<|fun b0=>?_
 ·
  have p0:=dT b0
  refine rg<|ak J i1<|ak J i0<|au (v:=R xc b xa) J J<|au (v:=R xe a xb) J J<|bz<|ak (v:=R xc b xa) J J<|k ?_
  have bT:=D6 (r:=b) H1.mb (H1.rv 0 J) aq
  refine ca RR J (ec J e0) bT ?_
  rintro _ w0 ⟨a0,c0,rfl,bY,cm⟩
  have H2:=H1.eU cm
  refine au (v:=R a0 b c0) J J<|av<|sq<|aD<|ak (v:=R xe a xb) J J<|k<|dP J J iq<|ak (v:=C 0) J J<|av<|bk<|lp (fun m f w'=>∃(j:Nat) (xs:List bw),m=a.length-j∧f 5=R a0 b c0∧f 17=R xe a xb∧f 18=C (a.length:Int)∧f 19=C (j:Int)∧HI M w w' [own w.heap.size 151 (.slice a0 b.length c0) xs,iL xc b xa,iL xe a xb]∧(j≤a.length)∧(xs.length=b.length)∧(xs=qA b.length b a b j)) _ ⟨0,b,J,J,J,J,(bH J),H2,aq,(by rfl),(by exact Dc _ _ _)⟩ ?_
  rintro _ f0 w1 ⟨j,xs,rfl,s0,s1,s2,s3,H3,hk,hl,hs⟩
  refine aD<|k<|lss J J s3 s2<|av<|sq<|cd (b:=decide ((j:Int)<(a.length:Int))) J J (fun b1=>?_)<|fun b1=>?_
  ·
   have p1:=dT b1
   refine sk<|nx<|sq<|bk<|aD<|ak J s3<|k<|ia (H3.rv 2 J) J J s1 s3 aq iq fA ?_
   intro iy x0 aN cB
   refine k<|zi cB.w fA J J<|au (v:=C (j:Int)) J J<|au (v:=aj x0) J J<|av<|rg<|ak J s0<|ak (v:=C (j:Int)) J J<|k<|iC (H3.at_ 0 J) J J J J aq iq fA ?_
   intro g0 x1 iP cO gx
   refine k<|zi gx fA J J<|ak (v:=aj x0) J J<|k<|Tv x1 x0 J J J J<|k<|iC (H3.at_ 0 J) J J J J aq iq fA ?_
   intro g1 x2 kT iY jw
   refine k<|qE H3 0 J kT J aq fA J J J J (RV.bv.2 J) ?_
   intro w2 (H4:HI M w w2 [own w.heap.size 151 (.slice a0 b.length c0) (xs.set ((j:Int).toNat) (x1 ||| x0)),iL xc b xa,iL xe a xb])
   refine z<|aH<|nx<|rg<|k<|add J J s3 J aS<|ak (v:=C ((j:Int)+1)) J J<|z<|bB _ ?_ ⟨(j+1),(xs.set ((j:Int).toNat) (x1 ||| x0)),J,s0,s1,s2,(bH J),H4,aq,(by simpa using hl),(by have e1:=By (hs▸cO);have e2:=xH aN;rw[hs];exact FX (by rw[e1];unfold tO;rw[e2]))⟩
   omega
  have p1:=dF b1
  refine ex<|aW<|ba<|bh<|cQ<|ak J s0<|au (v:=R a0 b c0) J J<|av<|rt<|r1 J J ?_
  have e0:(xs:List bw)=jT a b:=by rw[hs];first|exact yd aq (fun i h1 h2=>y' aq)|(rw[Mo];exact yd aq (fun i h1 h2=>y' aq))
  have l0:b.length=(jT a b).length:=by rw[←e0];omega
  have bt:=iD (fun (vE:Nat)=>(.slice a0 vE c0:Value)) l0
  exact⟨a0,c0,bt,H3.below,(apj (fun (n_:Nat)=>bo _ _ _ (jT a b) (.slice a0 n_ c0) _) l0).mp ((apj (fun (x_:List bw)=>bo _ _ _ x_ (.slice a0 b.length c0) _) e0).mp (H3.dx 0 J))⟩
 have p0:=dF b0
 refine sk<|cQ<|ak J i0<|k ?_
 have bT:=D6 (r:=a) H1.mb (H1.rv 1 J) aq
 refine ca RR J (ec J e0) bT ?_
 rintro _ w0 ⟨a0,c0,rfl,bY,cm⟩
 have H2:=H1.eU cm
 refine au (v:=R a0 a c0) J J<|av<|sq<|aD<|ak J i1<|k<|dP J J iq<|ak (v:=C 0) J J<|av<|bk<|lp (fun m f w'=>∃(j:Nat) (xs:List bw),m=b.length-j∧f 5=R a0 a c0∧f 17=R xc b xa∧f 18=C (b.length:Int)∧f 19=C (j:Int)∧HI M w w' [own w.heap.size 151 (.slice a0 a.length c0) xs,iL xc b xa,iL xe a xb]∧(j≤b.length)∧(xs.length=a.length)∧(xs=qA a.length a b a j)) _ ⟨0,a,J,J,J,J,(bH J),H2,aq,(by rfl),(by exact Dc _ _ _)⟩ ?_
 rintro _ f0 w1 ⟨j,xs,rfl,s0,s1,s2,s3,H3,hk,hl,hs⟩
 refine aD<|k<|lss J J s3 s2<|av<|sq<|cd (b:=decide ((j:Int)<(b.length:Int))) J J (fun b1=>?_)<|fun b1=>?_
 ·
  have p1:=dT b1
  refine sk<|nx<|sq<|bk<|aD<|ak J s3<|k<|ia (H3.rv 1 J) J J s1 s3 aq iq fA ?_
  intro iy x0 aN cB
  refine k<|zi cB.w fA J J<|au (v:=C (j:Int)) J J<|au (v:=aj x0) J J<|av<|rg<|ak J s0<|ak (v:=C (j:Int)) J J<|k<|iC (H3.at_ 0 J) J J J J aq iq fA ?_
  intro g0 x1 iP cO gx
  refine k<|zi gx fA J J<|ak (v:=aj x0) J J<|k<|Tv x1 x0 J J J J<|k<|iC (H3.at_ 0 J) J J J J aq iq fA ?_
  intro g1 x2 kT iY jw
  refine k<|qE H3 0 J kT J aq fA J J J J (RV.bv.2 J) ?_
  intro w2 (H4:HI M w w2 [own w.heap.size 151 (.slice a0 a.length c0) (xs.set ((j:Int).toNat) (x1 ||| x0)),iL xc b xa,iL xe a xb])
  refine z<|aH<|nx<|rg<|k<|add J J s3 J aS<|ak (v:=C ((j:Int)+1)) J J<|z<|bB _ ?_ ⟨(j+1),(xs.set ((j:Int).toNat) (x1 ||| x0)),J,s0,s1,s2,(bH J),H4,aq,(by simpa using hl),(by have e1:=By (hs▸cO);have e2:=xH aN;rw[hs];exact FX (by rw[e1];unfold tO;rw[e2]))⟩
  omega
 have p1:=dF b1
 refine ex<|aW<|ba<|bh<|cQ<|ak J s0<|au (v:=R a0 a c0) J J<|av<|rt<|r1 J J ?_
 have e0:(xs:List bw)=jT a b:=by rw[hs];first|exact yd aq (fun i h1 h2=>y' aq)|(rw[Mo];exact yd aq (fun i h1 h2=>y' aq))
 have l0:a.length=(jT a b).length:=by rw[←e0];omega
 have bt:=iD (fun (vE:Nat)=>(.slice a0 vE c0:Value)) l0
 exact⟨a0,c0,bt,H3.below,(apj (fun (n_:Nat)=>bo _ _ _ (jT a b) (.slice a0 n_ c0) _) l0).mp ((apj (fun (x_:List bw)=>bo _ _ _ x_ (.slice a0 a.length c0) _) e0).mp (H3.dx 0 J))⟩
theorem uP {r:List bw} (hM:eC M w) (hT:fY 0 w) (qd:cz M w jW j8 r) (Xb:r.length≤1000000000):Calls aM 89 #[R jW r j8] w (ck fun v w'=>∃(a0:OA) (c0:Nat),v=.slice a0 (cZ r).length c0∧Ext w w'∧bo M 3 w (cZ r) (.slice a0 (cZ r).length c0) w'):=by
 refine dv 29 Tryz.func89 J J J hM fun f0 ha H=>?_
 have H0:=dU H qd
 have WV:=bg qd
 have i0:f0 0=R jW r j8:=ha 0 bm
 refine aD<|au (v:=.slice none 0 0) J J<|bz<|au (v:=.slice none 0 0) J J<|av<|sq<|aD<|ak J i0<|k<|dP J J iq<|ak (v:=C 0) J J<|av<|bk ?_
 have H1:=H0.qZ Int 3
 refine lp (fun m f w'=>∃(j:Nat) (xs:aE) (a0:OA) (c0:Nat),m=r.length-j∧f 3=R a0 xs c0∧f 6=R jW r j8∧f 7=C (r.length:Int)∧f 8=C (j:Int)∧HI M w w' [oL w 3 a0 xs c0,iL jW r j8]∧(j≤r.length)∧(xs=sd r j)) _ ⟨0,([]:aE),none,0,J,J,J,J,(bH J),H1,aq,(by rfl)⟩ ?_
 rintro _ f0 w0 ⟨j,xs,a0,c0,rfl,s0,s1,s2,s3,H2,hk,hs⟩
 refine aD<|k<|lss J J s3 s2<|av<|sq<|cd (b:=decide ((j:Int)<(r.length:Int))) J J (fun b0=>?_)<|fun b0=>?_
 ·
  have p0:=dT b0
  refine sk<|nx<|sq<|bk<|aD<|ak J s3<|k<|ia (H2.rv 1 J) J J s1 s3 aq iq fA ?_
  intro iy x0 aN cB
  refine k<|zi cB.w fA J J<|au (v:=C (j:Int)) J J<|au (v:=aj x0) J J<|av<|bk<|lp (fun m f w'=>∃(y:bw) (ys:aE) (a1:OA) (c1:Nat),m=(oS y).length∧f 3=R a1 ys c1∧f 4=C (j:Int)∧f 5=aj y∧f 6=R jW r j8∧f 7=C (r.length:Int)∧f 8=C (j:Int)∧HI M w w' [oL w 3 a1 ys c1,iL jW r j8]∧(ys++qG j y=sd r j++qG j x0)) _ ⟨x0,xs,a0,c0,J,s0,J,(O3 J<|by rfl),s1,s2,s3,H2,(by rw[hs])⟩ ?_
  rintro _ f1 w1 ⟨y,ys,a1,c1,rfl,s4,s5,s6,s7,s8,s9,H3,hy⟩
  refine sq<|aD<|ak J s6<|k<|neU y (0#64) J J J J<|z<|nx<|cd (b:=!decide (y=(0#64))) J J (fun b1=>?_)<|fun b1=>?_
  ·
   have p1:=dF<|gf b1
   refine sk<|nx<|sq<|bk<|rg<|ak J s4<|ak J s5<|k<|mul J J J J (by have h_:=zy y;unfold aK;omega)<|ak J s6<|k ?_
   have bT:=QB (x:=y) (w:=w1)<|hT.ext H3.below
   refine ca ag' J (ec J e0) bT ?_
   rintro _ w2 ⟨rfl,bY⟩
   have H4:=H3.ext bY
   refine k<|add J J J J (by have h_:=zy y;unfold aK;omega)<|k<|bs (xs:=([((j:Int)*64)+((fJ y:Nat):Int)]:aE)) (cells:=#[C (((j:Int)*64)+((fJ y:Nat):Int))]) (e:=3) H4 J (ct J eA) (fun _=>aV) ⟨[C (((j:Int)*64)+((fJ y:Nat):Int))],[],J,⟨J,(show aK (((j:Int)*64)+((fJ y:Nat):Int)) from(by have h_:=zy y;unfold aK;omega))⟩,J⟩ J aw ?_
   intro g0 w3 cS H5
   refine k<|l7 H5 1 J J J J J J (hG<|H5.at_ 0 J) cw aT J (by have h_:=apj List.length hy;simp only[gj] at h_;have h1:=wC r j;have h2:=Dq j x0;simp only[jb,gC];omega) J ?_
   intro a2 c2 w4 (H6:HI M w w4 [own w.heap.size 3 (.slice (some ⟨g0,0,none⟩) 1 1) ([((j:Int)*64)+((fJ y:Nat):Int)]:aE),oL w 3 a2 (ys++([((j:Int)*64)+((fJ y:Nat):Int)]:aE)) c2,iL jW r j8])
   refine au (v:=R a2 (ys++([((j:Int)*64)+((fJ y:Nat):Int)]:aE)) c2) J J<|z<|aH<|nx<|rg<|ak J s6<|ak J s6<|k<|ach y (1#64) J J J J<|k<|D' y (y-(1#64)) J J J J<|au (v:=aj (y &&& (y-(1#64)))) J J<|z ?_
   have H7:HI M w w4 [oL w 3 a2 (ys++([((j:Int)*64)+((fJ y:Nat):Int)]:aE)) c2,iL jW r j8]:=H6.bX [1,2] aw J
   refine bB _ ?_ ⟨(y &&& (y-(1#64))),(ys++([((j:Int)*64)+((fJ y:Nat):Int)]:aE)),a2,c2,J,J,s5,(O3 J<|by rfl),s7,s8,s9,H7,(by rw[apY,←hy,Rp (show y≠0#64 by simpa using p1)];rfl)⟩
   exact R9<|by simpa using p1
  have p1:=dT<|fu b1
  refine ex<|aW<|ba<|bh<|aH<|nx<|rg<|k<|add J J s9 J (by have h_:=zy y;unfold aK;omega)<|ak (v:=C ((j:Int)+1)) J J<|z<|bB _ ?_ ⟨(j+1),ys,a1,c1,J,s4,s7,s8,(bH J),H3,aq,(by rw[zV,xH aN];have e_:y=0#64:=(by simpa using p1);subst e_;rw[Ro,aql] at hy;exact hy)⟩
  omega
 have p0:=dF b0
 refine ex<|aW<|ba<|bh<|cQ<|ak J s0<|au (v:=R a0 xs c0) J J<|av<|rt<|r1 J J ?_
 have e0:(xs:aE)=cZ r:=by rw[hs];unfold cZ;congr 1;omega
 have bt:=iD (fun (cb:aE)=>(.slice a0 cb.length c0:Value)) e0
 exact⟨a0,c0,bt,H2.below,(apj (fun (x_:aE)=>bo _ _ _ x_ (.slice a0 x_.length c0) _) e0).mp (H2.dx 0 J)⟩
theorem Zv:cD aM 141:=cE Tryz.func141
theorem kV:gV aM 122 0 0:=j1 Tryz.underlying122
theorem RW:cD aM 105:=cE Tryz.func105
theorem nf:gV aM 122 1 1:=j1 Tryz.underlying122
theorem tn:gV aM 122 2 2:=j1 Tryz.underlying122
theorem ahl:cD aM 104:=cE Tryz.func104
theorem Ku (RG:aK n1):Calls aM 141 #[C n1] w (ck fun v w'=>v=.bool false∧Ext w w'):=by
 refine dv 6 Tryz.func141 J J J qF fun f0 ha H=>?_
 have i0:f0 0=C n1:=ha 0 bm
 refine aD<|au (v:=.bool false) J J<|bz<|ak J i0<|ak J i0<|k<|neq J J J J<|au (v:=.bool (!decide (n1=n1))) J J<|av<|rt<|r1 J J ?_
 exact⟨apj Value.bool bm,H.below⟩
theorem Ad {n2:Int} (RG:aK n1) (aj6:aK n2):Calls aM 105 #[C n1,C n2] w (ck fun v w'=>v=C (fK n1 n2)∧Ext w w'):=by
 refine dv 20 Tryz.func105 J J J qF fun f0 ha H=>?_
 have i0:f0 0=C n1:=ha 0 bm
 have i1:f0 1=C n2:=ha 1 bm
 refine aD<|au (v:=C 0) J J<|bz<|ak J i0<|k ?_
 have bT:=Ku (n1:=n1) (w:=w) RG
 refine ca Zv J (ec J e0) bT ?_
 rintro _ w0 ⟨rfl,bY⟩
 have H0:=H.ext bY
 refine au (v:=.bool false) J J<|bz<|ak J i1<|k ?_
 have df:=Ku (n1:=n2) (w:=w0) aj6
 refine ca Zv J (ec J e0) df ?_
 rintro _ w1 ⟨rfl,cS⟩
 have H1:=H0.ext cS
 refine au (v:=.bool false) J J<|av<|sq<|aD<|ak (v:=.bool false) J J<|av<|nB J J J<|sk<|nx<|sq<|aD<|ak (v:=.bool false) J J<|av<|nB J J J<|sk<|nx<|sq<|aD<|ak J i0<|ak J i1<|k<|lss J J J J<|z<|nx<|cd (b:=decide (n1<n2)) J J (fun b0=>?_)<|fun b0=>?_
 ·
  refine aD<|au (v:=C (-1)) J J<|av<|rt<|aL<|r1 J J ?_
  exact⟨apj (Value.int .i64) (by simp only[fK,b0,BL]),H1.below⟩
 refine sk<|nx<|sq<|aD<|ak J i0<|ak J i1<|k<|gtr J J J J<|z<|nx<|cd (b:=decide (n2<n1)) J J (fun b1=>?_)<|fun b1=>?_
 ·
  refine aD<|au (v:=C 1) J J<|av<|rt<|aL<|r1 J J ?_
  exact⟨apj (Value.int .i64) (by simp only[fK,b0,b1,BL]),H1.below⟩
 refine sk<|cQ<|au (v:=C 0) J J<|av<|rt<|r1 J J ?_
 exact⟨apj (Value.int .i64) (by simp only[fK,b0,b1,BL]),H1.below⟩
theorem afn (hM:eC M w) (mR:cz M w fX gb l):Calls aM 104 #[R fX l gb] w (ck fun v w'=>v=C (Dd l)∧Ext w w'):=by
 refine dv 18 Tryz.func104 J J J hM fun f0 ha H=>?_
 have H0:=dU H mR
 have F6:=bg mR
 have i0:f0 0=R fX l gb:=ha 0 bm
 refine aD<|au (v:=C 0) J J<|bz<|au (v:=C 0) J J<|av<|sq<|aD<|ak J i0<|k<|dP J J cw<|ak (v:=C 0) J J<|av<|bk<|lp (fun m f w'=>∃(j_:Nat),m=l.length-j_∧f 3=C 0∧f 6=R fX l gb∧f 7=C (l.length:Int)∧f 8=C (j_:Int)∧HI M w w' [iL fX l gb]∧(j_≤l.length)∧(∀y∈l.take j_,y=0)) _ ⟨0,J,J,J,J,(bH J),H0,aq,bm⟩ ?_
 rintro _ f0 w0 ⟨j_,rfl,s0,s1,s2,s3,H1,kb,hs⟩
 refine aD<|k<|lss J J s3 s2<|av<|sq<|cd (b:=decide ((j_:Int)<(l.length:Int))) J J (fun b0=>?_)<|fun b0=>?_
 ·
  have p0:=dT b0
  refine sk<|nx<|sq<|bk<|aD<|k<|ia (H1.rv 0 J) J J s1 s3 aq cw aT ?_
  intro iy x0 aN cB
  refine k<|kF cB.w aT J J ?_
  intro cm
  refine au (v:=C x0) J J<|bz<|ak (v:=C x0) J J<|ak J s0<|k<|neq J J J J<|z<|nx<|cd (b:=!decide (x0=0)) J J (fun b1=>?_)<|fun b1=>?_
  ·
   have p1:=dF<|gf b1
   refine aD<|ak (v:=C x0) J J<|au (v:=C x0) J J<|av<|rt<|bI<|aL<|du<|bI<|aL<|r1 J J ?_
   exact⟨apj (Value.int .i64) (by exact(Pr hs (by rw[dS] at aN;exact aN)<|by simpa using b1).symm),H1.below⟩
  have p1:=dT<|fu b1
  refine sk<|aH<|nx<|rg<|k<|add J J s3 J aS<|ak (v:=C ((j_:Int)+1)) J J<|z<|bB _ ?_ ⟨(j_+1),J,s0,s1,s2,(bH J),H1,aq,(by exact Z7 hs aN (by simpa using b1))⟩
  omega
 have p0:=dF b0
 refine ex<|aW<|ba<|bh<|cQ<|ak J s0<|au (v:=C 0) J J<|av<|rt<|r1 J J ?_
 exact⟨apj (Value.int .i64) (by exact(Mq<|by rw[apu aq] at hs;exact hs).symm),H1.below⟩
theorem NG (B1:aK fE) (EB:aK fH) (B0:aK gK) (Zl:aK mT) (Zk:aK mS) (Zj:aK nA):Calls aM 103 #[.agg #[C fE,C fH,C gK],.agg #[C mT,C mS,C nA]] w (ck fun v w'=>v=C (yJ (fE,fH,gK) (mT,mS,nA))∧Ext w w'):=by
 refine dv 22 Tryz.func103 J J J qF fun f0 ha H=>?_
 have i0:f0 0=.agg #[C fE,C fH,C gK]:=ha 0 bm
 have i1:f0 1=.agg #[C mT,C mS,C nA]:=ha 1 bm
 refine aD<|k<|bx H J i0 ?_
 intro aX w0 bY (H0:HI (fun _=>False) w w0 [box aX #[C fE,C fH,C gK] 122])
 refine k<|bx H0 J i1 ?_
 intro bj w1 cS (H1:HI (fun _=>False) w w1 [box bj #[C mT,C mS,C nA] 122,box aX #[C fE,C fH,C gK] 122])
 refine au (v:=C 0) J J<|av<|sq<|U4 J aV<|xq J<|kq (fun _ _=>fa kV J J e1)<|zq<|xq J<|kq (fun _ x_=>lx (H1.ext x_) 1 J aT J J J e1)<|zq<|xq J<|kq (fun _ _=>fa kV J J e1)<|zq<|xq J<|kq (fun _ x_=>lx (H1.ext x_) 0 J aT J J J e1)<|zq<|xq J<|kq (v:=C (fK fE mT)) (fun v_ x_=>?_) ?_
 ·
  have cc:=Ad (n1:=fE) (n2:=mT) (w:=v_) B1 Zl
  exact ca RW J (ec J<|ec J e0) cc fun _ _ h_=>e2 h_
 refine zq<|xq J<|kq (fun _ _=>fa nf J J e1)<|zq<|xq J<|kq (fun _ x_=>lx (H1.ext x_) 1 J aT J J J e1)<|zq<|xq J<|kq (fun _ _=>fa nf J J e1)<|zq<|xq J<|kq (fun _ x_=>lx (H1.ext x_) 0 J aT J J J e1)<|zq<|xq J<|kq (v:=C (fK fH mS)) (fun v_ x_=>?_) ?_
 ·
  have cc:=Ad (n1:=fH) (n2:=mS) (w:=v_) EB Zk
  exact ca RW J (ec J<|ec J e0) cc fun _ _ h_=>e2 h_
 refine zq<|xq J<|kq (fun _ _=>fa tn J J e1)<|zq<|xq J<|kq (fun _ x_=>lx (H1.ext x_) 1 J aT J J J e1)<|zq<|xq J<|kq (fun _ _=>fa tn J J e1)<|zq<|xq J<|kq (fun _ x_=>lx (H1.ext x_) 0 J aT J J J e1)<|zq<|xq J<|kq (v:=C (fK gK nA)) (fun v_ x_=>?_) ?_
 ·
  have cc:=Ad (n1:=gK) (n2:=nA) (w:=v_) B0 Zj
  exact ca RW J (ec J<|ec J e0) cc fun _ _ h_=>e2 h_
 refine zq<|xu (fun v w'=>∃(a0:OA) (c0:Nat),v=R a0 ([fK fE mT,fK fH mS,fK gK nA]:aE) c0∧RV H1.eI w' (R a0 ([fK fE mT,fK fH mS,fK gK nA]:aE) c0) ([fK fE mT,fK fH mS,fK gK nA]:aE)) J (by rintro _ _ _ x_ ⟨a0,c0,e_,cm⟩;exact⟨a0,c0,e_,cm.lift (Up.ext x_)⟩) J (fun v_ x_=>?_) ?_
 ·
  have H4:=H1.ext x_
  refine bs (xs:=([fK fE mT,fK fH mS,fK gK nA]:aE)) (cells:=#[C (fK fE mT),C (fK fH mS),C (fK gK nA)]) (e:=3) H4 J (ct J<|ct J<|ct J eA) (fun _=>aV) ⟨[C (fK fE mT)],[C (fK fH mS),C (fK gK nA)],J,⟨J,(show aK (fK fE mT) from(by exact GH _ _))⟩,⟨[C (fK fH mS)],[C (fK gK nA)],J,⟨J,(show aK (fK fH mS) from(by exact GH _ _))⟩,⟨[C (fK gK nA)],[],J,⟨J,(show aK (fK gK nA) from(by exact GH _ _))⟩,J⟩⟩⟩ J aw ?_
  intro g1 w3 fg (H5:HI (fun _=>False) w w3 [own w.heap.size 3 (.slice (some ⟨g1,0,none⟩) 3 3) ([fK fE mT,fK fH mS,fK gK nA]:aE),box bj #[C mT,C mS,C nA] 122,box aX #[C fE,C fH,C gK] 122])
  have H6:=H5.freeze 0 J
  exact⟨_,J,fg,⟨(some ⟨g1,0,none⟩),3,J,(mY J<|H6.rv 0 J)⟩⟩
 refine xk1 (X:=C (Dd ([fK fE mT,fK fH mS,fK gK nA]:aE))) 0 J J (fun v_ _ x_ h_=>let ⟨a2,c2,s0,dH⟩:=h_;have H9:=(H1.ext x_).put (it:=iL a2 ([fK fE mT,fK fH mS,fK gK nA]:aE) c2) rfl dH;have cc:=afn (l:=([fK fE mT,fK fH mS,fK gK nA]:aE)) H9.mb (H9.rv 0 J);ca ahl rfl (ec s0 e0) cc fun _ _ h_=>e2 h_)<|xq J<|kq (fun _ _=>jV (v:=C (Dd ([fK fE mT,fK fH mS,fK gK nA]:aE))) J J e1)<|zq<|zx ?_
 intro w5 f0 je cG jc
 have dB:=H1.ext je
 have s1:=cG 4 J
 refine nx<|rt<|r1 J J ?_
 rw[s1]
 exact⟨apj (Value.int .i64) (show (Dd ([fK fE mT,fK fH mS,fK gK nA]:aE))=(yJ (fE,fH,gK) (mT,mS,nA)) from rfl),dB.below⟩
set_option maxRecDepth 100000 in
set_option maxHeartbeats 1600000 in
def On:Go.Shelf.Ren:=⟨fun|6=>102|15=>140|14=>139|28=>166|29=>167|20=>158|21=>159|22=>160|23=>161|24=>162|25=>163|26=>164|27=>165|46=>179|47=>180|48=>181|49=>182|50=>183|57=>191|n=>n,fun|22=>119|24=>122|25=>159|3=>3|39=>152|0=>0|53=>214|55=>151|4=>4|46=>208|45=>207|50=>86|5=>5|9=>9|66=>228|70=>232|76=>241|77=>242|n=>n,fun|n=>n⟩
theorem O8:Go.Proofs.SlLaysF0.n6 aM On:={
  mixed:=aV
  f6:=⟨Tryz.f102.name,by decide,Tryz.func102.trans (apj some aV)⟩
  f14:=⟨Tryz.f139.name,by decide,Tryz.func139.trans (apj some aV)⟩
  f15:=Tryz.func140.trans (apj some aV)
  f20:=⟨Tryz.f158.name,by decide,Tryz.func158.trans (apj some aV)⟩
  f21:=⟨Tryz.f159.name,by decide,Tryz.func159.trans (apj some aV)⟩
  f22:=⟨Tryz.f160.name,by decide,Tryz.func160.trans (apj some aV)⟩
  f23:=⟨Tryz.f161.name,by decide,Tryz.func161.trans (apj some aV)⟩
  f24:=⟨Tryz.f162.name,by decide,Tryz.func162.trans (apj some aV)⟩
  f25:=⟨Tryz.f163.name,by decide,Tryz.func163.trans (apj some aV)⟩
  f26:=⟨Tryz.f164.name,by decide,Tryz.func164.trans (apj some aV)⟩
  f27:=⟨Tryz.f165.name,by decide,Tryz.func165.trans (apj some aV)⟩
  f28:=Tryz.func166.trans (apj some aV)
  f29:=Tryz.func167.trans (apj some aV)
  f46:=⟨Tryz.f179.name,by decide,Tryz.func179.trans (apj some aV)⟩
  f47:=Tryz.func180.trans (apj some aV)
  f48:=Tryz.func181.trans (apj some aV)
  f49:=⟨Tryz.f182.name,by decide,Tryz.func182.trans (apj some aV)⟩
  f50:=⟨Tryz.f183.name,by decide,Tryz.func183.trans (apj some aV)⟩
  f57:=⟨Tryz.f191.name,by decide,Tryz.func191.trans (apj some aV)⟩
  t0:=Tryz.underlying0
  a0:=Tryz.isAgg0
  z0:=Tryz.sizeOf0
  v0:=Tryz.zeroValue0
  t3:=Tryz.underlying3
  a3:=Tryz.isAgg3
  z3:=Tryz.sizeOf3
  v3:=Tryz.zeroValue3
  t4:=Tryz.underlying4
  a4:=Tryz.isAgg4
  z4:=Tryz.sizeOf4
  v4:=Tryz.zeroValue4
  t5:=Tryz.underlying5
  a5:=Tryz.isAgg5
  z5:=Tryz.sizeOf5
  v5:=Tryz.zeroValue5
  t9:=Tryz.underlying9
  a9:=Tryz.isAgg9
  z9:=Tryz.sizeOf9
  v9:=Tryz.zeroValue9
  t22:=Tryz.underlying119
  a22:=Tryz.isAgg119
  z22:=Tryz.sizeOf119
  v22:=Tryz.zeroValue119
  t25:=Tryz.underlying159
  a25:=Tryz.isAgg159
  z25:=Tryz.sizeOf159
  v25:=Tryz.zeroValue159
  t39:=Tryz.underlying152
  a39:=Tryz.isAgg152
  z39:=Tryz.sizeOf152
  v39:=Tryz.zeroValue152
  t45:=Tryz.underlying207
  a45:=Tryz.isAgg207
  z45:=Tryz.sizeOf207
  v45:=Tryz.zeroValue207
  t46:=Tryz.underlying208
  a46:=Tryz.isAgg208
  z46:=Tryz.sizeOf208
  v46:=Tryz.zeroValue208
  t50:=Tryz.underlying86
  a50:=Tryz.isAgg86
  z50:=Tryz.sizeOf86
  v50:=Tryz.zeroValue86
  t53:=Tryz.underlying214
  a53:=Tryz.isAgg214
  z53:=Tryz.sizeOf214
  v53:=Tryz.zeroValue214
  t55:=Tryz.underlying151
  a55:=Tryz.isAgg151
  z55:=Tryz.sizeOf151
  v55:=Tryz.zeroValue151
  t66:=Tryz.underlying228
  a66:=Tryz.isAgg228
  z66:=Tryz.sizeOf228
  v66:=Tryz.zeroValue228
  t70:=Tryz.underlying232
  a70:=Tryz.isAgg232
  z70:=Tryz.sizeOf232
  v70:=Tryz.zeroValue232
  t76:=Tryz.underlying241
  a76:=Tryz.isAgg241
  z76:=Tryz.sizeOf241
  v76:=Tryz.zeroValue241
  t77:=Tryz.underlying242
  a77:=Tryz.isAgg242
  z77:=Tryz.sizeOf242
  v77:=Tryz.zeroValue242}
theorem SL (jR off size:Nat) (w:aJ):Go.Proofs.CmpLays aM 103 #[] R5 3 (fun x y:CC=>yJ x.1 y.1) jR off size w:=by
  intro m os dk _ x y
  obtain⟨⟨a1,a2,a3⟩,h1,h2,h3⟩:=x
  obtain⟨⟨b1,b2,b3⟩,k1,k2,k3⟩:=y
  refine(NG h1 h2 h3 k1 k2 k3).mono ?_
  intro e w' h_
  unfold ck at h_
  obtain⟨v,rfl,rfl,hx⟩:=h_
  exact⟨J,hx.grow⟩
theorem SM {ee:Option Addr} {xs:List eu} (hl:xs.length≤4611686018427387903) (H:HI M w w_ ([own w.heap.size 122 (.slice ee xs.length dW) xs]++r)):
    Calls aM 102 #[.slice ee xs.length dW,.func (.func 103) #[] #[]] w_ (ck fun v w'=>v=.tuple #[]∧HI M w w' ([own w.heap.size 122 (.slice ee xs.length dW) (xh xs)]++r)):=by
  have H0:=H.all _ (dO (i:=0) J)
  obtain⟨cs,⟨hn,ho⟩,hc⟩:=H0
  rcases ho with ⟨ho,h0⟩|⟨g,cap,cur,ho, -⟩
  · have hx:xs=[]:=aqp.1 h0
    subst hx
    cases ho
    refine(Go.Proofs.AnyF.slices_SortFunc_none O8 none 0 _ w_).mono ?_
    rintro e w' ⟨rfl,rfl⟩
    unfold ck
    exact⟨_,J,J,by rw[SN];exact H⟩
  cases ho
  obtain⟨bs,e0,hH,hb,hT⟩:=SK (i:=0) (val:=fun b:CC=>b.1) XA H rfl
  have hn:xs.length=bs.toArray.size:=by rw[←e0];simp
  have eg:∀args w,(callFunc 103 args).run aM w=.ok (.enter 103 args) w:=enters_of Tryz.func103 aV J
  have h:=Go.Proofs.AnyQ.slices_SortFunc O8 3 Tryz.isAgg122 Tryz.sizeOf122 R5 (fun _=>rfl) (fun x v hv=>by simp[R5] at hv;rcases hv with rfl|rfl|rfl<;>rfl) (fun x y:CC=>yJ x.1 y.1) acg 103 #[] g 0 dW bs.toArray w_ eg (SL _ _ _ _) hH hb<|by rw[←hn];omega
  rw[hn]
  refine h.mono ?_
  rintro e w' ⟨rfl,d',n,os,hp,hs,rfl⟩
  have e1:=Go.Sort.sorted_unique_holds acg ajc bs.toArray d' hp hs
  unfold ck
  refine⟨_,J,J,?_⟩
  have:=hT d'.toList n os<|by simpa using hp.1
  rw[←hn,←e0,SP,←e1,e0]
  exact this
theorem Xj:cD aM 88:=cE Tryz.func88
theorem im:aM.underlying 24=some (.slice 144):=aV
theorem dw:ez aM 144 1 false 24 (.slice none 0 0):=⟨aV,aV⟩
theorem ky:gV aM 26 0 0:=j1 Tryz.underlying26
theorem ag5:cD aM 138:=cE Tryz.func138
theorem ag6:cD aM 137:=cE Tryz.func137
theorem bp:ez aM 26 2 true 32 (.agg #[.int .i64 0,.slice none 0 0]):=⟨aV,aV⟩
theorem RI:cD aM 84:=cE Tryz.func84
theorem ZD:cD aM 101:=cE Tryz.func101
theorem iJ:gV aM 26 1 1:=j1 Tryz.underlying26
theorem lg:ez aM 24 1 false 24 (.slice none 0 0):=⟨aV,aV⟩
theorem agQ:cD aM 178:=cE Tryz.func178
theorem Gs:cD aM 86:=cE Tryz.func86
theorem No:cD aM 85:=cE Tryz.func85
theorem wD {r:aE} (hM:eC M w) (qd:cz M w jW j8 r) (AX:FP aM qN qQ M w r p):Calls aM 88 #[R jW r j8,.func (.func qN) #[] qQ.toArray] w (ck fun v w'=>v=C (eM p r)∧Ext w w'):=by
 refine dv 19 Tryz.func88 J J J hM fun f0 ha H=>?_
 have H0:=dU H qd
 have WV:=bg qd
 have i0:f0 0=R jW r j8:=ha 0 bm
 have i1:f0 1=.func (.func qN) #[] qQ.toArray:=ha 1 bm
 refine aD<|au (v:=C 0) J J<|av<|sq<|aD<|ak J i0<|k<|dP J J cw<|ak (v:=C 0) J J<|av<|bk<|lp (fun m f w'=>∃(j:Nat),m=r.length-j∧f 0=R jW r j8∧f 1=.func (.func qN) #[] qQ.toArray∧f 7=C (r.length:Int)∧f 8=C (j:Int)∧HI M w w' [iL jW r j8]∧(j≤r.length)∧((r.take j).any p=false)) _ ⟨0,J,i0,i1,J,(bH J),H0,aq,bm⟩ ?_
 rintro _ f0 w0 ⟨j,rfl,s0,s1,s2,s3,H1,hk,hs⟩
 refine aD<|k<|lss J J s3 s2<|av<|sq<|cd (b:=decide ((j:Int)<(r.length:Int))) J J (fun b0=>?_)<|fun b0=>?_
 ·
  have p0:=dT b0
  refine sk<|nx<|sq<|bk<|aD<|ak J s3<|au (v:=C (j:Int)) J J<|bz<|ak J s1<|ak J s0<|ak (v:=C (j:Int)) J J<|k<|ia (H1.rv 0 J) J J J J aq cw aT ?_
  intro iy x0 aN cB
  refine k<|kF cB.w aT J J ?_
  intro cm
  refine k<|cf AX.1 J J J (ec J e0) (AX.2 _ _ _ (by exact dO ‹_›) H1.below<|(RV.int.2 ⟨J,aS⟩).lift H1.out) ?_
  rintro _ w1 ⟨rfl,bY⟩
  have H2:=H1.ext bY
  refine z<|nx<|cd (b:=p x0) J J (fun b1=>?_)<|fun b1=>?_
  ·
   refine aD<|ak (v:=C (j:Int)) J J<|au (v:=C (j:Int)) J J<|av<|rt<|bI<|aL<|du<|bI<|aL<|r1 J J ?_
   exact⟨apj (Value.int .i64) (by exact uT aN hs b1),H2.below⟩
  refine sk<|aH<|nx<|rg<|k<|add J J s3 J aS<|ak (v:=C ((j:Int)+1)) J J<|z<|bB _ ?_ ⟨(j+1),J,s0,s1,s2,(bH J),H2,aq,(by exact oF aN hs b1)⟩
  omega
 have p0:=dF b0
 refine ex<|aW<|ba<|bh<|cQ<|au (v:=C (-1)) J J<|av<|rt<|r1 J J ?_
 exact⟨apj (Value.int .i64) (by exact vI hs aq),H1.below⟩
theorem GF {r:aE} (hM:eC M w) (qd:cz M w jW j8 r) (AX:FP aM qN qQ M w r p):Calls aM 137 #[R jW r j8,.func (.func qN) #[] qQ.toArray] w (ck fun v w'=>v=.bool (r.any p)∧Ext w w'):=by
 refine dv 9 Tryz.func137 J J J hM fun f0 ha H=>?_
 have H0:=dU H qd
 have i0:f0 0=R jW r j8:=ha 0 bm
 have i1:f0 1=.func (.func qN) #[] qQ.toArray:=ha 1 bm
 refine aD<|au (v:=.bool false) J J<|bz<|ak J i0<|ak J i1<|k ?_
 have bT:=wD (r:=r) (p:=p) H0.mb (H0.rv 0 J)<|AX.sub H0.below VF
 refine ca Xj J (ec J<|ec J e0) bT ?_
 rintro _ w0 ⟨rfl,bY⟩
 have H1:=H0.ext bY
 refine k<|geq J J J J<|au (v:=.bool (decide (0≤(eM p r)))) J J<|av<|rt<|r1 J J ?_
 exact⟨apj Value.bool (by exact uU),H1.below⟩
theorem R8 {r:List (List bw)} (hM:eC M w) (qd:cz M w jW j8 r) (Xb:r.length≤1000000000):Calls aM 178 #[R jW r j8] w (ck fun v w'=>∃(a0:OA) (c0:Nat),v=R a0 r c0∧Ext w w'∧bo M 144 w r (R a0 r c0) w'):=by
 refine dv 8 Tryz.func178 J J J hM fun f0 ha H=>?_
 have H0:=dU H qd
 have i0:f0 0=R jW r j8:=ha 0 bm
 refine aD<|au (v:=.slice none 0 0) J J<|av<|sq<|aD<|ak J i0<|k<|UR J J J J im<|z<|nx<|cd (b:=jW.isNone) J J (fun b0=>?_)<|fun b0=>?_
 ·
  refine aD<|au (v:=.slice none 0 0) J J<|av<|rt<|aL<|r1 J J ?_
  have e0:([]:List (List bw))=r:=by exact(IM qd b0).symm
  have bt:=iD (fun (cb:List (List bw))=>(.slice none cb.length 0:Value)) e0
  exact⟨none,0,bt,H0.below,(apj (fun (x_:List (List bw))=>bo _ _ _ x_ (.slice none x_.length 0) _) e0).mp (fV H0.below)⟩
 refine sk<|cQ<|k<|bs (xs:=([]:List (List bw))) (cells:=#[]) (e:=144) H0 J eA (fun _=>aV) J J aw ?_
 intro g0 w0 bY H1
 refine ak J i0<|k<|l7 H1 0 J J J J J J (H1.rv 1 J).src im dw J (by simp;omega) J ?_
 intro a0 c0 w1 (H2:HI M w w1 [oL w 144 a0 r c0,iL jW r j8])
 refine au (v:=R a0 r c0) J J<|av<|rt<|r1 J J ?_
 exact⟨a0,c0,J,H2.below,(H2.dx 0 J)⟩
theorem aaT {a_u:OA} {n_u c_u:Nat} (hM:eC M w) (rp:aK i) (Ni:aK n) (DQ:w.heap[yN]? =some (.cells #[C n,.slice a_u n_u c_u] IH (0,0))∧¬M yN):Calls aM 138 #[C i,.pointer (some ⟨yN,0,none⟩)] w (ck fun v w'=>v=.bool (Db n i)∧Ext w w'):=by
 refine dv 12 Tryz.func138 J J J hM fun f0 ha H=>?_
 have i0:f0 0=C i:=ha 0 bm
 have H0:=H.put (it:=ro yN #[C n,.slice a_u n_u c_u] IH) J<|by rw[bQ];exact DQ
 have i1:f0 1=pV yN 0:=ha 1 bm
 refine aD<|au (v:=.bool false) J J<|bz<|ak J i0<|k<|lss J J J J<|ak (v:=.bool (decide (i<0))) J J ?_
 rcases bE (decide (i<0)) with b0|b0
 ·
  refine aZ J J J b0<|aZ J J J b0<|aZ J J J b0<|aZ J J J b0<|k<|aQ J J J J b0 J<|au (v:=.bool true) J J<|av<|rt<|r1 J J ?_
  exact⟨apj Value.bool (by unfold Db;simp[b0]),H0.below⟩
 refine bl J J J b0<|mv J i0<|bl J J J b0<|fa ky J i1<|bl J J J b0<|lr H0 0 J aT J J J<|bl J J J b0<|geq J J J J<|k<|cU J J J J b0 J<|au (v:=.bool (decide (n≤i))) J J<|av<|rt<|r1 J J ?_
 exact⟨apj Value.bool (by unfold Db;simp[b0]),H0.below⟩
theorem TL {N7:OA} {MD NN:Nat} (hM:eC M w) (gk:aK mn) (mR:cz M w fX gb l):Calls aM 101 #[.agg #[C mn,.slice N7 MD NN],R fX l gb] w (ck fun v w'=>v=.bool (kG mn l)∧Ext w w'):=by
 refine dv 9 Tryz.func101 J J J hM fun f0 ha H=>?_
 have H0:=dU H mR
 have i0:f0 0=.agg #[C mn,.slice N7 MD NN]:=ha 0 bm
 have i1:f0 1=R fX l gb:=ha 1 bm
 refine aD<|k<|bx H0 J i0 ?_
 intro aX w0 bY (H1:HI M w w0 [box aX #[C mn,.slice N7 MD NN] 26,iL fX l gb])
 refine au (v:=.bool false) J J<|bz<|ak J i1<|k<|mf J<|k ?_
 have bT:=GF (r:=l) (p:=(fun (x_:Int)=>Db mn x_)) H1.mb (H1.rv 1 J) ⟨ag5,fun w_ v_ x_ pY e_ Hv=>by have H_:=H1.ext e_;obtain⟨_,⟨rfl,cm⟩,rfl⟩:=Hv;exact aaT (n:=mn) (M:=fun _=>False) (fun _ h_=>h_.elim) cm aS ⟨H_.at_ 0 rfl,fun h_=>h_⟩⟩
 refine ca ag6 J (ec J<|ec J e0) bT ?_
 rintro _ w1 ⟨rfl,cS⟩
 have H2:=H1.ext cS
 refine k<|jr J J<|au (v:=.bool (!(l.any<|fun (x_:Int)=>Db mn x_))) J J<|av<|rt<|r1 J J ?_
 exact⟨apj Value.bool (show (!(l.any<|fun (x_:Int)=>Db mn x_))=(kG mn l) from rfl),H2.below⟩
theorem PE (hM:eC M w) (Ni:aK n):Calls aM 121 #[C n] w (ck fun v w'=>∃(a0:OA) (c0:Nat),v=.tuple #[.agg #[C (oQ n),.slice a0 (ja n).length c0],C (sA n)]∧Ext w w'∧bo M 144 w (ja n) (.slice a0 (ja n).length c0) w'):=by
 refine dv 29 Tryz.func121 J J J hM fun f0 ha H=>?_
 have i0:f0 0=C n:=ha 0 bm
 refine aD<|k<|al H bp ?_
 intro aX w0 bY (H0:HI M w w0 [box aX #[C 0,.slice none 0 0] 26])
 let J0:=box aX #[C 0,.slice none 0 0] 26
 refine au (v:=C 0) J J<|av<|sq<|aD<|ak J i0<|k<|lss J J J J<|ak (v:=.bool (decide (n<0))) J J ?_
 rcases bE (decide (n<0)) with b0|b0
 ·
  have p0:=dT b0
  refine aZ J J J b0<|aZ J J J b0<|k<|aQ J J J J b0 J<|av<|pk J J J<|aD<|k<|bd (v:=.agg #[C 0,.slice none 0 0]) J eA (fun _=>aV)<|k<|bA H0 0 J bp J J J J J J J ?_
  intro w1 (H1:HI M w w1 [J0])
  refine au (v:=C 1) J J<|av<|rt<|aL<|iB H1 0 J bp J J J J J aw ?_
  have e0:(0:Int)=oQ n:=by exact(xD<|AI.2 aq).1.symm
  have e1:([]:List (List bw))=ja n:=by exact(xD<|AI.2 aq).2.1.symm
  have e2:(1:Int)=sA n:=by exact(xD<|AI.2 aq).2.2.symm
  have bt:=rD (fun (cb:Int) (dK:List (List bw)) (gF:Int)=>(.tuple #[.agg #[C cb,.slice none dK.length 0],C gF]:Value)) e0 e1 e2
  exact⟨none,0,bt,H1.below,(apj (fun (x_:List (List bw))=>bo _ _ _ x_ (.slice none x_.length 0) _) e1).mp (fV H1.below)⟩
 have p0:=dF b0
 refine bl J J J b0<|mv J i0<|bl J J J b0<|gtr J J J J<|k<|cU J J J J b0 J<|z<|nx<|cd (b:=decide (4096<n)) J J (fun b1=>?_)<|fun b1=>?_
 ·
  have p1:=dT b1
  refine aD<|k<|bd (v:=.agg #[C 0,.slice none 0 0]) J eA (fun _=>aV)<|k<|bA H0 0 J bp J J J J J J J ?_
  intro w1 (H1:HI M w w1 [J0])
  refine au (v:=C 1) J J<|av<|rt<|aL<|iB H1 0 J bp J J J J J aw ?_
  have e0:(0:Int)=oQ n:=by exact(xD<|AI.2 aq).1.symm
  have e1:([]:List (List bw))=ja n:=by exact(xD<|AI.2 aq).2.1.symm
  have e2:(1:Int)=sA n:=by exact(xD<|AI.2 aq).2.2.symm
  have bt:=rD (fun (cb:Int) (dK:List (List bw)) (gF:Int)=>(.tuple #[.agg #[C cb,.slice none dK.length 0],C gF]:Value)) e0 e1 e2
  exact⟨none,0,bt,H1.below,(apj (fun (x_:List (List bw))=>bo _ _ _ x_ (.slice none x_.length 0) _) e1).mp (fV H1.below)⟩
 have p1:=dF b1
 refine sk<|cQ<|ak J i0<|k ?_
 have n0:((n.toNat:Nat):Int)=n:=ap0 aq
 refine mk (m:=n.toNat) (zx:=([]:(List bw))) H0 J J (by rw[n0];exact rfl) (by rw[n0];exact rfl) im dw (fun _ _=>⟨_,J,G3 _ _⟩) aq aq ?_
 intro g0 w1 cS (H1:HI M w w1 [own w.heap.size 144 (.slice (some ⟨g0,0,none⟩) n.toNat n.toNat) (List.replicate n.toNat ([]:(List bw))),J0])
 refine au (v:=.slice (some ⟨g0,0,none⟩) n.toNat n.toNat) J J<|av<|sq<|aD<|ak (v:=.slice (some ⟨g0,0,none⟩) n.toNat n.toNat) J J<|k<|dP J J im<|ak (v:=C 0) J J<|av<|bk<|lp (fun m f w'=>∃(j:Nat) (xs:List (List bw)),m=n.toNat-j∧f 0=C n∧f 2=pV aX 0∧f 4=.slice (some ⟨g0,0,none⟩) n.toNat n.toNat∧f 16=C (n.toNat:Int)∧f 17=C (j:Int)∧HI M w w' [own w.heap.size 144 (.slice (some ⟨g0,0,none⟩) n.toNat n.toNat) xs,J0]∧(j≤n.toNat)∧(xs.length=n.toNat)∧(xs=v8 n.toNat j (ej n) [])) _ ⟨0,(List.replicate n.toNat ([]:(List bw))),J,i0,J,J,J,(bH J),H1,aq,bm,(by exact OO _ _ _)⟩ ?_
 rintro _ f0 w2 ⟨j,xs,rfl,s0,s1,s2,s3,s4,H2,hk,hl,hs⟩
 refine aD<|k<|lss J J s4 s3<|av<|sq<|cd (b:=decide ((j:Int)<(n.toNat:Int))) J J (fun b2=>?_)<|fun b2=>?_
 ·
  have p2:=dT b2
  refine sk<|nx<|sq<|bk<|aD<|ak J s4<|au (v:=C (j:Int)) J J<|av<|rg<|ak J s2<|ak (v:=C (j:Int)) J J<|ak J s0<|k ?_
  have bT:=Et (n:=n) H2.mb Ni aq
  refine ca RI J (ec J e0) bT ?_
  rintro _ w3 ⟨a0,c0,rfl,fm,cm⟩
  have H3:=H2.eU cm
  refine k<|iC (H3.at_ 1 J) J J J J aq im dw ?_
  intro g1 x0 iP aN cB
  refine k ?_
  have H4:=H3.freeze 0 J
  refine qE H4 1 J iP J aq dw J J J J (H4.rv 0 J) ?_
  let J1:=own w.heap.size 144 (.slice (some ⟨g0,0,none⟩) n.toNat n.toNat) (xs.set ((j:Int).toNat) (ej n))
  intro w4 (H5:HI M w w4 [iL a0 (ej n) c0,J1,J0])
  refine z<|aH<|nx<|rg<|k<|add J J s4 J aS<|ak (v:=C ((j:Int)+1)) J J<|z ?_
  have H6:HI M w w4 [J1,J0]:=H5.bX [1,2] aw J
  refine bB _ ?_ ⟨(j+1),(xs.set ((j:Int).toNat) (ej n)),J,s0,s1,s2,s3,(bH J),H6,aq,(by simpa using hl),(by rw[hs];exact R3 aq)⟩
  omega
 have p2:=dF b2
 refine ex<|aW<|ba<|bh<|cQ<|ak J s0<|ak J s2<|k<|bd (v:=.agg #[C n,.slice (some ⟨g0,0,none⟩) n.toNat n.toNat]) J (ct J<|ct J eA) (fun _=>aV)<|k<|bA H2 1 J bp J J s1 J J J J ?_
 intro w3 (H3:HI M w w3 [own w.heap.size 144 (.slice (some ⟨g0,0,none⟩) n.toNat n.toNat) xs,box aX #[C n,.slice (some ⟨g0,0,none⟩) n.toNat n.toNat] 26])
 refine au (v:=C 0) J J<|av<|rt<|iB H3 1 J bp J J J s1 J aw ?_
 have e0:(n:Int)=oQ n:=by exact(yi<|sY.2 aq).1.symm
 have e1:(xs:List (List bw))=ja n:=by rw[(yi<|sY.2 aq).2.1,hs];exact R4 aq
 have l1:n.toNat=(ja n).length:=by rw[←e1];omega
 have e2:(0:Int)=sA n:=by exact(yi<|sY.2 aq).2.2.symm
 have bt:=rD (fun (cb:Int) (vD:Nat) (gF:Int)=>(.tuple #[.agg #[C cb,.slice (some ⟨g0,0,none⟩) vD n.toNat],C gF]:Value)) e0 l1 e2
 exact⟨(some ⟨g0,0,none⟩),n.toNat,bt,H3.below,(apj (fun (n_:Nat)=>bo _ _ _ (ja n) (.slice (some ⟨g0,0,none⟩) n_ n.toNat) _) l1).mp ((apj (fun (x_:List (List bw))=>bo _ _ _ x_ (.slice (some ⟨g0,0,none⟩) n.toNat n.toNat) _) e1).mp (H3.dx 0 J))⟩
theorem aaU (hM:eC M w) (gk:aK mn) (gz:cz M w bG bF mr) (rp:aK i) (Cw:aK j) (Y0:((mr.length:Nat):Int)=mn) (Ru:∀x∈mr,x.length≤1000000000) (Y9:mn≤4096):Calls aM 156 #[.agg #[C mn,R bG mr bF],C i,C j] w (ck fun v w'=>∃(a0:OA) (c0:Nat),v=.tuple #[.agg #[C (iu mn i j),.slice a0 (kg mn mr i j).length c0],C (lM mn i j)]∧Ext w w'∧bo M 144 w (kg mn mr i j) (.slice a0 (kg mn mr i j).length c0) w'):=by
 refine dv 32 Tryz.func156 J J J hM fun f0 ha H=>?_
 let J0:=iL bG mr bF
 have H0:=H.put (it:=J0) J<|by rw[bQ];exact gz
 have i0:f0 0=.agg #[C mn,R bG mr bF]:=ha 0 bm
 have i1:f0 1=C i:=ha 1 bm
 have i2:f0 2=C j:=ha 2 bm
 refine aD<|k<|bx H0 J i0 ?_
 intro aX w0 bY (H1:HI M w w0 [box aX #[C mn,R bG mr bF] 26,J0])
 let J1:=box aX #[C mn,R bG mr bF] 26
 refine k<|al H1 bp ?_
 intro bj w1 cS (H2:HI M w w1 [box bj #[C 0,.slice none 0 0] 26,J1,J0])
 refine au (v:=C 0) J J<|av<|sq<|aD<|k<|cC H2 1 J bp J J aw J<|ak J i1<|ak J i2<|k<|bs (xs:=([i,j]:aE)) (cells:=#[C i,C j]) (e:=3) H2 J (ct J<|ct J eA) (fun _=>aV) ⟨[C i],[C j],J,⟨J,rp⟩,⟨[C j],[],J,⟨J,Cw⟩,J⟩⟩ J aw ?_
 intro g0 w2 fm H3
 refine k ?_
 have H4:=H3.freeze 0 J
 have bT:=TL (mn:=mn) (l:=([i,j]:aE)) (N7:=bG) (MD:=mr.length) (NN:=bF) H4.mb gk<|H4.rv 0 J
 refine ca ZD J (ec J<|ec J e0) bT ?_
 rintro _ w3 ⟨rfl,fg⟩
 have H5:=H3.ext fg
 refine k<|jr J J<|z<|nx<|cd (b:=!(kG mn ([i,j]:aE))) J J (fun b0=>?_)<|fun b0=>?_
 ·
  refine sq ?_
  have hq:kG mn [i,j]=false:=by simpa using b0
  refine rg<|k<|bd (v:=.agg #[C 0,.slice none 0 0]) J eA (fun _=>aV)<|k<|bA H5 1 J bp J J J J J J J ?_
  intro w4 (H6:HI M w w4 [own w.heap.size 3 (.slice (some ⟨g0,0,none⟩) 2 2) ([i,j]:aE),box bj #[C 0,.slice none 0 0] 26,J1,J0])
  refine au (v:=C 1) J J<|av<|rt<|aL<|iB H6 1 J bp J J J J J aw ?_
  have e0:(0:Int)=iu mn i j:=by exact(oW (rs:=mr) hq).1.symm
  have e1:([]:List (List bw))=kg mn mr i j:=by exact(oW (rs:=mr) hq).2.1.symm
  have e2:(1:Int)=lM mn i j:=by exact(oW (rs:=mr) hq).2.2.symm
  have bt:=rD (fun (cb:Int) (dK:List (List bw)) (gF:Int)=>(.tuple #[.agg #[C cb,.slice none dK.length 0],C gF]:Value)) e0 e1 e2
  exact⟨none,0,bt,H6.below,(apj (fun (x_:List (List bw))=>bo _ _ _ x_ (.slice none x_.length 0) _) e1).mp (fV H6.below)⟩
 refine sk<|nx<|sq ?_
 have hq:kG mn [i,j]=true:=by simpa using b0
 have hr:=ju.1 hq
 refine rg<|aU iJ J J<|bq H5 2 J lg J J J<|k ?_
 have df:=R8 (r:=mr) H5.mb (H5.rv 3 J) aq
 refine ca agQ J (ec J e0) df ?_
 rintro _ w4 ⟨a0,c0,rfl,jl,cm⟩
 have H6:=H5.eU cm
 refine au (v:=R a0 mr c0) J J<|bz<|ak (v:=R a0 mr c0) J J<|ak J i1<|ak (v:=R a0 mr c0) J J<|ak J i1<|k<|iC (H6.at_ 0 J) J J J J aq im dw ?_
 intro g1 x0 iP aN cB
 refine k<|wT cB dw J J ?_
 intro a1 c1 dN
 have H7:=dU H6 dN
 refine ak J i2<|k ?_
 have fF:=uO (r:=x0) (i:=j) H7.mb (H7.rv 0 J) Cw<|by exact Ru _ (dO aN)
 refine ca Gs J (ec J<|ec J e0) fF ?_
 rintro _ w5 ⟨a2,c2,rfl,je,dH⟩
 have H8:=H7.eU dH
 refine k<|iC (H8.at_ 2 J) J J J J aq im dw ?_
 intro g2 x1 kT cO gx
 refine k ?_
 have H9:=H8.freeze 0 J
 refine qE H9 2 J kT J aq dw J J J J (H9.rv 0 J) ?_
 let J2:=own w.heap.size 144 (.slice a0 mr.length c0) (mr.set i.toNat (eo x0 j))
 let J3:=own w.heap.size 3 (.slice (some ⟨g0,0,none⟩) 2 2) ([i,j]:aE)
 intro w6 (dB:HI M w w6 [iL a2 (eo x0 j) c2,iL a1 x0 c1,J2,J3,box bj #[C 0,.slice none 0 0] 26,J1,J0])
 refine bz<|aU ky J J<|bq dB 5 J aT J J J<|ak (v:=R a0 mr c0) J J<|k<|bd (v:=.agg #[C mn,R a0 mr c0]) J (ct J<|ct J eA) (fun _=>aV)<|k<|bA dB 4 J bp J J J J J J J ?_
 intro w7 (cT:HI M w w7 [iL a2 (eo x0 j) c2,iL a1 x0 c1,J2,J3,box bj #[C mn,R a0 mr c0] 26,J1,J0])
 refine au (v:=C 0) J J<|av<|rt<|iB cT 4 J bp J J J J J aw ?_
 have e0:(mn:Int)=iu mn i j:=by exact(qm (rs:=mr) hq).1.symm
 have e1:(mr.set i.toNat (eo x0 j):List (List bw))=kg mn mr i j:=by rw[(qm (rs:=mr) hq).2.1];exact IJ aN
 have l1:mr.length=(kg mn mr i j).length:=by rw[←e1];simp
 have e2:(0:Int)=lM mn i j:=by exact(qm (rs:=mr) hq).2.2.symm
 have bt:=rD (fun (cb:Int) (vD:Nat) (gF:Int)=>(.tuple #[.agg #[C cb,.slice a0 vD c0],C gF]:Value)) e0 l1 e2
 exact⟨a0,c0,bt,cT.below,(apj (fun (n_:Nat)=>bo _ _ _ (kg mn mr i j) (.slice a0 n_ c0) _) l1).mp ((apj (fun (x_:List (List bw))=>bo _ _ _ x_ (.slice a0 mr.length c0) _) e1).mp (cT.dx 2 J))⟩
theorem uS (hM:eC M w) (gk:aK mn) (gz:cz M w bG bF mr) (rp:aK i) (Cw:aK j) (Y0:((mr.length:Nat):Int)=mn) (Ru:∀x∈mr,x.length≤1000000000) (Y9:mn≤4096):Calls aM 64 #[.agg #[C mn,R bG mr bF],C i,C j] w (ck fun v w'=>v=.bool (eO mn mr i j)∧Ext w w'):=by
 refine dv 21 Tryz.func64 J J J hM fun f0 ha H=>?_
 have H0:=dU H gz
 have i0:f0 0=.agg #[C mn,R bG mr bF]:=ha 0 bm
 have i1:f0 1=C i:=ha 1 bm
 have i2:f0 2=C j:=ha 2 bm
 refine aD<|k<|bx H0 J i0 ?_
 intro aX w0 bY (H1:HI M w w0 [box aX #[C mn,R bG mr bF] 26,iL bG mr bF])
 refine au (v:=.bool false) J J<|bz<|k<|cC H1 0 J bp J J aw J<|ak J i1<|ak J i2<|k<|bs (xs:=([i,j]:aE)) (cells:=#[C i,C j]) (e:=3) H1 J (ct J<|ct J eA) (fun _=>aV) ⟨[C i],[C j],J,⟨J,rp⟩,⟨[C j],[],J,⟨J,Cw⟩,J⟩⟩ J aw ?_
 intro g0 w1 cS H2
 refine k ?_
 have H3:=H2.freeze 0 J
 have bT:=TL (mn:=mn) (l:=([i,j]:aE)) (N7:=bG) (MD:=mr.length) (NN:=bF) H3.mb gk<|H3.rv 0 J
 refine ca ZD J (ec J<|ec J e0) bT ?_
 rintro _ w2 ⟨rfl,fm⟩
 have H4:=H2.ext fm
 refine ak (v:=.bool (kG mn ([i,j]:aE))) J J ?_
 rcases bE (kG mn ([i,j]:aE)) with b0|b0
 ·
  refine bl J J J b0<|fa iJ J J<|bl J J J b0<|lx H4 1 J lg J J J<|bl J J J b0<|mv J i1<|bl J J J b0<|ia (H4.rv 2 J) J J J J (by have hr:=ju.1 b0;omega) im dw ?_
  intro iy x0 aN cB
  refine bl J J J b0<|wT cB.w dw J J ?_
  intro a0 c0 cm
  have H5:=dU H4 cm
  refine bl J J J b0<|mv J i2<|bl J J J b0 ?_
  have df:=Aw (r:=x0) (i:=j) H5.mb (H5.rv 0 J) Cw
  refine ca No J (ec J<|ec J e0) df ?_
  rintro _ w3 ⟨rfl,fg⟩
  have H6:=H5.ext fg
  refine k<|aQ J J J J b0 J<|au (v:=.bool (fy x0 j)) J J<|av<|rt<|r1 J J ?_
  exact⟨apj Value.bool (by unfold eO;first|(rw[sK aN,b0];rfl)|(rw[b0];rfl)),H6.below⟩
 refine aZ J J J b0<|aZ J J J b0<|aZ J J J b0<|aZ J J J b0<|aZ J J J b0<|aZ J J J b0<|aZ J J J b0<|k<|cU J J J J b0 J<|au (v:=.bool false) J J<|av<|rt<|r1 J J ?_
 exact⟨apj Value.bool (by unfold eO;first|(rw[sK aN,b0];rfl)|(rw[b0];rfl)),H4.below⟩
theorem I1:cD aM 89:=cE Tryz.func89
theorem QD:aM.underlying 185=some (.slice 133):=aV
theorem GY:ez aM 133 2 true 16 (.agg #[.int .i64 0,.int .i64 0]):=⟨aV,aV⟩
theorem ag8:cD aM 135:=cE Tryz.func135
theorem TM (hM:eC M w) (hT:fY 0 w) (gk:aK mn) (gz:cz M w bG bF mr) (Y0:((mr.length:Nat):Int)=mn) (Ru:∀x∈mr,x.length≤1000000000) (Y9:mn≤4096) (Lf:∀x∈mr,x.length≤64):Calls aM 128 #[.agg #[C mn,R bG mr bF]] w (ck fun v w'=>∃(a0:OA) (c0:Nat),v=.slice a0 (jg mn mr).length c0∧Ext w w'∧RV M w' (.slice a0 (jg mn mr).length c0) (jg mn mr)):=by
 refine dv 32 Tryz.func128 J J J hM fun f0 ha H=>?_
 let J0:=iL bG mr bF
 have H0:=H.put (it:=J0) J<|by rw[bQ];exact gz
 have nG:=bg gz
 have i0:f0 0=.agg #[C mn,R bG mr bF]:=ha 0 bm
 refine aD<|k<|bx H0 J i0 ?_
 intro aX w0 bY (H1:HI M w w0 [box aX #[C mn,R bG mr bF] 26,J0])
 let J1:=box aX #[C mn,R bG mr bF] 26
 refine au (v:=.slice none 0 0) J J<|bz<|au (v:=.slice none 0 0) J J<|av<|sq<|aD<|aU iJ J J<|bq H1 0 J lg J J J<|k<|dP J J im<|ak (v:=C 0) J J<|av<|bk ?_
 have H2:=H1.qZ (Int×Int) 133
 refine lp (fun m f w'=>∃(i:Nat) (xs:List (Int×Int)) (a0:OA) (c0:Nat),m=mr.length-i∧f 3=R a0 xs c0∧f 9=R bG mr bF∧f 10=C (mr.length:Int)∧f 11=C (i:Int)∧HI M w w' [oL w 133 a0 xs c0,J1,J0]∧(i≤mr.length)∧(xs=lD mr i)) _ ⟨0,([]:List (Int×Int)),none,0,J,J,J,J,(bH J),H2,aq,(by rfl)⟩ ?_
 rintro _ f0 w1 ⟨i,xs,a0,c0,rfl,s0,s1,s2,s3,H3,Za,hs⟩
 refine aD<|k<|lss J J s3 s2<|av<|sq<|cd (b:=decide ((i:Int)<(mr.length:Int))) J J (fun b0=>?_)<|fun b0=>?_
 ·
  have p0:=dT b0
  refine sk<|nx<|sq<|bk<|aD<|ak J s3<|k<|ia (H3.rv 2 J) J J s1 s3 aq im dw ?_
  intro iy x0 aN cB
  refine k<|wT cB.w dw J J ?_
  intro a1 c1 cm
  have Cl:=bg cm
  have H4:=dU H3 cm
  refine au (v:=C (i:Int)) J J<|au (v:=R a1 x0 c1) J J<|bz<|ak (v:=R a1 x0 c1) J J<|k ?_
  have bT:=uP (r:=x0) H4.mb (hT.ext H4.below) (H4.rv 0 J)<|by have h_:=Lf _ (dO aN);omega
  refine ca I1 J (ec J e0) bT ?_
  rintro _ w2 ⟨a2,c2,rfl,cS,dN⟩
  have H5:=H4.eU dN
  refine k<|dP J J cw<|ak (v:=C 0) J J<|av<|bk<|lp (fun m f w'=>∃(q:Nat) (EM:List (Int×Int)) (a3:OA) (c3:Nat),m=(cZ x0).length-q∧f 3=R a3 EM c3∧f 4=C (i:Int)∧f 9=R bG mr bF∧f 10=C (mr.length:Int)∧f 11=C (i:Int)∧f 17=R a2 (cZ x0) c2∧f 18=C ((cZ x0).length:Int)∧f 19=C (q:Int)∧HI M w w' [oL w 3 a2 (cZ x0) c2,iL a1 x0 c1,oL w 133 a3 EM c3,J1,J0]∧(q≤(cZ x0).length)∧(EM=lD mr i++((cZ x0).take q).map fun j=>(((i:Nat):Int),j))) _ ⟨0,xs,a0,c0,J,s0,J,s1,s2,s3,J,J,(bH J),H5,aq,(by rw[hs];simp)⟩ ?_
  rintro _ f1 w3 ⟨q,EM,a3,c3,rfl,s4,s5,s6,s7,s8,s9,ei,eR,H6,tg,gS⟩
  refine aD<|k<|lss J J eR ei<|av<|sq<|cd (b:=decide ((q:Int)<((cZ x0).length:Int))) J J (fun b1=>?_)<|fun b1=>?_
  ·
   have p1:=dT b1
   refine sk<|nx<|sq<|bk<|aD<|k<|iC (H6.at_ 0 J) J J s9 eR aq cw aT ?_
   intro g0 x1 iP cO gx
   refine k<|kF gx aT J J ?_
   intro dH
   refine au (v:=C x1) J J<|av<|rg<|ak J s4<|ak J s5<|ak (v:=C x1) J J<|k<|bd (v:=.agg #[C (i:Int),C x1]) J (ct J<|ct J eA) (fun _=>aV)<|k<|bs (xs:=([((i:Int),x1)]:List (Int×Int))) (cells:=#[C (i:Int),C x1]) (e:=133) H6 J (ct J eA) (fun _=>aV) ⟨[C (i:Int),C x1],[],J,⟨_,_,J,⟨J,(show aK ((i:Int)) from aS)⟩,⟨J,(show aK (x1) from aS)⟩⟩,J⟩ J aw ?_
   intro g1 w4 fm H7
   refine k<|l7 H7 3 J J J J J J (hG<|H7.at_ 0 J) QD GY J (by have h1_:=E3 Lf i;have lI:=np x0;have h3_:=Lf _ (dO aN);rw[gS,gj,apZ,iH];simp only[jb,gC];omega) J ?_
   intro a4 c4 w5 (H8:HI M w w5 [own w.heap.size 133 (.slice (some ⟨g1,0,none⟩) 1 1) ([((i:Int),x1)]:List (Int×Int)),oL w 3 a2 (cZ x0) c2,iL a1 x0 c1,oL w 133 a4 (EM++([((i:Int),x1)]:List (Int×Int))) c4,J1,J0])
   refine au (v:=R a4 (EM++([((i:Int),x1)]:List (Int×Int))) c4) J J<|z<|aH<|nx<|rg<|k<|add J J eR J (by have lI:=np x0;have h3_:=Lf _ (dO aN);unfold aK;omega)<|ak (v:=C ((q:Int)+1)) J J<|z ?_
   have H9:HI M w w5 [oL w 3 a2 (cZ x0) c2,iL a1 x0 c1,oL w 133 a4 (EM++([((i:Int),x1)]:List (Int×Int))) c4,J1,J0]:=H8.bX [1,2,3,4,5] aw J
   refine bB _ ?_ ⟨(q+1),(EM++([((i:Int),x1)]:List (Int×Int))),a4,c4,J,J,s5,s6,s7,s8,s9,ei,(bH J),H9,aq,(by rw[gS];exact Tt cO)⟩
   omega
  have p1:=dF b1
  refine ex<|aW<|ba<|bh<|aH<|nx<|rg<|k<|add J J s8 J aS<|ak (v:=C ((i:Int)+1)) J J<|z ?_
  have H7:HI M w w3 [oL w 133 a3 EM c3,J1,J0]:=H6.bX [2,3,4] aw J
  refine bB _ ?_ ⟨(i+1),EM,a3,c3,J,s4,s6,s7,(bH J),H7,aq,(by rw[gS];exact Wx aN aq)⟩
  omega
 have p0:=dF b0
 refine ex<|aW<|ba<|bh<|cQ<|ak J s0<|au (v:=R a0 xs c0) J J<|av<|rt<|r1 J J ?_
 have e0:(xs:List (Int×Int))=jg mn mr:=by rw[hs];exact Ts aq aq
 have bt:=iD (fun (cb:List (Int×Int))=>(.slice a0 cb.length c0:Value)) e0
 exact⟨a0,c0,bt,H3.below,(apj (fun (x_:List (Int×Int))=>RV _ _ (.slice a0 x_.length c0) x_) e0).mp (H3.mD 0 J)⟩
theorem adk {an:Int} {Jk:OA} {Je:Nat} {ar:List (List bw)} {bn:Int} {Jj:OA} {Jd:Nat} {br:List (List bw)} (hM:eC M w) (aoy:aK an) (aeI:cz M w Jk Je ar) (aox:aK bn) (aeH:cz M w Jj Jd br) (anA:((ar.length:Nat):Int)=an) (agD:∀x∈ar,x.length≤1000000000) (anF:an≤4096) (anz:((br.length:Nat):Int)=bn) (agC:∀x∈br,x.length≤1000000000) (anE:bn≤4096):Calls aM 96 #[.agg #[C an,R Jk ar Je],.agg #[C bn,R Jj br Jd]] w (ck fun v w'=>∃(a0:OA) (c0:Nat),v=.tuple #[.agg #[C (tN an bn),.slice a0 (mc an ar bn br).length c0],C (yg an bn)]∧Ext w w'∧bo M 144 w (mc an ar bn br) (.slice a0 (mc an ar bn br).length c0) w'):=by
 refine dv 41 Tryz.func96 J J J hM fun f0 ha H=>?_
 let J0:=iL Jk ar Je
 have H0:=H.put (it:=J0) J<|by rw[bQ];exact aeI
 let J1:=iL Jj br Jd
 have H1:=H0.put (it:=J1) J<|by rw[aG rfl,bQ];exact aeH
 have anx:=bg aeI
 have anw:=bg aeH
 have i0:f0 0=.agg #[C an,R Jk ar Je]:=ha 0 bm
 have i1:f0 1=.agg #[C bn,R Jj br Jd]:=ha 1 bm
 refine aD<|k<|bx H1 J i0 ?_
 intro aX w0 bY (H2:HI M w w0 [box aX #[C an,R Jk ar Je] 26,J1,J0])
 let J2:=box aX #[C an,R Jk ar Je] 26
 refine k<|bx H2 J i1 ?_
 let bf:=[J2,J1,J0]
 intro bj w1 cS (H3:HI M w w1 (box bj #[C bn,R Jj br Jd] 26::bf))
 let J3:=box bj #[C bn,R Jj br Jd] 26
 refine k<|al H3 bp ?_
 intro bK w2 fm (H4:HI M w w2 (box bK #[C 0,.slice none 0 0] 26::J3::bf))
 let J4:=box bK #[C 0,.slice none 0 0] 26
 refine au (v:=C 0) J J<|av<|sq<|aD<|aU ky J J<|bq H4 2 J aT J J J<|aU ky J J<|bq H4 1 J aT J J J<|k<|neq J J J J<|z<|nx<|cd (b:=!decide (an=bn)) J J (fun b0=>?_)<|fun b0=>?_
 ·
  have p0:=dF<|gf b0
  refine aD<|k<|bd (v:=.agg #[C 0,.slice none 0 0]) J eA (fun _=>aV)<|k<|bA H4 0 J bp J J J J J J J ?_
  intro w3 (H5:HI M w w3 (J4::J3::bf))
  refine au (v:=C 1) J J<|av<|rt<|aL<|iB H5 0 J bp J J J J J aw ?_
  have e0:(0:Int)=tN an bn:=by exact(Mp (ar:=ar) (br:=br) p0).1.symm
  have e1:([]:List (List bw))=mc an ar bn br:=by exact(Mp p0).2.1.symm
  have e2:(1:Int)=yg an bn:=by exact(Mp (ar:=ar) (br:=br) p0).2.2.symm
  have bt:=rD (fun (cb:Int) (dK:List (List bw)) (gF:Int)=>(.tuple #[.agg #[C cb,.slice none dK.length 0],C gF]:Value)) e0 e1 e2
  exact⟨none,0,bt,H5.below,(apj (fun (x_:List (List bw))=>bo _ _ _ x_ (.slice none x_.length 0) _) e1).mp (fV H5.below)⟩
 have p0:=dT<|fu b0
 refine sk<|cQ<|aU ky J J<|bq H4 2 J aT J J J<|k ?_
 have n0:((an.toNat:Nat):Int)=an:=ap0 aq
 refine mk (m:=an.toNat) (zx:=([]:(List bw))) H4 J J (by rw[n0];exact rfl) (by rw[n0];exact rfl) im dw (fun _ _=>⟨_,J,G3 _ _⟩) aq aq ?_
 intro g0 w3 fg (H5:HI M w w3 (own w.heap.size 144 (.slice (some ⟨g0,0,none⟩) an.toNat an.toNat) (List.replicate an.toNat ([]:(List bw)))::J4::J3::bf))
 refine au (v:=.slice (some ⟨g0,0,none⟩) an.toNat an.toNat) J J<|av<|sq<|aD<|ak (v:=.slice (some ⟨g0,0,none⟩) an.toNat an.toNat) J J<|k<|dP J J im<|ak (v:=C 0) J J<|av<|bk<|lp (fun m f w'=>∃(j:Nat) (xs:List (List bw)),m=an.toNat-j∧f 2=pV aX 0∧f 3=pV bj 0∧f 4=pV bK 0∧f 6=.slice (some ⟨g0,0,none⟩) an.toNat an.toNat∧f 18=C (an.toNat:Int)∧f 19=C (j:Int)∧HI M w w' (own w.heap.size 144 (.slice (some ⟨g0,0,none⟩) an.toNat an.toNat) xs::J4::J3::bf)∧(j≤an.toNat)∧(xs.length=an.toNat)∧(xs=vB ar br an.toNat j)) _ ⟨0,(List.replicate an.toNat ([]:(List bw))),J,J,J,J,J,J,(bH J),H5,aq,bm,(by exact OJ _ _ _)⟩ ?_
 rintro _ f0 w4 ⟨j,xs,rfl,s0,s1,s2,s3,s4,s5,H6,hk,hl,hs⟩
 refine aD<|k<|lss J J s5 s4<|av<|sq<|cd (b:=decide ((j:Int)<(an.toNat:Int))) J J (fun b1=>?_)<|fun b1=>?_
 ·
  have p1:=dT b1
  refine sk<|nx<|sq<|bk<|aD<|ak J s5<|au (v:=C (j:Int)) J J<|z<|nx<|mw [.r,.r,.r,.r,.r,.r,.r,.r,.r,.r,.r,.r,.r,.e,.e] (fun _=>True) J aV (fun _ _=>trivial)<|yq J J<|kq (fun _ _=>mv J s3 e1)<|bS<|kq (fun _ _=>mv (v:=C (j:Int)) J J e1)<|bS<|kq (fun _ _=>fa iJ J s0 e1)<|bS<|kq (fun _ x_=>lx (H6.ext x_) 3 J lg J J J e1)<|bS<|kq (fun _ _=>mv (v:=C (j:Int)) J J e1)<|bS<|qz (H6.rv 5 J) J J J J aq im dw ?_
  intro iy x0 aN cB
  refine bS<|G5 cB.w dw J J ?_
  intro a0 c0 cm
  have Cl:=bg cm
  have H7:=dU H6 cm
  refine bS<|kq (fun _ _=>fa iJ J s1 e1)<|bS<|kq (fun _ x_=>lx (H7.ext x_) 3 J lg J J J e1)<|bS<|kq (fun _ _=>mv (v:=C (j:Int)) J J e1)<|bS<|qz (H7.rv 5 J) J J J J aq im dw ?_
  intro mV x1 cO gx
  refine bS<|G5 gx.w dw J J ?_
  intro a1 c1 dN
  have ln1:=bg dN
  have H8:=dU H7 dN
  refine zq<|yu J (fun _ v w'=>∃(a2:OA) (c2:Nat),v=R a2 (jT x0 x1) c2∧RV H6.eI w' (R a2 (jT x0 x1) c2) (jT x0 x1)) J oA J (fun v_ _ x_ _=>have df:=acM (a:=x0) (b:=x1) (w:=v_) (H8.ext x_).mb ((H8.ext x_).rv 1 rfl) ((H8.ext x_).rv 0 rfl) (by exact agD _ (dO aN)) (by exact agC _ (dO cO));ca ag8 rfl (ec J<|ec J e0) df (fun _ w6 ⟨a3,c3,e_,je,iO⟩=>⟨_,J,je,⟨a3,c3,e_,(mY J<|mY J<|bo.rv iO (H8.ext x_).mb)⟩⟩))<|ye<|ye<|yz ?_
  intro w7 f1 _ jE _ _ cG jc
  have cM:=H8.ext jE
  have s6:=(cG 2 J).trans s0
  have s7:=(cG 3 J).trans s1
  have s8:=(cG 4 J).trans s2
  have s9:=(cG 6 J).trans s3
  have ei:=(cG 18 J).trans s4
  have eR:=(cG 19 J).trans s5
  have fM:=cG 22 J
  have fL:=cG 23 J
  obtain⟨a4,c4,gv,i'⟩:=jc 0 _ _ rfl
  have dR:=dU cM i'
  refine km<|iC (dR.at_ 3 J) J J fM fL aq im dw ?_
  intro g1 x2 iP iY jw
  refine km<|qE dR 3 J iP J aq dw J J J gv (dR.rv 0 J) ?_
  let J5:=own w.heap.size 144 (.slice (some ⟨g0,0,none⟩) an.toNat an.toNat) (xs.set ((j:Int).toNat) (jT x0 x1))
  intro w8 (dI:HI M w w8 [iL a4 (jT x0 x1) c4,iL a1 x1 c1,iL a0 x0 c0,J5,J4,J3,J2,J1,J0])
  refine kz<|aH<|nx<|rg<|k<|add J J eR J aS<|ak (v:=C ((j:Int)+1)) J J<|z ?_
  have cR:HI M w w8 (J5::J4::J3::bf):=dI.bX [3,4,5,6,7,8] aw J
  refine bB _ ?_ ⟨(j+1),(xs.set ((j:Int).toNat) (jT x0 x1)),J,s6,s7,s8,s9,ei,(bH J),cR,aq,(by simpa using hl),(by rw[hs];exact Q' aq aN cO)⟩
  omega
 have p1:=dF b1
 refine ex<|aW<|ba<|bh<|cQ<|aU ky J s0<|bq H6 3 J aT J J J<|ak J s3<|k<|bd (v:=.agg #[C an,.slice (some ⟨g0,0,none⟩) an.toNat an.toNat]) J (ct J<|ct J eA) (fun _=>aV)<|k<|bA H6 1 J bp J J s2 J J J J ?_
 intro w5 (H7:HI M w w5 (own w.heap.size 144 (.slice (some ⟨g0,0,none⟩) an.toNat an.toNat) xs::box bK #[C an,.slice (some ⟨g0,0,none⟩) an.toNat an.toNat] 26::J3::bf))
 refine au (v:=C 0) J J<|av<|rt<|iB H7 1 J bp J J J s2 J aw ?_
 have e0:(an:Int)=tN an bn:=by exact(AD (ar:=ar) (br:=br) p0).1.symm
 have e1:(xs:List (List bw))=mc an ar bn br:=by rw[(AD p0).2.1,hs];exact Ra aq hk
 have l1:an.toNat=(mc an ar bn br).length:=by rw[←e1];omega
 have e2:(0:Int)=yg an bn:=by exact(AD (ar:=ar) (br:=br) p0).2.2.symm
 have bt:=rD (fun (cb:Int) (vD:Nat) (gF:Int)=>(.tuple #[.agg #[C cb,.slice (some ⟨g0,0,none⟩) vD an.toNat],C gF]:Value)) e0 l1 e2
 exact⟨(some ⟨g0,0,none⟩),an.toNat,bt,H7.below,(apj (fun (n_:Nat)=>bo _ _ _ (mc an ar bn br) (.slice (some ⟨g0,0,none⟩) n_ an.toNat) _) l1).mp ((apj (fun (x_:List (List bw))=>bo _ _ _ x_ (.slice (some ⟨g0,0,none⟩) an.toNat an.toNat) _) e1).mp (H7.dx 0 J))⟩
set_option maxRecDepth 100000 in
set_option maxHeartbeats 1600000 in
theorem Du {M0:cg} {w0 w:aJ} {l:List Go.Ew.Item} {i j:Nat} {N8 Qu:Option Addr} {NO Qi:Nat} (H:HI M0 w0 w l) (hi:l[i]? =some (own w0.heap.size 151 (R N8 a NO) a)) (hj:l[j]? =some (own w0.heap.size 151 (R Qu b Qi) b)) (hlen:b.length≤a.length) (hlb:b.length≤1000000000) (gI:i≠j∨((R N8 a NO:Value)=R Qu b Qi∧b=a)):Calls aM 95 #[R N8 a NO,R Qu b Qi] w (ck fun v w'=>v=.tuple #[]∧HI M0 w0 w' (l.set i (own w0.heap.size 151 (R N8 a NO) (jT a b)))):=by
  have jU:i<l.length:=(dZ.1 hi).1
  refine enter 21 Tryz.func95 J J J fun f0 ha=>?_
  have i0:f0 0=.slice N8 a.length NO:=ha 0 bm
  have i1:f0 1=.slice Qu b.length Qi:=ha 1 bm
  refine aD<|ak (v:=.slice Qu b.length Qi) J i1<|k<|dP J J iq<|ak (v:=.int .i64 0) J J<|av<|bk<|lp (fun m f w'=>∃(q:Nat) (xs:List bw),m=b.length-q∧f 0=.slice N8 a.length NO∧f 6=.slice Qu b.length Qi∧f 7=.int .i64 (b.length:Int)∧f 8=.int .i64 (q:Int)∧HI M0 w0 w' (l.set i (own w0.heap.size 151 (.slice N8 a.length NO) xs))∧q≤b.length∧xs.length=a.length∧xs=qA a.length a b a q) _ ⟨0,a,J,i0,J,J,J,(by rw[aaq hi];exact H),aqH _,J,Dc _ _ _⟩ ?_
  rintro _ f1 w1 ⟨q,xs,rfl,s0,s1,s2,s3,H1,hk,hl,hs⟩
  refine aD<|k<|lss J J s3 s2<|av<|sq<|cd (b:=decide ((q:Int)<(b.length:Int))) J J (fun b1=>?_)<|fun b1=>?_
  ·
    have p1:=ap5 b1
    obtain⟨ys,M9,AM,hyq⟩:=TW hj jU gI hl hs hk hlen
    refine sk<|nx<|sq<|bk<|aD<|ak J s3<|k<|iC (H1.at_ j M9) J J s1 s3 aq iq fA ?_
    intro g0 x0 iP aN cB
    have hxq:=hyq x0 aN
    refine k<|zi cB fA J J<|au (v:=.int .i64 (q:Int)) J J<|au (v:=aj x0) J J<|av<|rg<|ak J s0<|ak (v:=.int .i64 (q:Int)) J J<|k<|iC (H1.at_ i<|L0 jU) J J J J aq iq fA ?_
    intro g1 x1 kT cO gx
    refine k<|zi gx fA J J<|ak (v:=aj x0) J J<|k<|Tv x1 x0 J J J J<|k<|iC (H1.at_ i<|L0 jU) J J J J aq iq fA ?_
    intro g2 x2 Cn iY jw
    refine k<|qE H1 i (L0 jU) Cn J aq fA J J J J (RV.bv.2 J) ?_
    intro w2 H2
    rw[set_set] at H2
    refine z<|aH<|nx<|rg<|k<|add J J s3 J aS<|ak (v:=.int .i64 ((q:Int)+1)) J J<|z<|bB _ ?_ ⟨(q+1),(xs.set ((q:Int).toNat) (x1 ||| x0)),J,s0,s1,s2,(bH J),H2,aq,(by simpa using hl),TV hs hxq cO⟩
    omega
  ·
    have p1:=aqZ b1
    refine ex<|aW<|ba<|bh<|EX J ?_
    exact⟨J,by rw[←W1 hs hlen aq];exact H1⟩
set_option maxRecDepth 100000 in
set_option maxHeartbeats 1600000 in
theorem F5 (hM:eC M w) (Ni:aK n) (h0:0≤n) (h4:n≤4096):Calls aM 121 #[C n] w (ck fun v w'=>∃(a0:Option Addr) (c0:Nat) (ss:List SV),v=.tuple #[.agg #[C n,.slice a0 n.toNat c0],C 0]∧Ext w w'∧Lt M 144 151 w ss (List.replicate n.toNat (ej n)) (.slice a0 n.toNat c0) w'):=by
  refine dv 29 Tryz.func121 J J J hM fun f0 ha H=>?_
  have i0:f0 0=.int .i64 n:=ha 0 bm
  refine aD<|k<|al H bp ?_
  intro aX w0 bY (H0:HI M w w0 [box aX #[.int .i64 0,.slice none 0 0] 26])
  refine au (v:=.int .i64 0) J J<|av<|sq<|aD<|ak J i0<|k<|lss J J J J<|ak (v:=.bool (decide (n<0))) J J ?_
  have b0:decide (n<0)=false:=apv aq
  refine bl J J J b0<|mv J i0<|bl J J J b0<|gtr J J J J<|k<|cU J J J J b0 J<|z<|nx<|cd (b:=decide (4096<n)) J J (fun b1=>?_)<|fun b1=>?_
  · exact absurd (ap5 b1) aq
  refine sk<|cQ<|ak J i0<|k ?_
  have n0:((n.toNat:Nat):Int)=n:=ap0 aq
  refine mk (m:=n.toNat) (zx:=(⟨none,0,0⟩:SV)) H0 J J (by rw[n0];exact rfl) (by rw[n0];exact rfl) im dw (fun _ _=>rfl) aq aq ?_
  intro g0 w1 cS (H1:HI M w w1 [own w.heap.size 144 (.slice (some ⟨g0,0,none⟩) n.toNat n.toNat) (List.replicate n.toNat (⟨none,0,0⟩:SV)),box aX #[.int .i64 0,.slice none 0 0] 26])
  refine au (v:=.slice (some ⟨g0,0,none⟩) n.toNat n.toNat) J J<|av<|sq<|aD<|ak (v:=.slice (some ⟨g0,0,none⟩) n.toNat n.toNat) J J<|k<|dP J J im<|ak (v:=.int .i64 0) J J<|av<|bk<|lp (fun m f w'=>∃(j:Nat) (ss:List SV),m=n.toNat-j∧f 0=.int .i64 n∧f 2=.pointer (some ⟨aX,0,none⟩)∧f 4=.slice (some ⟨g0,0,none⟩) n.toNat n.toNat∧f 16=.int .i64 (n.toNat:Int)∧f 17=.int .i64 (j:Int)∧HI M w w' ([own w.heap.size 144 (.slice (some ⟨g0,0,none⟩) n.toNat n.toNat) (ss++List.replicate (n.toNat-j) (⟨none,0,0⟩:SV)),box aX #[.int .i64 0,.slice none 0 0] 26]++bJ w.heap.size 151 ss (List.replicate j<|ej n))∧j≤n.toNat∧ss.length=j) _ ⟨0,[],J,i0,J,J,J,J,H1,aqH _,J⟩ ?_
  rintro _ f0 w2 ⟨j,ss,rfl,s0,s1,s2,s3,s4,H2,hk,hl⟩
  refine aD<|k<|lss J J s4 s3<|av<|sq<|cd (b:=decide ((j:Int)<(n.toNat:Int))) J J (fun b2=>?_)<|fun b2=>?_
  ·
    have p2:=ap5 b2
    refine sk<|nx<|sq<|bk<|aD<|ak J s4<|au (v:=.int .i64 (j:Int)) J J<|av<|rg<|ak J s2<|ak (v:=.int .i64 (j:Int)) J J<|ak J s0<|k ?_
    have bT:=Et (n:=n) H2.mb aS aq
    refine ca RI J (ec J e0) bT ?_
    rintro _ w3 ⟨a0,c0,rfl,fm,cm⟩
    have H3:=H2.eU cm
    have yr:j<(ss++List.replicate (n.toNat-j) (⟨none,0,0⟩:SV)).length:=by rw[gj,oI];omega
    refine k<|iC (H3.at_ 1 J) J J J J aq im dw ?_
    intro g1 x0 iP aN cB
    refine k<|qE (yv:=(⟨a0,(ej n).length,c0⟩:SV)) H3 1 J iP J aq dw J J J J (RV.sv.2 J) ?_
    intro w4 H4
    have H5:HI M w w4 (own w.heap.size 151 (⟨a0,(ej n).length,c0⟩:SV).v (ej n)::([own w.heap.size 144 (.slice (some ⟨g0,0,none⟩) n.toNat n.toNat) ((ss++List.replicate (n.toNat-j) (⟨none,0,0⟩:SV)).set ((j:Int).toNat) ⟨a0,(ej n).length,c0⟩),box aX #[.int .i64 0,.slice none 0 0] 26]++bJ w.heap.size 151 ss (List.replicate j (ej n)))):=H4
    have H6:=H5.acN<|by rw[oI];exact hl
    have es:(ss++List.replicate (n.toNat-j) (⟨none,0,0⟩:SV)).set ((j:Int).toNat) ⟨a0,(ej n).length,c0⟩=(ss++[⟨a0,(ej n).length,c0⟩])++List.replicate (n.toNat-(j+1)) (⟨none,0,0⟩:SV):=by
      rw[dS,aqK _ _ aq,hl,aqq,show n.toNat-j=n.toNat-(j+1)+1 from by omega,aqf,aru];simp
    rw[es,←List.replicate_succ'] at H6
    refine z<|aH<|nx<|rg<|k<|add J J s4 J aS<|ak (v:=.int .i64 ((j:Int)+1)) J J<|z<|bB _ ?_ ⟨(j+1),(ss++[⟨a0,(ej n).length,c0⟩]),J,s0,s1,s2,s3,(bH J),H6,aq,(by rw[gj,hl];rfl)⟩
    omega
  ·
    have p2:=aqZ b2
    obtain rfl:j=n.toNat:=by omega
    rw[aqq,List.replicate_zero,aql] at H2
    refine ex<|aW<|ba<|bh<|cQ<|ak J s0<|ak J s2<|k<|bd (v:=.agg #[.int .i64 n,.slice (some ⟨g0,0,none⟩) n.toNat n.toNat]) J (ct J<|ct J eA) (fun _=>aV)<|k<|bA H2 1 J bp J J s1 J J J J ?_
    intro w3 H3
    have H4:HI M w w3 ([own w.heap.size 144 (.slice (some ⟨g0,0,none⟩) n.toNat n.toNat) ss,box aX #[.int .i64 n,.slice (some ⟨g0,0,none⟩) n.toNat n.toNat] 26]++bJ w.heap.size 151 ss (List.replicate n.toNat (ej n))):=H3
    refine au (v:=.int .i64 0) J J<|av<|rt<|iB H4 1 J bp J J J s1 J aw ?_
    exact⟨(some ⟨g0,0,none⟩),n.toNat,ss,J,H4.below,by rw[oI];exact hl,H4.aQ (l':=[own w.heap.size 144 (.slice (some ⟨g0,0,none⟩) n.toNat n.toNat) ss]) [0] aw rfl rfl⟩
theorem HG:cD aM 121:=cE Tryz.func121
theorem aha:cD aM 128:=cE Tryz.func128
theorem QF:aM.underlying 133=some (.array 2 3):=aV
theorem F4 (hM:eC M w) (hT:fY 0 w) (gk:aK mn) (gz:cz M w bG bF mr) (b9:bL mn mr=true):Calls aM 87 #[.agg #[C mn,R bG mr bF]] w (ck fun v w'=>∃(a0:OA) (c0:Nat),v=.agg #[C mn,.slice a0 (gP mn mr).length c0]∧Ext w w'∧bo M 144 w (gP mn mr) (.slice a0 (gP mn mr).length c0) w'):=by
 refine dv 39 Tryz.func87 J J J hM fun f0 ha H=>?_
 let J0:=iL bG mr bF
 have H0:=H.put (it:=J0) J<|by rw[bQ];exact gz
 have nG:=bg gz
 have i0:f0 0=.agg #[C mn,R bG mr bF]:=ha 0 bm
 refine aD<|k<|bx H0 J i0 ?_
 intro aX w0 bY (H1:HI M w w0 [box aX #[C mn,R bG mr bF] 26,J0])
 let J1:=box aX #[C mn,R bG mr bF] 26
 refine k<|al H1 bp ?_
 let bf:=[J1,J0]
 intro bj w1 cS (H2:HI M w w1 (box bj #[C 0,.slice none 0 0] 26::bf))
 let J2:=box bj #[C 0,.slice none 0 0] 26
 refine bz<|aU ky J J<|bq H2 1 J aT J J J<|k ?_
 have bT:=F5 (n:=mn) H2.mb gk (by exact kW b9)<|by exact(bU b9).2.2.1
 refine ca HG J (ec J e0) bT ?_
 rintro _ w2 ⟨a0,c0,fU,rfl,fm,cm⟩
 have H3:=H2.G9 cm
 let J3:=own w.heap.size 144 (.slice a0 mn.toNat c0) fU
 let bZ:=J3::J2::bf
 have H4:HI M w w2 (bZ++bJ w.heap.size 151 fU (List.replicate mn.toNat (ej mn))):=H3
 have FI:=cm.1
 refine ak (v:=.tuple #[.agg #[C mn,.slice a0 mn.toNat c0],C 0]) J J<|k<|xt J J J<|k<|xt J J J<|k<|al H4 bp ?_
 intro bK w3 fg (H5:HI M w w3 ((box bK #[C 0,.slice none 0 0] 26::bZ)++bJ w.heap.size 151 fU (List.replicate mn.toNat (ej mn))))
 refine k<|bA H5 0 J bp J J J J J J J ?_
 let J4:=box bK #[C mn,.slice a0 mn.toNat c0] 26
 let eh:=J4::bZ
 intro w4 (H6:HI M w w4 (eh++bJ w.heap.size 151 fU (List.replicate mn.toNat (ej mn))))
 refine au (v:=C 0) J J<|av<|sq<|aD<|k<|cC H6 3 J bp J J aw J<|k ?_
 have df:=TM (mn:=mn) (mr:=mr) H6.mb (hT.ext H6.below) gk (H6.rv 4 J) (by exact(bU b9).1) (by exact(bU b9).2.1) (by exact(bU b9).2.2.1)<|by exact(bU b9).2.2.2.2
 refine ca aha J (ec J e0) df ?_
 rintro _ w5 ⟨a1,c1,rfl,jl,dN⟩
 have H7:=H6.ext jl
 let J5:=iL a1 (jg mn mr) c1
 have H8:=H7.put (it:=J5) J dN
 have H9:HI M w w5 ((J5::eh)++bJ w.heap.size 151 fU (List.replicate mn.toNat (ej mn))):=H8
 refine k<|dP J J QD<|ak (v:=C 0) J J<|av<|bk<|lp (fun m f w'=>∃(j:Nat) (xs:List (List bw)),m=(jg mn mr).length-j∧f 2=pV bj 0∧f 3=pV bK 0∧f 14=R a1 (jg mn mr) c1∧f 15=C ((jg mn mr).length:Int)∧f 16=C (j:Int)∧HI M w w' ((J5::eh)++bJ w.heap.size 151 fU xs)∧(j≤(jg mn mr).length)∧(fU.length=xs.length)∧(xs=foldM mn (((jg mn mr).map Bl).take j))) _ ⟨0,(List.replicate mn.toNat<|ej mn),J,J,J,J,J,(bH J),H9,aq,(by exact cm.1),(by exact SC _ _)⟩ ?_
 rintro _ f0 w6 ⟨j,xs,rfl,s0,s1,s2,s3,s4,dB,hk,hl,hs⟩
 refine aD<|k<|lss J J s4 s3<|av<|sq<|cd (b:=decide ((j:Int)<((jg mn mr).length:Int))) J J (fun b0=>?_)<|fun b0=>?_
 ·
  have p0:=dT b0
  refine sk<|nx<|sq<|bk<|aD<|k<|ia (dB.rv 0 J) J J s2 s4 aq QD GY ?_
  intro iy x0 aN cB
  refine k<|nI cB.w GY J J ?_
  intro v0 dH
  obtain⟨_,⟨_,_,rfl,⟨rfl,ft⟩,⟨rfl,iO⟩⟩,rfl⟩:=dH
  refine k<|al dB GY ?_
  intro fj w7 je (cT:HI M w w7 ((box fj #[C 0,C 0] 133::J5::eh)++bJ w.heap.size 151 fU xs))
  refine k<|bA cT 0 J GY J J J J J J J ?_
  let J6:=box fj #[C x0.1,C x0.2] 133
  intro w8 (db:HI M w w8 ((J6::J5::eh)++bJ w.heap.size 151 fU xs))
  refine z<|nx ?_
  obtain⟨Uy,Ux,g3_,g4_⟩:=QW b9 aN
  have xl_:xs.length=mn.toNat:=by rw[hs,DV]
  obtain⟨a2,x1,c2,l4,mu⟩:=uN (i:=x0.2.toNat) db bu aq
  obtain⟨x3,iY⟩:∃x,x1[(x0.1/64).toNat]? =some x:=⟨_,eB (by obtain⟨MQ,uo,k3_,k4_⟩:=xS (hs▸mu) Uy Ux;first|omega|exact⟨MQ,uo⟩)⟩
  refine dr 15 [eV (pV bK 1),eV (.slice a0 mn.toNat c0),eV (pV fj 1),fun v w'=>v=C x0.2∧aK (x0.2),fun v w'=>∃(g0:Nat),v=.pointer (some ⟨g0,x0.2.toNat*1,none⟩)∧(.slice a0 mn.toNat c0:Value).ownBlock=some g0∧ik db.eI w' ⟨g0,x0.2.toNat*1,none⟩ (⟨a2,x1.length,c2⟩:SV),eV (R a2 x1 c2),eV (pV fj 0),fun v w'=>v=C x0.1∧aK (x0.1),eV (C<|x0.1/64),fun v w'=>∃(g1:Nat),v=.pointer (some ⟨g1,(x0.1/64).toNat*1,none⟩)∧(.slice a2 x1.length c2:Value).ownBlock=some g1∧ik db.eI w' ⟨g1,(x0.1/64).toNat*1,none⟩ x3,eV (aj x3),eV (pV fj 0),fun v w'=>v=C x0.1∧aK (x0.1),eV (C<|x0.1%64),eV (aj<|ku<|x0.1%64)] J aV ?_ ?_
  ·
   refine dc (fun _ _ vO _ _=>fa iJ J ((vO 3 J).trans s1)<|d0 J J)<|dc (fun _ _ _ lj Ka=>lx (db.ext lj) 2 J lg J (Ka 0 J J) J<|d0 J J)<|dc (fun _ _ yx _ _=>YR J J (yx 6 J) J aq QF aT<|d0 J J)<|dc (fun _ _ _ xK oJ=>lx (db.ext xK) 0 J aT J (oJ 2 J J) J ⟨_,J,Ext.refl _,⟨J,iO⟩⟩) ?_
   refine⟨fun _=>⟨fun f5 jF yw zR rO=>?_,by rintro _ _ _ x_ ⟨g0,e_,iP,gx⟩;exact⟨g0,e_,iP,gx.ext x_⟩⟩,?_⟩
   ·
    have dX:=db.ext zR
    have s7:f5 21=.slice a0 mn.toNat c0:=rO 1 J J
    obtain⟨s8,jK⟩:f5 23=C x0.2∧aK (x0.2):=rO 3 rfl rfl
    refine iC (dX.at_ 3 J) J J s7 s8 aq im dw ?_
    intro g2 x4 Cn nr qe
    obtain rfl:(⟨a2,x1.length,c2⟩:SV)=x4:=apm (l4.symm.trans nr)
    exact⟨_,J,Ext.refl _,⟨g2,J,Cn,qe⟩⟩
   refine dc (fun f6 oU Cs CH th=>?_) ?_
   ·
    obtain⟨g3,s9,YX,rr⟩:∃(g3:Nat),f6 24=.pointer (some ⟨g3,x0.2.toNat*1,none⟩)∧(.slice a0 mn.toNat c0:Value).ownBlock=some g3∧ik db.eI oU ⟨g3,x0.2.toNat*1,none⟩ (⟨a2,x1.length,c2⟩:SV):=th 4 rfl rfl
    refine JU rr dw J s9 ?_
    exact⟨_,J,Ext.refl _,J⟩
   refine dc (fun _ _ PV _ _=>YR J J (PV 6 J) J aq QF aT<|d0 J J)<|dc (fun _ _ _ CG ri=>lx (db.ext CG) 0 J aT J (ri 6 J J) J ⟨_,J,Ext.refl _,⟨J,ft⟩⟩)<|dc (fun f9 tD Ug CF qI=>?_) ?_
   ·
    obtain⟨eR,i'⟩:f9 27=C x0.1∧aK (x0.1):=qI 7 rfl rfl
    refine LZ J J eR J ?_
    exact⟨_,J,Ext.refl _,J⟩
   refine⟨fun _=>⟨fun f10 wI Ki CE rN=>?_,by rintro _ _ _ x_ ⟨g1,e_,kT,jw⟩;exact⟨g1,e_,kT,jw.ext x_⟩⟩,?_⟩
   ·
    have fe:=db.ext CE
    have fM:f10 25=R a2 x1 c2:=rN 5 J J
    have fL:f10 28=C (x0.1/64):=rN 8 J J
    refine iC (fe.at_ _<|pW l4 mu) J J fM fL (by obtain⟨MQ,uo,k3_,k4_⟩:=xS (hs▸mu) Uy Ux;first|omega|exact⟨MQ,uo⟩) iq fA ?_
    intro g4 x5 hv4 yo zv
    obtain rfl:x3=x5:=apm (iY.symm.trans yo)
    exact⟨_,J,Ext.refl _,⟨g4,J,hv4,zv⟩⟩
   refine dc (fun f11 vk wE QA lh=>?_) ?_
   ·
    obtain⟨g5,gv,hv5,Kl⟩:∃(g5:Nat),f11 29=.pointer (some ⟨g5,(x0.1/64).toNat*1,none⟩)∧(.slice a2 x1.length c2:Value).ownBlock=some g5∧ik db.eI vk ⟨g5,(x0.1/64).toNat*1,none⟩ x3:=lh 9 rfl rfl
    refine zi Kl fA J gv ?_
    exact⟨_,J,Ext.refl _,J⟩
   refine dc (fun _ _ Gm _ _=>YR J J (Gm 6 J) J aq QF aT<|d0 J J)<|dc (fun _ _ _ IA oB=>lx (db.ext IA) 0 J aT J (oB 11 J J) J ⟨_,J,Ext.refl _,⟨J,ft⟩⟩)<|dc (fun f14 LD Xe Lv rj=>?_) ?_
   ·
    obtain⟨jZ,kN⟩:f14 32=C x0.1∧aK (x0.1):=rj 12 rfl rfl
    refine Ls J J jZ J ?_
    exact⟨_,J,Ext.refl _,J⟩
   refine dc (fun f15 O2 Xd VR r5=>?_) ?_
   ·
    have kl:f15 33=C (x0.1%64):=r5 13 J J
    have fc:=FE (i:=(x0.1%64)) (w:=O2) aS
    refine ca RQ J (ec kl e0) fc ?_
    rintro _ LC ⟨rfl,Qz⟩
    exact⟨_,J,Qz,J⟩
   exact j4.rest J _
  ·
   intro f16 O1 uX Qy pe
   have pF:=db.ext Qy
   have ln:=(uX 2 J).trans s0
   have ll:=(uX 3 J).trans s1
   have lU:=(uX 14 J).trans s2
   have nh:=(uX 15 J).trans s3
   have oX:=(uX 16 J).trans s4
   have uk:=pe 5 J
   have vo:=pe 8 J
   have xX:=pe 10 J
   have uj:=pe 14 J
   refine k<|Tv x3 (ku<|x0.1%64) J J xX uj<|k<|iC (pF.at_ _<|pW l4 mu) J J uk vo (by obtain⟨MQ,uo,k3_,k4_⟩:=xS (hs▸mu) Uy Ux;first|omega|exact⟨MQ,uo⟩) iq fA ?_
   intro g6 x6 hv6 MX Zr
   refine k<|qE pF _ (pW l4 mu) hv6 J (by obtain⟨MQ,uo,k3_,k4_⟩:=xS (hs▸mu) Uy Ux;first|omega|exact⟨MQ,uo⟩) fA J J J J (RV.bv.2 J) ?_
   intro SA oO
   have kC:=HI.Ax (M:=fun _=>False) (it:=sf (.int .i64 0) (0:Int)) oO l4
   have j9:HI M w SA ((J6::J5::eh)++bJ w.heap.size 151 fU (xs.set x0.2.toNat (x1.set ((x0.1/64).toNat) (x3 ||| (ku (x0.1%64)))))):=kC
   refine z<|aH<|nx<|rg<|k<|add J J oX J (by have h_:=Ot b9;unfold aK;omega)<|ak (v:=C ((j:Int)+1)) J J<|z ?_
   have pE:HI M w SA ((J5::eh)++bJ w.heap.size 151 fU (xs.set x0.2.toNat (x1.set ((x0.1/64).toNat) (x3 ||| (ku (x0.1%64)))))):=HI.aQ (l:=(J6::J5::eh)) (l':=(J5::eh)) (t:=bJ w.heap.size 151 fU (xs.set x0.2.toNat (x1.set ((x0.1/64).toNat) (x3 ||| (ku<|x0.1%64))))) j9 [1,2,3,4,5,6] aw J J
   refine bB _ ?_ ⟨(j+1),(xs.set x0.2.toNat (x1.set ((x0.1/64).toNat) (x3 ||| (ku<|x0.1%64)))),J,ln,ll,lU,nh,(bH J),pE,aq,(by simp only[apk];exact hl),(by exact SD hs aN mu iY Uy Ux)⟩
   omega
 have p0:=dF b0
 refine ex<|aW<|ba<|bh<|nx<|sq ?_
 have cT:HI M w w6 [own w.heap.size 144 (.slice a0 mn.toNat c0) xs,J5,J4,J2,J1,J0]:=HI.deep (l:=[J5,J4,J2,J1,J0]) (HI.aQ (l:=(J5::eh)) (l':=[J3,J5,J4,J2,J1,J0]) (t:=bJ w.heap.size 151 fU xs) dB [2,0,1,3,4,5] aw J J) bu
 refine rg<|k<|cC cT 2 J bp J s1 aw J<|k<|bA cT 3 J bp J J s0 J J J J ?_
 intro w7 (db:HI M w w7 [own w.heap.size 144 (.slice a0 mn.toNat c0) xs,J5,J4,box bj #[C mn,.slice a0 mn.toNat c0] 26,J1,J0])
 refine av<|rt<|py db 3 J bp J J s0 J aw ?_
 have e1:(xs:List (List bw))=gP mn mr:=by exact VW hs aq
 have l1:mn.toNat=(gP mn mr).length:=by rw[CP]
 have bt:=iD (fun (vD:Nat)=>(.agg #[C mn,.slice a0 vD c0]:Value)) l1
 exact⟨a0,c0,bt,db.below,(apj (fun (n_:Nat)=>bo _ _ _ (gP mn mr) (.slice a0 n_ c0) _) l1).mp ((apj (fun (x_:List (List bw))=>bo _ _ _ x_ (.slice a0 mn.toNat c0) _) e1).mp (db.dx 0 J))⟩
theorem MY (hM:eC M w) (gk:aK mn) (gz:cz M w bG bF mr) (b9:bL mn mr=true):Calls aM 94 #[.agg #[C mn,R bG mr bF]] w (ck fun v w'=>∃(a0:OA) (c0:Nat) (fU:List SV),v=.agg #[C mn,.slice a0 mn.toNat c0]∧Ext w w'∧Lt M 144 151 w fU mr (.slice a0 mn.toNat c0) w'):=by
 refine dv 30 Tryz.func94 J J J hM fun f0 ha H=>?_
 let J0:=iL bG mr bF
 have H0:=H.put (it:=J0) J<|by rw[bQ];exact gz
 have nG:=bg gz
 have i0:f0 0=.agg #[C mn,R bG mr bF]:=ha 0 bm
 refine aD<|k<|bx H0 J i0 ?_
 intro aX w0 bY (H1:HI M w w0 [box aX #[C mn,R bG mr bF] 26,J0])
 let J1:=box aX #[C mn,R bG mr bF] 26
 refine k<|al H1 bp ?_
 intro bj w1 cS (H2:HI M w w1 [box bj #[C 0,.slice none 0 0] 26,J1,J0])
 let J2:=box bj #[C 0,.slice none 0 0] 26
 refine bz<|aU ky J J<|bq H2 1 J aT J J J<|k ?_
 have bT:=F5 (n:=mn) H2.mb gk (by exact kW b9)<|by exact(bU b9).2.2.1
 refine ca HG J (ec J e0) bT ?_
 rintro _ w2 ⟨a0,c0,fU,rfl,fm,cm⟩
 have H3:=H2.G9 cm
 let J3:=own w.heap.size 144 (.slice a0 mn.toNat c0) fU
 let bf:=[J3,J2,J1,J0]
 have H4:HI M w w2 (bf++bJ w.heap.size 151 fU (List.replicate mn.toNat (ej mn))):=H3
 have FI:=cm.1
 refine ak (v:=.tuple #[.agg #[C mn,.slice a0 mn.toNat c0],C 0]) J J<|k<|xt J J J<|k<|xt J J J<|k<|al H4 bp ?_
 intro bK w3 fg (H5:HI M w w3 ((box bK #[C 0,.slice none 0 0] 26::bf)++bJ w.heap.size 151 fU (List.replicate mn.toNat (ej mn))))
 refine k<|bA H5 0 J bp J J J J J J J ?_
 let J4:=box bK #[C mn,.slice a0 mn.toNat c0] 26
 intro w4 (H6:HI M w w4 ((J4::bf)++bJ w.heap.size 151 fU (List.replicate mn.toNat (ej mn))))
 refine au (v:=C 0) J J<|av<|sq<|aD<|aU iJ J J<|bq H6 3 J lg J J J<|k<|dP J J im<|ak (v:=C 0) J J<|av<|bk<|lp (fun m f w'=>∃(j:Nat) (xs:List (List bw)),m=mr.length-j∧f 2=pV bj 0∧f 3=pV bK 0∧f 14=R bG mr bF∧f 15=C (mr.length:Int)∧f 16=C (j:Int)∧HI M w w' ((J4::bf)++bJ w.heap.size 151 fU xs)∧(j≤mr.length)∧(fU.length=xs.length)∧(xs=mr.take j++List.replicate (mn.toNat-j) (ej mn))) _ ⟨0,(List.replicate mn.toNat<|ej mn),J,J,J,J,J,(bH J),H6,aq,(by exact cm.1),bm⟩ ?_
 rintro _ f0 w5 ⟨j,xs,rfl,s0,s1,s2,s3,s4,H7,hk,hl,hs⟩
 refine aD<|k<|lss J J s4 s3<|av<|sq<|cd (b:=decide ((j:Int)<(mr.length:Int))) J J (fun b0=>?_)<|fun b0=>?_
 ·
  have p0:=dT b0
  refine sk<|nx<|sq<|bk<|aD<|ak J s4<|k<|ia (H7.rv 4 J) J J s2 s4 aq im dw ?_
  intro iy x0 aN cB
  refine k<|wT cB.w dw J J ?_
  intro a1 c1 dN
  have Cl:=bg dN
  have H8:=dU H7 dN
  let bZ:=iL a1 x0 c1::J4::bf
  have H9:HI M w w5 (bZ++bJ w.heap.size 151 fU xs):=H8
  refine au (v:=C (j:Int)) J J<|au (v:=R a1 x0 c1) J J<|z<|nx ?_
  have xl_:xs.length=mr.length:=by have h_:=(bU b9).1;rw[hs,gj,iH,oI];omega
  refine rg<|aU iJ J s1<|bq H9 1 J lg J J J<|ak (v:=C (j:Int)) J J<|k ?_
  obtain⟨a2,x1,c2,l4,mu⟩:=uN (i:=(j:Int).toNat) H9 bu aq
  refine iC (H9.at_ 2 J) J J J J aq im dw ?_
  intro g0 x2 iP cO gx
  obtain rfl:(⟨a2,x1.length,c2⟩:SV)=x2:=apm (l4.symm.trans cO)
  refine k<|JU gx dw J J<|ak (v:=R a1 x0 c1) J J<|k<|cpO H9 _ (pW l4 mu) J J J J J (H9.rv 0 J).src iq fA (by exact aaG b9 hs aN mu) (by exact aaF b9 hs aN mu) ?_
  intro w6 cT
  have dB:=HI.Ax (M:=fun _=>False) (it:=sf (.int .i64 0) (0:Int)) cT l4
  have db:HI M w w6 (bZ++bJ w.heap.size 151 fU (xs.set ((j:Int).toNat) x0)):=dB
  refine z<|aH<|nx<|rg<|k<|add J J s4 J aS<|ak (v:=C ((j:Int)+1)) J J<|z ?_
  have dq:HI M w w6 ((J4::bf)++bJ w.heap.size 151 fU (xs.set ((j:Int).toNat) x0)):=HI.aQ (l:=bZ) (l':=(J4::bf)) (t:=bJ w.heap.size 151 fU (xs.set ((j:Int).toNat) x0)) db [1,2,3,4,5] aw J J
  refine bB _ ?_ ⟨(j+1),(xs.set ((j:Int).toNat) x0),J,s0,s1,s2,s3,(bH J),dq,aq,(by simp only[apk];exact hl),(by exact Wy b9 hs aN)⟩
  omega
 have p0:=dF b0
 refine ex<|aW<|ba<|bh<|cQ<|k<|cC H7 0 J bp J s1 aw J<|k<|bA H7 2 J bp J J s0 J J J J ?_
 intro w6 (H8:HI M w w6 ([J4,J3,box bj #[C mn,.slice a0 mn.toNat c0] 26,J1,J0]++bJ w.heap.size 151 fU xs))
 refine av<|rt<|py H8 2 J bp J J s0 J aw ?_
 have e1:(xs:List (List bw))=mr:=by exact aaH b9 hs aq
 have w1:fU.length=(xs).length:=by assumption
 exact⟨a0,c0,fU,J,H8.below,(apj (fun (x_:List (List bw))=>Lt _ 144 151 _ fU x_ (.slice a0 mn.toNat c0) _) e1).mp ⟨w1,HI.aQ (l:=[box bK #[C mn,.slice a0 mn.toNat c0] 26,own w.heap.size 144 (.slice a0 mn.toNat c0) fU,box bj #[C mn,.slice a0 mn.toNat c0] 26,box aX #[C mn,R bG mr bF] 26,iL bG mr bF]) (l':=[own w.heap.size 144 (.slice a0 mn.toNat c0) fU]) (t:=bJ w.heap.size 151 fU xs) H8 [1] aw rfl rfl⟩⟩
theorem aeU:cD aM 94:=cE Tryz.func94
theorem Xi:cD aM 95:=cE Tryz.func95
theorem Gv:cD aM 64:=cE Tryz.func64
theorem xr (hM:eC M w) (gk:aK mn) (gz:cz M w bG bF mr) (b9:bL mn mr=true):Calls aM 58 #[.agg #[C mn,R bG mr bF]] w (ck fun v w'=>∃(a0:OA) (c0:Nat),v=.agg #[C mn,.slice a0 (fl mn mr).length c0]∧Ext w w'∧bo M 144 w (fl mn mr) (.slice a0 (fl mn mr).length c0) w'):=by
 refine dv 41 Tryz.func58 J J J hM fun f0 ha H=>?_
 let J0:=iL bG mr bF
 have H0:=H.put (it:=J0) J<|by rw[bQ];exact gz
 have nG:=bg gz
 have i0:f0 0=.agg #[C mn,R bG mr bF]:=ha 0 bm
 have uv:=(bU b9).1;have Km:=(bU b9).2.2.1;have Fc:=kW b9
 refine aD<|k<|bx H0 J i0 ?_
 intro aX w0 bY (H1:HI M w w0 [box aX #[C mn,R bG mr bF] 26,J0])
 let J1:=box aX #[C mn,R bG mr bF] 26
 refine k<|al H1 bp ?_
 intro bj w1 cS (H2:HI M w w1 [box bj #[C 0,.slice none 0 0] 26,J1,J0])
 let J2:=box bj #[C 0,.slice none 0 0] 26
 refine bz<|k<|cC H2 1 J bp J J aw J<|k ?_
 have bT:=MY (mn:=mn) (mr:=mr) H2.mb gk (H2.rv 2 J)<|by exact b9
 refine ca aeU J (ec J e0) bT ?_
 rintro _ w2 ⟨a0,c0,fU,rfl,fm,cm⟩
 have H3:=H2.G9 cm
 let J3:=own w.heap.size 144 (.slice a0 mn.toNat c0) fU
 have H4:HI M w w2 ([J3,J2,J1,J0]++bJ w.heap.size 151 fU mr):=H3
 have FI:=cm.1
 refine k<|al H4 bp ?_
 intro bK w3 fg (H5:HI M w w3 ([box bK #[C 0,.slice none 0 0] 26,J3,J2,J1,J0]++bJ w.heap.size 151 fU mr))
 refine k<|bA H5 0 J bp J J J J J J J ?_
 let J4:=box bK #[C mn,.slice a0 mn.toNat c0] 26
 intro w4 (H6:HI M w w4 ([J4,J3,J2,J1,J0]++bJ w.heap.size 151 fU mr))
 refine av<|sq<|aD<|aU iJ J J<|bq H6 0 J lg J J J<|k<|dP J J im<|ak (v:=C 0) J J<|av<|bk<|lp (fun m f w'=>∃(q:Nat) (xs:List (List bw)),m=mn.toNat-q∧f 2=pV bj 0∧f 3=pV bK 0∧f 10=C (mn.toNat:Int)∧f 11=C (q:Int)∧HI M w w' ([J4,J3,J2,J1,J0]++bJ w.heap.size 151 fU xs)∧(q≤mn.toNat)∧(fU.length=xs.length)∧(xs=cI mn.toNat (wM (gi mr) q))∧(xs.length=mn.toNat)) _ ⟨0,mr,J,J,J,J,(bH J),H6,aq,(by exact FI),(by exact OR b9),aq⟩ ?_
 rintro _ f0 w5 ⟨q,xs,rfl,s0,s1,s2,s3,H7,hk,hl,hs,E5⟩
 refine aD<|k<|lss J J s3 s2<|av<|sq<|cd (b:=decide ((q:Int)<(mn.toNat:Int))) J J (fun b0=>?_)<|fun b0=>?_
 ·
  have p0:=dT b0
  refine sk<|nx<|sq<|bk<|aD<|ak J s3<|au (v:=C (q:Int)) J J<|bz<|aU iJ J s1<|bq H7 0 J lg J J J<|k<|dP J J im<|ak (v:=C 0) J J<|av<|bk<|lp (fun m f w'=>∃(i:Nat) (ys:List (List bw)),m=mn.toNat-i∧f 2=pV bj 0∧f 3=pV bK 0∧f 4=C (q:Int)∧f 10=C (mn.toNat:Int)∧f 11=C (q:Int)∧f 16=C (mn.toNat:Int)∧f 17=C (i:Int)∧HI M w w' ([J4,J3,J2,J1,J0]++bJ w.heap.size 151 fU ys)∧(i≤mn.toNat)∧(fU.length=ys.length)∧(ys=cI mn.toNat (wR (gi mr) q i))∧(ys.length=mn.toNat)) _ ⟨0,xs,J,s0,s1,J,s2,s3,J,(bH J),H7,aq,(by exact hl),(by rw[hs];exact aah _ _ _),(by exact E5)⟩ ?_
  rintro _ f1 w6 ⟨i,ys,rfl,s4,s5,s6,s7,s8,s9,ei,H8,Za,od,gS,AM⟩
  refine aD<|k<|lss J J ei s9<|av<|sq<|cd (b:=decide ((i:Int)<(mn.toNat:Int))) J J (fun b1=>?_)<|fun b1=>?_
  ·
   have p1:=dT b1
   refine sk<|nx<|sq<|bk<|aD<|ak J ei<|au (v:=C (i:Int)) J J<|bz<|aU iJ J s5<|bq H8 0 J lg J J J<|ak (v:=C (i:Int)) J J<|k ?_
   obtain⟨a1,x0,c1,l4,mu⟩:=uN (i:=(i:Int).toNat) H8 bu aq
   refine iC (H8.at_ 1 J) J J J J aq im dw ?_
   intro g0 x1 iP aN cB
   obtain rfl:(⟨a1,x0.length,c1⟩:SV)=x1:=apm (l4.symm.trans aN)
   refine k<|JU cB dw J J<|ak J s6<|k ?_
   have df:=Aw (r:=x0) (i:=(q:Int)) (w:=w6) (M:=fun _=>False) (fun _ h_=>h_.elim) (acL H8 l4 mu) aS
   refine ca No J (ec J<|ec J e0) df ?_
   rintro _ w7 ⟨rfl,jl⟩
   have H9:=H8.ext jl
   refine z<|nx<|cd (b:=fy x0 (q:Int)) J J (fun b2=>?_)<|fun b2=>?_
   ·
    obtain⟨a2,x3,c2,Hw,T8⟩:=uN (i:=(q:Int).toNat) H9 bu aq
    refine dr 10 [eV (pV bK 1),eV (.slice a0 mn.toNat c0),eV (C (i:Int)),fun v w'=>∃(g1:Nat),v=.pointer (some ⟨g1,(i:Int).toNat*1,none⟩)∧(.slice a0 mn.toNat c0:Value).ownBlock=some g1∧ik H9.eI w' ⟨g1,(i:Int).toNat*1,none⟩ (⟨a1,x0.length,c1⟩:SV),eV (R a1 x0 c1),eV (pV bK 1),eV (.slice a0 mn.toNat c0),eV (C (q:Int)),fun v w'=>∃(g2:Nat),v=.pointer (some ⟨g2,(q:Int).toNat*1,none⟩)∧(.slice a0 mn.toNat c0:Value).ownBlock=some g2∧ik H9.eI w' ⟨g2,(q:Int).toNat*1,none⟩ (⟨a2,x3.length,c2⟩:SV),eV (R a2 x3 c2)] J aV ?_ ?_
    ·
     refine dc (fun _ _ vO _ _=>fa iJ J ((vO 3 J).trans s5)<|d0 J J)<|dc (fun _ _ _ jE Ka=>lx (H9.ext jE) 0 J lg J (Ka 0 J J) J<|d0 J J)<|dc (fun _ _ yx _ _=>mv J (yx 5 J)<|d0 J J) ?_
     refine⟨fun _=>⟨fun f5 ew hf3 lj oJ=>?_,by rintro _ _ _ x_ ⟨g1,e_,kT,gx⟩;exact⟨g1,e_,kT,gx.ext x_⟩⟩,?_⟩
     ·
      have dq:=H9.ext lj
      have fM:f5 28=.slice a0 mn.toNat c0:=oJ 1 J J
      have fL:f5 29=C (i:Int):=oJ 2 J J
      refine iC (dq.at_ 1 J) J J fM fL aq im dw ?_
      intro g3 x5 YX nr qe
      obtain rfl:(⟨a1,x0.length,c1⟩:SV)=x5:=apm (l4.symm.trans nr)
      exact⟨_,J,Ext.refl _,⟨g3,J,YX,qe⟩⟩
     refine dc (fun f6 fq yw sT rO=>?_) ?_
     ·
      obtain⟨g4,gv,hv4,rr⟩:∃(g4:Nat),f6 30=.pointer (some ⟨g4,(i:Int).toNat*1,none⟩)∧(.slice a0 mn.toNat c0:Value).ownBlock=some g4∧ik H9.eI fq ⟨g4,(i:Int).toNat*1,none⟩ (⟨a1,x0.length,c1⟩:SV):=rO 3 rfl rfl
      refine JU rr dw J gv ?_
      exact⟨_,J,Ext.refl _,J⟩
     refine dc (fun _ _ Cs _ _=>fa iJ J ((Cs 3 J).trans s5)<|d0 J J)<|dc (fun _ _ _ zR pB=>lx (H9.ext zR) 0 J lg J (pB 5 J J) J<|d0 J J)<|dc (fun _ _ hf7 _ _=>mv J ((hf7 4 J).trans s6)<|d0 J J) ?_
     refine⟨fun _=>⟨fun f10 wJ Ug Bc qI=>?_,by rintro _ _ _ x_ ⟨g2,e_,Cn,jw⟩;exact⟨g2,e_,Cn,jw.ext x_⟩⟩,?_⟩
     ·
      have dX:=H9.ext Bc
      have jZ:f10 33=.slice a0 mn.toNat c0:=qI 6 J J
      have kl:f10 34=C (q:Int):=qI 7 J J
      refine iC (dX.at_ 1 J) J J jZ kl aq im dw ?_
      intro g5 x6 hv5 yo zv
      obtain rfl:(⟨a2,x3.length,c2⟩:SV)=x6:=apm (Hw.symm.trans yo)
      exact⟨_,J,Ext.refl _,⟨g5,J,hv5,zv⟩⟩
     refine dc (fun f11 r8 Ki CG rN=>?_) ?_
     ·
      obtain⟨g6,ln,hv6,Kl⟩:∃(g6:Nat),f11 35=.pointer (some ⟨g6,(q:Int).toNat*1,none⟩)∧(.slice a0 mn.toNat c0:Value).ownBlock=some g6∧ik H9.eI r8 ⟨g6,(q:Int).toNat*1,none⟩ (⟨a2,x3.length,c2⟩:SV):=rN 8 rfl rfl
      refine JU Kl dw J ln ?_
      exact⟨_,J,Ext.refl _,J⟩
     exact j4.rest J _
    ·
     intro f12 tD wE CF lh
     have cJ:=H9.ext CF
     have ll:=(wE 2 J).trans s4
     have lU:=(wE 3 J).trans s5
     have nh:=(wE 4 J).trans s6
     have oX:=(wE 10 J).trans s7
     have uk:=(wE 11 J).trans s8
     have vo:=(wE 16 J).trans s9
     have xX:=(wE 17 J).trans ei
     have uj:=lh 4 J
     have tI:=lh 9 J
     refine k ?_
     have fF:=Du cJ (pW (l:=[J4,J3,J2,J1,J0]) l4 mu) (pW (l:=[J4,J3,J2,J1,J0]) Hw T8) (by have uD:=mu;rw[gS] at uD;have uC:=T8;rw[gS] at uC;rw[LB uD,LB uC];exact apn _) (by have uC:=T8;rw[gS] at uC;rw[LB uC];have h_:=FD (n:=((mn.toNat:Nat):Int)) aq;omega)<|aa4 l4 Hw mu T8
     refine ca Xi J (ec uj<|ec tI e0) fF ?_
     rintro _ wI ⟨rfl,dA⟩
     have ef:=HI.Ax (M:=fun _=>False) (it:=sf (.int .i64 0) (0:Int)) dA l4
     have fe:HI M w wI ([J4,J3,J2,J1,J0]++bJ w.heap.size 151 fU (ys.set ((i:Int).toNat) (jT x0 x3))):=ef
     refine z<|aH<|nx<|rg<|k<|add J J xX J aS<|ak (v:=C ((i:Int)+1)) J J<|z<|bB _ ?_ ⟨(i+1),(ys.set ((i:Int).toNat) (jT x0 x3)),J,ll,lU,nh,oX,uk,vo,(bH J),fe,aq,(by rw[apk];exact od),(by exact ab8 gS mu T8 aq b2),(by rw[apk];exact AM)⟩
     omega
   refine sk<|aH<|nx<|rg<|k<|add J J ei J aS<|ak (v:=C ((i:Int)+1)) J J<|z<|bB _ ?_ ⟨(i+1),ys,J,s4,s5,s6,s7,s8,s9,(bH J),H9,aq,(by exact od),(by exact agb gS mu aq b2),(by exact AM)⟩
   omega
  have p1:=dF b1
  refine ex<|aW<|ba<|bh<|aH<|nx<|rg<|k<|add J J s8 J aS<|ak (v:=C ((q:Int)+1)) J J<|z<|bB _ ?_ ⟨(q+1),ys,J,s4,s5,s7,(bH J),H8,aq,(by exact od),(by rw[gS];exact ab9 _ aq),(by exact AM)⟩
  omega
 have p0:=dF b0
 refine ex<|aW<|ba<|bh<|nx<|sq ?_
 have H8:HI M w w5 [own w.heap.size 144 (.slice a0 mn.toNat c0) xs,J4,J2,J1,J0]:=HI.deep (l:=[J4,J2,J1,J0]) (HI.aQ (l:=[J4,J3,J2,J1,J0]) (l':=[J3,J4,J2,J1,J0]) (t:=bJ w.heap.size 151 fU xs) H7 [1,0,2,3,4] aw J J) bu
 refine rg<|k<|cC H8 1 J bp J s1 aw J<|k<|bA H8 2 J bp J J s0 J J J J ?_
 intro w6 (H9:HI M w w6 [own w.heap.size 144 (.slice a0 mn.toNat c0) xs,J4,box bj #[C mn,.slice a0 mn.toNat c0] 26,J1,J0])
 refine av<|rt<|py H9 2 J bp J J s0 J aw ?_
 have e1:(xs:List (List bw))=fl mn mr:=by exact U_ hs aq aq
 have l1:mn.toNat=(fl mn mr).length:=by rw[←e1];omega
 have bt:=iD (fun (vD:Nat)=>(.agg #[C mn,.slice a0 vD c0]:Value)) l1
 exact⟨a0,c0,bt,H9.below,(apj (fun (n_:Nat)=>bo _ _ _ (fl mn mr) (.slice a0 n_ c0) _) l1).mp ((apj (fun (x_:List (List bw))=>bo _ _ _ x_ (.slice a0 mn.toNat c0) _) e1).mp (H9.dx 0 J))⟩
theorem zm (hM:eC M w) (gk:aK mn) (gz:cz M w bG bF mr) (b9:bL mn mr=true):Calls aM 62 #[.agg #[C mn,R bG mr bF]] w (ck fun v w'=>v=.tuple #[C (((cV mn mr).getD 0:Nat):Int),.bool ((cV mn mr).isSome)]∧Ext w w'):=by
 refine dv 17 Tryz.func62 J J J hM fun f0 ha H=>?_
 have H0:=dU H gz
 have nG:=bg gz
 have i0:f0 0=.agg #[C mn,R bG mr bF]:=ha 0 bm
 have uv:=(bU b9).1;have Km:=(bU b9).2.2.1;have Fc:=kW b9
 refine aD<|k<|bx H0 J i0 ?_
 intro aX w0 bY (H1:HI M w w0 [box aX #[C mn,R bG mr bF] 26,iL bG mr bF])
 refine au (v:=C 0) J J<|au (v:=.bool false) J J<|av<|sq<|aD<|aU iJ J J<|bq H1 0 J lg J J J<|k<|dP J J im<|ak (v:=C 0) J J<|av<|bk<|lp (fun m f w'=>∃(j:Nat),m=mr.length-j∧f 1=pV aX 0∧f 7=C (mr.length:Int)∧f 8=C (j:Int)∧HI M w w' [box aX #[C mn,R bG mr bF] 26,iL bG mr bF]∧(j≤mr.length)∧(∀k,k<j→eO mn mr ((k:Nat):Int) ((k:Nat):Int)=false)) _ ⟨0,J,J,J,(bH J),H1,aq,(by intro k_ h_;omega)⟩ ?_
 rintro _ f0 w1 ⟨j,rfl,s0,s1,s2,H2,hk,hs⟩
 refine aD<|k<|lss J J s2 s1<|av<|sq<|cd (b:=decide ((j:Int)<(mr.length:Int))) J J (fun b0=>?_)<|fun b0=>?_
 ·
  have p0:=dT b0
  refine sk<|nx<|sq<|bk<|aD<|ak J s2<|au (v:=C (j:Int)) J J<|bz<|k<|cC H2 0 J bp J s0 aw J<|ak (v:=C (j:Int)) J J<|ak (v:=C (j:Int)) J J<|k ?_
  have bT:=uS (mn:=mn) (mr:=mr) (i:=(j:Int)) (j:=(j:Int)) H2.mb gk (H2.rv 1 J) aS aS (by exact(bU b9).1) (by exact(bU b9).2.1)<|by exact(bU b9).2.2.1
  refine ca Gv J (ec J<|ec J<|ec J e0) bT ?_
  rintro _ w2 ⟨rfl,cS⟩
  have H3:=H2.ext cS
  refine z<|nx<|cd (b:=eO mn mr (j:Int) (j:Int)) J J (fun b1=>?_)<|fun b1=>?_
  ·
   refine aD<|ak (v:=C (j:Int)) J J<|au (v:=C (j:Int)) J J<|au (v:=.bool true) J J<|av<|rt<|bI<|aL<|du<|bI<|aL<|r2 J J J ?_
   have e0:((j:Int):Int)=(((cV mn mr).getD 0:Nat):Int):=by rw[MF aq b1 hs];rfl
   have e1:(true:Bool)=(cV mn mr).isSome:=by rw[MF aq b1 hs];rfl
   have bt:=nN (fun (cb:Int) (dK:Bool)=>(.tuple #[C cb,.bool dK]:Value)) e0 e1
   exact⟨bt,H3.below⟩
  refine sk<|aH<|nx<|rg<|k<|add J J s2 J aS<|ak (v:=C ((j:Int)+1)) J J<|z<|bB _ ?_ ⟨(j+1),J,s0,s1,(bH J),H3,aq,(by exact Sa (p:=fun k=>eO mn mr ((k:Nat):Int) ((k:Nat):Int)) hs b1)⟩
  omega
 have p0:=dF b0
 refine ex<|aW<|ba<|bh<|cQ<|au (v:=C 0) J J<|au (v:=.bool false) J J<|av<|rt<|r2 J J J ?_
 have e0:(0:Int)=(((cV mn mr).getD 0:Nat):Int):=by rw[JR aq hs];rfl
 have e1:(false:Bool)=(cV mn mr).isSome:=by rw[JR aq hs];rfl
 have bt:=nN (fun (cb:Int) (dK:Bool)=>(.tuple #[C cb,.bool dK]:Value)) e0 e1
 exact⟨bt,H2.below⟩
theorem F' (hM:eC M w) (gk:aK mn) (gz:cz M w bG bF mr) (rp:aK i) (Cw:aK j) (b9:bL mn mr=true):Calls aM 66 #[.agg #[C mn,R bG mr bF],C i,C j] w (ck fun v w'=>∃(a0:OA) (c0:Nat),v=.tuple #[.agg #[C (iu mn i j),.slice a0 (ie mn mr i j).length c0],C (lM mn i j)]∧Ext w w'∧RV M w' (.slice a0 (ie mn mr i j).length c0) (ie mn mr i j)):=by
 refine dv 71 Tryz.func66 J J J hM fun f0 ha H=>?_
 let J0:=iL bG mr bF
 have H0:=H.put (it:=J0) J<|by rw[bQ];exact gz
 have nG:=bg gz
 have i0:f0 0=.agg #[C mn,R bG mr bF]:=ha 0 bm
 have i1:f0 1=C i:=ha 1 bm
 have i2:f0 2=C j:=ha 2 bm
 have uv:=(bU b9).1;have Km:=(bU b9).2.2.1;have Fc:=kW b9
 refine aD<|k<|bx H0 J i0 ?_
 intro aX w0 bY (H1:HI M w w0 [box aX #[C mn,R bG mr bF] 26,J0])
 let J1:=box aX #[C mn,R bG mr bF] 26
 refine k<|al H1 bp ?_
 intro bj w1 cS (H2:HI M w w1 [box bj #[C 0,.slice none 0 0] 26,J1,J0])
 let J2:=box bj #[C 0,.slice none 0 0] 26
 refine au (v:=C 0) J J<|av<|sq<|aD<|ak J i1<|k<|lss J J J J<|ak (v:=.bool (decide (i<0))) J J ?_
 rcases bE (decide (i<0)) with b0|b0
 ·
  have p0:=dT b0
  refine aZ J J J b0<|aZ J J J b0<|aZ J J J b0<|aZ J J J b0<|k<|aQ J J J J b0 J<|ak (v:=.bool true) J J<|aZ J J J J<|aZ J J J J<|k<|aQ J J J J J J<|ak (v:=.bool true) J J<|aZ J J J J<|aZ J J J J<|aZ J J J J<|aZ J J J J<|k<|aQ J J J J J J<|av<|pk J J J<|aD<|k<|bd (v:=.agg #[C 0,.slice none 0 0]) J eA (fun _=>aV)<|k<|bA H2 0 J bp J J J J J J J ?_
  intro w2 (H3:HI M w w2 [J2,J1,J0])
  refine au (v:=C 1) J J<|av<|rt<|aL<|iB H3 0 J bp J J J J J aw ?_
  have e0:(0:Int)=iu mn i j:=by exact(oW (rs:=mr)<|kj.2 aq).1.symm
  have e1:([]:List (List bw))=ie mn mr i j:=by exact(Ip (rs:=mr)<|kj.2 aq).2.1.symm
  have e2:(1:Int)=lM mn i j:=by exact(oW (rs:=mr)<|kj.2 aq).2.2.symm
  have bt:=rD (fun (cb:Int) (dK:List (List bw)) (gF:Int)=>(.tuple #[.agg #[C cb,.slice none dK.length 0],C gF]:Value)) e0 e1 e2
  exact⟨none,0,bt,H3.below,(apj (fun (x_:List (List bw))=>RV _ _ (.slice none x_.length 0) x_) e1).mp (ep _ _)⟩
 have p0:=dF b0
 refine bl J J J b0<|mv J i1<|bl J J J b0<|fa ky J J<|bl J J J b0<|lx H2 1 J aT J J J<|bl J J J b0<|geq J J J J<|k<|cU J J J J b0 J<|ak (v:=.bool (decide (mn≤i))) J J ?_
 rcases bE (decide (mn≤i)) with b1|b1
 ·
  have p1:=dT b1
  refine aZ J J J b1<|aZ J J J b1<|k<|aQ J J J J b1 J<|ak (v:=.bool true) J J<|aZ J J J J<|aZ J J J J<|aZ J J J J<|aZ J J J J<|k<|aQ J J J J J J<|av<|pk J J J<|aD<|k<|bd (v:=.agg #[C 0,.slice none 0 0]) J eA (fun _=>aV)<|k<|bA H2 0 J bp J J J J J J J ?_
  intro w2 (H3:HI M w w2 [J2,J1,J0])
  refine au (v:=C 1) J J<|av<|rt<|aL<|iB H3 0 J bp J J J J J aw ?_
  have e0:(0:Int)=iu mn i j:=by exact(oW (rs:=mr)<|kj.2 aq).1.symm
  have e1:([]:List (List bw))=ie mn mr i j:=by exact(Ip (rs:=mr)<|kj.2 aq).2.1.symm
  have e2:(1:Int)=lM mn i j:=by exact(oW (rs:=mr)<|kj.2 aq).2.2.symm
  have bt:=rD (fun (cb:Int) (dK:List (List bw)) (gF:Int)=>(.tuple #[.agg #[C cb,.slice none dK.length 0],C gF]:Value)) e0 e1 e2
  exact⟨none,0,bt,H3.below,(apj (fun (x_:List (List bw))=>RV _ _ (.slice none x_.length 0) x_) e1).mp (ep _ _)⟩
 have p1:=dF b1
 refine bl J J J b1<|mv J i2<|bl J J J b1<|lss J J J J<|k<|cU J J J J b1 J<|ak (v:=.bool (decide (j<0))) J J ?_
 rcases bE (decide (j<0)) with b2|b2
 ·
  have p2:=dT b2
  refine aZ J J J b2<|aZ J J J b2<|aZ J J J b2<|aZ J J J b2<|k<|aQ J J J J b2 J<|av<|pk J J J<|aD<|k<|bd (v:=.agg #[C 0,.slice none 0 0]) J eA (fun _=>aV)<|k<|bA H2 0 J bp J J J J J J J ?_
  intro w2 (H3:HI M w w2 [J2,J1,J0])
  refine au (v:=C 1) J J<|av<|rt<|aL<|iB H3 0 J bp J J J J J aw ?_
  have e0:(0:Int)=iu mn i j:=by exact(oW (rs:=mr)<|kj.2 aq).1.symm
  have e1:([]:List (List bw))=ie mn mr i j:=by exact(Ip (rs:=mr)<|kj.2 aq).2.1.symm
  have e2:(1:Int)=lM mn i j:=by exact(oW (rs:=mr)<|kj.2 aq).2.2.symm
  have bt:=rD (fun (cb:Int) (dK:List (List bw)) (gF:Int)=>(.tuple #[.agg #[C cb,.slice none dK.length 0],C gF]:Value)) e0 e1 e2
  exact⟨none,0,bt,H3.below,(apj (fun (x_:List (List bw))=>RV _ _ (.slice none x_.length 0) x_) e1).mp (ep _ _)⟩
 have p2:=dF b2
 refine bl J J J b2<|mv J i2<|bl J J J b2<|fa ky J J<|bl J J J b2<|lx H2 1 J aT J J J<|bl J J J b2<|geq J J J J<|k<|cU J J J J b2 J<|z<|nx<|cd (b:=decide (mn≤j)) J J (fun b3=>?_)<|fun b3=>?_
 ·
  have p3:=dT b3
  refine aD<|k<|bd (v:=.agg #[C 0,.slice none 0 0]) J eA (fun _=>aV)<|k<|bA H2 0 J bp J J J J J J J ?_
  intro w2 (H3:HI M w w2 [J2,J1,J0])
  refine au (v:=C 1) J J<|av<|rt<|aL<|iB H3 0 J bp J J J J J aw ?_
  have e0:(0:Int)=iu mn i j:=by exact(oW (rs:=mr)<|kj.2 aq).1.symm
  have e1:([]:List (List bw))=ie mn mr i j:=by exact(Ip (rs:=mr)<|kj.2 aq).2.1.symm
  have e2:(1:Int)=lM mn i j:=by exact(oW (rs:=mr)<|kj.2 aq).2.2.symm
  have bt:=rD (fun (cb:Int) (dK:List (List bw)) (gF:Int)=>(.tuple #[.agg #[C cb,.slice none dK.length 0],C gF]:Value)) e0 e1 e2
  exact⟨none,0,bt,H3.below,(apj (fun (x_:List (List bw))=>RV _ _ (.slice none x_.length 0) x_) e1).mp (ep _ _)⟩
 have p3:=dF b3
 refine sk<|nx<|sq<|sq ?_
 have hq:kG mn [i,j]=true:=ju.2 aq
 refine rg<|k<|cC H2 1 J bp J J aw J<|ak J i1<|ak J i2<|k ?_
 have bT:=uS (mn:=mn) (mr:=mr) (i:=i) (j:=j) H2.mb gk (H2.rv 2 J) rp Cw (by exact(bU b9).1) (by exact(bU b9).2.1)<|by exact(bU b9).2.2.1
 refine ca Gv J (ec J<|ec J<|ec J e0) bT ?_
 rintro _ w2 ⟨rfl,fm⟩
 have H3:=H2.ext fm
 refine z<|nx<|cd (b:=eO mn mr i j) J J (fun b4=>?_)<|fun b4=>?_
 ·
  refine aD<|k<|cC H3 1 J bp J J aw J<|k<|bA H3 0 J bp J J J J J J J ?_
  intro w3 (H4:HI M w w3 [box bj #[C mn,R bG mr bF] 26,J1,J0])
  refine au (v:=C 0) J J<|av<|rt<|aL<|iB H4 0 J bp J J J J J aw ?_
  have e0:(mn:Int)=iu mn i j:=by exact(qm (rs:=mr)<|ju.2 aq).1.symm
  have e1:(mr:List (List bw))=ie mn mr i j:=by exact(abT hq bu).symm
  have e2:(0:Int)=lM mn i j:=by exact(qm (rs:=mr)<|ju.2 aq).2.2.symm
  have bt:=rD (fun (cb:Int) (dK:List (List bw)) (gF:Int)=>(.tuple #[.agg #[C cb,.slice bG dK.length bF],C gF]:Value)) e0 e1 e2
  exact⟨bG,bF,bt,H4.below,(apj (fun (x_:List (List bw))=>RV _ _ (.slice bG x_.length bF) x_) e1).mp (H4.fz 2 J)⟩
 refine sk<|cQ<|aU iJ J J<|bq H3 1 J lg J J J<|ak J i2<|k<|ia (H3.rv 2 J) J J J J aq im dw ?_
 intro iy x0 aN cB
 refine k<|wT cB.w dw J J ?_
 intro a0 c0 cm
 have Cl:=bg cm
 let J3:=iL a0 x0 c0
 have H4:=H3.put (it:=J3) J cm
 refine ak J i2<|k ?_
 have df:=uO (r:=x0) (i:=j) H4.mb (H4.rv 0 J) Cw<|by exact(bU b9).2.1 _ (dO aN)
 refine ca Gs J (ec J<|ec J e0) df ?_
 rintro _ w3 ⟨a1,c1,rfl,fg,dN⟩
 have H5:=H4.eU dN
 refine au (v:=R a1 (eo x0 j) c1) J J<|bz<|k<|cC H5 3 J bp J J aw J<|k ?_
 have fF:=MY (mn:=mn) (mr:=mr) H5.mb gk (H5.rv 4 J)<|by exact b9
 refine ca aeU J (ec J e0) fF ?_
 rintro _ w4 ⟨a2,c2,fU,rfl,jl,dH⟩
 have H6:=H5.G9 dH
 let J4:=own w.heap.size 144 (.slice a2 mn.toNat c2) fU
 let J5:=oL w 151 a1 (eo x0 j) c1
 have H7:HI M w w4 ([J4,J5,J3,J2,J1,J0]++bJ w.heap.size 151 fU mr):=H6
 have FI:=dH.1
 refine k<|al H7 bp ?_
 intro bK w5 je (H8:HI M w w5 ([box bK #[C 0,.slice none 0 0] 26,J4,J5,J3,J2,J1,J0]++bJ w.heap.size 151 fU mr))
 refine k<|bA H8 0 J bp J J J J J J J ?_
 let J6:=box bK #[C mn,.slice a2 mn.toNat c2] 26
 intro w6 (H9:HI M w w6 ([J6,J4,J5,J3,J2,J1,J0]++bJ w.heap.size 151 fU mr))
 refine av<|sq<|aD<|aU iJ J J<|bq H9 0 J lg J J J<|k<|dP J J im<|ak (v:=C 0) J J<|av<|bk<|lp (fun m f w'=>∃(k_:Nat) (xs:List (List bw)),m=mn.toNat-k_∧f 1=C i∧f 3=pV aX 0∧f 6=pV bj 0∧f 8=R a1 (eo x0 j) c1∧f 9=pV bK 0∧f 46=C (mn.toNat:Int)∧f 47=C (k_:Int)∧HI M w w' ([J6,J4,J5,J3,J2,J1,J0]++bJ w.heap.size 151 fU xs)∧(k_≤mn.toNat)∧(fU.length=xs.length)∧(xs=cI mn.toNat (A8 (gi mr) i.toNat j.toNat k_))∧(xs.length=mn.toNat)) _ ⟨0,mr,J,i1,J,J,J,J,J,(bH J),H9,aq,(by exact FI),(by exact X_ b9),aq⟩ ?_
 rintro _ f0 w7 ⟨k_,xs,rfl,s0,s1,s2,s3,s4,s5,s6,dB,hk,hl,hs,E5⟩
 refine aD<|k<|lss J J s6 s5<|av<|sq<|cd (b:=decide ((k_:Int)<(mn.toNat:Int))) J J (fun b5=>?_)<|fun b5=>?_
 ·
  have p5:=dT b5
  refine sk<|nx<|sq<|bk<|aD<|ak J s6<|au (v:=C (k_:Int)) J J<|bz<|ak (v:=C (k_:Int)) J J<|ak J s0<|k<|eql J J J J<|ak (v:=.bool (decide ((k_:Int)=i))) J J ?_
  rcases bE (decide ((k_:Int)=i)) with b6|b6
  ·
   have p6:=dT b6
   refine aZ J J J b6<|aZ J J J b6<|aZ J J J b6<|aZ J J J b6<|aZ J J J b6<|aZ J J J b6<|aZ J J J b6<|k<|aQ J J J J b6 J<|av<|pk J J J<|rg<|aU iJ J s4<|bq dB 0 J lg J J J<|ak (v:=C (k_:Int)) J J<|k ?_
   obtain⟨a3,x1,c3,l4,mu⟩:=uN (i:=(k_:Int).toNat) dB bu aq
   refine iC (dB.at_ 1 J) J J J J aq im dw ?_
   intro g0 x2 iP cO gx
   obtain rfl:(⟨a3,x1.length,c3⟩:SV)=x2:=apm (l4.symm.trans cO)
   refine k<|JU gx dw J J<|ak J s3<|k ?_
   have fc:=Du dB (pW (l:=[J6,J4,J5,J3,J2,J1,J0]) l4 mu) (j:=2) J (by rw[VB b9 hs mu,kK,nY b9 aN];exact apn _) (by rw[kK];exact(bU b9).2.1 _ (dO aN))<|.inl (by simp only[jb,gC];omega)
   refine ca Xi J (ec J<|ec J e0) fc ?_
   rintro _ w8 ⟨rfl,db⟩
   have cT:=HI.Ax (M:=fun _=>False) (it:=sf (.int .i64 0) (0:Int)) db l4
   have dq:HI M w w8 ([J6,J4,J5,J3,J2,J1,J0]++bJ w.heap.size 151 fU (xs.set ((k_:Int).toNat) (jT x1 (eo x0 j)))):=cT
   refine z<|aH<|nx<|rg<|k<|add J J s6 J aS<|ak (v:=C ((k_:Int)+1)) J J<|z<|bB _ ?_ ⟨(k_+1),(xs.set ((k_:Int).toNat) (jT x1<|eo x0 j)),J,s0,s1,s2,s3,s4,s5,(bH J),dq,aq,(by rw[apk];exact hl),(by exact VA b9 hq hs mu aN (.inl aq)),(by rw[apk];exact E5)⟩
   omega
  have p6:=dF b6
  refine bl J J J b6<|fa iJ J s1<|bl J J J b6<|lx dB 5 J lg J J J<|bl J J J b6<|mv (v:=C (k_:Int)) J J<|bl J J J b6<|ia (dB.rv 6 J) J J J J aq im dw ?_
  intro mV x1 cO gx
  refine bl J J J b6<|wT gx.w dw J J ?_
  intro a3 c3 ft
  have ln1:=bg ft
  have cT:=dU dB ft
  have db:HI M w w7 ([iL a3 x1 c3,J6,J4,J5,J3,J2,J1,J0]++bJ w.heap.size 151 fU xs):=cT
  refine bl J J J b6<|mv J s0<|bl J J J b6 ?_
  have fc:=Aw (r:=x1) (i:=i) db.mb (db.rv 0 J) rp
  refine ca No J (ec J<|ec J e0) fc ?_
  rintro _ w8 ⟨rfl,jE⟩
  have dq:=db.ext jE
  refine k<|cU J J J J b6 J<|z<|nx<|cd (b:=fy x1 i) J J (fun b7=>?_)<|fun b7=>?_
  ·
   refine rg<|aU iJ J s4<|bq dq 1 J lg J J J<|ak (v:=C (k_:Int)) J J<|k ?_
   obtain⟨a4,x2,c4,l4,mu⟩:=uN (i:=(k_:Int).toNat) dq bu aq
   refine iC (dq.at_ 2 J) J J J J aq im dw ?_
   intro g0 x3 iP iY jw
   obtain rfl:(⟨a4,x2.length,c4⟩:SV)=x3:=apm (l4.symm.trans iY)
   refine k<|JU jw dw J J<|ak J s3<|k ?_
   have my:=Du dq (pW (l:=[iL a3 x1 c3,J6,J4,J5,J3,J2,J1,J0]) l4 mu) (j:=3) J (by rw[VB b9 hs mu,kK,nY b9 aN];exact apn _) (by rw[kK];exact(bU b9).2.1 _ (dO aN))<|.inl (by simp only[jb,gC];omega)
   refine ca Xi J (ec J<|ec J e0) my ?_
   rintro _ w9 ⟨rfl,dR⟩
   have cM:=HI.Ax (M:=fun _=>False) (it:=sf (.int .i64 0) (0:Int)) dR l4
   have dI:HI M w w9 ([iL a3 x1 c3,J6,J4,J5,J3,J2,J1,J0]++bJ w.heap.size 151 fU (xs.set ((k_:Int).toNat) (jT x2 (eo x0 j)))):=cM
   refine z<|aH<|nx<|rg<|k<|add J J s6 J aS<|ak (v:=C ((k_:Int)+1)) J J<|z ?_
   have cR:HI M w w9 ([J6,J4,J5,J3,J2,J1,J0]++bJ w.heap.size 151 fU (xs.set ((k_:Int).toNat) (jT x2 (eo x0 j)))):=HI.aQ (l:=[iL a3 x1 c3,J6,J4,J5,J3,J2,J1,J0]) (l':=[J6,J4,J5,J3,J2,J1,J0]) (t:=bJ w.heap.size 151 fU (xs.set ((k_:Int).toNat) (jT x2<|eo x0 j))) dI [1,2,3,4,5,6,7] aw J J
   refine bB _ ?_ ⟨(k_+1),(xs.set ((k_:Int).toNat) (jT x2<|eo x0 j)),J,s0,s1,s2,s3,s4,s5,(bH J),cR,aq,(by rw[apk];exact hl),(by exact VA b9 hq hs mu aN (.inr ⟨_,cO,by assumption⟩)),(by rw[apk];exact E5)⟩
   omega
  refine sk<|aH<|nx<|rg<|k<|add J J s6 J aS<|ak (v:=C ((k_:Int)+1)) J J<|z ?_
  have cM:HI M w w8 ([J6,J4,J5,J3,J2,J1,J0]++bJ w.heap.size 151 fU xs):=HI.aQ (l:=[iL a3 x1 c3,J6,J4,J5,J3,J2,J1,J0]) (l':=[J6,J4,J5,J3,J2,J1,J0]) (t:=bJ w.heap.size 151 fU xs) dq [1,2,3,4,5,6,7] aw J J
  refine bB _ ?_ ⟨(k_+1),xs,J,s0,s1,s2,s3,s4,s5,(bH J),cM,aq,(by exact hl),(by exact ahD b9 hq hs aq cO bu),(by exact E5)⟩
  omega
 have p5:=dF b5
 refine ex<|aW<|ba<|bh<|nx<|sq ?_
 have cT:HI M w w7 [own w.heap.size 144 (.slice a2 mn.toNat c2) xs,J6,J5,J3,J2,J1,J0]:=HI.deep (l:=[J6,J5,J3,J2,J1,J0]) (HI.aQ (l:=[J6,J4,J5,J3,J2,J1,J0]) (l':=[J4,J6,J5,J3,J2,J1,J0]) (t:=bJ w.heap.size 151 fU xs) dB [1,0,2,3,4,5,6] aw J J) bu
 refine rg<|k<|cC cT 1 J bp J s4 aw J<|k<|bA cT 4 J bp J J s2 J J J J ?_
 intro w8 (db:HI M w w8 [own w.heap.size 144 (.slice a2 mn.toNat c2) xs,J6,J5,J3,box bj #[C mn,.slice a2 mn.toNat c2] 26,J1,J0])
 refine au (v:=C 0) J J<|av<|rt<|iB db 4 J bp J J J s2 J aw ?_
 have e0:(mn:Int)=iu mn i j:=by exact(qm (rs:=mr)<|ju.2 aq).1.symm
 have e1:(xs:List (List bw))=ie mn mr i j:=by exact afL b9 hq bu hs aq
 have l1:mn.toNat=(ie mn mr i j).length:=by rw[←e1];omega
 have e2:(0:Int)=lM mn i j:=by exact(qm (rs:=mr)<|ju.2 aq).2.2.symm
 have bt:=rD (fun (cb:Int) (vD:Nat) (gF:Int)=>(.tuple #[.agg #[C cb,.slice a2 vD c2],C gF]:Value)) e0 l1 e2
 exact⟨a2,c2,bt,db.below,(apj (fun (n_:Nat)=>RV _ _ (.slice a2 n_ c2)<|ie mn mr i j) l1).mp ((apj (fun (x_:List (List bw))=>RV _ _ (.slice a2 mn.toNat c2) x_) e1).mp (db.mD 0 J))⟩
theorem Xk:cD aM 87:=cE Tryz.func87
theorem Pm (hM:eC M w) (hT:fY 0 w) (gk:aK mn) (gz:cz M w bG bF mr) (uz:aK o) (b9:bL mn mr=true):Calls aM 100 #[.agg #[C mn,R bG mr bF],C o] w (ck fun v w'=>∃(a0:OA) (c0:Nat),v=.slice a0 (fb mn mr o).length c0∧Ext w w'∧bo M 3 w (fb mn mr o) (.slice a0 (fb mn mr o).length c0) w'):=by
 refine dv 20 Tryz.func100 J J J hM fun f0 ha H=>?_
 have H0:=dU H gz
 have nG:=bg gz
 have i0:f0 0=.agg #[C mn,R bG mr bF]:=ha 0 bm
 have i1:f0 1=C o:=ha 1 bm
 have uv:=(bU b9).1;have Km:=(bU b9).2.2.1;have Fc:=kW b9
 refine aD<|k<|bx H0 J i0 ?_
 intro aX w0 bY (H1:HI M w w0 [box aX #[C mn,R bG mr bF] 26,iL bG mr bF])
 refine au (v:=.slice none 0 0) J J<|av<|sq<|aD<|ak J i1<|k<|lss J J J J<|ak (v:=.bool (decide (o<0))) J J ?_
 rcases bE (decide (o<0)) with b0|b0
 ·
  have p0:=dT b0
  refine aZ J J J b0<|aZ J J J b0<|aZ J J J b0<|aZ J J J b0<|k<|aQ J J J J b0 J<|av<|pk J J J<|aD<|au (v:=.slice none 0 0) J J<|av<|rt<|aL<|r1 J J ?_
  have e0:([]:aE)=fb mn mr o:=by exact(Mj aq).symm
  have bt:=iD (fun (cb:aE)=>(.slice none cb.length 0:Value)) e0
  exact⟨none,0,bt,H1.below,(apj (fun (x_:aE)=>bo _ _ _ x_ (.slice none x_.length 0) _) e0).mp (fV H1.below)⟩
 have p0:=dF b0
 refine bl J J J b0<|mv J i1<|bl J J J b0<|fa ky J J<|bl J J J b0<|lx H1 0 J aT J J J<|bl J J J b0<|geq J J J J<|k<|cU J J J J b0 J<|z<|nx<|cd (b:=decide (mn≤o)) J J (fun b1=>?_)<|fun b1=>?_
 ·
  have p1:=dT b1
  refine aD<|au (v:=.slice none 0 0) J J<|av<|rt<|aL<|r1 J J ?_
  have e0:([]:aE)=fb mn mr o:=by exact(Mj aq).symm
  have bt:=iD (fun (cb:aE)=>(.slice none cb.length 0:Value)) e0
  exact⟨none,0,bt,H1.below,(apj (fun (x_:aE)=>bo _ _ _ x_ (.slice none x_.length 0) _) e0).mp (fV H1.below)⟩
 have p1:=dF b1
 refine sk<|nx<|sq ?_
 have hq:0≤o∧o<mn:=by omega
 have gm:=CP mn mr
 refine rg<|k<|cC H1 0 J bp J J aw J<|k ?_
 have bT:=F4 (mn:=mn) (mr:=mr) H1.mb (hT.ext H1.below) gk (H1.rv 1 J)<|by exact b9
 refine ca Xk J (ec J e0) bT ?_
 rintro _ w1 ⟨a0,c0,rfl,cS,cm⟩
 have H2:=H1.eU cm
 refine k<|fd (v:=R a0 (gP mn mr) c0) J J (fun _=>aV)<|ak J i1<|k<|iC (H2.at_ 0 J) J J J J aq im dw ?_
 intro g0 x0 iP aN cB
 refine k<|wT cB dw J J ?_
 intro a1 c1 dN
 have H3:=dU H2 dN
 refine k ?_
 have df:=uP (r:=x0) H3.mb (hT.ext H3.below) (H3.rv 0 J)<|by have h_:=xR b9 aN;omega
 refine ca I1 J (ec J e0) df ?_
 rintro _ w2 ⟨a2,c2,rfl,fm,dH⟩
 have H4:=H3.eU dH
 refine au (v:=R a2 (cZ x0) c2) J J<|av<|rt<|r1 J J ?_
 have e0:(cZ x0:aE)=fb mn mr o:=by exact Tm b9 hq aN
 have bt:=iD (fun (cb:aE)=>(.slice a2 cb.length c2:Value)) e0
 exact⟨a2,c2,bt,H4.below,(apj (fun (x_:aE)=>bo _ _ _ x_ (.slice a2 x_.length c2) _) e0).mp (H4.dx 0 J)⟩
theorem vy (hM:eC M w) (hT:fY 0 w) (gk:aK mn) (gz:cz M w bG bF mr) (uz:aK o) (b9:bL mn mr=true):Calls aM 82 #[.agg #[C mn,R bG mr bF],C o] w (ck fun v w'=>∃(a0:OA) (c0:Nat),v=.slice a0 (bR mn mr o).length c0∧Ext w w'∧bo M 3 w (bR mn mr o) (.slice a0 (bR mn mr o).length c0) w'):=by
 refine dv 22 Tryz.func82 J J J hM fun f0 ha H=>?_
 have H0:=dU H gz
 have nG:=bg gz
 have i0:f0 0=.agg #[C mn,R bG mr bF]:=ha 0 bm
 have i1:f0 1=C o:=ha 1 bm
 have uv:=(bU b9).1;have Km:=(bU b9).2.2.1;have Fc:=kW b9
 refine aD<|k<|bx H0 J i0 ?_
 intro aX w0 bY (H1:HI M w w0 [box aX #[C mn,R bG mr bF] 26,iL bG mr bF])
 refine au (v:=.slice none 0 0) J J<|av<|sq<|aD<|ak J i1<|k<|lss J J J J<|ak (v:=.bool (decide (o<0))) J J ?_
 rcases bE (decide (o<0)) with b0|b0
 ·
  have p0:=dT b0
  refine aZ J J J b0<|aZ J J J b0<|aZ J J J b0<|aZ J J J b0<|k<|aQ J J J J b0 J<|av<|pk J J J<|aD<|au (v:=.slice none 0 0) J J<|av<|rt<|aL<|r1 J J ?_
  have e0:([]:aE)=bR mn mr o:=by exact(Ly aq).symm
  have bt:=iD (fun (cb:aE)=>(.slice none cb.length 0:Value)) e0
  exact⟨none,0,bt,H1.below,(apj (fun (x_:aE)=>bo _ _ _ x_ (.slice none x_.length 0) _) e0).mp (fV H1.below)⟩
 have p0:=dF b0
 refine bl J J J b0<|mv J i1<|bl J J J b0<|fa ky J J<|bl J J J b0<|lx H1 0 J aT J J J<|bl J J J b0<|geq J J J J<|k<|cU J J J J b0 J<|z<|nx<|cd (b:=decide (mn≤o)) J J (fun b1=>?_)<|fun b1=>?_
 ·
  have p1:=dT b1
  refine aD<|au (v:=.slice none 0 0) J J<|av<|rt<|aL<|r1 J J ?_
  have e0:([]:aE)=bR mn mr o:=by exact(Ly aq).symm
  have bt:=iD (fun (cb:aE)=>(.slice none cb.length 0:Value)) e0
  exact⟨none,0,bt,H1.below,(apj (fun (x_:aE)=>bo _ _ _ x_ (.slice none x_.length 0) _) e0).mp (fV H1.below)⟩
 have p1:=dF b1
 refine sk<|nx<|sq ?_
 have hq:0≤o∧o<mn:=by omega
 have gm:=CP mn mr
 refine rg<|k<|cC H1 0 J bp J J aw J<|k ?_
 have bT:=F4 (mn:=mn) (mr:=mr) H1.mb (hT.ext H1.below) gk (H1.rv 1 J)<|by exact b9
 refine ca Xk J (ec J e0) bT ?_
 rintro _ w1 ⟨a0,c0,rfl,cS,cm⟩
 have H2:=H1.eU cm
 refine k<|fd (v:=R a0 (gP mn mr) c0) J J (fun _=>aV)<|ak J i1<|k<|iC (H2.at_ 0 J) J J J J aq im dw ?_
 intro g0 x0 iP aN cB
 refine k<|wT cB dw J J ?_
 intro a1 c1 dN
 have H3:=dU H2 dN
 refine ak J i1<|k ?_
 have df:=uO (r:=x0) (i:=o) H3.mb (H3.rv 0 J) uz<|by have h_:=xR b9 aN;omega
 refine ca Gs J (ec J<|ec J e0) df ?_
 rintro _ w2 ⟨a2,c2,rfl,fm,dH⟩
 have H4:=H3.eU dH
 refine k ?_
 have H5:=H4.freeze 0 J
 have fF:=uP (r:=(eo x0 o)) H5.mb (hT.ext H5.below) (H5.rv 0 J)<|by rw[kK];have h_:=xR b9 aN;omega
 refine ca I1 J (ec J e0) fF ?_
 rintro _ w3 ⟨a3,c3,rfl,fg,ft⟩
 have H6:=H5.eU ft
 refine au (v:=R a3 (cZ<|eo x0 o) c3) J J<|av<|rt<|r1 J J ?_
 have e0:(cZ (eo x0 o):aE)=bR mn mr o:=by exact Sx b9 hq aN
 have bt:=iD (fun (cb:aE)=>(.slice a3 cb.length c3:Value)) e0
 exact⟨a3,c3,bt,H6.below,(apj (fun (x_:aE)=>bo _ _ _ x_ (.slice a3 x_.length c3) _) e0).mp (H6.dx 0 J)⟩
theorem eX:gV aM 47 1 1:=j1 Tryz.underlying47
theorem ir:ez aM 45 1 false 24 (.slice none 0 0):=⟨aV,aV⟩
theorem iK:aM.underlying 45=some (.slice 95):=aV
theorem jd:ez aM 95 5 true 40 (.agg #[.int .i64 0,.int .i64 0,.bool false,.int .i64 0,.int .i64 0]):=⟨aV,aV⟩
theorem rz:gV aM 95 2 2:=j1 Tryz.underlying95
theorem n5:ez aM 4 1 false 1 (.bool false):=⟨aV,aV⟩
theorem ry:gV aM 95 3 3:=j1 Tryz.underlying95
theorem ph (AX:FPH aM qN qQ M w (fun rK=>own w.heap.size 3 (R ee xs dW) rK) r xs p) (H:HI M w w_ ([oL w 3 ee xs dW]++r)):Calls aM 107 #[R ee xs dW,.func (.func qN) #[] qQ.toArray] w_ (ck fun v w'=>v=.slice ee (bc p xs).length dW∧HI M w w' ([oL w 3 ee (bc p xs) dW]++r)):=by
 refine enter 42 Tryz.func107 J J J fun f0 ha=>?_
 have Hg:=kr<|H.at_ 0 J
 have i0:f0 0=R ee xs dW:=ha 0 bm
 have i1:f0 1=.func (.func qN) #[] qQ.toArray:=ha 1 bm
 refine aD<|au (v:=.slice none 0 0) J J<|bz<|ak J i0<|ak J i1<|k ?_
 have H0:=H.freeze 0 J
 have bT:=wD (r:=xs) (p:=p) H0.mb (H0.rv 0 J)<|AX.fp H
 refine ca Xj J (ec J<|ec J e0) bT ?_
 rintro _ w0 ⟨rfl,bY⟩
 have H2:=H.ext bY
 refine au (v:=C (eM p xs)) J J<|av<|sq<|aD<|ak (v:=C (eM p xs)) J J<|k<|eql J J J J<|z<|nx<|cd (b:=decide ((eM p xs)=(-1))) J J (fun b0=>?_)<|fun b0=>?_
 ·
  have p0:=dT b0
  refine aD<|ak J i0<|au (v:=R ee xs dW) J J<|av<|rt<|aL<|r1 J J ?_
  have e0:(xs:List _)=(bc p xs):=by exact abv bu
  try rw[←e0]
  refine⟨?_,?_⟩
  · first|rfl|simp only[e0]|(simp only[apk])
  · first|exact H2|simpa +zetaDelta only[e0,apk] using H2
 have p0:=dF b0
 refine sk<|nx<|sq<|sq ?_
 obtain⟨ajW,ajV,RB⟩:=XE (p:=p) (xs:=xs) bu
 refine rg<|ak (v:=C (eM p xs)) J J<|k<|add J J J J aS<|au (v:=C ((eM p xs)+1)) J J<|av<|bk<|lp (fun m f w'=>∃(q:Int) (k_:Nat) (ys:aE),m=xs.length-k_∧f 0=R ee xs dW∧f 1=.func (.func qN) #[] qQ.toArray∧f 5=C q∧f 6=C (k_:Int)∧HI M w w' ([own w.heap.size 3 (.slice ee xs.length dW) ys]++r)∧(0≤q∧q<(k_:Int)∧k_≤xs.length)∧(DF p xs ys q k_)) _ ⟨(eM p xs),((eM p xs).toNat+1),xs,J,i0,i1,(bH J),(bH J),H2,aq,(by exact RB)⟩ ?_
 rintro _ f0 w1 ⟨q,k_,ys,rfl,s0,s1,s2,s3,H3,tg,hs⟩
 refine sq<|aD<|ak J s3<|ak J s0<|k<|dP J J cw<|k<|lss J J J J<|z<|nx<|cd (b:=decide ((k_:Int)<(xs.length:Int))) J J (fun b1=>?_)<|fun b1=>?_
 ·
  have p1:=dT b1
  refine sk<|nx<|sq<|bk<|aD<|ak J s0<|ak J s3<|k<|iC (H3.at_ 0 J) J J J J (by have h_:=hs.1;first|omega|(simp only[gj,iH,oI,gC];omega)) cw aT ?_
  intro g0 x0 iP aN cB
  refine k<|kF cB aT J J ?_
  intro cm
  refine au (v:=C x0) J J<|av<|sq ?_
  have uv:=hs.1
  refine rg<|ak J s1<|ak (v:=C x0) J J<|k<|cf AX.1 J J J (ec J e0) (AX.2 _ _ H3 _ (by exact dO (by exact R7 hs aN)) cm) ?_
  rintro _ w2 ⟨rfl,cS⟩
  have H4:=H3.ext cS
  have H5:HI M w w2 ([own w.heap.size 3 (.slice ee xs.length dW) ys]++r):=H4
  refine k<|jr J J<|z<|nx<|cd (b:=!(p x0)) J J (fun b2=>?_)<|fun b2=>?_
  ·
   refine aD<|ak J s0<|ak J s2<|ak (v:=C x0) J J<|k<|iC (H5.at_ 0 J) J J J J (by have h_:=hs.1;first|omega|(simp only[gj,iH,oI,gC];omega)) cw aT ?_
   intro g1 x1 kT cO gx
   refine k<|qE H5 0 J kT J (by have h_:=hs.1;first|omega|(simp only[gj,iH,oI,gC];omega)) aT J J J J (RV.int.2 ⟨J,bu⟩) ?_
   intro w3 (H6:HI M w w3 ([own w.heap.size 3 (.slice ee xs.length dW) (ys.set q.toNat x0)]++r))
   refine av<|rg<|ak J s2<|k<|add J J J J aS<|au (v:=C (q+1)) J J<|z<|aH<|nx<|rg<|ak J s3<|k<|add J J J J aS<|au (v:=C ((k_:Int)+1)) J J<|z<|bB _ ?_ ⟨(q+1),(k_+1),(ys.set q.toNat x0),J,s0,s1,(bH J),(bH J),H6,aq,(by exact abw hs aN (by simpa using b2) aq aq)⟩
   omega
  refine sk<|aH<|nx<|rg<|ak J s3<|k<|add J J J J aS<|au (v:=C ((k_:Int)+1)) J J<|z<|bB _ ?_ ⟨q,(k_+1),ys,J,s0,s1,(bH s2),(bH J),H5,aq,(by exact abx hs aN (by simpa using b2))⟩
  omega
 have p1:=dF b1
 refine ex<|aW<|ba<|bh<|cQ<|ak J s0<|ak J s2<|k<|acm (H3.at_ 0 J) J J J J (by have h_:=hs.1;first|omega|(simp only[gj,iH,oI,gC];omega)) cw aT<|k<|clO H3 0 J J J (q:=q.toNat) J cw aT (by have h_:=hs.1;omega) ?_
 intro w2 (H4:HI M w w2 ([own w.heap.size 3 (.slice ee xs.length dW) (ys.take q.toNat++(List.replicate (ys.length-q.toNat) (0:Int)++[]))]++r))
 refine bz<|ak J s0<|ak J s2<|k<|ago H4 0 J J J J J (by have h_:=hs.1;first|omega|(simp only[gj,iH,oI,gC];omega)) cw aT ?_
 intro (H5:HI M w w2 ([oL w 3 ee ((ys.take q.toNat++(List.replicate (ys.length-q.toNat) (0:Int)++[])).take q.toNat) dW]++r))
 refine au (v:=R ee ((ys.take q.toNat++(List.replicate (ys.length-q.toNat) (0:Int)++[])).take q.toNat) dW) J J<|av<|rt<|r1 J J ?_
 have e0:((ys.take q.toNat++(List.replicate (ys.length-q.toNat) (0:Int)++[])).take q.toNat:List _)=(bc p xs):=by exact afl hs aq aq (by have h_:=hs.1;omega) _
 try rw[←e0]
 refine⟨?_,?_⟩
 · first|rfl|simp only[e0]|(simp only[apk])
 · first|exact H5|simpa +zetaDelta only[e0,apk] using H5
theorem Kv (hM:eC M w) (mR:cz M w fX gb l) (Y7:l.length≤1000000000):Calls aM 133 #[R fX l gb] w (ck fun v w'=>∃(a0:OA) (c0:Nat),v=R a0 l c0∧Ext w w'∧bo M 3 w l (R a0 l c0) w'):=by
 refine dv 8 Tryz.func133 J J J hM fun f0 ha H=>?_
 have H0:=dU H mR
 have i0:f0 0=R fX l gb:=ha 0 bm
 refine aD<|au (v:=.slice none 0 0) J J<|av<|sq<|aD<|ak J i0<|k<|UR J J J J cw<|z<|nx<|cd (b:=fX.isNone) J J (fun b0=>?_)<|fun b0=>?_
 ·
  refine aD<|au (v:=.slice none 0 0) J J<|av<|rt<|aL<|r1 J J ?_
  have e0:([]:aE)=l:=by exact(IM mR b0).symm
  have bt:=iD (fun (cb:aE)=>(.slice none cb.length 0:Value)) e0
  exact⟨none,0,bt,H0.below,(apj (fun (x_:aE)=>bo _ _ _ x_ (.slice none x_.length 0) _) e0).mp (fV H0.below)⟩
 refine sk<|cQ<|k<|bs (xs:=([]:aE)) (cells:=#[]) (e:=3) H0 J eA (fun _=>aV) J J aw ?_
 intro g0 w0 bY H1
 refine ak J i0<|k<|l7 H1 0 J J J J J J (H1.rv 1 J).src cw aT J (by simp;omega) J ?_
 intro a0 c0 w1 (H2:HI M w w1 [oL w 3 a0 l c0,iL fX l gb])
 refine au (v:=R a0 l c0) J J<|av<|rt<|r1 J J ?_
 exact⟨a0,c0,J,H2.below,(H2.dx 0 J)⟩
theorem Mi (hM:eC M w) (rp:aK i) (cW:cz M w aA az I) (aeC:aK vr) (DQ:w.heap[yN]? =some (.cells #[.slice aC aF aB,R aA I az,.slice ay dY ax] IH (0,0))∧¬M yN) (h_c:w.heap[bP]? =some (.cells #[C vr] LG (0,0))∧¬M bP):Calls aM 136 #[C i,.pointer (some ⟨yN,0,none⟩),.pointer (some ⟨bP,0,none⟩)] w (ck fun v w'=>v=.bool (gR I vr i)∧Ext w w'):=by
 refine dv 33 Tryz.func136 J J J hM fun f0 ha H=>?_
 have H0:=dU H cW
 have iE:=bg cW
 have i0:f0 0=C i:=ha 0 bm
 have H1:=H0.put (it:=ro yN #[.slice aC aF aB,R aA I az,.slice ay dY ax] IH) J<|by rw[aG rfl,bQ];exact DQ
 have i1:f0 1=pV yN 0:=ha 1 bm
 have H2:=H1.put (it:=ro bP #[C vr] LG) J<|by rw[aG rfl,aG rfl,bQ];exact h_c
 have i2:f0 2=pV bP 0:=ha 2 bm
 refine aD<|au (v:=.bool false) J J<|av<|sq<|A2 J aV<|kq (fun _ _=>mv J i0 e1)<|kq (fun _ _=>lss J J J J e1)<|kq (fun _ _=>mv (v:=.bool (decide (i<0))) J J e1) ?_
 rcases bE (decide (i<0)) with b0|b0
 ·
  have p0:=dT b0
  refine qn J J J b0<|qn J J J b0<|qn J J J b0<|qn J J J b0<|qn J J J b0<|kq (fun _ _=>aQ J J J J b0 J e1)<|kq (fun _ _=>mv (v:=.bool true) J J e1)<|qn J J J J<|qn J J J J<|qn J J J J<|qn J J J J<|qn J J J J<|qn J J J J<|qn J J J J<|kq (fun _ _=>aQ J J J J J J e1)<|kq (fun _ _=>mv (v:=.bool true) J J e1)<|qn J J J J<|qn J J J J<|qn J J J J<|qn J J J J<|qn J J J J<|qn J J J J<|qn J J J J<|qn J J J J<|kq (fun _ _=>aQ J J J J J J e1)<|kq (fun _ _=>jV (v:=.bool true) J J e1)<|zq ?_
  intro w0 bY
  have H3:=H2.ext bY
  refine nx<|rt<|r1 J J ?_
  exact⟨apj Value.bool (by exact(aac bu).symm),H3.below⟩
 have p0:=dF b0
 refine qy J J J b0<|kq (fun _ _=>mv J i0 e1)<|qy J J J b0<|kq (fun _ _=>fa eX J i1 e1)<|qy J J J b0<|kq (fun _ x_=>lr (H2.ext x_) 1 J ir J J J e1)<|qy J J J b0<|kq (fun _ _=>dP J J iK e1)<|qy J J J b0<|kq (fun _ _=>geq J J J J e1)<|kq (fun _ _=>cU J J J J b0 J e1)<|kq (fun _ _=>mv (v:=.bool (decide ((I.length:Int)≤i))) J J e1) ?_
 rcases bE (decide ((I.length:Int)≤i)) with b1|b1
 ·
  have p1:=dT b1
  refine qn J J J b1<|qn J J J b1<|qn J J J b1<|qn J J J b1<|qn J J J b1<|qn J J J b1<|qn J J J b1<|kq (fun _ _=>aQ J J J J b1 J e1)<|kq (fun _ _=>mv (v:=.bool true) J J e1)<|qn J J J J<|qn J J J J<|qn J J J J<|qn J J J J<|qn J J J J<|qn J J J J<|qn J J J J<|qn J J J J<|kq (fun _ _=>aQ J J J J J J e1)<|kq (fun _ _=>jV (v:=.bool true) J J e1)<|zq ?_
  intro w0 bY
  have H3:=H2.ext bY
  refine nx<|rt<|r1 J J ?_
  exact⟨apj Value.bool (by exact(aab bu).symm),H3.below⟩
 have p1:=dF b1
 refine qy J J J b1<|kq (fun _ _=>fa eX J i1 e1)<|qy J J J b1<|kq (fun _ x_=>lr (H2.ext x_) 1 J ir J J J e1)<|qy J J J b1<|kq (fun _ _=>mv J i0 e1)<|qy J J J b1<|qz (H2.rv 2 J) J J J J aq iK jd ?_
 intro iy x0 aN cB
 refine qy J J J b1<|kq (fun _ _=>fa rz J J e1)<|qy J J J b1<|YB ((cB).s2).fst.w n5 J J<|qy J J J b1<|kq (fun _ _=>jr J J e1)<|kq (fun _ _=>cU J J J J b1 J e1)<|kq (fun _ _=>mv (v:=.bool (!x0.2.2.1)) J J e1) ?_
 rcases bE (!x0.2.2.1) with b2|b2
 ·
  refine qn J J J b2<|qn J J J b2<|qn J J J b2<|qn J J J b2<|qn J J J b2<|qn J J J b2<|qn J J J b2<|qn J J J b2<|kq (fun _ _=>aQ J J J J b2 J e1)<|kq (fun _ _=>jV (v:=.bool true) J J e1)<|zq ?_
  intro w0 bY
  have H3:=H2.ext bY
  refine nx<|rt<|r1 J J ?_
  exact⟨apj Value.bool (by rw[Lw bu aN];simp_all),H3.below⟩
 refine qy J J J b2<|kq (fun _ _=>fa eX J i1 e1)<|qy J J J b2<|kq (fun _ x_=>lr (H2.ext x_) 1 J ir J J J e1)<|qy J J J b2<|kq (fun _ _=>mv J i0 e1)<|qy J J J b2<|qz (H2.rv 2 J) J J J J aq iK jd ?_
 intro mV x_ pY gx
 obtain rfl:x0=x_:=apm (aN.symm.trans pY)
 refine qy J J J b2<|kq (fun _ _=>fa ry J J e1)<|qy J J J b2<|mC ((gx).s3).fst.w aT J J ?_
 intro cm
 refine qy J J J b2<|kq (fun _ x_=>lr (H2.ext x_) 0 J aT J i2 J e1)<|qy J J J b2<|kq (fun _ _=>neq J J J J e1)<|kq (fun _ _=>cU J J J J b2 J e1)<|kq (fun _ _=>jV (v:=.bool (!decide (x0.2.2.2.1=vr))) J J e1)<|zq ?_
 intro w0 bY
 have H3:=H2.ext bY
 refine nx<|rt<|r1 J J ?_
 exact⟨apj Value.bool (by rw[Lw bu aN];simp_all),H3.below⟩
theorem Q9 (hM:eC M w) (rp:aK i) (cW:cz M w aA az I) (DQ:w.heap[yN]? =some (.cells #[.slice aC aF aB,R aA I az,.slice ay dY ax] IH (0,0))∧¬M yN) (Kg:0≤i∧i<((I.length:Nat):Int)):Calls aM 109 #[C i,.pointer (some ⟨yN,0,none⟩)] w (ck fun v w'=>v=.bool (fk I i)∧Ext w w'):=by
 refine dv 10 Tryz.func109 J J J hM fun f0 ha H=>?_
 have H0:=dU H cW
 have i0:f0 0=C i:=ha 0 bm
 have H1:=H0.put (it:=ro yN #[.slice aC aF aB,R aA I az,.slice ay dY ax] IH) J<|by rw[aG rfl,bQ];exact DQ
 have i1:f0 1=pV yN 0:=ha 1 bm
 refine aD<|au (v:=.bool false) J J<|bz<|aU eX J i1<|k<|lr H1 0 J ir J J J<|ak J i0<|k<|ia (H1.rv 1 J) J J J J aq iK jd ?_
 intro iy x0 aN cB
 refine aU rz J J<|k<|YO ((cB).s2).fst.w n5 J J<|au (v:=.bool x0.2.2.1) J J<|av<|rt<|r1 J J ?_
 exact⟨apj Value.bool (by exact(ab6 aN).symm),H1.below⟩
theorem Zw:cD aM 133:=cE Tryz.func133
theorem ag7:cD aM 136:=cE Tryz.func136
theorem HH:cD aM 107:=cE Tryz.func107
theorem E2 (hM:eC M w) (cW:cz M w aA az I) (mR:cz M w fX gb l) (aeC:aK vr) (Y7:l.length≤1000000000):Calls aM 99 #[.agg #[.slice aC aF aB,R aA I az,.slice ay dY ax],R fX l gb,C vr] w (ck fun v w'=>∃(a0:OA) (c0:Nat),v=.slice a0 (bc (gR I vr) l).length c0∧Ext w w'∧bo M 3 w (bc (gR I vr) l) (.slice a0 (bc (gR I vr) l).length c0) w'):=by
 refine dv 11 Tryz.func99 J J J hM fun f0 ha H=>?_
 let J0:=iL aA I az
 have H0:=H.put (it:=J0) J<|by rw[bQ];exact cW
 have H1:=dU H0 mR
 have i0:f0 0=.agg #[.slice aC aF aB,R aA I az,.slice ay dY ax]:=ha 0 bm
 have i1:f0 1=R fX l gb:=ha 1 bm
 have i2:f0 2=C vr:=ha 2 bm
 refine aD<|k<|bx H1 J i0 ?_
 intro aX w0 bY (H2:HI M w w0 [box aX #[.slice aC aF aB,R aA I az,.slice ay dY ax] 47,iL fX l gb,J0])
 let J1:=box aX #[.slice aC aF aB,R aA I az,.slice ay dY ax] 47
 refine k<|bx H2 J i2 ?_
 intro bj w1 cS (H3:HI M w w1 [box bj #[C vr] 3,J1,iL fX l gb,J0])
 refine au (v:=.slice none 0 0) J J<|bz<|ak J i1<|k ?_
 have bT:=Kv (l:=l) H3.mb (H3.rv 2 J) aq
 refine ca Zw J (ec J e0) bT ?_
 rintro _ w2 ⟨a0,c0,rfl,fm,cm⟩
 have H4:=H3.eU cm
 refine k<|mf J<|k ?_
 have H5:HI M w w2 ([oL w 3 a0 l c0]++[box bj #[C vr] 3,J1,iL fX l gb,J0]):=H4.bX [0,1,2,3,4] aw J
 have df:=ph (ee:=a0) (dW:=c0) (xs:=l) (qN:=136) (qQ:=[pV aX 0,pV bj 0]) (p:=(fun (x_:Int)=>gR I vr x_)) (w:=w) (w_:=w2) (r:=[box bj #[C vr] 3,J1,iL fX l gb,J0]) (M:=M) ⟨ag7,fun w_ rK H_ x_ pY E7=>Mi (I:=I) (vr:=vr) (M:=fun _=>False) (fun _ h_=>h_.elim) E7 ((H_.rv 4 J).lift (Up.less fun _ _ h_=>h_.elim)) aS ⟨H_.at_ 2 rfl,fun h_=>h_⟩ ⟨H_.at_ 1 rfl,fun h_=>h_⟩⟩ H5
 refine ca HH J (ec J<|ec J e0) df ?_
 rintro _ w3 ⟨rfl,H6⟩
 have H7:HI M w w3 [oL w 3 a0 (bc (fun (x_:Int)=>gR I vr x_) l) c0,box bj #[C vr] 3,J1,iL fX l gb,J0]:=H6
 refine au (v:=R a0 (bc (fun (x_:Int)=>gR I vr x_) l) c0) J J<|av<|rt<|r1 J J ?_
 have e0:((bc (fun (x_:Int)=>gR I vr x_) l):aE)=bc (gR I vr) l:=rfl
 have bt:=iD (fun (cb:aE)=>(.slice a0 cb.length c0:Value)) e0
 exact⟨a0,c0,bt,H7.below,(apj (fun (x_:aE)=>bo _ _ _ x_ (.slice a0 x_.length c0) _) e0).mp (H7.dx 0 J)⟩
theorem sm:gV aM 47 2 2:=j1 Tryz.underlying47
theorem qv:ez aM 27 1 false 24 (.slice none 0 0):=⟨aV,aV⟩
theorem dt:ez aM 47 3 true 72 (.agg #[.slice none 0 0,.slice none 0 0,.slice none 0 0]):=⟨aV,aV⟩
theorem ZE:cD aM 100:=cE Tryz.func100
theorem aeT:cD aM 99:=cE Tryz.func99
theorem eD:aM.underlying 119=some (.slice 122):=aV
theorem cN:ez aM 122 3 true 24 (.agg #[.int .i64 0,.int .i64 0,.int .i64 0]):=⟨aV,aV⟩
theorem ahm:cD aM 102:=cE Tryz.func102
theorem vh (hM:eC M w) (hT:fY 0 w) (cW:cz M w aA az I) (fC:cz M w ay ax U) (gk:aK mn) (gz:cz M w bG bF mr) (dG:I.length≤4096) (ey:U.length=I.length) (fP:∀x∈U,x<((I.length:Nat):Int)) (b9:bL mn mr=true):Calls aM 65 #[.agg #[.slice aC aF aB,R aA I az,R ay U ax],.agg #[C mn,R bG mr bF]] w (ck fun v w'=>∃(a0:OA) (c0:Nat),v=.slice a0 (cL I U mn mr).length c0∧Ext w w'∧bo M 122 w (cL I U mn mr) (.slice a0 (cL I U mn mr).length c0) w'):=by
 refine dv 51 Tryz.func65 J J J hM fun f0 ha H=>?_
 let J0:=iL aA I az
 have H0:=H.put (it:=J0) J<|by rw[bQ];exact cW
 let J1:=iL ay U ax
 have H1:=H0.put (it:=J1) J<|by rw[aG rfl,bQ];exact fC
 let J2:=iL bG mr bF
 have H2:=H1.put (it:=J2) J<|by rw[aG rfl,aG rfl,bQ];exact gz
 have iE:=bg cW
 have kh:=bg fC
 have nG:=bg gz
 have i0:f0 0=.agg #[.slice aC aF aB,R aA I az,R ay U ax]:=ha 0 bm
 have i1:f0 1=.agg #[C mn,R bG mr bF]:=ha 1 bm
 have RC:=NA (I:=I) (U:=U) (j:=U.length) b9
 refine aD<|k<|bx H2 J i0 ?_
 let bf:=[J2,J1,J0]
 intro aX w0 bY (H3:HI M w w0 (box aX #[.slice aC aF aB,R aA I az,R ay U ax] 47::bf))
 let J3:=box aX #[.slice aC aF aB,R aA I az,R ay U ax] 47
 refine k<|bx H3 J i1 ?_
 intro bj w1 cS (H4:HI M w w1 (box bj #[C mn,R bG mr bF] 26::J3::bf))
 let J4:=box bj #[C mn,R bG mr bF] 26
 refine au (v:=.slice none 0 0) J J<|bz<|au (v:=.slice none 0 0) J J<|av<|sq<|aD<|aU sm J J<|bq H4 1 J qv J J J<|k<|dP J J cw<|ak (v:=C 0) J J<|av<|bk ?_
 have H5:=H4.qZ (Int×Int×Int) 122
 let bZ:=J4::J3::bf
 refine lp (fun m f w'=>∃(j_:Nat) (wZ:List eu) (a0:OA) (c0:Nat),m=U.length-j_∧f 2=pV aX 0∧f 3=pV bj 0∧f 5=R a0 wZ c0∧f 11=R ay U ax∧f 12=C (U.length:Int)∧f 13=C (j_:Int)∧HI M w w' (oL w 122 a0 wZ c0::bZ)∧(j_≤U.length)∧(wZ=u5 I U mn mr j_)∧(wZ.length≤4096*j_)) _ ⟨0,([]:List eu),none,0,J,J,J,J,J,J,(bH J),H5,aq,(by rfl),(by exact aqH _)⟩ ?_
 rintro _ f0 w2 ⟨j_,wZ,a0,c0,rfl,s0,s1,s2,s3,s4,s5,H6,kb,hs,uv⟩
 refine aD<|k<|lss J J s5 s4<|av<|sq<|cd (b:=decide ((j_:Int)<(U.length:Int))) J J (fun b0=>?_)<|fun b0=>?_
 ·
  have p0:=dT b0
  refine sk<|nx<|sq<|bk<|aD<|ak J s5<|k<|ia (H6.rv 4 J) J J s3 s5 aq cw aT ?_
  intro iy x0 aN cB
  refine k<|kF cB.w aT J J ?_
  intro cm
  refine au (v:=C (j_:Int)) J J<|au (v:=C x0) J J<|av<|sq<|aD<|ak (v:=C x0) J J<|k<|lss J J J J<|z<|nx<|cd (b:=decide (x0<0)) J J (fun b1=>?_)<|fun b1=>?_
  ·
   have p1:=dT b1
   refine ex<|aW<|bh<|nx<|rg<|k<|add J J s5 J aS<|ak (v:=C ((j_:Int)+1)) J J<|z<|bB _ ?_ ⟨(j_+1),wZ,a0,c0,J,s0,s1,s2,s3,s4,(bH J),H6,aq,(by exact afg hs aN aq),(by first|omega)⟩
   omega
  have p1:=dF b1
  refine sk<|nx<|sq<|U4 J aV<|xq J<|kq (fun _ x_=>cC (H6.ext x_) 2 J dt J s0 aw J e1)<|zq<|xq J<|kq (fun _ x_=>cC (H6.ext x_) 1 J bp J s1 aw J e1)<|zq<|xq J<|kq (fun _ _=>mv (v:=C (j_:Int)) J J e1)<|zq<|xu (fun v w'=>∃(a1:OA) (c1:Nat),v=R a1 (fb mn mr (j_:Int)) c1∧RV H6.eI w' (R a1 (fb mn mr (j_:Int)) c1) (fb mn mr (j_:Int))) J (by rintro _ _ _ x_ ⟨a1,c1,e_,dH⟩;exact⟨a1,c1,e_,dH.lift (Up.ext x_)⟩) J (fun v_ x_=>have df:=Pm (mn:=mn) (mr:=mr) (o:=(j_:Int)) (w:=v_) (H6.ext x_).mb (hT.ext (H6.ext x_).below) gk ((H6.ext x_).rv 3 rfl) aS (by exact b9);ca ZE rfl (ec J<|ec J e0) df (fun _ w4 ⟨a2,c2,e_,fg,ft⟩=>⟨_,J,fg,⟨a2,c2,e_,(bo.rv ft (H6.ext x_).mb)⟩⟩))<|xq J<|kq (fun _ _=>fa eX J s0 e1)<|zq<|xq J<|kq (fun _ x_=>lx (H6.ext x_) 2 J ir J J J e1)<|zq<|xq J<|kq (fun _ _=>mv (v:=C x0) J J e1)<|zq<|xq J<|qz (H6.rv 5 J) J J J J (by have h_:=fP _ (dO aN);omega) iK jd ?_
  intro mV x1 cO gx
  refine zq<|xq J<|kq (fun _ _=>fa ry J J e1)<|zq<|xq J<|mC ((gx).s3).fst.w aT J J ?_
  intro jK
  refine zq<|xu1 (fun v w'=>∃(a4:OA) (c4:Nat),v=R a4 (bc (gR I x1.2.2.2.1)<|fb mn mr (j_:Int)) c4∧RV H6.eI w' (R a4 (bc (gR I x1.2.2.2.1)<|fb mn mr (j_:Int)) c4) (bc (gR I x1.2.2.2.1)<|fb mn mr (j_:Int))) 0 J J (by rintro _ _ _ x_ ⟨a4,c4,e_,nj⟩;exact⟨a4,c4,e_,nj.lift (Up.ext x_)⟩) J (fun v_ _ x_ h_=>let ⟨a5,c5,s6,n9⟩:=h_;have dR:=(H6.ext x_).put (it:=iL a5 (fb mn mr (j_:Int)) c5) rfl n9;have fc:=E2 (I:=I) (l:=(fb mn mr (j_:Int))) (vr:=x1.2.2.2.1) (aC:=aC) (aF:=aF) (aB:=aB) (ay:=ay) (dY:=U.length) (ax:=ax) dR.mb (dR.rv 6 J) (dR.rv 0 J) jK (by have h_:=vA b9 (j_:Int);omega);ca aeT rfl (ec J<|ec s6<|ec J e0) fc (fun _ w6 ⟨a6,c6,e_,je,qT⟩=>⟨_,J,je,⟨a6,c6,e_,(mY J<|bo.rv qT dR.mb)⟩⟩))<|xk1 (X:=C ((bc (gR I x1.2.2.2.1)<|fb mn mr (j_:Int)).length:Int)) 0 J J (fun _ _ _ h_=>let ⟨a8,c8,s7,pI⟩:=h_;dP rfl s7 cw e1)<|xq J<|kq (fun _ _=>mv (v:=C 0) J J e1)<|zq<|zx ?_
  intro w7 f1 jE cG jc
  have cJ:=H6.ext jE
  have s8:=(cG 2 J).trans s0
  have s9:=(cG 3 J).trans s1
  have ei:=(cG 5 J).trans s2
  have eR:=cG 6 J
  have fM:=cG 7 J
  have fL:=(cG 11 J).trans s3
  have gv:=(cG 12 J).trans s4
  have gH:=(cG 13 J).trans s5
  obtain⟨a9,c9,jZ,qx⟩:=jc 0 _ _ rfl
  let J5:=iL a9 (bc (gR I x1.2.2.2.1) (fb mn mr (j_:Int))) c9
  have ef:=cJ.put (it:=J5) J qx
  have kl:=cG 31 J
  have ln:=cG 32 J
  refine nx<|bk<|lp (fun m f w'=>∃(q_:Nat) (wG:List eu) (jy:OA) (jx:Nat),m=(bc (gR I x1.2.2.2.1)<|fb mn mr (j_:Int)).length-q_∧f 2=pV aX 0∧f 3=pV bj 0∧f 5=R jy wG jx∧f 6=C (j_:Int)∧f 7=C x0∧f 11=R ay U ax∧f 12=C (U.length:Int)∧f 13=C (j_:Int)∧f 30=R a9 (bc (gR I x1.2.2.2.1)<|fb mn mr (j_:Int)) c9∧f 31=C ((bc (gR I x1.2.2.2.1)<|fb mn mr (j_:Int)).length:Int)∧f 32=C (q_:Int)∧HI M w w' (J5::oL w 122 jy wG jx::bZ)∧(q_≤(bc (gR I x1.2.2.2.1)<|fb mn mr (j_:Int)).length)∧(wG=wZ++Cy x0 (j_:Int) ((bc (gR I x1.2.2.2.1)<|fb mn mr (j_:Int)).take q_))∧(wG.length≤4096*j_+q_)) _ ⟨0,wZ,a0,c0,J,s8,s9,ei,eR,fM,fL,gv,gH,jZ,kl,(bH ln),ef,aq,(by exact(aql _).symm),aq⟩ ?_
  rintro _ f2 w8 ⟨q_,wG,jy,jx,rfl,ll,lU,nh,oX,uk,vo,xX,uj,tI,L8,Pd,dA,tg,gS,aoe⟩
  refine sq ?_
  have ajR:(bc (gR I x1.2.2.2.1) (fb mn mr (j_:Int))).length≤4096:=by unfold bc;exact Nat.le_trans (aqn _ _) (vA b9 _)
  refine rg<|k<|lss J J Pd L8<|av<|sq<|cd (b:=decide ((q_:Int)<((bc (gR I x1.2.2.2.1)<|fb mn mr (j_:Int)).length:Int))) J J (fun b2=>?_)<|fun b2=>?_
  ·
   have p2:=dT b2
   refine sk<|nx<|sq<|bk<|aD<|k<|ia (dA.rv 0 J) J J tI Pd aq cw aT ?_
   intro jo x2 iY jw
   refine k<|kF jw.w aT J J ?_
   intro qw
   refine au (v:=C x2) J J<|bz<|ak (v:=C x2) J J<|ak J uk<|k<|neq J J J J<|z<|nx<|cd (b:=!decide (x2=x0)) J J (fun b3=>?_)<|fun b3=>?_
   ·
    have p3:=dF<|gf b3
    refine rg<|ak J nh<|ak (v:=C x2) J J<|ak J uk<|ak J oX<|k<|bd (v:=.agg #[C x2,C x0,C (j_:Int)]) J (ct J<|ct J<|ct J eA) (fun _=>aV)<|k<|bs (xs:=([(x2,x0,(j_:Int))]:List (Int×Int×Int))) (cells:=#[C x2,C x0,C (j_:Int)]) (e:=122) dA J (ct J eA) (fun _=>aV) ⟨[C x2,C x0,C (j_:Int)],[],J,⟨_,_,J,⟨J,(show aK (x2) from bu)⟩,⟨_,_,J,⟨J,(show aK (x0) from bu)⟩,⟨J,(show aK ((j_:Int)) from aS)⟩⟩⟩,J⟩ J aw ?_
    intro g0 w9 lk fe
    refine k<|l7 fe 2 J J J J J J (hG<|fe.at_ 0 J) eD cN J (by simp only[gj,jb,gC];omega) J ?_
    intro mW mU dL (fw:HI M w dL (own w.heap.size 122 (.slice (some ⟨g0,0,none⟩) 1 1) ([(x2,x0,(j_:Int))]:List (Int×Int×Int))::J5::oL w 122 mW (wG++([(x2,x0,(j_:Int))]:List (Int×Int×Int))) mU::bZ))
    refine au (v:=R mW (wG++([(x2,x0,(j_:Int))]:List (Int×Int×Int))) mU) J J<|z<|aH<|nx<|rg<|k<|add J J Pd J aS<|ak (v:=C ((q_:Int)+1)) J J<|z ?_
    have gl:HI M w dL (J5::oL w 122 mW (wG++([(x2,x0,(j_:Int))]:List (Int×Int×Int))) mU::bZ):=fw.bX [1,2,3,4,5,6,7] aw J
    refine bB _ ?_ ⟨(q_+1),(wG++([(x2,x0,(j_:Int))]:List (Int×Int×Int))),mW,mU,J,ll,lU,J,oX,uk,vo,xX,uj,tI,L8,(bH J),gl,aq,(by exact abq gS iY p3),(by simp only[gj,jb,gC];omega)⟩
    omega
   have p3:=dT<|fu b3
   refine sk<|aH<|nx<|rg<|k<|add J J Pd J aS<|ak (v:=C ((q_:Int)+1)) J J<|z<|bB _ ?_ ⟨(q_+1),wG,jy,jx,J,ll,lU,nh,oX,uk,vo,xX,uj,tI,L8,(bH J),dA,aq,(by exact XB gS iY p3),aq⟩
   omega
  have p2:=dF b2
  refine ex<|aW<|ba<|bh<|aH<|nx<|rg<|k<|add J J uj J aS<|ak (v:=C ((j_:Int)+1)) J J<|z ?_
  have fe:HI M w w8 (oL w 122 jy wG jx::bZ):=dA.bX [1,2,3,4,5,6] aw J
  refine bB _ ?_ ⟨(j_+1),wG,jy,jx,J,ll,lU,nh,vo,xX,(bH J),fe,aq,(by exact abr (by unfold ml;rw[cO];rfl) hs gS aN aq aq),(by first|omega)⟩
  omega
 have p0:=dF b0
 refine ex<|aW<|ba<|bh<|cQ<|ak J s2<|k ?_
 have H7:HI M w w2 ([oL w 122 a0 wZ c0]++[J4,J3,J2,J1,J0]):=H6.bX [0,1,2,3,4,5] aw J
 have bT:=SM (ee:=a0) (dW:=c0) (xs:=wZ) (w:=w) (w_:=w2) (r:=[J4,J3,J2,J1,J0]) (M:=M) aq H7
 refine ca ahm J (ec J<|ec J e0) bT ?_
 rintro _ w3 ⟨rfl,H8⟩
 have H9:HI M w w3 (own w.heap.size 122 (.slice a0 wZ.length c0) (xh wZ)::bZ):=H8
 refine bz<|ak J s2<|au (v:=R a0 wZ c0) J J<|av<|rt<|r1 J J ?_
 have e0:((xh wZ):List (Int×Int×Int))=cL I U mn mr:=by rw[hs,show j_=U.length from by omega];rfl
 have l0:wZ.length=(cL I U mn mr).length:=by rw[hs,show j_=U.length from by omega];exact Kr
 have bt:=iD (fun (vE:Nat)=>(.slice a0 vE c0:Value)) l0
 exact⟨a0,c0,bt,H9.below,(apj (fun (n_:Nat)=>bo _ _ _ (cL I U mn mr) (.slice a0 n_ c0) _) l0).mp ((apj (fun (x_:List (Int×Int×Int))=>bo _ _ _ x_ (.slice a0 wZ.length c0) _) e0).mp (H9.dx 0 J))⟩
theorem aeX:cD aM 61:=cE Tryz.func61
theorem JW (hM:eC M w) (Lh:cz M w zK zE se) (Zi:aK ui):Calls aM 61 #[R zK se zE,C ui] w (ck fun v w'=>v=C (eM (fun (z_:Int)=>decide (ui=z_)) se)∧Ext w w'):=by
 refine dv 19 Tryz.func61 J J J hM fun f0 ha H=>?_
 have H0:=dU H Lh
 have alR:=bg Lh
 have i0:f0 0=R zK se zE:=ha 0 bm
 have i1:f0 1=C ui:=ha 1 bm
 refine aD<|au (v:=C 0) J J<|av<|sq<|aD<|ak J i0<|k<|dP J J cw<|ak (v:=C 0) J J<|av<|bk<|lp (fun m f w'=>∃(j_:Nat),m=se.length-j_∧f 0=R zK se zE∧f 1=C ui∧f 7=C (se.length:Int)∧f 8=C (j_:Int)∧HI M w w' [iL zK se zE]∧(j_≤se.length)∧((se.take j_).any (fun (z_:Int)=>decide (ui=z_))=false)) _ ⟨0,J,i0,i1,J,(bH J),H0,aq,bm⟩ ?_
 rintro _ f0 w0 ⟨j_,rfl,s0,s1,s2,s3,H1,kb,hs⟩
 refine aD<|k<|lss J J s3 s2<|av<|sq<|cd (b:=decide ((j_:Int)<(se.length:Int))) J J (fun b0=>?_)<|fun b0=>?_
 ·
  have p0:=dT b0
  refine sk<|nx<|sq<|bk<|aD<|ak J s3<|au (v:=C (j_:Int)) J J<|bz<|ak J s1<|ak J s0<|ak (v:=C (j_:Int)) J J<|k<|ia (H1.rv 0 J) J J J J aq cw aT ?_
  intro iy x0 aN cB
  refine k<|kF cB.w aT J J ?_
  intro cm
  refine k<|eql J J J J<|z<|nx<|cd (b:=decide (ui=x0)) J J (fun b1=>?_)<|fun b1=>?_
  ·
   refine aD<|ak (v:=C (j_:Int)) J J<|au (v:=C (j_:Int)) J J<|av<|rt<|bI<|aL<|du<|bI<|aL<|r1 J J ?_
   exact⟨apj (Value.int .i64) (by exact uT (p:=(fun (z_:Int)=>decide (ui=z_))) aN hs b1),H1.below⟩
  have p1:=dF b1
  refine sk<|aH<|nx<|rg<|k<|add J J s3 J aS<|ak (v:=C ((j_:Int)+1)) J J<|z<|bB _ ?_ ⟨(j_+1),J,s0,s1,s2,(bH J),H1,aq,(by exact oF aN hs b1)⟩
  omega
 have p0:=dF b0
 refine ex<|aW<|ba<|bh<|cQ<|au (v:=C (-1)) J J<|av<|rt<|r1 J J ?_
 exact⟨apj (Value.int .i64) (by exact vI hs aq),H1.below⟩
theorem D5 (hM:eC M w) (Lh:cz M w zK zE se) (Zi:aK ui):Calls aM 131 #[R zK se zE,C ui] w (ck fun v w'=>v=.bool (se.any (fun (z_:Int)=>decide (ui=z_)))∧Ext w w'):=by
 refine dv 9 Tryz.func131 J J J hM fun f0 ha H=>?_
 have H0:=dU H Lh
 have i0:f0 0=R zK se zE:=ha 0 bm
 have i1:f0 1=C ui:=ha 1 bm
 refine aD<|au (v:=.bool false) J J<|bz<|ak J i0<|ak J i1<|k ?_
 have bT:=JW (se:=se) (ui:=ui) H0.mb (H0.rv 0 J) Zi
 refine ca aeX J (ec J<|ec J e0) bT ?_
 rintro _ w0 ⟨rfl,bY⟩
 have H1:=H0.ext bY
 refine k<|geq J J J J<|au (v:=.bool (decide (0≤(eM (fun (z_:Int)=>decide (ui=z_)) se)))) J J<|av<|rt<|r1 J J ?_
 exact⟨apj Value.bool (by exact uU),H1.below⟩
theorem K5:ez aM 218 2 true 16 (.agg #[.int .i64 0,.int .i64 0]):=⟨aV,aV⟩
theorem K6:ez aM 215 1 false 8 (.map none):=⟨aV,aV⟩
theorem agj:Qv aM 218 [some (0,0),some (1,0)]:=⟨aV,aV,aV,aV⟩
theorem YG:Si aM 215:=YL (by kernel_rfl:aM.underlying 215=some (.map 218 4)) (WZ (zY agj)) n5 rfl
theorem Zy:cD aM 131:=cE Tryz.func131
theorem Zu:cD aM 169:=cE Tryz.func169
theorem EU (B1:aK fE) (EB:aK fH) (B0:aK gK) (gk:aK mn) (b9:bL mn mr=true) (H:HI M w w_ ([box kE #[.map (some gh)] 215,bW gh met,box mG #[C mn,R bG mr bF] 26,iL bG mr bF,box mH #[R gM kp gL] 27,iL gM kp gL]++r)):Calls aM 169 #[.agg #[C fE,C fH,C gK],pV kE 0,pV mG 0,pV mH 0] w_ (ck fun v w'=>v=.bool (((ff mn mr kp) met (fE,fH,gK)).1)∧HI M w w' ([box kE #[.map (some gh)] 215,bW gh (((ff mn mr kp) met (fE,fH,gK)).2),box mG #[C mn,R bG mr bF] 26,iL bG mr bF,box mH #[R gM kp gL] 27,iL gM kp gL]++r)):=by
 refine enter 32 Tryz.func169 J J J fun f0 ha=>?_
 have nG:=bg<|H.rv 3 J
 have Ld:=bg<|H.rv 5 J
 have i0:f0 0=.agg #[C fE,C fH,C gK]:=ha 0 bm
 have i1:f0 1=pV kE 0:=ha 1 bm
 have i2:f0 2=pV mG 0:=ha 2 bm
 have i3:f0 3=pV mH 0:=ha 3 bm
 refine aD<|k<|bx H J i0 ?_
 let J1:=box kE #[.map (some gh)] 215
 let J2:=box mG #[C mn,R bG mr bF] 26
 let J3:=iL bG mr bF
 let J4:=box mH #[R gM kp gL] 27
 let J5:=iL gM kp gL
 let bf:=[J1,bW gh met,J2,J3,J4,J5]
 intro aX w0 bY (H0:HI M w w0 ((box aX #[C fE,C fH,C gK] 122::bf)++r))
 let J0:=box aX #[C fE,C fH,C gK] 122
 refine au (v:=.bool false) J J<|bz<|aU kV J J<|bq H0 0 J aT J J J<|aU nf J J<|bq H0 0 J aT J J J<|k<|bd (v:=.agg #[C fE,C fH]) J (ct J<|ct J eA) (fun _=>aV)<|k<|al H0 K5 ?_
 intro bj w1 cS (H1:HI M w w1 ((box bj #[C 0,C 0] 218::J0::bf)++r))
 refine k<|bA H1 0 J K5 J J J J J J J ?_
 let J6:=box bj #[C fE,C fH] 218
 intro w2 (H2:HI M w w2 ((J6::J0::bf)++r))
 refine av<|sq<|aD<|bq H2 2 J K6 J i1 J<|k<|cC H2 0 J K5 J J aw J<|k<|ajp (k:=(fE,fH)) YG H2 3 J J J J J<|ak (v:=.bool ((fT met (fE,fH)).getD false)) J J ?_
 rcases bE ((fT met (fE,fH)).getD false) with b0|b0
 ·
  refine aZ J J J b0<|aZ J J J b0<|aZ J J J b0<|aZ J J J b0<|aZ J J J b0<|aZ J J J b0<|k<|aQ J J J J b0 J<|ak (v:=.bool true) J J<|aZ J J J J<|aZ J J J J<|aZ J J J J<|aZ J J J J<|aZ J J J J<|k<|aQ J J J J J J<|av<|pk J J J<|aD<|au (v:=.bool true) J J<|av<|rt<|aL<|r1 J J ?_
  have H3:=HI.aQ (l:=(J6::J0::bf)) (l':=bf) (t:=r) H2 [2,3,4,5,6,7] aw J J
  have e0:(true:Bool)=((ff mn mr kp) met (fE,fH,gK)).1:=by simp only[ff,b0,BL]
  have e1:(met:List ((Int×Int)×Bool))=(((ff mn mr kp) met (fE,fH,gK)).2):=by simp only[ff,b0,BL]
  try rw[←e0]
  try rw[←e1]
  refine⟨?_,?_⟩
  · first|rfl|simp only[e0,e1]|(simp only[apk])
  · first|exact H3|simpa +zetaDelta only[e0,e1,apk] using H3
 refine bl J J J b0<|cC H2 4 J bp J i2 aw J<|bl J J J b0<|fa kV J J<|bl J J J b0<|lx H2 1 J aT J J J<|bl J J J b0<|fa nf J J<|bl J J J b0<|lx H2 1 J aT J J J<|bl J J J b0 ?_
 have bT:=uS (mn:=mn) (mr:=mr) (i:=fE) (j:=fH) H2.mb gk (H2.rv 5 J) B1 EB (by exact(bU b9).1) (by exact(bU b9).2.1)<|by exact(bU b9).2.2.1
 refine ca Gv J (ec J<|ec J<|ec J e0) bT ?_
 rintro _ w3 ⟨rfl,fm⟩
 have H3:=H2.ext fm
 refine k<|cU J J J J b0 J<|ak (v:=.bool (eO mn mr fE fH)) J J ?_
 rcases bE (eO mn mr fE fH) with b1|b1
 ·
  refine aZ J J J b1<|aZ J J J b1<|aZ J J J b1<|aZ J J J b1<|aZ J J J b1<|k<|aQ J J J J b1 J<|av<|pk J J J<|aD<|au (v:=.bool true) J J<|av<|rt<|aL<|r1 J J ?_
  have H4:=HI.aQ (l:=(J6::J0::bf)) (l':=bf) (t:=r) H3 [2,3,4,5,6,7] aw J J
  have e0:(true:Bool)=((ff mn mr kp) met (fE,fH,gK)).1:=by simp only[ff,b0,b1,BL]
  have e1:(met:List ((Int×Int)×Bool))=(((ff mn mr kp) met (fE,fH,gK)).2):=by simp only[ff,b0,b1,BL]
  try rw[←e0]
  try rw[←e1]
  refine⟨?_,?_⟩
  · first|rfl|simp only[e0,e1]|(simp only[apk])
  · first|exact H4|simpa +zetaDelta only[e0,e1,apk] using H4
 refine bl J J J b1<|lx H3 6 J qv J i3 J<|bl J J J b1<|fa tn J J<|bl J J J b1<|lx H3 1 J aT J J J<|bl J J J b1 ?_
 have df:=D5 (se:=kp) (ui:=gK) H3.mb (H3.rv 7 J) B0
 refine ca Zy J (ec J<|ec J e0) df ?_
 rintro _ w4 ⟨rfl,fg⟩
 have H4:=H3.ext fg
 refine bl J J J b1<|jr J J<|k<|cU J J J J b1 J<|z<|nx<|cd (b:=!(kp.any<|fun (z_:Int)=>decide (gK=z_))) J J (fun b2=>?_)<|fun b2=>?_
 ·
  refine aD<|au (v:=.bool true) J J<|av<|rt<|aL<|r1 J J ?_
  have H5:=HI.aQ (l:=(J6::J0::bf)) (l':=bf) (t:=r) H4 [2,3,4,5,6,7] aw J J
  have e0:(true:Bool)=((ff mn mr kp) met (fE,fH,gK)).1:=by simp only[ff,b0,b1,(gf b2),BL]
  have e1:(met:List ((Int×Int)×Bool))=(((ff mn mr kp) met (fE,fH,gK)).2):=by simp only[ff,b0,b1,(gf b2),BL]
  try rw[←e0]
  try rw[←e1]
  refine⟨?_,?_⟩
  · first|rfl|simp only[e0,e1]|(simp only[apk])
  · first|exact H5|simpa +zetaDelta only[e0,e1,apk] using H5
 refine sk<|cQ<|bq H4 2 J K6 J i1 J<|k<|cC H4 0 J K5 J J aw J<|k<|ajn (k:=(fE,fH)) (v:=true) YG H4 3 J J J J J J J ?_
 let bZ:=[J1,bW gh (lV met (fE,fH) true),J2,J3,J4,J5]
 intro w5 (H5:HI M w w5 ((J6::J0::bZ)++r))
 refine bz<|au (v:=.bool false) J J<|av<|rt<|r1 J J ?_
 have H6:=HI.aQ (l:=(J6::J0::bZ)) (l':=bZ) (t:=r) H5 [2,3,4,5,6,7] aw J J
 have e0:(false:Bool)=((ff mn mr kp) met (fE,fH,gK)).1:=by simp only[ff,b0,b1,(fu b2),BL]
 have e1:(lV met (fE,fH) true:List ((Int×Int)×Bool))=(((ff mn mr kp) met (fE,fH,gK)).2):=by simp only[ff,b0,b1,(fu b2),BL]
 try rw[←e0]
 try rw[←e1]
 refine⟨?_,?_⟩
 · first|rfl|simp only[e0,e1]|(simp only[apk])
 · first|exact H6|simpa +zetaDelta only[e0,e1,apk] using H6
theorem Ht {xs:List (Int×Int×Int)} (gk:aK mn) (b9:bL mn mr=true) (H:HI M w w_ ([oL w 122 ee xs dW,box kE #[.map (some gh)] 215,bW gh met,box mG #[C mn,R bG mr bF] 26,iL bG mr bF,box mH #[R gM kp gL] 27,iL gM kp gL]++r)):Calls aM 184 #[R ee xs dW,.func (.func 169) #[] #[pV kE 0,pV mG 0,pV mH 0]] w_ (ck fun v w'=>∃(ix:Int) (mt:List ((Int×Int)×Bool)),v=C ix∧HI M w w' ([oL w 122 ee xs dW,box kE #[.map (some gh)] 215,bW gh mt,box mG #[C mn,R bG mr bF] 26,iL bG mr bF,box mH #[R gM kp gL] 27,iL gM kp gL]++r)∧Of (ff mn mr kp) met xs ix mt):=by
 refine enter 19 Tryz.func184 J J J fun f0 ha=>?_
 have Hg:=kr<|H.at_ 0 J
 have nG:=bg<|H.rv 4 J
 have Ld:=bg<|H.rv 6 J
 have i0:f0 0=R ee xs dW:=ha 0 bm
 have i1:f0 1=.func (.func 169) #[] #[pV kE 0,pV mG 0,pV mH 0]:=ha 1 bm
 refine aD<|au (v:=C 0) J J<|av<|sq<|aD<|ak J i0<|k<|dP J J eD<|ak (v:=C 0) J J<|av<|bk ?_
 let J0:=oL w 122 ee xs dW
 let J1:=box kE #[.map (some gh)] 215
 let J2:=box mG #[C mn,R bG mr bF] 26
 let J3:=iL bG mr bF
 let J4:=box mH #[R gM kp gL] 27
 let J5:=iL gM kp gL
 let bf:=[J2,J3,J4,J5]
 refine lp (fun m f w'=>∃(j_:Nat) (nn:List ((Int×Int)×Bool)),m=xs.length-j_∧f 0=R ee xs dW∧f 1=.func (.func 169) #[] #[pV kE 0,pV mG 0,pV mH 0]∧f 7=C (xs.length:Int)∧f 8=C (j_:Int)∧HI M w w' ((J0::J1::bW gh nn::bf)++r)∧(j_≤xs.length)∧(gq (ff mn mr kp) met (xs.take j_)=(xs.take j_,nn))) _ ⟨0,met,J,i0,i1,J,(bH J),H,aq,(by exact Xu)⟩ ?_
 rintro _ f0 w0 ⟨j_,nn,rfl,s0,s1,s2,s3,H0,kb,hs⟩
 refine aD<|k<|lss J J s3 s2<|av<|sq<|cd (b:=decide ((j_:Int)<(xs.length:Int))) J J (fun b0=>?_)<|fun b0=>?_
 ·
  have p0:=dT b0
  refine sk<|nx<|sq<|bk<|aD<|ak J s3<|au (v:=C (j_:Int)) J J<|bz<|ak J s1<|ak J s0<|ak (v:=C (j_:Int)) J J<|k<|iC (H0.at_ 0 J) J J J J aq eD cN ?_
  intro g0 x0 iP aN cB
  refine k<|nI cB cN J J ?_
  intro v0 cm
  obtain⟨_,⟨_,_,rfl,⟨rfl,dN⟩,⟨_,_,rfl,⟨rfl,dH⟩,⟨rfl,ft⟩⟩⟩,rfl⟩:=cm
  refine k ?_
  let bZ:=[J2,J3,J4,J5,J0]
  have H1:HI M w w0 ((J1::bW gh nn::bf)++([J0]++r)):=HI.aQ (l:=(J0::J1::bW gh nn::bf)) (l':=(J1::bW gh nn::bZ)) (t:=r) H0 [1,2,3,4,5,6,0] aw J J
  have bT:=EU (fE:=x0.1) (fH:=x0.2.1) (gK:=x0.2.2) (kE:=kE) (gh:=gh) (met:=nn) (mG:=mG) (mn:=mn) (bG:=bG) (bF:=bF) (mr:=mr) (mH:=mH) (gM:=gM) (gL:=gL) (kp:=kp) (w:=w) (w_:=w0) (r:=([J0]++r)) (M:=M) dN dH ft gk (by exact b9) H1
  refine cf Zu J J J (ec J e0) bT ?_
  rintro _ w1 ⟨rfl,H2⟩
  let eh:=J1::bW gh (((ff mn mr kp) nn (x0.1,x0.2.1,x0.2.2)).2)::bZ
  have H3:HI M w w1 (eh++r):=H2
  refine z<|nx<|cd (b:=((ff mn mr kp) nn (x0.1,x0.2.1,x0.2.2)).1) J J (fun b1=>?_)<|fun b1=>?_
  ·
   refine aD<|ak (v:=C (j_:Int)) J J<|au (v:=C (j_:Int)) J J<|av<|rt<|bI<|aL<|du<|bI<|aL<|r1 J J ?_
   have H4:=HI.aQ (l:=eh) (l':=(J0::J1::bW gh (((ff mn mr kp) nn (x0.1,x0.2.1,x0.2.2)).2)::bf)) (t:=r) H3 [6,0,1,2,3,4,5] aw J J
   refine⟨(j_:Int),(((ff mn mr kp) nn (x0.1,x0.2.1,x0.2.2)).2),?_,?_,(by exact ae6 hs aq aN b1)⟩
   · first|rfl|simp only[apk]
   · first|exact H4|simpa +zetaDelta only[apk] using H4
  refine sk<|aH<|nx<|rg<|k<|add J J s3 J aS<|ak (v:=C ((j_:Int)+1)) J J<|z ?_
  let jz:=J0::J1::bW gh (((ff mn mr kp) nn (x0.1,x0.2.1,x0.2.2)).2)::bf
  have H4:HI M w w1 (jz++r):=HI.aQ (l:=eh) (l':=jz) (t:=r) H3 [6,0,1,2,3,4,5] aw J J
  refine bB _ ?_ ⟨(j_+1),(((ff mn mr kp) nn (x0.1,x0.2.1,x0.2.2)).2),J,s0,s1,s2,(bH J),H4,aq,(by exact abg hs aN b1)⟩
  omega
 have p0:=dF b0
 refine ex<|aW<|ba<|bh<|cQ<|au (v:=C (-1)) J J<|av<|rt<|r1 J J ?_
 refine⟨(-1),nn,?_,?_,(by exact ae7 hs aq)⟩
 · first|rfl|simp only[apk]
 · first|exact H0|simpa +zetaDelta only[apk] using H0
theorem agP:cD aM 184:=cE Tryz.func184
theorem RJ:cD aM 65:=cE Tryz.func65
theorem agV:cD aM 168:=cE Tryz.func168
theorem GC {xs:List (Int×Int×Int)} (gk:aK mn) (b9:bL mn mr=true) (H:HI M w w_ ([oL w 122 ee xs dW,box kE #[.map (some gh)] 215,bW gh met,box mG #[C mn,R bG mr bF] 26,iL bG mr bF,box mH #[R gM kp gL] 27,iL gM kp gL]++r)):Calls aM 168 #[R ee xs dW,.func (.func 169) #[] #[pV kE 0,pV mG 0,pV mH 0]] w_ (ck fun v w'=>v=.slice ee ((gq (ff mn mr kp) met xs).1).length dW∧HI M w w' ([oL w 122 ee ((gq (ff mn mr kp) met xs).1) dW,box kE #[.map (some gh)] 215,bW gh ((gq (ff mn mr kp) met xs).2),box mG #[C mn,R bG mr bF] 26,iL bG mr bF,box mH #[R gM kp gL] 27,iL gM kp gL]++r)):=by
 refine enter 42 Tryz.func168 J J J fun f0 ha=>?_
 have Hg:=kr<|H.at_ 0 J
 have nG:=bg<|H.rv 4 J
 have Ld:=bg<|H.rv 6 J
 have i0:f0 0=R ee xs dW:=ha 0 bm
 have i1:f0 1=.func (.func 169) #[] #[pV kE 0,pV mG 0,pV mH 0]:=ha 1 bm
 refine aD<|au (v:=.slice none 0 0) J J<|bz<|ak J i0<|ak J i1<|k ?_
 let J0:=oL w 122 ee xs dW
 let J1:=box kE #[.map (some gh)] 215
 let J2:=box mG #[C mn,R bG mr bF] 26
 let J3:=iL bG mr bF
 let J4:=box mH #[R gM kp gL] 27
 let J5:=iL gM kp gL
 let bf:=[J2,J3,J4,J5]
 let bZ:=J0::J1::bW gh met::bf
 have H0:HI M w w_ ((J0::J1::bW gh met::bf)++([]++r)):=HI.aQ (l:=bZ) (l':=bZ) (t:=r) H [0,1,2,3,4,5,6] aw J J
 have bT:=Ht (ee:=ee) (dW:=dW) (xs:=xs) (kE:=kE) (gh:=gh) (met:=met) (mG:=mG) (mn:=mn) (bG:=bG) (bF:=bF) (mr:=mr) (mH:=mH) (gM:=gM) (gL:=gL) (kp:=kp) (w:=w) (w_:=w_) (r:=([]++r)) (M:=M) gk (by exact b9) H0
 refine ca agP J (ec J<|ec J e0) bT ?_
 rintro _ w0 ⟨o0,o1,rfl,H1,q0⟩
 have H2:HI M w w0 ((J0::J1::bW gh o1::bf)++r):=H1
 refine au (v:=C o0) J J<|av<|sq<|aD<|ak (v:=C o0) J J<|k<|eql J J J J<|z<|nx<|cd (b:=decide (o0=(-1))) J J (fun b0=>?_)<|fun b0=>?_
 ·
  have p0:=dT b0
  refine aD<|ak J i0<|au (v:=R ee xs dW) J J<|av<|rt<|aL<|r1 J J ?_
  have e0:(xs:List _)=((gq (ff mn mr kp) met xs).1):=by rw[Qa q0 bu]
  have e1:(o1:List ((Int×Int)×Bool))=((gq (ff mn mr kp) met xs).2):=by rw[Qa q0 bu]
  try rw[←e0]
  try rw[←e1]
  refine⟨?_,?_⟩
  · first|rfl|simp only[e0,e1]|(simp only[apk])
  · first|exact H2|simpa +zetaDelta only[e0,e1,apk] using H2
 have p0:=dF b0
 refine sk<|nx<|sq<|sq ?_
 obtain⟨ajV,RB⟩:=XC q0 bu
 have ajW:=RB.1
 refine rg<|ak (v:=C o0) J J<|k<|add J J J J aS<|au (v:=C (o0+1)) J J<|av<|bk<|lp (fun m f w'=>∃(q:Int) (k_:Nat) (ys:List eu) (nn:List ((Int×Int)×Bool)),m=xs.length-k_∧f 0=R ee xs dW∧f 1=.func (.func 169) #[] #[pV kE 0,pV mG 0,pV mH 0]∧f 5=C q∧f 6=C (k_:Int)∧HI M w w' ((own w.heap.size 122 (.slice ee xs.length dW) ys::J1::bW gh nn::bf)++r)∧(0≤q∧q<(k_:Int)∧k_≤xs.length)∧(DS (ff mn mr kp) met xs ys q k_ nn)) _ ⟨o0,(o0.toNat+1),xs,o1,J,i0,i1,(bH J),(bH J),H2,aq,(by exact RB)⟩ ?_
 rintro _ f0 w1 ⟨q,k_,ys,nn,rfl,s0,s1,s2,s3,H3,tg,hs⟩
 refine sq<|aD<|ak J s3<|ak J s0<|k<|dP J J eD<|k<|lss J J J J<|z<|nx<|cd (b:=decide ((k_:Int)<(xs.length:Int))) J J (fun b1=>?_)<|fun b1=>?_
 ·
  have p1:=dT b1
  refine sk<|nx<|sq<|bk<|aD<|ak J s0<|ak J s3<|k<|iC (H3.at_ 0 J) J J J J (by have h_:=hs.2.2.1;first|omega|(simp only[gj,iH,oI,gC];omega)) eD cN ?_
  intro g0 x0 iP aN cB
  refine k<|nI cB cN J J ?_
  intro v0 cm
  obtain⟨_,⟨_,_,rfl,⟨rfl,dN⟩,⟨_,_,rfl,⟨rfl,dH⟩,⟨rfl,ft⟩⟩⟩,rfl⟩:=cm
  refine k<|al H3 cN ?_
  let J6:=own w.heap.size 122 (.slice ee xs.length dW) ys
  let eh:=J1::bW gh nn::bf
  intro aX w2 bY (H4:HI M w w2 ((box aX #[C 0,C 0,C 0] 122::J6::eh)++r))
  refine k<|bA H4 0 J cN J J J J J J J ?_
  let J7:=box aX #[C x0.1,C x0.2.1,C x0.2.2] 122
  intro w3 (H5:HI M w w3 ((J7::J6::eh)++r))
  refine bz<|ak J s1<|k<|cC H5 0 J cN J J aw J<|k ?_
  have H6:HI M w w3 (eh++([J7,J6]++r)):=HI.aQ (l:=(J7::J6::eh)) (l':=[J1,bW gh nn,J2,J3,J4,J5,J7,J6]) (t:=r) H5 [2,3,4,5,6,7,0,1] aw J J
  have df:=EU (fE:=x0.1) (fH:=x0.2.1) (gK:=x0.2.2) (kE:=kE) (gh:=gh) (met:=nn) (mG:=mG) (mn:=mn) (bG:=bG) (bF:=bF) (mr:=mr) (mH:=mH) (gM:=gM) (gL:=gL) (kp:=kp) (w:=w) (w_:=w3) (r:=([J7,J6]++r)) (M:=M) dN dH ft gk (by exact b9) H6
  refine cf Zu J J J (ec J e0) df ?_
  rintro _ w4 ⟨rfl,H7⟩
  let jz:=[J1,bW gh (((ff mn mr kp) nn (x0.1,x0.2.1,x0.2.2)).2),J2,J3,J4,J5,J7,J6]
  have H8:HI M w w4 (jz++r):=H7
  refine k<|jr J J<|z<|nx<|cd (b:=!(((ff mn mr kp) nn (x0.1,x0.2.1,x0.2.2)).1)) J J (fun b2=>?_)<|fun b2=>?_
  ·
   refine aD<|ak J s0<|ak J s2<|k<|cC H8 6 J cN J J aw J<|k<|iC (H8.at_ 7 J) J J J J (by have h_:=hs.2.2.1;first|omega|(simp only[gj,iH,oI,gC];omega)) eD cN ?_
   intro g1 x1 kT cO gx
   refine k<|qE H8 7 J kT J (by have h_:=hs.2.2.1;first|omega|(simp only[gj,iH,oI,gC];omega)) cN J J J J ⟨_,⟨_,_,J,⟨J,(show aK (x0.1) from bu)⟩,⟨_,_,J,⟨J,(show aK (x0.2.1) from bu)⟩,⟨J,(show aK (x0.2.2) from bu)⟩⟩⟩,J⟩ ?_
   let J8:=own w.heap.size 122 (.slice ee xs.length dW) (ys.set q.toNat (x0.1,x0.2.1,x0.2.2))
   let fQ:=[J1,bW gh (((ff mn mr kp) nn (x0.1,x0.2.1,x0.2.2)).2),J2,J3,J4,J5,J7,J8]
   intro w5 (H9:HI M w w5 (fQ++r))
   refine av<|rg<|ak J s2<|k<|add J J J J aS<|au (v:=C (q+1)) J J<|z<|aH<|nx<|rg<|ak J s3<|k<|add J J J J aS<|au (v:=C ((k_:Int)+1)) J J<|z ?_
   let lJ:=J8::J1::bW gh (((ff mn mr kp) nn (x0.1,x0.2.1,x0.2.2)).2)::bf
   have dB:HI M w w5 (lJ++r):=HI.aQ (l:=fQ) (l':=lJ) (t:=r) H9 [7,0,1,2,3,4,5] aw J J
   refine bB _ ?_ ⟨(q+1),(k_+1),(ys.set q.toNat (x0.1,x0.2.1,x0.2.2)),(((ff mn mr kp) nn (x0.1,x0.2.1,x0.2.2)).2),J,s0,s1,(bH J),(bH J),dB,aq,(by exact abt hs aN (by simpa using b2))⟩
   omega
  refine sk<|aH<|nx<|rg<|ak J s3<|k<|add J J J J aS<|au (v:=C ((k_:Int)+1)) J J<|z ?_
  let uE:=J6::J1::bW gh (((ff mn mr kp) nn (x0.1,x0.2.1,x0.2.2)).2)::bf
  have H9:HI M w w4 (uE++r):=HI.aQ (l:=jz) (l':=uE) (t:=r) H8 [7,0,1,2,3,4,5] aw J J
  refine bB _ ?_ ⟨q,(k_+1),ys,(((ff mn mr kp) nn (x0.1,x0.2.1,x0.2.2)).2),J,s0,s1,(bH s2),(bH J),H9,aq,(by exact abu hs aN (by simpa using b2))⟩
  omega
 have p1:=dF b1
 refine ex<|aW<|ba<|bh<|cQ<|ak J s0<|ak J s2<|k<|V7 (H3.at_ 0 J) J J J J (by have h_:=hs.2.2.1;first|omega|(simp only[gj,iH,oI,gC];omega)) eD cN<|k<|clE H3 0 J J J (q:=q.toNat) J eD cN (by have h_:=hs.2.2.1;omega) ?_
 intro w2 (H4:HI M w w2 ((own w.heap.size 122 (.slice ee xs.length dW) (ys.take q.toNat++List.replicate (ys.length-q.toNat) (0,0,0))::J1::bW gh nn::bf)++r))
 refine bz<|ak J s0<|ak J s2<|k<|SY H4 0 J J J J J (by have h_:=hs.2.2.1;first|omega|(simp only[gj,iH,oI,gC];omega)) eD cN ?_
 intro (H5:HI M w w2 ((oL w 122 ee ((ys.take q.toNat++List.replicate (ys.length-q.toNat) (0,0,0)).take q.toNat) dW::J1::bW gh nn::bf)++r))
 refine au (v:=R ee ((ys.take q.toNat++List.replicate (ys.length-q.toNat) (0,0,0)).take q.toNat) dW) J J<|av<|rt<|r1 J J ?_
 have e0:((ys.take q.toNat++List.replicate (ys.length-q.toNat) (0,0,0)).take q.toNat:List _)=((gq (ff mn mr kp) met xs).1):=by exact(U3 hs aq aq _).1
 have e1:(nn:List ((Int×Int)×Bool))=((gq (ff mn mr kp) met xs).2):=by exact(U3 hs aq aq []).2
 try rw[←e0]
 try rw[←e1]
 refine⟨?_,?_⟩
 · first|rfl|simp only[e0,e1]|(simp only[apk])
 · first|exact H5|simpa +zetaDelta only[e0,e1,apk] using H5
theorem QP (hM:eC M w) (hT:fY 0 w) (cW:cz M w aA az I) (fC:cz M w ay ax U) (gk:aK mn) (gz:cz M w bG bF mr) (Gq:cz M w gM gL kp) (dG:I.length≤4096) (ey:U.length=I.length) (fP:∀x∈U,x<((I.length:Nat):Int)) (b9:bL mn mr=true):Calls aM 142 #[.agg #[.slice aC aF aB,R aA I az,R ay U ax],.agg #[C mn,R bG mr bF],R gM kp gL] w (ck fun v w'=>∃(a0:OA) (c0:Nat),v=.slice a0 (gJ mn mr kp (cL I U mn mr)).length c0∧Ext w w'∧bo M 122 w (gJ mn mr kp (cL I U mn mr)) (.slice a0 (gJ mn mr kp (cL I U mn mr)).length c0) w'):=by
 refine dv 14 Tryz.func142 J J J hM fun f0 ha H=>?_
 let J0:=iL aA I az
 have H0:=H.put (it:=J0) J<|by rw[bQ];exact cW
 let J1:=iL ay U ax
 have H1:=H0.put (it:=J1) J<|by rw[aG rfl,bQ];exact fC
 let J2:=iL bG mr bF
 have H2:=H1.put (it:=J2) J<|by rw[aG rfl,aG rfl,bQ];exact gz
 let J3:=iL gM kp gL
 have H3:=H2.put (it:=J3) J<|by rw[aG rfl,aG rfl,aG rfl,bQ];exact Gq
 have i0:f0 0=.agg #[.slice aC aF aB,R aA I az,R ay U ax]:=ha 0 bm
 have i1:f0 1=.agg #[C mn,R bG mr bF]:=ha 1 bm
 have i2:f0 2=R gM kp gL:=ha 2 bm
 refine aD<|k<|bx H3 J i0 ?_
 let bf:=[J3,J2,J1,J0]
 intro aX w0 bY (H4:HI M w w0 (box aX #[.slice aC aF aB,R aA I az,R ay U ax] 47::bf))
 let J4:=box aX #[.slice aC aF aB,R aA I az,R ay U ax] 47
 refine k<|bx H4 J i1 ?_
 intro bj w1 cS (H5:HI M w w1 (box bj #[C mn,R bG mr bF] 26::J4::bf))
 let J5:=box bj #[C mn,R bG mr bF] 26
 refine k<|bx H5 J i2 ?_
 intro bK w2 fm (H6:HI M w w2 (box bK #[R gM kp gL] 27::J5::J4::bf))
 let J6:=box bK #[R gM kp gL] 27
 refine au (v:=.slice none 0 0) J J<|bz<|k<|mmP H6 ?_
 intro dQ w3 fg (H7:HI M w w3 (bW dQ ([]:List ((Int×Int)×Bool))::J6::J5::J4::bf))
 refine k<|al H7 K6 ?_
 let bZ:=bW dQ ([]:List ((Int×Int)×Bool))::J6::J5::J4::bf
 intro fj w4 jl (H8:HI M w w4 (box fj #[.map none] 215::bZ))
 refine k<|bA H8 0 J K6 J J J J J J J ?_
 let J7:=box fj #[.map (some dQ)] 215
 intro w5 (H9:HI M w w5 (J7::bZ))
 refine bz<|k<|cC H9 4 J dt J J aw J<|k<|cC H9 3 J bp J J aw J<|k ?_
 have bT:=vh (I:=I) (U:=U) (mn:=mn) (mr:=mr) (aC:=aC) (aF:=aF) (aB:=aB) H9.mb (hT.ext H9.below) (H9.rv 8 J) (H9.rv 7 J) gk (H9.rv 6 J) (by exact dG) (by exact ey) (by exact fP)<|by exact b9
 refine ca RJ J (ec J<|ec J e0) bT ?_
 rintro _ w6 ⟨a0,c0,rfl,je,cm⟩
 have dB:=H9.eU cm
 refine k<|mf J<|k ?_
 have cT:HI M w w6 ([oL w 122 a0 (cL I U mn mr) c0,J7,bW dQ ([]:List ((Int×Int)×Bool)),J5,J2,J6,J3]++[J4,J1,J0]):=dB.bX [0,1,2,4,7,3,6,5,8,9] aw J
 have df:=GC (ee:=a0) (dW:=c0) (xs:=(cL I U mn mr)) (kE:=fj) (gh:=dQ) (met:=([]:List ((Int×Int)×Bool))) (mG:=bj) (mn:=mn) (bG:=bG) (bF:=bF) (mr:=mr) (mH:=bK) (gM:=gM) (gL:=gL) (kp:=kp) (w:=w) (w_:=w6) (r:=[J4,J1,J0]) (M:=M) gk (by exact b9) cT
 refine ca agV J (ec J<|ec J e0) df ?_
 rintro _ w7 ⟨rfl,db⟩
 have dq:HI M w w7 [oL w 122 a0 ((gq (ff mn mr kp) ([]:List ((Int×Int)×Bool)) (cL I U mn mr)).1) c0,J7,bW dQ ((gq (ff mn mr kp) ([]:List ((Int×Int)×Bool)) (cL I U mn mr)).2),J5,J2,J6,J3,J4,J1,J0]:=db
 refine au (v:=R a0 ((gq (ff mn mr kp) ([]:List ((Int×Int)×Bool))<|cL I U mn mr).1) c0) J J<|av<|rt<|r1 J J ?_
 have e0:(((gq (ff mn mr kp) ([]:List ((Int×Int)×Bool)) (cL I U mn mr)).1):List (Int×Int×Int))=gJ mn mr kp (cL I U mn mr):=rfl
 have bt:=iD (fun (cb:List (Int×Int×Int))=>(.slice a0 cb.length c0:Value)) e0
 exact⟨a0,c0,bt,dq.below,(apj (fun (x_:List (Int×Int×Int))=>bo _ _ _ x_ (.slice a0 x_.length c0) _) e0).mp (dq.dx 0 J)⟩
end Go.Proofs.YtgjakhpjmapelaaGreatDoor
