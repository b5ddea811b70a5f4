/- PRINTED by my own tool (wip/tool/gen.py): contracts of Go functions of this seat, each with its proof. -/
import Derived.Test.YtefcbihikknlkaaGreatDoorProg
import Derived.Test.YtefcbihikknlkaaGreatDoorWwnB
import Derived.Test.YtefcbihikknlkaaGreatDoorWwnC
import Derived.Test.YtefcbihikknlkaaGreatDoorWwnA
import Derived.Test.YtefcbihikknlkaaGreatDoorWwnD
set_option linter.unusedVariables false
set_option linter.unusedSimpArgs false
namespace Go.Proofs.YtefcbihikknlkaaGreatDoor
open Go.Ew Go.RowKit
set_option maxRecDepth 100000
set_option maxHeartbeats 1600000
attribute [local irreducible] WL WC SO PW PX Code.wp wpList qO cZ
attribute [local irreducible] eS oS iO fU ej y4 BC Is words dJ fH fZ fK uC
attribute [local irreducible] PZ WE
theorem dy {P:Program} {g:Nat} {fn:Func} {c:Code} (h:P.funcs[g]? =some fn) (hb:fn.body=some c:=by exact rfl) (hn:(fn.name== "runtime.NumGoroutine")=false:=by kernel_rfl):dq P g:=⟨fn,c,h,hb,hn⟩
theorem mu {P:Program} {s:TypeId} {j o:Nat} {fs:Array _} {fd:_} (h:P.underlying s=some (.struct fs)) (h1:fs[j]? =some fd:=by exact rfl) (h2:fd.offset=o:=by exact rfl) (h3:((P.info? fd.type).map fun i=>Nat.beq i.size 0)=some false:=by kernel_rfl):jt P s j o:=⟨fs,fd,h,h1,h2,h3⟩
theorem cj {M0 M1:Nat→Prop} {w0 w:World} {l:List Go.Ew.Item} {α:Type} [GT α] {a:OA} {c:Nat} {xs:List α} (H:HI M0 w0 w l) (h:RV M1 w (.slice a xs.length c) xs) (e:MS M0 l=M1:=by first|with_reducible rfl|(repeat first|rw[dY]|rw[bp rfl])):HI M0 w0 w (iL a xs c::l):=H.put (it:=iL a xs c) rfl (by rw[e];exact h)
noncomputable abbrev aX:Program:=Tryz.prog
theorem aY {x:Int} (h:aN x:=by first|assumption|(unfold aN at *;omega)):aN x:=h
theorem BK {p:Prop} (h:p:=by first|omega|assumption|simp):p:=h
theorem bu {p:Prop} (h:p:=by kernel_rfl):p:=h
theorem bJ {v:Value} {k:IntKind} {a b:Int} (h:v=.int k a) (e:a=b:=by first|rfl|omega|simp):v=.int k b:=e▸h
theorem dK {M0:Nat→Prop} {P:Program} {g:FuncId} {fn:Func} {c:Code} {args:Array Value} {w:World} {R:Value→World→Prop} (n:Nat) (hf:P.funcs[g]? =some fn) (hb:fn.body=some c) (hn:fn.ntmps=n) (ha:Nat.ble args.size n=true) (hM:∀b,M0 b→b<w.heap.size) (h:∀f:aP,(∀(i:Nat) {v:Value},args.toList[i]? =some v→f i=v)→HI M0 w w []→WC P n c (qO P n fn R) f w):Calls P g args w (cZ R):=
  enter n hf hb hn ha fun f h1=>h f (fun i v hv=>by
    rw[anz] at hv
    obtain⟨h2,h3⟩:=amy.1 hv
    rw[←h3]
    exact h1 i h2) (HI.start hM)
theorem yo {w:World}:∀b,(fun _:Nat=>False) b→b<w.heap.size:=fun _ h=>h.elim
theorem Zf {F S:OA→Nat→Value} {D:Nat→Prop} {α:Type} [GT α] {X:List α}:sM (fun N v w=>∃(a:OA) (c:Nat),v=F a c∧RV (MN D N) w (S a c) X):=
  ⟨by rintro _ _ _ _ x_ ⟨a,c,e_,r⟩;exact⟨a,c,e_,r.lift (Up.ext x_)⟩,by rintro _ _ _ _ _ k_ ⟨a,c,e_,r⟩;exact⟨a,c,e_,SQ r k_⟩⟩
theorem xL {F S:OA→Nat→Value} {D:Nat→Prop} {α:Type} [GT α] {X:List α}:sM (fun _ v w=>∃(a:OA) (c:Nat),v=F a c∧RV D w (S a c) X):=
  mN (by rintro _ _ _ x_ ⟨a,c,e_,r⟩;exact⟨a,c,e_,r.lift (Up.ext x_)⟩)
abbrev cP {α:Type} [GT α] (M:Nat→Prop) (w:World) (a:OA) (c:Nat) (l:List α):Prop:=RV M w (.slice a l.length c) l
abbrev ei (M:Nat→Prop) (w:World):Prop:=∀b,M b→b<w.heap.size
section
variable {P:Program} {n id:Nat} {l:List Oper} {y:Code} {Q:Exit→Act→World→Prop} {f:aP} {w:World} {ops:Array Oper}
theorem aG (h:WC P n y Q f w):WL P n ops (Exit.then (fun a w=>y.wp P Q a w) Q) [] f w:=z (nx h)
theorem aH (h:WL P n l.toArray (Exit.then (fun a w=>y.wp P Q a w) Q) l f w):WC P n (.seq (.region id l.toArray false) y) Q f w:=sq (rg h)
theorem cU (h:WL P n l.toArray (Exit.then (fun a w=>y.wp P Q a w) Q) l f w):WL P n ops (Exit.then (fun a w=>(Code.seq (.region id l.toArray false) y).wp P Q a w) Q) [] f w:=z (nx (sq (rg h)))
section
variable {rest:List Oper} {d t j off bb:Nat} {dd:Option Nat} {x:Operand} {v z:Value} {ty T t2:TypeId} {ps:String} {af:Array Edge} {ad:Addr} {op:Op} {want b:Bool} {bytes:Nat} {cs:Array Value} {M0:Nat→Prop} {w0:World} {l:List Go.Ew.Item}
theorem gC {ag:UN} {zk:ZK} {ks:List ZK} {ae:World→Prop} {K0:UN→aP→Prop} {rest:List Oper} {o:Oper} {w0:World} (h:PW P n ops w0 (fun f'=>PZ P n ops w0 ae K0 rest ks ag f') [o] f) (hz:Lw zk=true:=by exact rfl) (hf:(my n o&&Ez ops o ag)=true:=by exact rfl):PW P n ops w0 (fun f=>PZ P n ops w0 ae K0 (o::rest) (zk::ks) ag f) [] f:=zq (yq hz hf h)
theorem ak (ox:cC n x=true) (hx:ev f x=v) (h:WL P n ops Q rest (cS f d v) w):WL P n ops Q (⟨some d,.move x,ty,ps,af,none⟩::rest) f w:=k (mv ox hx h)
theorem aj (ox:cC n x=true) (hx:ev f x=v) (h:WL P n ops Q rest (cS f d v) w):WL P n ops Q (⟨some d,.assign x,ty,ps,af,none⟩::rest) f w:=k (gH ox hx h)
theorem bo (F:jt P T j off) (ox:cC n x=true) (hx:ev f x=.pointer (some ad)) (h:WL P n ops Q rest (cS f d (.pointer (some (ad.add off)))) w):WL P n ops Q (⟨some d,.fieldAddr T x j,ty,ps,af,none⟩::rest) f w:=k (fa F ox hx h)
theorem aD (hj:wx ops j=some t) (ht:Nat.blt t n=true) (hv:f t=.bool b) (hb:b=!want) (h:WL P n ops Q rest (df f dd undef) w):WL P n ops Q (⟨dd,op,ty,ps,af,some (j,want)⟩::rest) f w:=k (gn hj ht hv hb h)
theorem aM (hj:wx ops j=some t) (ht:Nat.blt t n=true) (hv:f t=.bool b) (hb:b=want) (h:SO P n ops ⟨dd,op,ty,ps,af,none⟩ f w (WL P n ops Q rest)):WL P n ops Q (⟨dd,op,ty,ps,af,some (j,want)⟩::rest) f w:=k (gy hj ht hv hb h)
theorem bR (H:HI M0 w0 w l) (i:Nat) (hi:l[i]? =some (box bb cs t2)) (F:fA P T 1 false bytes z) (ox:cC n x=true) (hx:ev f x=.pointer (some ⟨bb,off,none⟩)) (hl:((cs.toList.drop off).take 1).length=1) (h:WL P n ops Q rest (cS f d (pW false ((cs.toList.drop off).take 1))) w):WL P n ops Q (⟨some d,.load T x,ty,ps,af,none⟩::rest) f w:=k (lx H i hi F ox hx hl h)
end
theorem dM (h:WL P n l.toArray (Exit.then (fun a w=>y.wp P Q a w) Q) l f w):Exit.then (fun a w=>(Code.seq (.region id l.toArray false) y).wp P Q a w) Q .normal (bY n f) w:=nx (sq (rg h))
end
variable {M:bT} {w w_:aI}
variable {i n mn an bn j vr:Int} {x:bG} {gN qj ou aU ft fq aC av ax kr dO:OA} {gT qh oq rk aT fm fl aE aB au aw ko dN cH:Nat} {r a b:List bG} {rp:List Value} {p:Int→Bool} {mr ar br:List (List bG)} {I:List aR} {fo:az} {s:fO} {h:List (List (Bool×fO×Int))}
theorem UO:aX.underlying 150=some (.int .u64):=bu
theorem tP:aX.underlying 3=some (.int .i64):=bu
theorem OI:dq aX 126:=dy Tryz.func126
theorem UM:aX.underlying 152=some (.array 64 5):=bu
theorem ty5:fA aX 5 1 false 1 (.int .u8 0):=⟨bu,bu⟩
theorem UL:aX.underlying 5=some (.int .u8):=bu
theorem ada:dq aX 135:=dy Tryz.func135
theorem eZ:aX.underlying 115=some (.slice 137):=bu
theorem VN:dq aX 125:=dy Tryz.func125
theorem eu:fA aX 137 1 false 8 (.int .u64 0):=⟨bu,bu⟩
theorem ac':dq aX 137:=dy Tryz.func137
theorem OJ:dq aX 124:=dy Tryz.func124
theorem ac9:dq aX 139:=dy Tryz.func139
theorem adk:dq aX 123:=dy Tryz.func123
theorem cY:aX.underlying 30=some (.slice 3):=bu
theorem aQ:fA aX 3 1 false 8 (.int .i64 0):=⟨bu,bu⟩
theorem VR:dq aX 107:=dy Tryz.func107
theorem adl:dq aX 122:=dy Tryz.func122
theorem adn:dq aX 121:=dy Tryz.func121
theorem OL:dq aX 106:=dy Tryz.func106
theorem CP (nt:aN i):Calls aX 126 #[U i] w (cZ fun v w'=>v=ag (eS i)∧Ext w w'):=by
 refine dK 9 Tryz.func126 J J J yo fun f0 ha H=>?_
 have i0:f0 0=U i:=ha 0 bH
 refine aH<|aj (v:=ag (0#64)) J J<|aG<|sq<|aH<|ak J i0<|k<|cvU J J tP UO<|k<|gtU (BitVec.ofInt 64 i) (63#64) J J J J<|z<|nx<|cd (b:=decide ((63#64).toNat<(BitVec.ofInt 64 i).toNat)) J J (fun b0=>?_)<|fun b0=>?_
 ·
  have p0:=dT b0
  refine aH<|aj (v:=ag (0#64)) J J<|aG<|rt<|aS<|r1 J J ?_
  exact⟨alB ag (by exact X4 nt p0),H.below⟩
 have p0:=dF b0
 refine sk<|dM<|ak J i0<|k<|cvU J J tP UO<|k<|ae8 (1#64) ((BitVec.ofInt 64 i).toNat:Int) ai J J J J<|aj (v:=ag ((1#64) <<< ((BitVec.ofInt 64 i).toNat:Int).toNat)) J J<|aG<|rt<|r1 J J ?_
 exact⟨alB ag (by exact X3 nt p0),H.below⟩
theorem SA (nt:aN i):Calls aX 137 #[ag x,U i] w (cZ fun v w'=>v=.bool (oS x i)∧Ext w w'):=by
 refine dK 10 Tryz.func137 J J J yo fun f0 ha H=>?_
 have i0:f0 0=ag x:=ha 0 bH
 have i1:f0 1=U i:=ha 1 bH
 refine aH<|aj (v:=.bool false) J J<|cU<|ak J i0<|ak J i1<|k ?_
 have cx:=CP (i:=i) (w:=w) nt
 refine ca OI J (ec J e0) cx ?_
 rintro _ w0 ⟨rfl,dt⟩
 have H0:=H.ext dt
 refine k<|UG x (eS i) J J J J<|k<|Zb (x &&& (eS i)) (0#64) J J J J<|aj (v:=.bool (!decide ((x &&& (eS i))=(0#64)))) J J<|aG<|rt<|r1 J J ?_
 exact⟨alB Value.bool (by exact Mq _ _),H0.below⟩
theorem Wn (hT:mi 0 w):Calls aX 135 #[ag x] w (cZ fun v w'=>v=U ((fK x:Nat):Int)∧Ext w w'):=by
 refine dK 14 Tryz.func135 J J J yo fun f0 ha H=>?_
 have i0:f0 0=ag x:=ha 0 bH
 refine aH<|aj (v:=U 0) J J<|aG<|sq<|aH<|ak J i0<|k<|eqU x (0#64) J J J J<|z<|nx<|cd (b:=decide (x=(0#64))) J J (fun b0=>?_)<|fun b0=>?_
 ·
  have p0:=dT b0
  refine aH<|aj (v:=U 64) J J<|aG<|rt<|aS<|r1 J J ?_
  exact⟨alB (Value.int .i64) (by first|(have e_:=p0;subst e_;rw[xT];rfl)|exact HT (by simpa using p0)),H.below⟩
 have p0:=dF b0
 refine sk<|dM<|ak J i0<|ak J i0<|k<|afb x J J<|k<|UG x (-x) J J J J<|k<|Ze (x &&& (-x)) (285870213051353865#64) J J J J<|k<|acy ((x &&& (-x))*(285870213051353865#64)) 58 J J J J<|k<|aff (i:=(((x &&& (-x))*(285870213051353865#64)) >>> 58).toNat) J J J J (by exact CN (by simpa using p0)) UM ty5<|k<|ld8 (ae3 (M:=fun _=>False) hT H.below J<|by exact CN (by simpa using p0)) ty5 J J<|k<|cvI J J aY UL tP<|aj (v:=U ((uC (((x &&& (-x))*(285870213051353865#64)) >>> 58).toNat).toNat:Int)) J J<|aG<|rt<|r1 J J ?_
 exact⟨alB (Value.int .i64) (by first|(have e_:=p0;subst e_;rw[xT];rfl)|exact HT (by simpa using p0)),H.below⟩
theorem Nb (hT:mi 0 w):Calls aX 123 #[ag x] w (cZ fun v w'=>v=U ((fK x:Nat):Int)∧Ext w w'):=by
 refine dK 5 Tryz.func123 J J J yo fun f0 ha H=>?_
 have i0:f0 0=ag x:=ha 0 bH
 refine aH<|aj (v:=U 0) J J<|cU<|ak J i0<|k ?_
 have cx:=Wn (x:=x) (w:=w)<|hT.ext H.below
 refine ca ada J (ec J e0) cx ?_
 rintro _ w0 ⟨rfl,dt⟩
 have H0:=H.ext dt
 refine aj (v:=U ((fK x:Nat):Int)) J J<|aG<|rt<|r1 J J ?_
 exact⟨J,H0.below⟩
theorem PK (hM:ei M w) (lR:cP M w gN gT r) (nt:aN i):Calls aX 125 #[sL gN r gT,U i] w (cZ fun v w'=>v=.bool (iO r i)∧Ext w w'):=by
 refine dK 14 Tryz.func125 J J J hM fun f0 ha H=>?_
 have H0:=cj H lR
 have zF:=bN lR
 have i0:f0 0=sL gN r gT:=ha 0 bH
 have i1:f0 1=U i:=ha 1 bH
 refine aH<|aj (v:=.bool false) J J<|cU<|ak J i1<|k<|geq J J J J<|ak (v:=.bool (decide (0≤i))) J J ?_
 rcases bE (decide (0≤i)) with b0|b0
 ·
  have p0:=dT b0
  refine aM J J J b0<|mv J i1<|aM J J J b0<|Np J J J J<|aM J J J b0<|mv J i0<|aM J J J b0<|ep J J eZ<|aM J J J b0<|lss J J J J<|k<|ba J J J J b0 J<|aj (v:=.bool (decide ((i/64)<(r.length:Int)))) J J<|aG<|rt<|r1 J J ?_
  exact⟨alB Value.bool (by exact Xz p0),H0.below⟩
 have p0:=dF b0
 refine aD J J J b0<|aD J J J b0<|aD J J J b0<|aD J J J b0<|aD J J J b0<|k<|bc J J J J b0 J<|aj (v:=.bool false) J J<|aG<|rt<|r1 J J ?_
 exact⟨alB Value.bool (by exact Zv ai),H0.below⟩
theorem WN (hM:ei M w) (lR:cP M w gN gT r) (nt:aN i):Calls aX 130 #[sL gN r gT,U i] w (cZ fun v w'=>v=.bool (fU r i)∧Ext w w'):=by
 refine dK 18 Tryz.func130 J J J hM fun f0 ha H=>?_
 have H0:=cj H lR
 have zF:=bN lR
 have i0:f0 0=sL gN r gT:=ha 0 bH
 have i1:f0 1=U i:=ha 1 bH
 refine aH<|aj (v:=.bool false) J J<|cU<|ak J i0<|ak J i1<|k ?_
 have cx:=PK (r:=r) (i:=i) H0.mb (H0.rv 0 J) nt
 refine ca VN J (ec J<|ec J e0) cx ?_
 rintro _ w0 ⟨rfl,dt⟩
 have H1:=H0.ext dt
 refine ak (v:=.bool (iO r i)) J J ?_
 rcases bE (iO r i) with b0|b0
 ·
  refine aM J J J b0<|mv J i0<|aM J J J b0<|mv J i1<|aM J J J b0<|Np J J J J<|aM J J J b0<|ia (H1.rv 0 J) J J J J (by have hb:=b0;unfold iO at hb;simp only[alC] at hb;omega) eZ eu ?_
  intro fz x0 aq cN
  refine aM J J J b0<|t_ cN.w eu J J<|aM J J J b0<|mv J i1<|aM J J J b0<|OZ J J J J<|aM J J J b0 ?_
  have eF:=SA (x:=x0) (i:=(i%64)) (w:=w0) aY
  refine ca ac' J (ec J<|ec J e0) eF ?_
  rintro _ w1 ⟨rfl,cR⟩
  have H2:=H1.ext cR
  refine k<|ba J J J J b0 J<|aj (v:=.bool (oS x0<|i%64)) J J<|aG<|rt<|r1 J J ?_
  exact⟨alB Value.bool (by exact Mr b0 aq),H2.below⟩
 refine aD J J J b0<|aD J J J b0<|aD J J J b0<|aD J J J b0<|aD J J J b0<|aD J J J b0<|aD J J J b0<|aD J J J b0<|k<|bc J J J J b0 J<|aj (v:=.bool false) J J<|aG<|rt<|r1 J J ?_
 exact⟨alB Value.bool (by exact wi b0),H1.below⟩
theorem BD (hM:ei M w) (lR:cP M w gN gT r) (Jw:r.length≤1000000000):Calls aX 124 #[sL gN r gT] w (cZ fun v w'=>∃(a0:OA) (c0:Nat),v=sL a0 r c0∧Ext w w'∧bm M 137 w r (sL a0 r c0) w'):=by
 refine dK 8 Tryz.func124 J J J hM fun f0 ha H=>?_
 have H0:=cj H lR
 have zF:=bN lR
 have i0:f0 0=sL gN r gT:=ha 0 bH
 refine aH<|aj (v:=.slice none 0 0) J J<|aG<|sq<|aH<|ak J i0<|k<|eqN J J J J eZ<|z<|nx<|cd (b:=gN.isNone) J J (fun b0=>?_)<|fun b0=>?_
 ·
  refine aH<|aj (v:=.slice none 0 0) J J<|aG<|rt<|aS<|r1 J J ?_
  have e0:([]:List bG)=r:=by exact(WH lR b0).symm
  have bF:=fu (fun (cK:List bG)=>(.slice none cK.length 0:Value)) e0
  exact⟨none,0,bF,H0.below,(alB (fun (x_:List bG)=>bm _ _ _ x_ (.slice none x_.length 0) _) e0).mp (gQ H0.below)⟩
 refine sk<|dM<|k<|bs (xs:=([]:List bG)) (cells:=#[]) (e:=137) H0 J eo (fun _=>bu) J J aJ ?_
 intro g0 w0 dt H1
 refine ak J i0<|k<|kE H1 0 J J J J J J (H1.rv 1 J).src eZ eu J (by first|omega|(simp;omega)) J ?_
 intro a0 c0 w1 (H2:HI M w w1 [oL w 137 a0 r c0,iL gN r gT])
 refine aj (v:=sL a0 r c0) J J<|aG<|rt<|r1 J J ?_
 exact⟨a0,c0,J,H2.below,(H2.cB 0 J)⟩
theorem E5 (hM:ei M w) (lR:cP M w gN gT r) (nt:aN i) (Jw:r.length≤1000000000):Calls aX 112 #[sL gN r gT,U i] w (cZ fun v w'=>∃(a0:OA) (c0:Nat),v=.slice a0 (ej r i).length c0∧Ext w w'∧bm M 137 w (ej r i) (.slice a0 (ej r i).length c0) w'):=by
 refine dK 22 Tryz.func112 J J J hM fun f0 ha H=>?_
 have H0:=cj H lR
 have zF:=bN lR
 have i0:f0 0=sL gN r gT:=ha 0 bH
 have i1:f0 1=U i:=ha 1 bH
 refine aH<|aj (v:=.slice none 0 0) J J<|cU<|ak J i0<|k ?_
 have cx:=BD (r:=r) H0.mb (H0.rv 0 J) ai
 refine ca OJ J (ec J e0) cx ?_
 rintro _ w0 ⟨a0,c0,rfl,dt,cL⟩
 have H1:=H0.ic cL
 refine aj (v:=sL a0 r c0) J J<|aG<|sq<|aH<|ak J i0<|ak J i1<|k ?_
 have eF:=PK (r:=r) (i:=i) H1.mb (H1.rv 1 J) nt
 refine ca VN J (ec J<|ec J e0) eF ?_
 rintro _ w1 ⟨rfl,cR⟩
 have H2:=H1.ext cR
 refine z<|nx<|cd (b:=iO r i) J J (fun b0=>?_)<|fun b0=>?_
 ·
  obtain⟨x0,aq⟩:∃x,r[(i/64).toNat]? =some x:=⟨_,dW (by have hb:=b0;unfold iO at hb;simp only[alC] at hb;omega)⟩
  refine dr 8 [eV (sL a0 r c0),eV (U i),eV (U<|i/64),fun v w'=>∃(g0:Nat),v=.pointer (some ⟨g0,(i/64).toNat*1,none⟩)∧(.slice a0 r.length c0:Value).ownBlock=some g0∧gq (MS M [oL w 137 a0 r c0,iL gN r gT]) w' ⟨g0,(i/64).toNat*1,none⟩ x0,eV (ag x0),eV (U i),eV (U<|i%64),eV (ag<|eS<|i%64)] J bu ?_ ?_
  ·
   refine dc (fun _ _ kC _ _=>mv J (kC 5 J)<|d0 J J)<|dc (fun _ _ rh _ _=>mv J ((rh 1 J).trans i1)<|d0 J J)<|dc (fun _ _ _ _ rY=>Np J J (rY 1 J J) J<|d0 J J) ?_
   refine⟨fun _=>⟨fun f3 w6 qC iJ lP=>?_,by rintro _ _ _ x_ ⟨g0,e_,iC,cN⟩;exact⟨g0,e_,iC,cN.ext x_⟩⟩,?_⟩
   ·
    have H7:=H2.ext iJ
    have s1:f3 11=sL a0 r c0:=lP 0 J J
    have s2:f3 13=U (i/64):=lP 2 J J
    refine jh (H7.at_ 0 J) J J s1 s2 (by have hb:=b0;unfold iO at hb;simp only[alC] at hb;omega) eZ eu ?_
    intro g1 x1 lZ cw eU
    obtain rfl:x0=x1:=alD (aq.symm.trans cw)
    exact⟨_,J,Ext.refl _,⟨g1,J,lZ,eU⟩⟩
   refine dc (fun f4 w7 re je jk=>?_) ?_
   ·
    obtain⟨g2,s3,uQ,gJ⟩:∃(g2:Nat),f4 14=.pointer (some ⟨g2,(i/64).toNat*1,none⟩)∧(.slice a0 r.length c0:Value).ownBlock=some g2∧gq (MS M [oL w 137 a0 r c0,iL gN r gT]) w7 ⟨g2,(i/64).toNat*1,none⟩ x0:=jk 3 rfl rfl
    refine t_ gJ eu J s3 ?_
    exact⟨_,J,Ext.refl _,J⟩
   refine dc (fun _ _ ns _ _=>mv J ((ns 1 J).trans i1)<|d0 J J)<|dc (fun _ _ _ _ kj=>OZ J J (kj 5 J J) J<|d0 J J)<|dc (fun f7 jb qa gv ll=>?_) ?_
   ·
    have s5:f7 17=U (i%64):=ll 6 J J
    have nB:=CP (i:=(i%64)) (w:=jb) aY
    refine ca OI J (ec s5 e0) nB ?_
    rintro _ iK ⟨rfl,j0⟩
    exact⟨_,J,j0,J⟩
   exact gp.rest J _
  ·
   intro f8 jf oa kb jj
   have dZ:=H2.ext kb
   have s6:f8 5=sL a0 r c0:=oa 5 J
   have s7:=jj 0 J
   have s8:=jj 2 J
   have s9:=jj 4 J
   have ey:=jj 7 J
   refine k<|IQ x0 (eS<|i%64) J J s9 ey<|k<|jh (dZ.at_ 0 J) J J s7 s8 (by have hb:=b0;unfold iO at hb;simp only[alC] at hb;omega) eZ eu ?_
   intro g3 x2 vX dR km
   refine k<|rO dZ 0 J vX J (by have hb:=b0;unfold iO at hb;simp only[alC] at hb;omega) eu J J J J (RV.bv.2 J) ?_
   intro ju (cM:HI M w ju [own w.heap.size 137 (.slice a0 r.length c0) (r.set ((i/64).toNat) (x0 ||| (eS (i%64)))),iL gN r gT])
   refine cU<|ak J s6<|aj (v:=sL a0 r c0) J J<|aG<|rt<|r1 J J ?_
   have e0:(r.set ((i/64).toNat) (x0 ||| (eS (i%64))):List bG)=ej r i:=by exact E2 b0 aq
   have l0:r.length=(ej r i).length:=by first|rfl|(rw[←e0];simp)|simp
   have bF:=fu (fun (kW:Nat)=>(.slice a0 kW c0:Value)) l0
   exact⟨a0,c0,bF,cM.below,(alB (fun (n_:Nat)=>bm _ _ _ (ej r i) (.slice a0 n_ c0) _) l0).mp ((alB (fun (x_:List bG)=>bm _ _ _ x_ (.slice a0 r.length c0) _) e0).mp (cM.cB 0 J))⟩
 refine sk<|dM<|ak (v:=sL a0 r c0) J J<|aj (v:=sL a0 r c0) J J<|aG<|rt<|r1 J J ?_
 have e0:(r:List bG)=ej r i:=by exact CZ b0
 have bF:=fu (fun (cK:List bG)=>(.slice a0 cK.length c0:Value)) e0
 exact⟨a0,c0,bF,H2.below,(alB (fun (x_:List bG)=>bm _ _ _ x_ (.slice a0 x_.length c0) _) e0).mp (H2.cB 0 J)⟩
theorem PL (CA:aN n) (hn:n≤1000000000000000000):Calls aX 139 #[U n] w (cZ fun v w'=>v=U ((words n:Nat):Int)∧Ext w w'):=by
 refine dK 8 Tryz.func139 J J J yo fun f0 ha H=>?_
 have i0:f0 0=U n:=ha 0 bH
 refine aH<|aj (v:=U 0) J J<|cU<|ak J i0<|k<|max2 J J J J<|k<|add J J J J aY<|k<|sub J J J J aY<|k<|quo J J J J ai<|aj (v:=U ((((max n 0)+64)-1)/64)) J J<|aG<|rt<|r1 J J ?_
 exact⟨alB (Value.int .i64) (by unfold words;omega),H.below⟩
theorem LK (hM:ei M w) (CA:aN n) (hn:n≤1000000):Calls aX 136 #[U n] w (cZ fun v w'=>∃(a0:OA) (c0:Nat),v=.slice a0 (dJ n).length c0∧Ext w w'∧bm M 137 w (dJ n) (.slice a0 (dJ n).length c0) w'):=by
 refine dK 6 Tryz.func136 J J J hM fun f0 ha H=>?_
 have i0:f0 0=U n:=ha 0 bH
 refine aH<|aj (v:=.slice none 0 0) J J<|cU<|ak J i0<|k ?_
 have cx:=PL (n:=n) (w:=w) CA ai
 refine ca ac9 J (ec J e0) cx ?_
 rintro _ w0 ⟨rfl,dt⟩
 have H0:=H.ext dt
 refine k<|mk (m:=(words n:Nat)) (zx:=(0#64:bG)) H0 J J J J eZ eu (fun _ _=>rfl) (by unfold words;omega) (by unfold words;omega) ?_
 intro g0 w1 cR (H1:HI M w w1 [own w.heap.size 137 (.slice (some ⟨g0,0,none⟩) (words n:Nat) (words n:Nat)) (List.replicate (words n:Nat) (0#64:bG))])
 refine aj (v:=.slice (some ⟨g0,0,none⟩) (words n:Nat) (words n:Nat)) J J<|aG<|rt<|r1 J J ?_
 have e0:((List.replicate (words n:Nat) (0#64:bG)):List bG)=dJ n:=by unfold dJ;rfl
 have l0:(words n:Nat)=(dJ n).length:=by first|rfl|(rw[←e0];simp)|simp
 have bF:=fu (fun (kW:Nat)=>(.slice (some ⟨g0,0,none⟩) kW (words n:Nat):Value)) l0
 exact⟨(some ⟨g0,0,none⟩),(words n:Nat),bF,H1.below,(alB (fun (n_:Nat)=>bm _ _ _ (dJ n) (.slice (some ⟨g0,0,none⟩) n_ (words n:Nat)) _) l0).mp ((alB (fun (x_:List bG)=>bm _ _ _ x_ (.slice (some ⟨g0,0,none⟩) (words n:Nat) (words n:Nat)) _) e0).mp (H1.cB 0 J))⟩
theorem Yu (hM:ei M w) (ob:cP M w qj qh a) (JO:cP M w ou oq b) (afx:a.length≤1000000000) (afw:b.length≤1000000000):Calls aX 138 #[sL qj a qh,sL ou b oq] w (cZ fun v w'=>∃(a0:OA) (c0:Nat),v=.slice a0 (fZ a b).length c0∧Ext w w'∧bm M 137 w (fZ a b) (.slice a0 (fZ a b).length c0) w'):=by
 refine dK 33 Tryz.func138 J J J hM fun f0 ha H=>?_
 have H0:=cj H ob
 have H1:=cj H0 JO
 have afd:=bN ob
 have afc:=bN JO
 have i0:f0 0=sL qj a qh:=ha 0 bH
 have i1:f0 1=sL ou b oq:=ha 1 bH
 refine aH<|aj (v:=.slice none 0 0) J J<|aG<|sq<|aH<|ak J i0<|k<|ep J J eZ<|ak J i1<|k<|ep J J eZ<|k<|lss J J J J<|z<|nx<|cd (b:=decide ((a.length:Int)<(b.length:Int))) J J (fun b0=>?_)<|fun b0=>?_
 ·
  have p0:=dT b0
  refine rg<|ak J i1<|ak J i0<|aj (v:=sL ou b oq) J J<|aj (v:=sL qj a qh) J J<|cU<|ak (v:=sL ou b oq) J J<|k ?_
  have cx:=BD (r:=b) H1.mb (H1.rv 0 J) ai
  refine ca OJ J (ec J e0) cx ?_
  rintro _ w0 ⟨a0,c0,rfl,dt,cL⟩
  have H2:=H1.ic cL
  refine aj (v:=sL a0 b c0) J J<|aG<|sq<|aH<|ak (v:=sL qj a qh) J J<|k<|ep J J eZ<|ak (v:=U 0) J J<|aG<|bk<|lp (fun m f w'=>∃(j:Nat) (xs:List bG),m=a.length-j∧f 5=sL a0 b c0∧f 17=sL qj a qh∧f 18=U (a.length:Int)∧f 19=U (j:Int)∧HI M w w' [own w.heap.size 137 (.slice a0 b.length c0) xs,iL ou b oq,iL qj a qh]∧(j≤a.length)∧(xs.length=b.length)∧(xs=jR b.length b a b j)) _ ⟨0,b,J,J,J,J,(bJ J),H2,BK,(by rfl),(by exact AO _ _ _)⟩ ?_
  rintro _ f0 w1 ⟨j,xs,rfl,s0,s1,s2,s3,H3,hk,hl,hs⟩
  refine aH<|k<|lss J J s3 s2<|aG<|sq<|cd (b:=decide ((j:Int)<(a.length:Int))) J J (fun b1=>?_)<|fun b1=>?_
  ·
   have p1:=dT b1
   refine sk<|nx<|sq<|bk<|aH<|ak J s3<|k<|ia (H3.rv 2 J) J J s1 s3 ai eZ eu ?_
   intro fz x0 aq cN
   refine k<|t_ cN.w eu J J<|aj (v:=U (j:Int)) J J<|aj (v:=ag x0) J J<|aG<|rg<|ak J s0<|ak (v:=U (j:Int)) J J<|k<|jh (H3.at_ 0 J) J J J J ai eZ eu ?_
   intro g0 x1 iC cw eU
   refine k<|t_ eU eu J J<|ak (v:=ag x0) J J<|k<|IQ x1 x0 J J J J<|k<|jh (H3.at_ 0 J) J J J J ai eZ eu ?_
   intro g1 x2 lZ dR gJ
   refine k<|rO H3 0 J lZ J ai eu J J J J (RV.bv.2 J) ?_
   intro w2 (H4:HI M w w2 [own w.heap.size 137 (.slice a0 b.length c0) (xs.set ((j:Int).toNat) (x1 ||| x0)),iL ou b oq,iL qj a qh])
   refine z<|aF<|nx<|rg<|k<|add J J s3 J aY<|ak (v:=U ((j:Int)+1)) J J<|z<|bD _ ?_ ⟨(j+1),(xs.set ((j:Int).toNat) (x1 ||| x0)),J,s0,s1,s2,(bJ J),H4,BK,(by simpa using hl),(by have e1:=vM (hs▸cw);have e2:=r8 aq;rw[hs];exact tk (by rw[e1];unfold oO;rw[e2]))⟩
   omega
  have p1:=dF b1
  refine ex<|bg<|bt<|bz<|dM<|ak J s0<|aj (v:=sL a0 b c0) J J<|aG<|rt<|r1 J J ?_
  have e0:(xs:List bG)=fZ a b:=by rw[hs];first|exact tl ai (fun i h1 h2=>tV ai)|(rw[IS];exact tl ai (fun i h1 h2=>tV ai))
  have l0:b.length=(fZ a b).length:=by rw[←e0];omega
  have bF:=fu (fun (kW:Nat)=>(.slice a0 kW c0:Value)) l0
  exact⟨a0,c0,bF,H3.below,(alB (fun (n_:Nat)=>bm _ _ _ (fZ a b) (.slice a0 n_ c0) _) l0).mp ((alB (fun (x_:List bG)=>bm _ _ _ x_ (.slice a0 b.length c0) _) e0).mp (H3.cB 0 J))⟩
 have p0:=dF b0
 refine sk<|dM<|ak J i0<|k ?_
 have cx:=BD (r:=a) H1.mb (H1.rv 1 J) ai
 refine ca OJ J (ec J e0) cx ?_
 rintro _ w0 ⟨a0,c0,rfl,dt,cL⟩
 have H2:=H1.ic cL
 refine aj (v:=sL a0 a c0) J J<|aG<|sq<|aH<|ak J i1<|k<|ep J J eZ<|ak (v:=U 0) J J<|aG<|bk<|lp (fun m f w'=>∃(j:Nat) (xs:List bG),m=b.length-j∧f 5=sL a0 a c0∧f 17=sL ou b oq∧f 18=U (b.length:Int)∧f 19=U (j:Int)∧HI M w w' [own w.heap.size 137 (.slice a0 a.length c0) xs,iL ou b oq,iL qj a qh]∧(j≤b.length)∧(xs.length=a.length)∧(xs=jR a.length a b a j)) _ ⟨0,a,J,J,J,J,(bJ J),H2,BK,(by rfl),(by exact AO _ _ _)⟩ ?_
 rintro _ f0 w1 ⟨j,xs,rfl,s0,s1,s2,s3,H3,hk,hl,hs⟩
 refine aH<|k<|lss J J s3 s2<|aG<|sq<|cd (b:=decide ((j:Int)<(b.length:Int))) J J (fun b1=>?_)<|fun b1=>?_
 ·
  have p1:=dT b1
  refine sk<|nx<|sq<|bk<|aH<|ak J s3<|k<|ia (H3.rv 1 J) J J s1 s3 ai eZ eu ?_
  intro fz x0 aq cN
  refine k<|t_ cN.w eu J J<|aj (v:=U (j:Int)) J J<|aj (v:=ag x0) J J<|aG<|rg<|ak J s0<|ak (v:=U (j:Int)) J J<|k<|jh (H3.at_ 0 J) J J J J ai eZ eu ?_
  intro g0 x1 iC cw eU
  refine k<|t_ eU eu J J<|ak (v:=ag x0) J J<|k<|IQ x1 x0 J J J J<|k<|jh (H3.at_ 0 J) J J J J ai eZ eu ?_
  intro g1 x2 lZ dR gJ
  refine k<|rO H3 0 J lZ J ai eu J J J J (RV.bv.2 J) ?_
  intro w2 (H4:HI M w w2 [own w.heap.size 137 (.slice a0 a.length c0) (xs.set ((j:Int).toNat) (x1 ||| x0)),iL ou b oq,iL qj a qh])
  refine z<|aF<|nx<|rg<|k<|add J J s3 J aY<|ak (v:=U ((j:Int)+1)) J J<|z<|bD _ ?_ ⟨(j+1),(xs.set ((j:Int).toNat) (x1 ||| x0)),J,s0,s1,s2,(bJ J),H4,BK,(by simpa using hl),(by have e1:=vM (hs▸cw);have e2:=r8 aq;rw[hs];exact tk (by rw[e1];unfold oO;rw[e2]))⟩
  omega
 have p1:=dF b1
 refine ex<|bg<|bt<|bz<|dM<|ak J s0<|aj (v:=sL a0 a c0) J J<|aG<|rt<|r1 J J ?_
 have e0:(xs:List bG)=fZ a b:=by rw[hs];first|exact tl ai (fun i h1 h2=>tV ai)|(rw[IS];exact tl ai (fun i h1 h2=>tV ai))
 have l0:a.length=(fZ a b).length:=by rw[←e0];omega
 have bF:=fu (fun (kW:Nat)=>(.slice a0 kW c0:Value)) l0
 exact⟨a0,c0,bF,H3.below,(alB (fun (n_:Nat)=>bm _ _ _ (fZ a b) (.slice a0 n_ c0) _) l0).mp ((alB (fun (x_:List bG)=>bm _ _ _ x_ (.slice a0 a.length c0) _) e0).mp (H3.cB 0 J))⟩
theorem ID (hM:ei M w) (hT:mi 0 w) (lR:cP M w gN gT r) (Jw:r.length≤1000000000):Calls aX 111 #[sL gN r gT] w (cZ fun v w'=>∃(a0:OA) (c0:Nat),v=.slice a0 (fH r).length c0∧Ext w w'∧bm M 3 w (fH r) (.slice a0 (fH r).length c0) w'):=by
 refine dK 29 Tryz.func111 J J J hM fun f0 ha H=>?_
 have H0:=cj H lR
 have zF:=bN lR
 have i0:f0 0=sL gN r gT:=ha 0 bH
 refine aH<|aj (v:=.slice none 0 0) J J<|cU<|aj (v:=.slice none 0 0) J J<|aG<|sq<|aH<|ak J i0<|k<|ep J J eZ<|ak (v:=U 0) J J<|aG<|bk ?_
 have H1:=H0.ke Int 3
 refine lp (fun m f w'=>∃(j:Nat) (xs:az) (a0:OA) (c0:Nat),m=r.length-j∧f 3=sL a0 xs c0∧f 6=sL gN r gT∧f 7=U (r.length:Int)∧f 8=U (j:Int)∧HI M w w' [oL w 3 a0 xs c0,iL gN r gT]∧(j≤r.length)∧(xs=sB r j)) _ ⟨0,([]:az),none,0,J,J,J,J,(bJ J),H1,BK,(by rfl)⟩ ?_
 rintro _ f0 w0 ⟨j,xs,a0,c0,rfl,s0,s1,s2,s3,H2,hk,hs⟩
 refine aH<|k<|lss J J s3 s2<|aG<|sq<|cd (b:=decide ((j:Int)<(r.length:Int))) J J (fun b0=>?_)<|fun b0=>?_
 ·
  have p0:=dT b0
  refine sk<|nx<|sq<|bk<|aH<|ak J s3<|k<|ia (H2.rv 1 J) J J s1 s3 ai eZ eu ?_
  intro fz x0 aq cN
  refine k<|t_ cN.w eu J J<|aj (v:=U (j:Int)) J J<|aj (v:=ag x0) J J<|aG<|bk<|lp (fun m f w'=>∃(y:bG) (ys:az) (a1:OA) (c1:Nat),m=(oQ y).length∧f 3=sL a1 ys c1∧f 4=U (j:Int)∧f 5=ag y∧f 6=sL gN r gT∧f 7=U (r.length:Int)∧f 8=U (j:Int)∧HI M w w' [oL w 3 a1 ys c1,iL gN r gT]∧(ys++rr j y=sB r j++rr j x0)) _ ⟨x0,xs,a0,c0,J,s0,J,(UP J<|by first|rfl|simp),s1,s2,s3,H2,(by rw[hs])⟩ ?_
  rintro _ f1 w1 ⟨y,ys,a1,c1,rfl,s4,s5,s6,s7,s8,s9,H3,hy⟩
  refine sq<|aH<|ak J s6<|k<|Zb y (0#64) J J J J<|z<|nx<|cd (b:=!decide (y=(0#64))) J J (fun b1=>?_)<|fun b1=>?_
  ·
   have p1:=dF<|fE b1
   refine sk<|nx<|sq<|bk<|rg<|ak J s4<|ak J s5<|k<|mul J J J J (by have h_:=xz y;unfold aN;omega)<|ak J s6<|k ?_
   have cx:=Nb (x:=y) (w:=w1)<|hT.ext H3.below
   refine ca adk J (ec J e0) cx ?_
   rintro _ w2 ⟨rfl,dt⟩
   have H4:=H3.ext dt
   refine k<|add J J J J (by have h_:=xz y;unfold aN;omega)<|k<|bs (xs:=([((j:Int)*64)+((fK y:Nat):Int)]:az)) (cells:=#[U (((j:Int)*64)+((fK y:Nat):Int))]) (e:=3) H4 J (ct J eo) (fun _=>bu) ⟨[U (((j:Int)*64)+((fK y:Nat):Int))],[],J,⟨J,(show aN (((j:Int)*64)+((fK y:Nat):Int)) from(by have h_:=xz y;unfold aN;omega))⟩,J⟩ J aJ ?_
   intro g0 w3 cR H5
   refine k<|kE H5 1 J J J J J J (fD<|H5.at_ 0 J) cY aQ J (by have h_:=alB List.length hy;simp only[im] at h_;have h1:=uF r j;have h2:=AS j x0;simp only[jv,gW];omega) J ?_
   intro a2 c2 w4 (H6:HI M w w4 [own w.heap.size 3 (.slice (some ⟨g0,0,none⟩) 1 1) ([((j:Int)*64)+((fK y:Nat):Int)]:az),oL w 3 a2 (ys++([((j:Int)*64)+((fK y:Nat):Int)]:az)) c2,iL gN r gT])
   refine aj (v:=sL a2 (ys++([((j:Int)*64)+((fK y:Nat):Int)]:az)) c2) J J<|z<|aF<|nx<|rg<|ak J s6<|ak J s6<|k<|ae4 y (1#64) J J J J<|k<|UG y (y-(1#64)) J J J J<|aj (v:=ag (y &&& (y-(1#64)))) J J<|z ?_
   have H7:HI M w w4 [oL w 3 a2 (ys++([((j:Int)*64)+((fK y:Nat):Int)]:az)) c2,iL gN r gT]:=H6.c_ [1,2] aJ J
   refine bD _ ?_ ⟨(y &&& (y-(1#64))),(ys++([((j:Int)*64)+((fK y:Nat):Int)]:az)),a2,c2,J,J,s5,(UP J<|by rfl),s7,s8,s9,H7,(by rw[alY,←hy,Oh (show y≠0#64 by simpa using p1)];rfl)⟩
   exact OU<|by simpa using p1
  have p1:=dT<|fF b1
  refine ex<|bg<|bt<|bz<|aF<|nx<|rg<|k<|add J J s9 J (by have h_:=xz y;unfold aN;omega)<|ak (v:=U ((j:Int)+1)) J J<|z<|bD _ ?_ ⟨(j+1),ys,a1,c1,J,s4,s7,s8,(bJ J),H3,BK,(by rw[xN,r8 aq];have e_:y=0#64:=(by simpa using p1);subst e_;rw[Og,amA] at hy;exact hy)⟩
  omega
 have p0:=dF b0
 refine ex<|bg<|bt<|bz<|dM<|ak J s0<|aj (v:=sL a0 xs c0) J J<|aG<|rt<|r1 J J ?_
 have e0:(xs:az)=fH r:=by rw[hs];unfold fH;congr 1;omega
 have bF:=fu (fun (cK:az)=>(.slice a0 cK.length c0:Value)) e0
 exact⟨a0,c0,bF,H2.below,(alB (fun (x_:az)=>bm _ _ _ x_ (.slice a0 x_.length c0) _) e0).mp (H2.cB 0 J)⟩
theorem Gv (nt:aN i):Calls aX 107 #[U i] w (cZ fun v w'=>v=ag (eS i)∧Ext w w'):=by
 refine dK 17 Tryz.func107 J J J yo fun f0 ha H=>?_
 have i0:f0 0=U i:=ha 0 bH
 refine aH<|aj (v:=ag (0#64)) J J<|aG<|sq<|aH<|ak J i0<|k<|lss J J J J<|ak (v:=.bool (decide (i<0))) J J ?_
 rcases bE (decide (i<0)) with b0|b0
 ·
  have p0:=dT b0
  refine aD J J J b0<|aD J J J b0<|k<|ba J J J J b0 J<|aG<|nP J J J<|aH<|aj (v:=ag (0#64)) J J<|aG<|rt<|aS<|r1 J J ?_
  exact⟨alB ag (by first|exact(zU ai).symm|(rw[zT ai ai,show i.toNat=j from by omega])),H.below⟩
 have p0:=dF b0
 refine aM J J J b0<|mv J i0<|aM J J J b0<|gtr J J J J<|k<|bc J J J J b0 J<|z<|nx<|cd (b:=decide (63<i)) J J (fun b1=>?_)<|fun b1=>?_
 ·
  have p1:=dT b1
  refine aH<|aj (v:=ag (0#64)) J J<|aG<|rt<|aS<|r1 J J ?_
  exact⟨alB ag (by first|exact(zU ai).symm|(rw[zT ai ai,show i.toNat=j from by omega])),H.below⟩
 have p1:=dF b1
 refine sk<|dM<|aj (v:=ag (1#64)) J J<|aG<|sq<|bk<|lp (fun m f w'=>∃(j:Nat),m=i.toNat-j∧f 0=U (i-(j:Int))∧f 3=ag (1#64 <<< j)∧HI (fun _=>False) w w' []∧(j≤i.toNat)) _ ⟨0,J,(bJ i0),(UP J<|by first|rfl|simp),H,BK⟩ ?_
 rintro _ f0 w0 ⟨j,rfl,s0,s1,H0,hj⟩
 refine sq<|aH<|ak J s0<|k<|gtr J J J J<|z<|nx<|cd (b:=decide (0<(i-(j:Int)))) J J (fun b2=>?_)<|fun b2=>?_
 ·
  have p2:=dT b2
  refine sk<|nx<|sq<|bk<|rg<|ak J s1<|k<|Ze (1#64 <<< j) (2#64) J J J J<|aj (v:=ag ((1#64 <<< j)*(2#64))) J J<|z<|aF<|nx<|rg<|ak J s0<|k<|sub J J J J aY<|aj (v:=U ((i-(j:Int))-1)) J J<|z<|bD _ ?_ ⟨(j+1),J,(bJ J),(UP J<|by exact SK j),H0,BK⟩
  omega
 have p2:=dF b2
 refine ex<|bg<|bt<|bz<|dM<|ak J s1<|aj (v:=ag (1#64 <<< j)) J J<|aG<|rt<|r1 J J ?_
 exact⟨alB ag (by first|exact(zU ai).symm|(rw[zT ai ai,show i.toNat=j from by omega])),H0.below⟩
theorem PY (nt:aN i):Calls aX 121 #[ag x,U i] w (cZ fun v w'=>v=.bool (oS x i)∧Ext w w'):=by
 refine dK 17 Tryz.func121 J J J yo fun f0 ha H=>?_
 have i0:f0 0=ag x:=ha 0 bH
 have i1:f0 1=U i:=ha 1 bH
 refine aH<|aj (v:=.bool false) J J<|cU<|ak J i1<|k ?_
 have cx:=Gv (i:=i) (w:=w) nt
 refine ca VR J (ec J e0) cx ?_
 rintro _ w0 ⟨rfl,dt⟩
 have H0:=H.ext dt
 refine aj (v:=ag (eS i)) J J<|cU<|ak (v:=ag (eS i)) J J<|k<|Zb (eS i) (0#64) J J J J<|ak (v:=.bool (!decide ((eS i)=(0#64)))) J J ?_
 rcases bE (!decide ((eS i)=(0#64))) with b0|b0
 ·
  have p0:=dF<|fE b0
  refine aM J J J b0<|mv J i0<|aM J J J b0<|mv (v:=ag (eS i)) J J<|aM J J J b0<|afa x (eS i) (by first|decide|simpa using b0) J J J J<|aM J J J b0<|ae' (x/(eS i)) (2#64) (by first|decide|simpa using b0) J J J J<|aM J J J b0<|eqU ((x/(eS i))%(2#64)) (1#64) J J J J<|k<|ba J J J J b0 J<|aj (v:=.bool (decide (((x/(eS i))%(2#64))=(1#64)))) J J<|aG<|rt<|r1 J J ?_
  exact⟨alB Value.bool (by first|exact JK (by simpa using b0)|exact GX (by simpa using b0)),H0.below⟩
 have p0:=dT<|fF b0
 refine aD J J J b0<|aD J J J b0<|aD J J J b0<|aD J J J b0<|aD J J J b0<|k<|bc J J J J b0 J<|aj (v:=.bool false) J J<|aG<|rt<|r1 J J ?_
 exact⟨alB Value.bool (by first|exact JK (by simpa using b0)|exact GX (by simpa using b0)),H0.below⟩
theorem Li (CA:aN n) (hn:n≤1000000000000000000):Calls aX 122 #[U n] w (cZ fun v w'=>v=U ((words n:Nat):Int)∧Ext w w'):=by
 refine dK 8 Tryz.func122 J J J yo fun f0 ha H=>?_
 have i0:f0 0=U n:=ha 0 bH
 refine aH<|aj (v:=U 0) J J<|aG<|sq<|aH<|ak J i0<|k<|lss J J J J<|z<|nx<|cd (b:=decide (n<0)) J J (fun b0=>?_)<|fun b0=>?_
 ·
  have p0:=dT b0
  refine aH<|aj (v:=U 0) J J<|aG<|rt<|aS<|r1 J J ?_
  exact⟨alB (Value.int .i64) (by first|exact(Ga ai).symm|exact(F' ai).symm),H.below⟩
 have p0:=dF b0
 refine sk<|dM<|ak J i0<|k<|add J J J J aY<|k<|quo J J J J ai<|aj (v:=U ((n+63)/64)) J J<|aG<|rt<|r1 J J ?_
 exact⟨alB (Value.int .i64) (by first|exact(Ga ai).symm|exact(F' ai).symm),H.below⟩
theorem PV (hM:ei M w) (CA:aN n) (hn:n≤1000000):Calls aX 108 #[U n] w (cZ fun v w'=>∃(a0:OA) (c0:Nat),v=.slice a0 (dJ n).length c0∧Ext w w'∧bm M 137 w (dJ n) (.slice a0 (dJ n).length c0) w'):=by
 refine dK 6 Tryz.func108 J J J hM fun f0 ha H=>?_
 have i0:f0 0=U n:=ha 0 bH
 refine aH<|aj (v:=.slice none 0 0) J J<|cU<|ak J i0<|k ?_
 have cx:=Li (n:=n) (w:=w) CA ai
 refine ca adl J (ec J e0) cx ?_
 rintro _ w0 ⟨rfl,dt⟩
 have H0:=H.ext dt
 refine k<|mk (m:=(words n:Nat)) (zx:=(0#64:bG)) H0 J J J J eZ eu (fun _ _=>rfl) (by unfold words;omega) (by unfold words;omega) ?_
 intro g0 w1 cR (H1:HI M w w1 [own w.heap.size 137 (.slice (some ⟨g0,0,none⟩) (words n:Nat) (words n:Nat)) (List.replicate (words n:Nat) (0#64:bG))])
 refine aj (v:=.slice (some ⟨g0,0,none⟩) (words n:Nat) (words n:Nat)) J J<|aG<|rt<|r1 J J ?_
 have e0:((List.replicate (words n:Nat) (0#64:bG)):List bG)=dJ n:=by unfold dJ;rfl
 have l0:(words n:Nat)=(dJ n).length:=by first|rfl|(rw[←e0];simp)|simp
 have bF:=fu (fun (kW:Nat)=>(.slice (some ⟨g0,0,none⟩) kW (words n:Nat):Value)) l0
 exact⟨(some ⟨g0,0,none⟩),(words n:Nat),bF,H1.below,(alB (fun (n_:Nat)=>bm _ _ _ (dJ n) (.slice (some ⟨g0,0,none⟩) n_ (words n:Nat)) _) l0).mp ((alB (fun (x_:List bG)=>bm _ _ _ x_ (.slice (some ⟨g0,0,none⟩) (words n:Nat) (words n:Nat)) _) e0).mp (H1.cB 0 J))⟩
theorem AK (hM:ei M w) (lR:cP M w gN gT r) (nt:aN i) (Jw:r.length≤1000000000):Calls aX 106 #[sL gN r gT,U i] w (cZ fun v w'=>v=.bool (fU r i)∧Ext w w'):=by
 refine dK 24 Tryz.func106 J J J hM fun f0 ha H=>?_
 have H0:=cj H lR
 have zF:=bN lR
 have i0:f0 0=sL gN r gT:=ha 0 bH
 have i1:f0 1=U i:=ha 1 bH
 refine aH<|aj (v:=.bool false) J J<|cU<|ak J i1<|k<|geq J J J J<|ak (v:=.bool (decide (0≤i))) J J ?_
 rcases bE (decide (0≤i)) with b0|b0
 ·
  have p0:=dT b0
  refine aM J J J b0<|mv J i1<|aM J J J b0<|mv J i0<|aM J J J b0<|ep J J eZ<|aM J J J b0<|mul J J J J aY<|aM J J J b0<|lss J J J J<|k<|ba J J J J b0 J<|ak (v:=.bool (decide (i<(64*(r.length:Int))))) J J ?_
  rcases bE (decide (i<(64*(r.length:Int)))) with b1|b1
  ·
   have p1:=dT b1
   refine aM J J J b1<|mv J i0<|aM J J J b1<|mv J i1<|aM J J J b1<|quo J J J J ai<|aM J J J b1<|ia (H0.rv 0 J) J J J J ai eZ eu ?_
   intro fz x0 aq cN
   refine aM J J J b1<|t_ cN.w eu J J<|aM J J J b1<|mv J i1<|aM J J J b1<|rem J J J J ai<|aM J J J b1 ?_
   have cx:=PY (x:=x0) (i:=(i%64)) (w:=w) aY
   refine ca adn J (ec J<|ec J e0) cx ?_
   rintro _ w0 ⟨rfl,dt⟩
   have H1:=H0.ext dt
   refine k<|ba J J J J b1 J<|aj (v:=.bool (oS x0<|i%64)) J J<|aG<|rt<|r1 J J ?_
   exact⟨alB Value.bool (by first|exact B8 ai ai aq|exact B9 ai),H1.below⟩
  have p1:=dF b1
  refine aD J J J b1<|aD J J J b1<|aD J J J b1<|aD J J J b1<|aD J J J b1<|aD J J J b1<|aD J J J b1<|aD J J J b1<|k<|bc J J J J b1 J<|aj (v:=.bool false) J J<|aG<|rt<|r1 J J ?_
  exact⟨alB Value.bool (by first|exact B8 ai ai aq|exact B9 ai),H0.below⟩
 have p0:=dF b0
 refine aD J J J b0<|aD J J J b0<|aD J J J b0<|aD J J J b0<|aD J J J b0<|k<|bc J J J J b0 J<|ak (v:=.bool false) J J<|aD J J J J<|aD J J J J<|aD J J J J<|aD J J J J<|aD J J J J<|aD J J J J<|aD J J J J<|aD J J J J<|k<|bc J J J J J J<|aj (v:=.bool false) J J<|aG<|rt<|r1 J J ?_
 exact⟨alB Value.bool (by first|exact B8 ai ai aq|exact B9 ai),H0.below⟩
theorem PU (hM:ei M w) (lR:cP M w gN gT r) (nt:aN i) (Jw:r.length≤1000000000):Calls aX 77 #[sL gN r gT,U i] w (cZ fun v w'=>∃(a0:OA) (c0:Nat),v=.slice a0 (ej r i).length c0∧Ext w w'∧bm M 137 w (ej r i) (.slice a0 (ej r i).length c0) w'):=by
 refine dK 38 Tryz.func77 J J J hM fun f0 ha H=>?_
 have H0:=cj H lR
 have zF:=bN lR
 have i0:f0 0=sL gN r gT:=ha 0 bH
 have i1:f0 1=U i:=ha 1 bH
 refine aH<|aj (v:=.slice none 0 0) J J<|cU<|k<|bs (xs:=([]:List bG)) (cells:=#[]) (e:=137) H0 J eo (fun _=>bu) J J aJ ?_
 intro g0 w0 dt H1
 refine ak J i0<|k<|kE H1 0 J J J J J J (H1.rv 1 J).src eZ eu J (by simp;omega) J ?_
 intro a0 c0 w1 (H2:HI M w w1 [oL w 137 a0 r c0,iL gN r gT])
 refine aj (v:=sL a0 r c0) J J<|aG<|sq<|aH<|ak J i1<|k<|geq J J J J<|ak (v:=.bool (decide (0≤i))) J J ?_
 rcases bE (decide (0≤i)) with b0|b0
 ·
  have p0:=dT b0
  refine aM J J J b0<|mv J i1<|aM J J J b0<|mv J i0<|aM J J J b0<|ep J J eZ<|aM J J J b0<|mul J J J J aY<|aM J J J b0<|lss J J J J<|k<|ba J J J J b0 J<|ak (v:=.bool (decide (i<(64*(r.length:Int))))) J J ?_
  rcases bE (decide (i<(64*(r.length:Int)))) with b1|b1
  ·
   have p1:=dT b1
   refine aM J J J b1<|mv J i0<|aM J J J b1<|mv J i1<|aM J J J b1 ?_
   have cx:=AK (r:=r) (i:=i) H2.mb (H2.rv 1 J) nt ai
   refine ca OL J (ec J<|ec J e0) cx ?_
   rintro _ w2 ⟨rfl,cR⟩
   have H3:=H2.ext cR
   refine aM J J J b1<|kc J J<|k<|ba J J J J b1 J<|z<|nx<|cd (b:=!(fU r i)) J J (fun b2=>?_)<|fun b2=>?_
   ·
    obtain⟨x0,aq⟩:∃x,r[(i/64).toNat]? =some x:=⟨_,dW ai⟩
    refine dr 12 [eV (sL a0 r c0),eV (U i),eV (U<|i/64),eV (sL a0 r c0),eV (U i),eV (U<|i/64),fun v w'=>∃(g1:Nat),v=.pointer (some ⟨g1,(i/64).toNat*1,none⟩)∧(.slice a0 r.length c0:Value).ownBlock=some g1∧gq (MS M [oL w 137 a0 r c0,iL gN r gT]) w' ⟨g1,(i/64).toNat*1,none⟩ x0,eV (ag x0),eV (U i),eV (U<|i%64),eV (ag<|eS<|i%64),eV (ag<|x0+(eS<|i%64))] J bu ?_ ?_
    ·
     refine dc (fun _ _ kC _ _=>mv J (kC 5 J)<|d0 J J)<|dc (fun _ _ rh _ _=>mv J ((rh 1 J).trans i1)<|d0 J J)<|dc (fun _ _ _ _ rY=>quo J J (rY 1 J J) J ai<|d0 J J)<|dc (fun _ _ qC _ _=>mv J (qC 5 J)<|d0 J J)<|dc (fun _ _ re _ _=>mv J ((re 1 J).trans i1)<|d0 J J)<|dc (fun _ _ _ _ j8=>quo J J (j8 4 J J) J ai<|d0 J J) ?_
     refine⟨fun _=>⟨fun f6 jb rb jD kj=>?_,by rintro _ _ _ x_ ⟨g1,e_,iC,cN⟩;exact⟨g1,e_,iC,cN.ext x_⟩⟩,?_⟩
     ·
      have da:=H3.ext jD
      have s2:f6 27=sL a0 r c0:=kj 3 J J
      have s3:f6 29=U (i/64):=kj 5 J J
      refine jh (da.at_ 0 J) J J s2 s3 ai eZ eu ?_
      intro g2 x1 lZ cw eU
      obtain rfl:x0=x1:=alD (aq.symm.trans cw)
      exact⟨_,J,Ext.refl _,⟨g2,J,lZ,eU⟩⟩
     refine dc (fun f7 iK qa gv ll=>?_) ?_
     ·
      obtain⟨g3,s4,uQ,gJ⟩:∃(g3:Nat),f7 30=.pointer (some ⟨g3,(i/64).toNat*1,none⟩)∧(.slice a0 r.length c0:Value).ownBlock=some g3∧gq (MS M [oL w 137 a0 r c0,iL gN r gT]) iK ⟨g3,(i/64).toNat*1,none⟩ x0:=ll 6 rfl rfl
      refine t_ gJ eu J s4 ?_
      exact⟨_,J,Ext.refl _,J⟩
     refine dc (fun _ _ oa _ _=>mv J ((oa 1 J).trans i1)<|d0 J J)<|dc (fun _ _ _ _ mS=>rem J J (mS 8 J J) J ai<|d0 J J)<|dc (fun f10 jK mg kZ iz=>?_) ?_
     ·
      have s6:f10 33=U (i%64):=iz 9 J J
      have gS:=Gv (i:=(i%64)) (w:=jK) aY
      refine ca VR J (ec s6 e0) gS ?_
      rintro _ lz ⟨rfl,qL⟩
      exact⟨_,J,qL,J⟩
     refine dc (fun _ _ _ _ jI=>agA x0 (eS<|i%64) J J (jI 7 J J) (jI 10 J J)<|d0 J J) ?_
     exact gp.rest J _
    ·
     intro f12 lL wb oG kg
     have gz:=H3.ext oG
     have s9:f12 5=sL a0 r c0:=wb 5 J
     have ey:=kg 0 J
     have ew:=kg 2 J
     have eE:=kg 11 J
     refine k<|jh (gz.at_ 0 J) J J ey ew ai eZ eu ?_
     intro g4 x2 vX dR km
     refine k<|rO gz 0 J vX J ai eu J J J eE (RV.bv.2 J) ?_
     intro jX (jP:HI M w jX [own w.heap.size 137 (.slice a0 r.length c0) (r.set ((i/64).toNat) (x0+(eS (i%64)))),iL gN r gT])
     refine cU<|ak J s9<|aj (v:=sL a0 r c0) J J<|aG<|rt<|r1 J J ?_
     have e0:(r.set ((i/64).toNat) (x0+(eS (i%64))):List bG)=ej r i:=by first|exact zn ai ai (by simpa using b2) aq|exact BZ ai|exact(zm<|by simpa using b2).symm
     have l0:r.length=(ej r i).length:=by first|rfl|(rw[←e0];simp)|simp
     have bF:=fu (fun (kW:Nat)=>(.slice a0 kW c0:Value)) l0
     exact⟨a0,c0,bF,jP.below,(alB (fun (n_:Nat)=>bm _ _ _ (ej r i) (.slice a0 n_ c0) _) l0).mp ((alB (fun (x_:List bG)=>bm _ _ _ x_ (.slice a0 r.length c0) _) e0).mp (jP.cB 0 J))⟩
   refine sk<|dM<|ak (v:=sL a0 r c0) J J<|aj (v:=sL a0 r c0) J J<|aG<|rt<|r1 J J ?_
   have e0:(r:List bG)=ej r i:=by first|exact zn ai ai (by simpa using b2) aq|exact BZ ai|exact(zm<|by simpa using b2).symm
   have bF:=fu (fun (cK:List bG)=>(.slice a0 cK.length c0:Value)) e0
   exact⟨a0,c0,bF,H3.below,(alB (fun (x_:List bG)=>bm _ _ _ x_ (.slice a0 x_.length c0) _) e0).mp (H3.cB 0 J)⟩
  have p1:=dF b1
  refine aD J J J b1<|aD J J J b1<|aD J J J b1<|aD J J J b1<|k<|bc J J J J b1 J<|aG<|l7 J J J<|sk<|dM<|ak (v:=sL a0 r c0) J J<|aj (v:=sL a0 r c0) J J<|aG<|rt<|r1 J J ?_
  have e0:(r:List bG)=ej r i:=by first|exact zn ai ai (by simpa using b2) aq|exact BZ ai|exact(zm<|by simpa using b2).symm
  have bF:=fu (fun (cK:List bG)=>(.slice a0 cK.length c0:Value)) e0
  exact⟨a0,c0,bF,H2.below,(alB (fun (x_:List bG)=>bm _ _ _ x_ (.slice a0 x_.length c0) _) e0).mp (H2.cB 0 J)⟩
 have p0:=dF b0
 refine aD J J J b0<|aD J J J b0<|aD J J J b0<|aD J J J b0<|aD J J J b0<|k<|bc J J J J b0 J<|ak (v:=.bool false) J J<|aD J J J J<|aD J J J J<|aD J J J J<|aD J J J J<|k<|bc J J J J J J<|aG<|l7 J J J<|sk<|dM<|ak (v:=sL a0 r c0) J J<|aj (v:=sL a0 r c0) J J<|aG<|rt<|r1 J J ?_
 have e0:(r:List bG)=ej r i:=by first|exact zn ai ai (by simpa using b2) aq|exact BZ ai|exact(zm<|by simpa using b2).symm
 have bF:=fu (fun (cK:List bG)=>(.slice a0 cK.length c0:Value)) e0
 exact⟨a0,c0,bF,H2.below,(alB (fun (x_:List bG)=>bm _ _ _ x_ (.slice a0 x_.length c0) _) e0).mp (H2.cB 0 J)⟩
theorem NL (hM:ei M w) (lR:cP M w gN gT r) (Jw:r.length≤1000000000):Calls aX 120 #[sL gN r gT] w (cZ fun v w'=>∃(a0:OA) (c0:Nat),v=.slice a0 (fH r).length c0∧Ext w w'∧bm M 3 w (fH r) (.slice a0 (fH r).length c0) w'):=by
 refine dK 20 Tryz.func120 J J J hM fun f0 ha H=>?_
 have H0:=cj H lR
 have zF:=bN lR
 have i0:f0 0=sL gN r gT:=ha 0 bH
 refine aH<|aj (v:=.slice none 0 0) J J<|cU<|aj (v:=.slice none 0 0) J J<|aG<|sq<|aH<|aj (v:=U 0) J J<|aG<|bk ?_
 have H1:=H0.ke Int 3
 refine lp (fun m f w'=>∃(n:Nat) (xs:az) (a0:OA) (c0:Nat),m=64*r.length-n∧f 0=sL gN r gT∧f 3=sL a0 xs c0∧f 4=U (n:Int)∧HI M w w' [oL w 3 a0 xs c0,iL gN r gT]∧(n≤64*r.length)∧(xs=qt r n)) _ ⟨0,([]:az),none,0,J,i0,J,(bJ J),H1,BK,(by rfl)⟩ ?_
 rintro _ f0 w0 ⟨n,xs,a0,c0,rfl,s0,s1,s2,H2,hk,hs⟩
 refine sq<|aH<|ak J s2<|ak J s0<|k<|ep J J eZ<|k<|mul J J J J aY<|k<|lss J J J J<|z<|nx<|cd (b:=decide ((n:Int)<(64*(r.length:Int)))) J J (fun b0=>?_)<|fun b0=>?_
 ·
  have p0:=dT b0
  refine sk<|nx<|sq<|bk<|aH<|ak J s0<|ak J s2<|k ?_
  have cx:=AK (r:=r) (i:=(n:Int)) H2.mb (H2.rv 1 J) aY ai
  refine ca OL J (ec J<|ec J e0) cx ?_
  rintro _ w1 ⟨rfl,dt⟩
  have H3:=H2.ext dt
  refine z<|nx<|cd (b:=fU r (n:Int)) J J (fun b1=>?_)<|fun b1=>?_
  ·
   refine rg<|ak J s1<|ak J s2<|k<|bs (xs:=([(n:Int)]:az)) (cells:=#[U (n:Int)]) (e:=3) H3 J (ct J eo) (fun _=>bu) ⟨[U (n:Int)],[],J,⟨J,(show aN ((n:Int)) from aY)⟩,J⟩ J aJ ?_
   intro g0 w2 cR H4
   refine k<|kE H4 1 J J J J J J (fD<|H4.at_ 0 J) cY aQ J (by have h_:=I8 r n;rw[hs];simp only[jv,gW];omega) J ?_
   intro a1 c1 w3 (H5:HI M w w3 [own w.heap.size 3 (.slice (some ⟨g0,0,none⟩) 1 1) ([(n:Int)]:az),oL w 3 a1 (xs++([(n:Int)]:az)) c1,iL gN r gT])
   refine aj (v:=sL a1 (xs++([(n:Int)]:az)) c1) J J<|z<|aF<|nx<|rg<|ak J s2<|k<|add J J J J aY<|aj (v:=U ((n:Int)+1)) J J<|z ?_
   have H6:HI M w w3 [oL w 3 a1 (xs++([(n:Int)]:az)) c1,iL gN r gT]:=H5.c_ [1,2] aJ J
   refine bD _ ?_ ⟨(n+1),(xs++([(n:Int)]:az)),a1,c1,J,s0,J,(bJ J),H6,BK,(by rw[hs];first|exact(yt b1).symm|exact(z8 b1).symm)⟩
   omega
  refine sk<|aF<|nx<|rg<|ak J s2<|k<|add J J J J aY<|aj (v:=U ((n:Int)+1)) J J<|z<|bD _ ?_ ⟨(n+1),xs,a0,c0,J,s0,s1,(bJ J),H3,BK,(by rw[hs];first|exact(yt b1).symm|exact(z8 b1).symm)⟩
  omega
 have p0:=dF b0
 refine ex<|bg<|bt<|bz<|dM<|ak J s1<|aj (v:=sL a0 xs c0) J J<|aG<|rt<|r1 J J ?_
 have e0:(xs:az)=fH r:=by rw[hs,show n=64*r.length from by omega];exact GI r
 have bF:=fu (fun (cK:az)=>(.slice a0 cK.length c0:Value)) e0
 exact⟨a0,c0,bF,H2.below,(alB (fun (x_:az)=>bm _ _ _ x_ (.slice a0 x_.length c0) _) e0).mp (H2.cB 0 J)⟩
theorem aaV:dq aX 44:=dy Tryz.func44
theorem bh:fA aX 68 2 true 32 (.agg #[.int .i64 0,.slice none 0 0]):=⟨bu,bu⟩
theorem eJ:fA aX 115 1 false 24 (.slice none 0 0):=⟨bu,bu⟩
theorem iY:aX.underlying 66=some (.slice 115):=bu
theorem VM:dq aX 136:=dy Tryz.func136
theorem Aa {r:az} (hM:ei M w) (lR:cP M w gN gT r) (yP:FP aX rk rp M w r p):Calls aX 44 #[sL gN r gT,.func (.func rk) #[] rp.toArray] w (cZ fun v w'=>v=U (gx p r)∧Ext w w'):=by
 refine dK 19 Tryz.func44 J J J hM fun f0 ha H=>?_
 have H0:=cj H lR
 have zF:=bN lR
 have i0:f0 0=sL gN r gT:=ha 0 bH
 have i1:f0 1=.func (.func rk) #[] rp.toArray:=ha 1 bH
 refine aH<|aj (v:=U 0) J J<|aG<|sq<|aH<|ak J i0<|k<|ep J J cY<|ak (v:=U 0) J J<|aG<|bk<|lp (fun m f w'=>∃(j:Nat),m=r.length-j∧f 0=sL gN r gT∧f 1=.func (.func rk) #[] rp.toArray∧f 7=U (r.length:Int)∧f 8=U (j:Int)∧HI M w w' [iL gN r gT]∧(j≤r.length)∧((r.take j).any p=false)) _ ⟨0,J,i0,i1,J,(bJ J),H0,ai,bH⟩ ?_
 rintro _ f0 w0 ⟨j,rfl,s0,s1,s2,s3,H1,hk,hs⟩
 refine aH<|k<|lss J J s3 s2<|aG<|sq<|cd (b:=decide ((j:Int)<(r.length:Int))) J J (fun b0=>?_)<|fun b0=>?_
 ·
  have p0:=dT b0
  refine sk<|nx<|sq<|bk<|aH<|ak J s3<|aj (v:=U (j:Int)) J J<|cU<|ak J s1<|ak J s0<|ak (v:=U (j:Int)) J J<|k<|ia (H1.rv 0 J) J J J J ai cY aQ ?_
  intro fz x0 aq cN
  refine k<|kB cN.w aQ J J ?_
  intro cL
  refine k<|cf yP.1 J J J (ec J e0) (yP.2 _ _ _ (by exact eh ‹_›) H1.below<|(RV.int.2 ⟨J,aY⟩).lift H1.out) ?_
  rintro _ w1 ⟨rfl,dt⟩
  have H2:=H1.ext dt
  refine z<|nx<|cd (b:=p x0) J J (fun b1=>?_)<|fun b1=>?_
  ·
   refine aH<|ak (v:=U (j:Int)) J J<|aj (v:=U (j:Int)) J J<|aG<|rt<|bM<|aS<|gb<|bM<|aS<|r1 J J ?_
   exact⟨alB (Value.int .i64) (by exact pY aq hs b1),H2.below⟩
  refine sk<|aF<|nx<|rg<|k<|add J J s3 J aY<|ak (v:=U ((j:Int)+1)) J J<|z<|bD _ ?_ ⟨(j+1),J,s0,s1,s2,(bJ J),H2,ai,(by exact kF aq hs b1)⟩
  omega
 have p0:=dF b0
 refine ex<|bg<|bt<|bz<|dM<|aj (v:=U (-1)) J J<|aG<|rt<|r1 J J ?_
 exact⟨alB (Value.int .i64) (by exact rW hs ai),H1.below⟩
theorem wC {r:az} (hM:ei M w) (lR:cP M w gN gT r) (yP:FP aX rk rp M w r p):Calls aX 21 #[sL gN r gT,.func (.func rk) #[] rp.toArray] w (cZ fun v w'=>v=.bool (r.any p)∧Ext w w'):=by
 refine dK 9 Tryz.func21 J J J hM fun f0 ha H=>?_
 have H0:=cj H lR
 have i0:f0 0=sL gN r gT:=ha 0 bH
 have i1:f0 1=.func (.func rk) #[] rp.toArray:=ha 1 bH
 refine aH<|aj (v:=.bool false) J J<|cU<|ak J i0<|ak J i1<|k ?_
 have cx:=Aa (r:=r) (p:=p) H0.mb (H0.rv 0 J)<|yP.sub H0.below Si
 refine ca aaV J (ec J<|ec J e0) cx ?_
 rintro _ w0 ⟨rfl,dt⟩
 have H1:=H0.ext dt
 refine k<|geq J J J J<|aj (v:=.bool (decide (0≤(gx p r)))) J J<|aG<|rt<|r1 J J ?_
 exact⟨alB Value.bool (by exact rC),H1.below⟩
theorem L5 (hM:ei M w) (CA:aN n):Calls aX 127 #[U n] w (cZ fun v w'=>∃(a0:OA) (c0:Nat),v=.tuple #[.agg #[U (eK n),.slice a0 (bO n).length c0],U (ka n)]∧Ext w w'∧bm M 115 w (bO n) (.slice a0 (bO n).length c0) w'):=by
 refine dK 29 Tryz.func127 J J J hM fun f0 ha H=>?_
 have i0:f0 0=U n:=ha 0 bH
 refine aH<|k<|al H bh ?_
 intro aK w0 dt (H0:HI M w w0 [box aK #[U 0,.slice none 0 0] 68])
 refine aj (v:=U 0) J J<|aG<|sq<|aH<|ak J i0<|k<|lss J J J J<|ak (v:=.bool (decide (n<0))) J J ?_
 rcases bE (decide (n<0)) with b0|b0
 ·
  have p0:=dT b0
  refine aD J J J b0<|aD J J J b0<|k<|ba J J J J b0 J<|aG<|nP J J J<|aH<|k<|bd (v:=.agg #[U 0,.slice none 0 0]) J eo (fun _=>bu)<|k<|cz H0 0 J bh J J J J J J J ?_
  intro w1 (H1:HI M w w1 [box aK #[U 0,.slice none 0 0] 68])
  refine aj (v:=U 1) J J<|aG<|rt<|aS<|iS H1 0 J bh J J J J J aJ ?_
  have e0:(0:Int)=eK n:=by exact(nh<|oV.2 ai).1.symm
  have e1:([]:List (List bG))=bO n:=by exact(nh<|oV.2 ai).2.1.symm
  have e2:(1:Int)=ka n:=by exact(nh<|oV.2 ai).2.2.symm
  have bF:=wE (fun (cK:Int) (fI:List (List bG)) (jE:Int)=>(.tuple #[.agg #[U cK,.slice none fI.length 0],U jE]:Value)) e0 e1 e2
  exact⟨none,0,bF,H1.below,(alB (fun (x_:List (List bG))=>bm _ _ _ x_ (.slice none x_.length 0) _) e1).mp (gQ H1.below)⟩
 have p0:=dF b0
 refine aM J J J b0<|mv J i0<|aM J J J b0<|gtr J J J J<|k<|bc J J J J b0 J<|z<|nx<|cd (b:=decide (4096<n)) J J (fun b1=>?_)<|fun b1=>?_
 ·
  have p1:=dT b1
  refine aH<|k<|bd (v:=.agg #[U 0,.slice none 0 0]) J eo (fun _=>bu)<|k<|cz H0 0 J bh J J J J J J J ?_
  intro w1 (H1:HI M w w1 [box aK #[U 0,.slice none 0 0] 68])
  refine aj (v:=U 1) J J<|aG<|rt<|aS<|iS H1 0 J bh J J J J J aJ ?_
  have e0:(0:Int)=eK n:=by exact(nh<|oV.2 ai).1.symm
  have e1:([]:List (List bG))=bO n:=by exact(nh<|oV.2 ai).2.1.symm
  have e2:(1:Int)=ka n:=by exact(nh<|oV.2 ai).2.2.symm
  have bF:=wE (fun (cK:Int) (fI:List (List bG)) (jE:Int)=>(.tuple #[.agg #[U cK,.slice none fI.length 0],U jE]:Value)) e0 e1 e2
  exact⟨none,0,bF,H1.below,(alB (fun (x_:List (List bG))=>bm _ _ _ x_ (.slice none x_.length 0) _) e1).mp (gQ H1.below)⟩
 have p1:=dF b1
 refine sk<|dM<|ak J i0<|k ?_
 have n0:((n.toNat:Nat):Int)=n:=alJ ai
 refine mk (m:=n.toNat) (zx:=([]:(List bG))) H0 J J (by rw[n0];exact rfl) (by rw[n0];exact rfl) iY eJ (fun _ _=>⟨_,J,DT _ _⟩) ai ai ?_
 intro g0 w1 cR (H1:HI M w w1 [own w.heap.size 115 (.slice (some ⟨g0,0,none⟩) n.toNat n.toNat) (List.replicate n.toNat ([]:(List bG))),box aK #[U 0,.slice none 0 0] 68])
 refine aj (v:=.slice (some ⟨g0,0,none⟩) n.toNat n.toNat) J J<|aG<|sq<|aH<|ak (v:=.slice (some ⟨g0,0,none⟩) n.toNat n.toNat) J J<|k<|ep J J iY<|ak (v:=U 0) J J<|aG<|bk<|lp (fun m f w'=>∃(j:Nat) (xs:List (List bG)),m=n.toNat-j∧f 0=U n∧f 2=pV aK 0∧f 4=.slice (some ⟨g0,0,none⟩) n.toNat n.toNat∧f 16=U (n.toNat:Int)∧f 17=U (j:Int)∧HI M w w' [own w.heap.size 115 (.slice (some ⟨g0,0,none⟩) n.toNat n.toNat) xs,box aK #[U 0,.slice none 0 0] 68]∧(j≤n.toNat)∧(xs.length=n.toNat)∧(xs=uq n.toNat j (dJ n) [])) _ ⟨0,(List.replicate n.toNat ([]:(List bG))),J,i0,J,J,J,(bJ J),H1,ai,bH,(by exact Lq _ _ _)⟩ ?_
 rintro _ f0 w2 ⟨j,xs,rfl,s0,s1,s2,s3,s4,H2,hk,hl,hs⟩
 refine aH<|k<|lss J J s4 s3<|aG<|sq<|cd (b:=decide ((j:Int)<(n.toNat:Int))) J J (fun b2=>?_)<|fun b2=>?_
 ·
  have p2:=dT b2
  refine sk<|nx<|sq<|bk<|aH<|ak J s4<|aj (v:=U (j:Int)) J J<|aG<|rg<|ak J s2<|ak (v:=U (j:Int)) J J<|ak J s0<|k ?_
  have cx:=LK (n:=n) H2.mb CA ai
  refine ca VM J (ec J e0) cx ?_
  rintro _ w3 ⟨a0,c0,rfl,d_,cL⟩
  have H3:=H2.ic cL
  refine k<|jh (H3.at_ 1 J) J J J J ai iY eJ ?_
  intro g1 x0 iC aq cN
  refine k ?_
  have H4:=H3.freeze 0 J
  refine rO H4 1 J iC J ai eJ J J J J (H4.rv 0 J) ?_
  intro w4 (H5:HI M w w4 [iL a0 (dJ n) c0,own w.heap.size 115 (.slice (some ⟨g0,0,none⟩) n.toNat n.toNat) (xs.set ((j:Int).toNat) (dJ n)),box aK #[U 0,.slice none 0 0] 68])
  refine z<|aF<|nx<|rg<|k<|add J J s4 J aY<|ak (v:=U ((j:Int)+1)) J J<|z ?_
  have H6:HI M w w4 [own w.heap.size 115 (.slice (some ⟨g0,0,none⟩) n.toNat n.toNat) (xs.set ((j:Int).toNat) (dJ n)),box aK #[U 0,.slice none 0 0] 68]:=H5.c_ [1,2] aJ J
  refine bD _ ?_ ⟨(j+1),(xs.set ((j:Int).toNat) (dJ n)),J,s0,s1,s2,s3,(bJ J),H6,ai,(by simpa using hl),(by rw[hs];exact OO ai)⟩
  omega
 have p2:=dF b2
 refine ex<|bg<|bt<|bz<|dM<|ak J s0<|ak J s2<|k<|bd (v:=.agg #[U n,.slice (some ⟨g0,0,none⟩) n.toNat n.toNat]) J (ct J<|ct J eo) (fun _=>bu)<|k<|cz H2 1 J bh J J s1 J J J J ?_
 intro w3 (H3:HI M w w3 [own w.heap.size 115 (.slice (some ⟨g0,0,none⟩) n.toNat n.toNat) xs,box aK #[U n,.slice (some ⟨g0,0,none⟩) n.toNat n.toNat] 68])
 refine aj (v:=U 0) J J<|aG<|rt<|iS H3 1 J bh J J J s1 J aJ ?_
 have e0:(n:Int)=eK n:=by exact(kA<|lN.2 ai).1.symm
 have e1:(xs:List (List bG))=bO n:=by rw[(kA<|lN.2 ai).2.1,hs];exact OP ai
 have l1:n.toNat=(bO n).length:=by rw[←e1];omega
 have e2:(0:Int)=ka n:=by exact(kA<|lN.2 ai).2.2.symm
 have bF:=wE (fun (cK:Int) (yp:Nat) (jE:Int)=>(.tuple #[.agg #[U cK,.slice (some ⟨g0,0,none⟩) yp n.toNat],U jE]:Value)) e0 l1 e2
 exact⟨(some ⟨g0,0,none⟩),n.toNat,bF,H3.below,(alB (fun (n_:Nat)=>bm _ _ _ (bO n) (.slice (some ⟨g0,0,none⟩) n_ n.toNat) _) l1).mp ((alB (fun (x_:List (List bG))=>bm _ _ _ x_ (.slice (some ⟨g0,0,none⟩) n.toNat n.toNat) _) e1).mp (H3.cB 0 J))⟩
theorem iW:jt aX 68 1 1:=mu Tryz.underlying68
theorem l8:fA aX 66 1 false 24 (.slice none 0 0):=⟨bu,bu⟩
theorem VQ:dq aX 111:=dy Tryz.func111
theorem u0:aX.underlying 133=some (.slice 135):=bu
theorem tJ:fA aX 135 2 true 16 (.agg #[.int .i64 0,.int .i64 0]):=⟨bu,bu⟩
theorem gm:jt aX 68 0 0:=mu Tryz.underlying68
theorem ac_:dq aX 138:=dy Tryz.func138
theorem QC (hM:ei M w) (hT:mi 0 w) (fL:aN mn) (eO:cP M w aU aT mr) (HA:((mr.length:Nat):Int)=mn) (B7:∀x∈mr,x.length≤1000000000) (HD:mn≤4096) (u9:∀x∈mr,x.length≤64):Calls aX 128 #[.agg #[U mn,sL aU mr aT]] w (cZ fun v w'=>∃(a0:OA) (c0:Nat),v=.slice a0 (cW mn mr).length c0∧Ext w w'∧RV M w' (.slice a0 (cW mn mr).length c0) (cW mn mr)):=by
 refine dK 32 Tryz.func128 J J J hM fun f0 ha H=>?_
 have H0:=cj H eO
 have lu:=bN eO
 have i0:f0 0=.agg #[U mn,sL aU mr aT]:=ha 0 bH
 refine aH<|k<|bx H0 J i0 ?_
 intro aK w0 dt (H1:HI M w w0 [box aK #[U mn,sL aU mr aT] 68,iL aU mr aT])
 refine aj (v:=.slice none 0 0) J J<|cU<|aj (v:=.slice none 0 0) J J<|aG<|sq<|aH<|bo iW J J<|bR H1 0 J l8 J J J<|k<|ep J J iY<|ak (v:=U 0) J J<|aG<|bk ?_
 have H2:=H1.ke (Int×Int) 135
 let bC:=[box aK #[U mn,sL aU mr aT] 68,iL aU mr aT]
 refine lp (fun m f w'=>∃(i:Nat) (xs:List (Int×Int)) (a0:OA) (c0:Nat),m=mr.length-i∧f 3=sL a0 xs c0∧f 9=sL aU mr aT∧f 10=U (mr.length:Int)∧f 11=U (i:Int)∧HI M w w' (oL w 135 a0 xs c0::bC)∧(i≤mr.length)∧(xs=j5 mr i)) _ ⟨0,([]:List (Int×Int)),none,0,J,J,J,J,(bJ J),H2,ai,(by rfl)⟩ ?_
 rintro _ f0 w1 ⟨i,xs,a0,c0,rfl,s0,s1,s2,s3,H3,yI,hs⟩
 refine aH<|k<|lss J J s3 s2<|aG<|sq<|cd (b:=decide ((i:Int)<(mr.length:Int))) J J (fun b0=>?_)<|fun b0=>?_
 ·
  have p0:=dT b0
  refine sk<|nx<|sq<|bk<|aH<|ak J s3<|k<|ia (H3.rv 2 J) J J s1 s3 ai iY eJ ?_
  intro fz x0 aq cN
  refine k<|vR cN.w eJ J J ?_
  intro a1 c1 cL
  have Ve:=bN cL
  have H4:=cj H3 cL
  refine aj (v:=U (i:Int)) J J<|aj (v:=sL a1 x0 c1) J J<|cU<|ak (v:=sL a1 x0 c1) J J<|k ?_
  have cx:=ID (r:=x0) H4.mb (hT.ext H4.below) (H4.rv 0 J)<|by have h_:=u9 _ (eh aq);omega
  refine ca VQ J (ec J e0) cx ?_
  rintro _ w2 ⟨a2,c2,rfl,cR,eQ⟩
  have H5:=H4.ic eQ
  refine k<|ep J J cY<|ak (v:=U 0) J J<|aG<|bk<|lp (fun m f w'=>∃(q:Nat) (qU:List (Int×Int)) (a3:OA) (c3:Nat),m=(fH x0).length-q∧f 3=sL a3 qU c3∧f 4=U (i:Int)∧f 9=sL aU mr aT∧f 10=U (mr.length:Int)∧f 11=U (i:Int)∧f 17=sL a2 (fH x0) c2∧f 18=U ((fH x0).length:Int)∧f 19=U (q:Int)∧HI M w w' (oL w 3 a2 (fH x0) c2::iL a1 x0 c1::oL w 135 a3 qU c3::bC)∧(q≤(fH x0).length)∧(qU=j5 mr i++((fH x0).take q).map fun j=>(((i:Nat):Int),j))) _ ⟨0,xs,a0,c0,J,s0,J,s1,s2,s3,J,J,(bJ J),H5,ai,(by rw[hs];simp)⟩ ?_
  rintro _ f1 w3 ⟨q,qU,a3,c3,rfl,s4,s5,s6,s7,s8,s9,ey,ew,H6,jw,gM⟩
  refine aH<|k<|lss J J ew ey<|aG<|sq<|cd (b:=decide ((q:Int)<((fH x0).length:Int))) J J (fun b1=>?_)<|fun b1=>?_
  ·
   have p1:=dT b1
   refine sk<|nx<|sq<|bk<|aH<|k<|jh (H6.at_ 0 J) J J s9 ew ai cY aQ ?_
   intro g0 x1 iC cw eU
   refine k<|kB eU aQ J J ?_
   intro gh
   refine aj (v:=U x1) J J<|aG<|rg<|ak J s4<|ak J s5<|ak (v:=U x1) J J<|k<|bd (v:=.agg #[U (i:Int),U x1]) J (ct J<|ct J eo) (fun _=>bu)<|k<|bs (xs:=([((i:Int),x1)]:List (Int×Int))) (cells:=#[U (i:Int),U x1]) (e:=135) H6 J (ct J eo) (fun _=>bu) ⟨[U (i:Int),U x1],[],J,⟨_,_,J,⟨J,(show aN ((i:Int)) from aY)⟩,⟨J,(show aN (x1) from aY)⟩⟩,J⟩ J aJ ?_
   intro g1 w4 d_ H7
   refine k<|kE H7 3 J J J J J J (fD<|H7.at_ 0 J) u0 tJ J (by have VL:=xJ u9 i;have wm:=pX x0;have VK:=u9 _ (eh aq);rw[gM,im,aml,lY];simp only[jv,gW];omega) J ?_
   intro a4 c4 w5 (H8:HI M w w5 (own w.heap.size 135 (.slice (some ⟨g1,0,none⟩) 1 1) ([((i:Int),x1)]:List (Int×Int))::oL w 3 a2 (fH x0) c2::iL a1 x0 c1::oL w 135 a4 (qU++([((i:Int),x1)]:List (Int×Int))) c4::bC))
   refine aj (v:=sL a4 (qU++([((i:Int),x1)]:List (Int×Int))) c4) J J<|z<|aF<|nx<|rg<|k<|add J J ew J (by have wm:=pX x0;have VK:=u9 _ (eh aq);unfold aN;omega)<|ak (v:=U ((q:Int)+1)) J J<|z ?_
   have H9:HI M w w5 (oL w 3 a2 (fH x0) c2::iL a1 x0 c1::oL w 135 a4 (qU++([((i:Int),x1)]:List (Int×Int))) c4::bC):=H8.c_ [1,2,3,4,5] aJ J
   refine bD _ ?_ ⟨(q+1),(qU++([((i:Int),x1)]:List (Int×Int))),a4,c4,J,J,s5,s6,s7,s8,s9,ey,(bJ J),H9,ai,(by rw[gM];exact GA cw)⟩
   omega
  have p1:=dF b1
  refine ex<|bg<|bt<|bz<|aF<|nx<|rg<|k<|add J J s8 J aY<|ak (v:=U ((i:Int)+1)) J J<|z ?_
  have H7:HI M w w3 (oL w 135 a3 qU c3::bC):=H6.c_ [2,3,4] aJ J
  refine bD _ ?_ ⟨(i+1),qU,a3,c3,J,s4,s6,s7,(bJ J),H7,ai,(by rw[gM];exact IP aq ai)⟩
  omega
 have p0:=dF b0
 refine ex<|bg<|bt<|bz<|dM<|ak J s0<|aj (v:=sL a0 xs c0) J J<|aG<|rt<|r1 J J ?_
 have e0:(xs:List (Int×Int))=cW mn mr:=by rw[hs];exact Gz ai ai
 have bF:=fu (fun (cK:List (Int×Int))=>(.slice a0 cK.length c0:Value)) e0
 exact⟨a0,c0,bF,H3.below,(alB (fun (x_:List (Int×Int))=>RV _ _ (.slice a0 x_.length c0) x_) e0).mp (H3.dV 0 J)⟩
theorem Zg (hM:ei M w) (afL:aN an) (JP:cP M w ft fm ar) (afK:aN bn) (JM:cP M w fq fl br) (acT:((ar.length:Nat):Int)=an) (Oo:∀x∈ar,x.length≤1000000000) (acZ:an≤4096) (acS:((br.length:Nat):Int)=bn) (On:∀x∈br,x.length≤1000000000) (acY:bn≤4096):Calls aX 132 #[.agg #[U an,sL ft ar fm],.agg #[U bn,sL fq br fl]] w (cZ fun v w'=>∃(a0:OA) (c0:Nat),v=.tuple #[.agg #[U (j1 an bn),.slice a0 (ga an ar bn br).length c0],U (nY an bn)]∧Ext w w'∧bm M 115 w (ga an ar bn br) (.slice a0 (ga an ar bn br).length c0) w'):=by
 refine dK 41 Tryz.func132 J J J hM fun f0 ha H=>?_
 have H0:=cj H JP
 have H1:=cj H0 JM
 have acK:=bN JP
 have acJ:=bN JM
 have i0:f0 0=.agg #[U an,sL ft ar fm]:=ha 0 bH
 have i1:f0 1=.agg #[U bn,sL fq br fl]:=ha 1 bH
 refine aH<|k<|bx H1 J i0 ?_
 let bC:=[iL fq br fl,iL ft ar fm]
 intro aK w0 dt (H2:HI M w w0 (box aK #[U an,sL ft ar fm] 68::bC))
 refine k<|bx H2 J i1 ?_
 let dk:=box aK #[U an,sL ft ar fm] 68::bC
 intro aW w1 cR (H3:HI M w w1 (box aW #[U bn,sL fq br fl] 68::dk))
 refine k<|al H3 bh ?_
 let dv:=box aW #[U bn,sL fq br fl] 68::dk
 intro bj w2 d_ (H4:HI M w w2 (box bj #[U 0,.slice none 0 0] 68::dv))
 refine aj (v:=U 0) J J<|aG<|sq<|aH<|bo gm J J<|bR H4 2 J aQ J J J<|bo gm J J<|bR H4 1 J aQ J J J<|k<|neq J J J J<|z<|nx<|cd (b:=!decide (an=bn)) J J (fun b0=>?_)<|fun b0=>?_
 ·
  have p0:=dF<|fE b0
  refine aH<|k<|bd (v:=.agg #[U 0,.slice none 0 0]) J eo (fun _=>bu)<|k<|cz H4 0 J bh J J J J J J J ?_
  intro w3 (H5:HI M w w3 (box bj #[U 0,.slice none 0 0] 68::dv))
  refine aj (v:=U 1) J J<|aG<|rt<|aS<|iS H5 0 J bh J J J J J aJ ?_
  have e0:(0:Int)=j1 an bn:=by exact(yg (ar:=ar) (br:=br) p0).1.symm
  have e1:([]:List (List bG))=ga an ar bn br:=by exact(yg p0).2.1.symm
  have e2:(1:Int)=nY an bn:=by exact(yg (ar:=ar) (br:=br) p0).2.2.symm
  have bF:=wE (fun (cK:Int) (fI:List (List bG)) (jE:Int)=>(.tuple #[.agg #[U cK,.slice none fI.length 0],U jE]:Value)) e0 e1 e2
  exact⟨none,0,bF,H5.below,(alB (fun (x_:List (List bG))=>bm _ _ _ x_ (.slice none x_.length 0) _) e1).mp (gQ H5.below)⟩
 have p0:=dT<|fF b0
 refine sk<|dM<|bo gm J J<|bR H4 2 J aQ J J J<|k ?_
 have n0:((an.toNat:Nat):Int)=an:=alJ ai
 refine mk (m:=an.toNat) (zx:=([]:(List bG))) H4 J J (by rw[n0];exact rfl) (by rw[n0];exact rfl) iY eJ (fun _ _=>⟨_,J,DT _ _⟩) ai ai ?_
 let dD:=box bj #[U 0,.slice none 0 0] 68::dv
 intro g0 w3 eG (H5:HI M w w3 (own w.heap.size 115 (.slice (some ⟨g0,0,none⟩) an.toNat an.toNat) (List.replicate an.toNat ([]:(List bG)))::dD))
 refine aj (v:=.slice (some ⟨g0,0,none⟩) an.toNat an.toNat) J J<|aG<|sq<|aH<|ak (v:=.slice (some ⟨g0,0,none⟩) an.toNat an.toNat) J J<|k<|ep J J iY<|ak (v:=U 0) J J<|aG<|bk<|lp (fun m f w'=>∃(j:Nat) (xs:List (List bG)),m=an.toNat-j∧f 2=pV aK 0∧f 3=pV aW 0∧f 4=pV bj 0∧f 6=.slice (some ⟨g0,0,none⟩) an.toNat an.toNat∧f 18=U (an.toNat:Int)∧f 19=U (j:Int)∧HI M w w' (own w.heap.size 115 (.slice (some ⟨g0,0,none⟩) an.toNat an.toNat) xs::dD)∧(j≤an.toNat)∧(xs.length=an.toNat)∧(xs=tU ar br an.toNat j)) _ ⟨0,(List.replicate an.toNat ([]:(List bG))),J,J,J,J,J,J,(bJ J),H5,ai,bH,(by exact Lm _ _ _)⟩ ?_
 rintro _ f0 w4 ⟨j,xs,rfl,s0,s1,s2,s3,s4,s5,H6,hk,hl,hs⟩
 refine aH<|k<|lss J J s5 s4<|aG<|sq<|cd (b:=decide ((j:Int)<(an.toNat:Int))) J J (fun b1=>?_)<|fun b1=>?_
 ·
  have p1:=dT b1
  refine sk<|nx<|sq<|bk<|aH<|ak J s5<|aj (v:=U (j:Int)) J J<|z<|nx ?_
  obtain⟨x0,aq⟩:∃x,ar[(j:Int).toNat]? =some x:=⟨_,dW ai⟩
  obtain⟨x1,cw⟩:∃x,br[(j:Int).toNat]? =some x:=⟨_,dW ai⟩
  refine dr 13 [eV (.slice (some ⟨g0,0,none⟩) an.toNat an.toNat),eV (U (j:Int)),eV (pV aK 1),eV (sL ft ar fm),eV (U (j:Int)),fun v w'=>∃(fz:Addr),v=.pointer (some fz)∧At (MS M [own w.heap.size 115 (.slice (some ⟨g0,0,none⟩) an.toNat an.toNat) xs,box bj #[U 0,.slice none 0 0] 68,box aW #[U bn,sL fq br fl] 68,box aK #[U an,sL ft ar fm] 68,iL fq br fl,iL ft ar fm]) w' fz x0,fun v w'=>∃(a0:OA) (c0:Nat),v=sL a0 x0 c0∧RV (MS M [own w.heap.size 115 (.slice (some ⟨g0,0,none⟩) an.toNat an.toNat) xs,box bj #[U 0,.slice none 0 0] 68,box aW #[U bn,sL fq br fl] 68,box aK #[U an,sL ft ar fm] 68,iL fq br fl,iL ft ar fm]) w' (sL a0 x0 c0) x0,eV (pV aW 1),eV (sL fq br fl),eV (U (j:Int)),fun v w'=>∃(iG:Addr),v=.pointer (some iG)∧At (MS M [own w.heap.size 115 (.slice (some ⟨g0,0,none⟩) an.toNat an.toNat) xs,box bj #[U 0,.slice none 0 0] 68,box aW #[U bn,sL fq br fl] 68,box aK #[U an,sL ft ar fm] 68,iL fq br fl,iL ft ar fm]) w' iG x1,fun v w'=>∃(a1:OA) (c1:Nat),v=sL a1 x1 c1∧RV (MS M [own w.heap.size 115 (.slice (some ⟨g0,0,none⟩) an.toNat an.toNat) xs,box bj #[U 0,.slice none 0 0] 68,box aW #[U bn,sL fq br fl] 68,box aK #[U an,sL ft ar fm] 68,iL fq br fl,iL ft ar fm]) w' (sL a1 x1 c1) x1,fun v w'=>∃(a2:OA) (c2:Nat),v=sL a2 (fZ x0 x1) c2∧RV (MS M [own w.heap.size 115 (.slice (some ⟨g0,0,none⟩) an.toNat an.toNat) xs,box bj #[U 0,.slice none 0 0] 68,box aW #[U bn,sL fq br fl] 68,box aK #[U an,sL ft ar fm] 68,iL fq br fl,iL ft ar fm]) w' (sL a2 (fZ x0 x1) c2) (fZ x0 x1)] J bu ?_ ?_
  ·
   refine dc (fun _ _ kC _ _=>mv J ((kC 6 J).trans s3)<|d0 J J)<|dc (fun _ _ rh _ _=>mv J (rh 7 J)<|d0 J J)<|dc (fun _ _ l4 _ _=>fa iW J ((l4 2 J).trans s0)<|d0 J J)<|dc (fun _ _ _ lh lP=>lx (H6.ext lh) 3 J l8 J (lP 2 J J) J<|d0 J J)<|dc (fun _ _ re _ _=>mv J (re 7 J)<|d0 J J) ?_
   refine⟨fun _=>⟨fun f6 iK ns gv j8=>?_,by rintro _ _ _ x_ ⟨fz,e_,cN⟩;exact⟨fz,e_,cN.lift (Up.ext x_)⟩⟩,?_⟩
   ·
    have eY:=H6.ext gv
    have s7:f6 25=sL ft ar fm:=j8 3 J J
    have s8:f6 26=U (j:Int):=j8 4 J J
    refine ia (eY.rv 5 J) J J s7 s8 ai iY eJ ?_
    intro kX x2 dR gJ
    obtain rfl:x0=x2:=alD (aq.symm.trans dR)
    exact⟨_,J,Ext.refl _,⟨kX,J,gJ⟩⟩
   refine⟨fun _=>⟨fun f7 jf rb j0 kj=>?_,by rintro _ _ _ x_ ⟨a0,c0,e_,cL⟩;exact⟨a0,c0,e_,cL.lift (Up.ext x_)⟩⟩,?_⟩
   ·
    have fg:=H6.ext j0
    obtain⟨jc,s9,km⟩:∃(jc:Addr),f7 27=.pointer (some jc)∧At (MS M [own w.heap.size 115 (.slice (some ⟨g0,0,none⟩) an.toNat an.toNat) xs,box bj #[U 0,.slice none 0 0] 68,box aW #[U bn,sL fq br fl] 68,box aK #[U an,sL ft ar fm] 68,iL fq br fl,iL ft ar fm]) jf jc x0:=kj 5 rfl rfl
    have gz:=fg.put (it:=lq jc x0) J km
    refine vR (gz.wK 0 J).w eJ J s9 ?_
    intro a3 c3 gG
    exact⟨_,J,Ext.refl _,⟨a3,c3,J,(gY J gG)⟩⟩
   refine dc (fun _ _ qa _ _=>fa iW J ((qa 3 J).trans s1)<|d0 J J)<|dc (fun _ _ _ kZ jj=>lx (H6.ext kZ) 2 J l8 J (jj 7 J J) J<|d0 J J)<|dc (fun _ _ r6 _ _=>mv J (r6 7 J)<|d0 J J) ?_
   refine⟨fun _=>⟨fun f11 mB mg po iz=>?_,by rintro _ _ _ x_ ⟨iG,e_,eU⟩;exact⟨iG,e_,eU.lift (Up.ext x_)⟩⟩,?_⟩
   ·
    have lT:=H6.ext po
    have ew:f11 30=sL fq br fl:=iz 8 J J
    have eE:f11 31=U (j:Int):=iz 9 J J
    refine ia (lT.rv 4 J) J J ew eE ai iY eJ ?_
    intro sK x3 gX oD
    obtain rfl:x1=x3:=alD (cw.symm.trans gX)
    exact⟨_,J,Ext.refl _,⟨sK,J,oD⟩⟩
   refine⟨fun _=>⟨fun f12 lL pq oG jI=>?_,by rintro _ _ _ x_ ⟨a1,c1,e_,eQ⟩;exact⟨a1,c1,e_,eQ.lift (Up.ext x_)⟩⟩,?_⟩
   ·
    have pc:=H6.ext oG
    obtain⟨kG,fc,qe⟩:∃(kG:Addr),f12 32=.pointer (some kG)∧At (MS M [own w.heap.size 115 (.slice (some ⟨g0,0,none⟩) an.toNat an.toNat) xs,box bj #[U 0,.slice none 0 0] 68,box aW #[U bn,sL fq br fl] 68,box aK #[U an,sL ft ar fm] 68,iL fq br fl,iL ft ar fm]) lL kG x1:=jI 10 rfl rfl
    have iE:=pc.put (it:=lq kG x1) J qe
    refine vR (iE.wK 0 J).w eJ J fc ?_
    intro a4 c4 gl
    exact⟨_,J,Ext.refl _,⟨a4,c4,J,(gY J gl)⟩⟩
   refine⟨fun _=>⟨fun f13 jX wb tc kg=>?_,by rintro _ _ _ x_ ⟨a2,c2,e_,fQ⟩;exact⟨a2,c2,e_,fQ.lift (Up.ext x_)⟩⟩,?_⟩
   ·
    have kt:=H6.ext tc
    obtain⟨a5,c5,fJ,lk⟩:∃(a5:OA) (c5:Nat),f13 28=sL a5 x0 c5∧RV (MS M [own w.heap.size 115 (.slice (some ⟨g0,0,none⟩) an.toNat an.toNat) xs,box bj #[U 0,.slice none 0 0] 68,box aW #[U bn,sL fq br fl] 68,box aK #[U an,sL ft ar fm] 68,iL fq br fl,iL ft ar fm]) jX (sL a5 x0 c5) x0:=kg 6 rfl rfl
    have lJ:=cj kt lk
    obtain⟨a6,c6,fw,lM⟩:∃(a6:OA) (c6:Nat),f13 33=sL a6 x1 c6∧RV (MS M [own w.heap.size 115 (.slice (some ⟨g0,0,none⟩) an.toNat an.toNat) xs,box bj #[U 0,.slice none 0 0] 68,box aW #[U bn,sL fq br fl] 68,box aK #[U an,sL ft ar fm] 68,iL fq br fl,iL ft ar fm]) jX (sL a6 x1 c6) x1:=kg 11 rfl rfl
    have kH:=cj lJ lM
    have eF:=Yu (a:=x0) (b:=x1) kH.mb (kH.rv 1 J) (kH.rv 0 J) (by exact Oo _ (eh aq))<|by exact On _ (eh cw)
    refine ca ac_ J (ec fJ<|ec fw e0) eF ?_
    rintro _ kJ ⟨a7,c7,rfl,vq,ml⟩
    have kK:=bm.rv ml kH.mb
    exact⟨_,J,vq,⟨a7,c7,J,(gY J<|gY J kK)⟩⟩
   exact gp.rest J _
  ·
   intro f14 ow qb qK uL
   have BV:=H6.ext qK
   have fX:=(qb 2 J).trans s0
   have gF:=(qb 3 J).trans s1
   have gL:=(qb 4 J).trans s2
   have gE:=(qb 6 J).trans s3
   have jg:=(qb 18 J).trans s4
   have kU:=(qb 19 J).trans s5
   have oA:=uL 0 J
   have pw:=uL 1 J
   obtain⟨a8,c8,x7,lD⟩:∃(a8:OA) (c8:Nat),f14 34=sL a8 (fZ x0 x1) c8∧RV (MS M [own w.heap.size 115 (.slice (some ⟨g0,0,none⟩) an.toNat an.toNat) xs,box bj #[U 0,.slice none 0 0] 68,box aW #[U bn,sL fq br fl] 68,box aK #[U an,sL ft ar fm] 68,iL fq br fl,iL ft ar fm]) ow (sL a8 (fZ x0 x1) c8) (fZ x0 x1):=uL 12 rfl
   have qJ:=cj BV lD
   refine k<|jh (qJ.at_ 1 J) J J oA pw ai iY eJ ?_
   intro g1 x4 iC jT yQ
   refine k<|rO qJ 1 J iC J ai eJ J J J x7 (qJ.rv 0 J) ?_
   intro kv (pb:HI M w kv (iL a8 (fZ x0 x1) c8::own w.heap.size 115 (.slice (some ⟨g0,0,none⟩) an.toNat an.toNat) (xs.set ((j:Int).toNat) (fZ x0 x1))::dD))
   refine z<|aF<|nx<|rg<|k<|add J J kU J aY<|ak (v:=U ((j:Int)+1)) J J<|z ?_
   have H35:HI M w kv (own w.heap.size 115 (.slice (some ⟨g0,0,none⟩) an.toNat an.toNat) (xs.set ((j:Int).toNat) (fZ x0 x1))::dD):=pb.c_ [1,2,3,4,5,6] aJ J
   refine bD _ ?_ ⟨(j+1),(xs.set ((j:Int).toNat) (fZ x0 x1)),J,fX,gF,gL,gE,jg,(bJ J),H35,ai,(by simpa using hl),(by rw[hs];exact NV ai aq cw)⟩
   omega
 have p1:=dF b1
 refine ex<|bg<|bt<|bz<|dM<|bo gm J s0<|bR H6 3 J aQ J J J<|ak J s3<|k<|bd (v:=.agg #[U an,.slice (some ⟨g0,0,none⟩) an.toNat an.toNat]) J (ct J<|ct J eo) (fun _=>bu)<|k<|cz H6 1 J bh J J s2 J J J J ?_
 intro w5 (H7:HI M w w5 (own w.heap.size 115 (.slice (some ⟨g0,0,none⟩) an.toNat an.toNat) xs::box bj #[U an,.slice (some ⟨g0,0,none⟩) an.toNat an.toNat] 68::dv))
 refine aj (v:=U 0) J J<|aG<|rt<|iS H7 1 J bh J J J s2 J aJ ?_
 have e0:(an:Int)=j1 an bn:=by exact(rT (ar:=ar) (br:=br) p0).1.symm
 have e1:(xs:List (List bG))=ga an ar bn br:=by rw[(rT p0).2.1,hs];exact NW ai hk
 have l1:an.toNat=(ga an ar bn br).length:=by rw[←e1];omega
 have e2:(0:Int)=nY an bn:=by exact(rT (ar:=ar) (br:=br) p0).2.2.symm
 have bF:=wE (fun (cK:Int) (yp:Nat) (jE:Int)=>(.tuple #[.agg #[U cK,.slice (some ⟨g0,0,none⟩) yp an.toNat],U jE]:Value)) e0 l1 e2
 exact⟨(some ⟨g0,0,none⟩),an.toNat,bF,H7.below,(alB (fun (n_:Nat)=>bm _ _ _ (ga an ar bn br) (.slice (some ⟨g0,0,none⟩) n_ an.toNat) _) l1).mp ((alB (fun (x_:List (List bG))=>bm _ _ _ x_ (.slice (some ⟨g0,0,none⟩) an.toNat an.toNat) _) e1).mp (H7.cB 0 J))⟩
theorem Td (hM:ei M w) (ob:cP M w qj qh a) (JO:cP M w ou oq b) (afx:a.length≤1000000000) (afw:b.length≤1000000000):Calls aX 117 #[sL qj a qh,sL ou b oq] w (cZ fun v w'=>∃(a0:OA) (c0:Nat),v=.slice a0 (fZ a b).length c0∧Ext w w'∧bm M 137 w (fZ a b) (.slice a0 (fZ a b).length c0) w'):=by
 refine dK 47 Tryz.func117 J J J hM fun f0 ha H=>?_
 have H0:=cj H ob
 have H1:=cj H0 JO
 have afd:=bN ob
 have afc:=bN JO
 have i0:f0 0=sL qj a qh:=ha 0 bH
 have i1:f0 1=sL ou b oq:=ha 1 bH
 refine aH<|aj (v:=.slice none 0 0) J J<|cU<|ak J i0<|k<|ep J J eZ<|ak J i1<|k<|ep J J eZ<|k<|max2 J J J J<|k ?_
 have n0:(((max (a.length:Int) (b.length:Int)).toNat:Nat):Int)=max (a.length:Int) (b.length:Int):=alJ ai
 refine mk (m:=(max (a.length:Int) (b.length:Int)).toNat) (zx:=(0#64:bG)) H1 J J (by rw[n0];exact rfl) (by rw[n0];exact rfl) eZ eu (fun _ _=>rfl) ai ai ?_
 let bC:=[iL ou b oq,iL qj a qh]
 intro g0 w0 dt (H2:HI M w w0 (own w.heap.size 137 (.slice (some ⟨g0,0,none⟩) ((max (a.length:Int) (b.length:Int)).toNat) ((max (a.length:Int) (b.length:Int)).toNat)) (List.replicate ((max (a.length:Int) (b.length:Int)).toNat) (0#64:bG))::bC))
 refine aj (v:=.slice (some ⟨g0,0,none⟩) ((max (a.length:Int) (b.length:Int)).toNat) ((max (a.length:Int) (b.length:Int)).toNat)) J J<|aG<|sq<|aH<|aj (v:=U 0) J J<|aG<|bk<|lp (fun m f w'=>∃(j:Nat) (xs:List bG),m=(max (a.length:Int) (b.length:Int)).toNat-j∧f 0=sL qj a qh∧f 1=sL ou b oq∧f 5=.slice (some ⟨g0,0,none⟩) ((max (a.length:Int) (b.length:Int)).toNat) ((max (a.length:Int) (b.length:Int)).toNat)∧f 6=U (j:Int)∧HI M w w' (own w.heap.size 137 (.slice (some ⟨g0,0,none⟩) ((max (a.length:Int) (b.length:Int)).toNat) ((max (a.length:Int) (b.length:Int)).toNat)) xs::bC)∧(j≤(max (a.length:Int) (b.length:Int)).toNat)∧(xs.length=(max (a.length:Int) (b.length:Int)).toNat)∧(xs=jR (max (a.length:Int) (b.length:Int)).toNat a b [] j)) _ ⟨0,(List.replicate ((max (a.length:Int) (b.length:Int)).toNat) (0#64:bG)),J,i0,i1,J,(bJ J),H2,ai,bH,(by exact To _ _ _)⟩ ?_
 rintro _ f0 w1 ⟨j,xs,rfl,s0,s1,s2,s3,H3,hk,hl,hs⟩
 refine sq<|aH<|ak J s3<|ak J s2<|k<|ep J J eZ<|k<|lss J J J J<|z<|nx<|cd (b:=decide ((j:Int)<(((max (a.length:Int) (b.length:Int)).toNat):Int))) J J (fun b0=>?_)<|fun b0=>?_
 ·
  have p0:=dT b0
  refine sk<|nx<|sq<|bk<|sq<|aH<|ak J s3<|ak J s0<|k<|ep J J eZ<|k<|lss J J J J<|z<|nx<|cd (b:=decide ((j:Int)<(a.length:Int))) J J (fun b1=>?_)<|fun b1=>?_
  ·
   have p1:=dT b1
   refine rg<|ak J s2<|ak J s3<|ak J s0<|ak J s3<|k<|ia (H3.rv 2 J) J J J J ai eZ eu ?_
   intro fz x0 aq cN
   refine k<|t_ cN.w eu J J<|k<|jh (H3.at_ 0 J) J J J J ai eZ eu ?_
   intro g1 x1 iC cw eU
   refine k<|rO H3 0 J iC J ai eu J J J J (RV.bv.2 J) ?_
   intro w2 (H4:HI M w w2 (own w.heap.size 137 (.slice (some ⟨g0,0,none⟩) ((max (a.length:Int) (b.length:Int)).toNat) ((max (a.length:Int) (b.length:Int)).toNat)) (xs.set ((j:Int).toNat) x0)::bC))
   refine cU<|ak J s3<|ak J s1<|k<|ep J J eZ<|k<|lss J J J J<|z<|nx<|cd (b:=decide ((j:Int)<(b.length:Int))) J J (fun b2=>?_)<|fun b2=>?_
   ·
    have p2:=dT b2
    obtain⟨x2,dR⟩:∃x,(xs.set ((j:Int).toNat) x0)[(j:Int).toNat]? =some x:=⟨_,dW (by simp;omega)⟩
    obtain⟨x3,gX⟩:∃x,b[(j:Int).toNat]? =some x:=⟨_,dW ai⟩
    refine dr 11 [eV (.slice (some ⟨g0,0,none⟩) ((max (a.length:Int) (b.length:Int)).toNat) ((max (a.length:Int) (b.length:Int)).toNat)),eV (U (j:Int)),eV (.slice (some ⟨g0,0,none⟩) ((max (a.length:Int) (b.length:Int)).toNat) ((max (a.length:Int) (b.length:Int)).toNat)),eV (U (j:Int)),fun v w'=>∃(g2:Nat),v=.pointer (some ⟨g2,(j:Int).toNat*1,none⟩)∧(.slice (some ⟨g0,0,none⟩) ((max (a.length:Int) (b.length:Int)).toNat) ((max (a.length:Int) (b.length:Int)).toNat):Value).ownBlock=some g2∧gq (MS M [own w.heap.size 137 (.slice (some ⟨g0,0,none⟩) ((max (a.length:Int) (b.length:Int)).toNat) ((max (a.length:Int) (b.length:Int)).toNat)) (xs.set ((j:Int).toNat) x0),iL ou b oq,iL qj a qh]) w' ⟨g2,(j:Int).toNat*1,none⟩ x2,eV (ag x2),eV (sL ou b oq),eV (U (j:Int)),fun v w'=>∃(iG:Addr),v=.pointer (some iG)∧At (MS M [own w.heap.size 137 (.slice (some ⟨g0,0,none⟩) ((max (a.length:Int) (b.length:Int)).toNat) ((max (a.length:Int) (b.length:Int)).toNat)) (xs.set ((j:Int).toNat) x0),iL ou b oq,iL qj a qh]) w' iG x3,eV (ag x3),eV (ag<|x2 ||| x3)] J bu ?_ ?_
    ·
     refine dc (fun _ _ kC _ _=>mv J ((kC 5 J).trans s2)<|d0 J J)<|dc (fun _ _ rh _ _=>mv J ((rh 6 J).trans s3)<|d0 J J)<|dc (fun _ _ l4 _ _=>mv J ((l4 5 J).trans s2)<|d0 J J)<|dc (fun _ _ qC _ _=>mv J ((qC 6 J).trans s3)<|d0 J J) ?_
     refine⟨fun _=>⟨fun f5 w7 re ly jk=>?_,by rintro _ _ _ x_ ⟨g2,e_,lZ,gJ⟩;exact⟨g2,e_,lZ,gJ.ext x_⟩⟩,?_⟩
     ·
      have H9:=H4.ext ly
      have s4:f5 36=.slice (some ⟨g0,0,none⟩) ((max (a.length:Int) (b.length:Int)).toNat) ((max (a.length:Int) (b.length:Int)).toNat):=jk 2 J J
      have s5:f5 37=U (j:Int):=jk 3 J J
      refine jh (H9.at_ 0 J) J J s4 s5 (by simp;omega) eZ eu ?_
      intro g3 x4 uQ jT oD
      obtain rfl:x2=x4:=alD (dR.symm.trans jT)
      exact⟨_,J,Ext.refl _,⟨g3,J,uQ,oD⟩⟩
     refine dc (fun f6 w8 ns iJ j8=>?_) ?_
     ·
      obtain⟨g4,s6,vX,qe⟩:∃(g4:Nat),f6 38=.pointer (some ⟨g4,(j:Int).toNat*1,none⟩)∧(.slice (some ⟨g0,0,none⟩) ((max (a.length:Int) (b.length:Int)).toNat) ((max (a.length:Int) (b.length:Int)).toNat):Value).ownBlock=some g4∧gq (MS M [own w.heap.size 137 (.slice (some ⟨g0,0,none⟩) ((max (a.length:Int) (b.length:Int)).toNat) ((max (a.length:Int) (b.length:Int)).toNat)) (xs.set ((j:Int).toNat) x0),iL ou b oq,iL qj a qh]) w8 ⟨g4,(j:Int).toNat*1,none⟩ x2:=j8 4 rfl rfl
      refine t_ qe eu J s6 ?_
      exact⟨_,J,Ext.refl _,J⟩
     refine dc (fun _ _ rb _ _=>mv J ((rb 1 J).trans s1)<|d0 J J)<|dc (fun _ _ qa _ _=>mv J ((qa 6 J).trans s3)<|d0 J J) ?_
     refine⟨fun _=>⟨fun f9 iK oa jD jj=>?_,by rintro _ _ _ x_ ⟨iG,e_,km⟩;exact⟨iG,e_,km.lift (Up.ext x_)⟩⟩,?_⟩
     ·
      have dZ:=H4.ext jD
      have s7:f9 40=sL ou b oq:=jj 6 J J
      have s8:f9 41=U (j:Int):=jj 7 J J
      refine ia (dZ.rv 1 J) J J s7 s8 ai eZ eu ?_
      intro kX x5 lF yQ
      obtain rfl:x3=x5:=alD (gX.symm.trans lF)
      exact⟨_,J,Ext.refl _,⟨kX,J,yQ⟩⟩
     refine dc (fun f10 jf r6 gv mS=>?_) ?_
     ·
      have cM:=H4.ext gv
      obtain⟨jc,s9,Mt⟩:∃(jc:Addr),f10 42=.pointer (some jc)∧At (MS M [own w.heap.size 137 (.slice (some ⟨g0,0,none⟩) ((max (a.length:Int) (b.length:Int)).toNat) ((max (a.length:Int) (b.length:Int)).toNat)) (xs.set ((j:Int).toNat) x0),iL ou b oq,iL qj a qh]) jf jc x3:=mS 8 rfl rfl
      have fR:=cM.put (it:=lq jc x3) J Mt
      refine t_ (fR.wK 0 J).w eu J s9 ?_
      exact⟨_,J,Ext.refl _,J⟩
     refine dc (fun _ _ _ _ iz=>IQ x2 x3 J J (iz 5 J J) (iz 9 J J)<|d0 J J) ?_
     exact gp.rest J _
    ·
     intro f12 jK pq kb jI
     have fg:=H4.ext kb
     have eE:=(pq 0 J).trans s0
     have fc:=(pq 1 J).trans s1
     have fJ:=(pq 5 J).trans s2
     have fw:=(pq 6 J).trans s3
     have fX:=jI 0 J
     have gF:=jI 1 J
     have gL:=jI 10 J
     refine k<|jh (fg.at_ 0 J) J J fX gF (by simp;omega) eZ eu ?_
     intro g5 x6 Vn nq hA8
     refine k<|rO fg 0 J Vn J (by simp;omega) eu J J J gL (RV.bv.2 J) ?_
     intro lz (gz:HI M w lz (own w.heap.size 137 (.slice (some ⟨g0,0,none⟩) ((max (a.length:Int) (b.length:Int)).toNat) ((max (a.length:Int) (b.length:Int)).toNat)) ((xs.set ((j:Int).toNat) x0).set ((j:Int).toNat) (x2 ||| x3))::bC))
     refine z<|aF<|nx<|rg<|ak J fw<|k<|add J J J J aY<|aj (v:=U ((j:Int)+1)) J J<|z<|bD _ ?_ ⟨(j+1),((xs.set ((j:Int).toNat) x0).set ((j:Int).toNat) (x2 ||| x3)),J,eE,fc,fJ,(bJ J),gz,ai,(by simpa using hl),(by exact Xg hs aq dR gX)⟩
     omega
   have p2:=dF b2
   refine sk<|aF<|nx<|rg<|ak J s3<|k<|add J J J J aY<|aj (v:=U ((j:Int)+1)) J J<|z<|bD _ ?_ ⟨(j+1),(xs.set ((j:Int).toNat) x0),J,s0,s1,s2,(bJ J),H4,ai,(by simpa using hl),(by exact Xf hs aq ai)⟩
   omega
  have p1:=dF b1
  refine sk<|dM<|ak J s3<|ak J s1<|k<|ep J J eZ<|k<|lss J J J J<|z<|nx<|cd (b:=decide ((j:Int)<(b.length:Int))) J J (fun b2=>?_)<|fun b2=>?_
  ·
   have p2:=dT b2
   obtain⟨x0,aq⟩:∃x,xs[(j:Int).toNat]? =some x:=⟨_,dW ai⟩
   obtain⟨x1,cw⟩:∃x,b[(j:Int).toNat]? =some x:=⟨_,dW ai⟩
   refine dr 11 [eV (.slice (some ⟨g0,0,none⟩) ((max (a.length:Int) (b.length:Int)).toNat) ((max (a.length:Int) (b.length:Int)).toNat)),eV (U (j:Int)),eV (.slice (some ⟨g0,0,none⟩) ((max (a.length:Int) (b.length:Int)).toNat) ((max (a.length:Int) (b.length:Int)).toNat)),eV (U (j:Int)),fun v w'=>∃(g1:Nat),v=.pointer (some ⟨g1,(j:Int).toNat*1,none⟩)∧(.slice (some ⟨g0,0,none⟩) ((max (a.length:Int) (b.length:Int)).toNat) ((max (a.length:Int) (b.length:Int)).toNat):Value).ownBlock=some g1∧gq (MS M [own w.heap.size 137 (.slice (some ⟨g0,0,none⟩) ((max (a.length:Int) (b.length:Int)).toNat) ((max (a.length:Int) (b.length:Int)).toNat)) xs,iL ou b oq,iL qj a qh]) w' ⟨g1,(j:Int).toNat*1,none⟩ x0,eV (ag x0),eV (sL ou b oq),eV (U (j:Int)),fun v w'=>∃(fz:Addr),v=.pointer (some fz)∧At (MS M [own w.heap.size 137 (.slice (some ⟨g0,0,none⟩) ((max (a.length:Int) (b.length:Int)).toNat) ((max (a.length:Int) (b.length:Int)).toNat)) xs,iL ou b oq,iL qj a qh]) w' fz x1,eV (ag x1),eV (ag<|x0 ||| x1)] J bu ?_ ?_
   ·
    refine dc (fun _ _ kC _ _=>mv J ((kC 5 J).trans s2)<|d0 J J)<|dc (fun _ _ rh _ _=>mv J ((rh 6 J).trans s3)<|d0 J J)<|dc (fun _ _ l4 _ _=>mv J ((l4 5 J).trans s2)<|d0 J J)<|dc (fun _ _ qC _ _=>mv J ((qC 6 J).trans s3)<|d0 J J) ?_
    refine⟨fun _=>⟨fun f5 w6 re ly jk=>?_,by rintro _ _ _ x_ ⟨g1,e_,iC,cN⟩;exact⟨g1,e_,iC,cN.ext x_⟩⟩,?_⟩
    ·
     have H8:=H3.ext ly
     have s4:f5 36=.slice (some ⟨g0,0,none⟩) ((max (a.length:Int) (b.length:Int)).toNat) ((max (a.length:Int) (b.length:Int)).toNat):=jk 2 J J
     have s5:f5 37=U (j:Int):=jk 3 J J
     refine jh (H8.at_ 0 J) J J s4 s5 ai eZ eu ?_
     intro g2 x2 lZ dR gJ
     obtain rfl:x0=x2:=alD (aq.symm.trans dR)
     exact⟨_,J,Ext.refl _,⟨g2,J,lZ,gJ⟩⟩
    refine dc (fun f6 w7 ns iJ j8=>?_) ?_
    ·
     obtain⟨g3,s6,uQ,km⟩:∃(g3:Nat),f6 38=.pointer (some ⟨g3,(j:Int).toNat*1,none⟩)∧(.slice (some ⟨g0,0,none⟩) ((max (a.length:Int) (b.length:Int)).toNat) ((max (a.length:Int) (b.length:Int)).toNat):Value).ownBlock=some g3∧gq (MS M [own w.heap.size 137 (.slice (some ⟨g0,0,none⟩) ((max (a.length:Int) (b.length:Int)).toNat) ((max (a.length:Int) (b.length:Int)).toNat)) xs,iL ou b oq,iL qj a qh]) w7 ⟨g3,(j:Int).toNat*1,none⟩ x0:=j8 4 rfl rfl
     refine t_ km eu J s6 ?_
     exact⟨_,J,Ext.refl _,J⟩
    refine dc (fun _ _ rb _ _=>mv J ((rb 1 J).trans s1)<|d0 J J)<|dc (fun _ _ qa _ _=>mv J ((qa 6 J).trans s3)<|d0 J J) ?_
    refine⟨fun _=>⟨fun f9 jb oa jD jj=>?_,by rintro _ _ _ x_ ⟨fz,e_,eU⟩;exact⟨fz,e_,eU.lift (Up.ext x_)⟩⟩,?_⟩
    ·
     have eB:=H3.ext jD
     have s7:f9 40=sL ou b oq:=jj 6 J J
     have s8:f9 41=U (j:Int):=jj 7 J J
     refine ia (eB.rv 1 J) J J s7 s8 ai eZ eu ?_
     intro iG x3 gX oD
     obtain rfl:x1=x3:=alD (cw.symm.trans gX)
     exact⟨_,J,Ext.refl _,⟨iG,J,oD⟩⟩
    refine dc (fun f10 iK r6 gv mS=>?_) ?_
    ·
     have dZ:=H3.ext gv
     obtain⟨kX,s9,qe⟩:∃(kX:Addr),f10 42=.pointer (some kX)∧At (MS M [own w.heap.size 137 (.slice (some ⟨g0,0,none⟩) ((max (a.length:Int) (b.length:Int)).toNat) ((max (a.length:Int) (b.length:Int)).toNat)) xs,iL ou b oq,iL qj a qh]) iK kX x1:=mS 8 rfl rfl
     have cM:=dZ.put (it:=lq kX x1) J qe
     refine t_ (cM.wK 0 J).w eu J s9 ?_
     exact⟨_,J,Ext.refl _,J⟩
    refine dc (fun _ _ _ _ iz=>IQ x0 x1 J J (iz 5 J J) (iz 9 J J)<|d0 J J) ?_
    exact gp.rest J _
   ·
    intro f12 ju pq kb jI
    have eY:=H3.ext kb
    have eE:=(pq 0 J).trans s0
    have fc:=(pq 1 J).trans s1
    have fJ:=(pq 5 J).trans s2
    have fw:=(pq 6 J).trans s3
    have fX:=jI 0 J
    have gF:=jI 1 J
    have gL:=jI 10 J
    refine k<|jh (eY.at_ 0 J) J J fX gF ai eZ eu ?_
    intro g4 x4 vX jT yQ
    refine k<|rO eY 0 J vX J ai eu J J J gL (RV.bv.2 J) ?_
    intro jK (fg:HI M w jK (own w.heap.size 137 (.slice (some ⟨g0,0,none⟩) ((max (a.length:Int) (b.length:Int)).toNat) ((max (a.length:Int) (b.length:Int)).toNat)) (xs.set ((j:Int).toNat) (x0 ||| x1))::bC))
    refine z<|aF<|nx<|rg<|ak J fw<|k<|add J J J J aY<|aj (v:=U ((j:Int)+1)) J J<|z<|bD _ ?_ ⟨(j+1),(xs.set ((j:Int).toNat) (x0 ||| x1)),J,eE,fc,fJ,(bJ J),fg,ai,(by simpa using hl),(by exact Tn hs ai aq cw)⟩
    omega
  have p2:=dF b2
  refine sk<|aF<|nx<|rg<|ak J s3<|k<|add J J J J aY<|aj (v:=U ((j:Int)+1)) J J<|z<|bD _ ?_ ⟨(j+1),xs,J,s0,s1,s2,(bJ J),H3,ai,(by simpa using hl),(by exact or_none hs ai ai)⟩
  omega
 have p0:=dF b0
 refine ex<|bg<|bt<|bz<|dM<|ak J s2<|aj (v:=.slice (some ⟨g0,0,none⟩) ((max (a.length:Int) (b.length:Int)).toNat) ((max (a.length:Int) (b.length:Int)).toNat)) J J<|aG<|rt<|r1 J J ?_
 have e0:(xs:List bG)=fZ a b:=by rw[hs];exact tl ai (fun i h1 h2=>by omega)
 have l0:((max (a.length:Int) (b.length:Int)).toNat)=(fZ a b).length:=by rw[←e0];omega
 have bF:=fu (fun (kW:Nat)=>(.slice (some ⟨g0,0,none⟩) kW ((max (a.length:Int) (b.length:Int)).toNat):Value)) l0
 exact⟨(some ⟨g0,0,none⟩),((max (a.length:Int) (b.length:Int)).toNat),bF,H3.below,(alB (fun (n_:Nat)=>bm _ _ _ (fZ a b) (.slice (some ⟨g0,0,none⟩) n_ ((max (a.length:Int) (b.length:Int)).toNat)) _) l0).mp ((alB (fun (x_:List bG)=>bm _ _ _ x_ (.slice (some ⟨g0,0,none⟩) ((max (a.length:Int) (b.length:Int)).toNat) ((max (a.length:Int) (b.length:Int)).toNat)) _) e0).mp (H3.cB 0 J))⟩
theorem adw:dq aX 108:=dy Tryz.func108
theorem aaM:dq aX 76:=dy Tryz.func76
theorem af5:dq aX 77:=dy Tryz.func77
theorem ado:dq aX 120:=dy Tryz.func120
theorem adq:dq aX 117:=dy Tryz.func117
theorem xS:dq aX 75:=dy Tryz.func75
theorem IK {KL:OA} {I3 Kv:Nat} (fL:aN mn) (nt:aN i) (Bm:aN j):Calls aX 76 #[.agg #[U mn,.slice KL I3 Kv],U i,U j] w (cZ fun v w'=>v=.bool (mH mn [i,j])∧Ext w w'):=by
 refine dK 25 Tryz.func76 J J J yo fun f0 ha H=>?_
 have i0:f0 0=.agg #[U mn,.slice KL I3 Kv]:=ha 0 bH
 have i1:f0 1=U i:=ha 1 bH
 have i2:f0 2=U j:=ha 2 bH
 refine aH<|k<|bx H J i0 ?_
 intro aK w0 dt (H0:HI (fun _=>False) w w0 [box aK #[U mn,.slice KL I3 Kv] 68])
 refine aj (v:=.bool false) J J<|cU<|ak J i1<|k<|geq J J J J<|ak (v:=.bool (decide (0≤i))) J J ?_
 rcases bE (decide (0≤i)) with b0|b0
 ·
  refine aM J J J b0<|mv J i1<|aM J J J b0<|fa gm J J<|aM J J J b0<|lx H0 0 J aQ J J J<|aM J J J b0<|lss J J J J<|k<|ba J J J J b0 J<|ak (v:=.bool (decide (i<mn))) J J ?_
  rcases bE (decide (i<mn)) with b1|b1
  ·
   refine aM J J J b1<|mv J i2<|aM J J J b1<|geq J J J J<|k<|ba J J J J b1 J<|ak (v:=.bool (decide (0≤j))) J J ?_
   rcases bE (decide (0≤j)) with b2|b2
   ·
    refine aM J J J b2<|mv J i2<|aM J J J b2<|fa gm J J<|aM J J J b2<|lx H0 0 J aQ J J J<|aM J J J b2<|lss J J J J<|k<|ba J J J J b2 J<|aj (v:=.bool (decide (j<mn))) J J<|aG<|rt<|r1 J J ?_
    exact⟨alB Value.bool (by rw[AU];simp_all<;>omega),H0.below⟩
   refine aD J J J b2<|aD J J J b2<|aD J J J b2<|aD J J J b2<|k<|bc J J J J b2 J<|aj (v:=.bool false) J J<|aG<|rt<|r1 J J ?_
   exact⟨alB Value.bool (by rw[AU];simp_all<;>omega),H0.below⟩
  refine aD J J J b1<|aD J J J b1<|k<|bc J J J J b1 J<|ak (v:=.bool false) J J<|aD J J J J<|aD J J J J<|aD J J J J<|aD J J J J<|k<|bc J J J J J J<|aj (v:=.bool false) J J<|aG<|rt<|r1 J J ?_
  exact⟨alB Value.bool (by rw[AU];simp_all<;>omega),H0.below⟩
 refine aD J J J b0<|aD J J J b0<|aD J J J b0<|aD J J J b0<|k<|bc J J J J b0 J<|ak (v:=.bool false) J J<|aD J J J J<|aD J J J J<|k<|bc J J J J J J<|ak (v:=.bool false) J J<|aD J J J J<|aD J J J J<|aD J J J J<|aD J J J J<|k<|bc J J J J J J<|aj (v:=.bool false) J J<|aG<|rt<|r1 J J ?_
 exact⟨alB Value.bool (by rw[AU];simp_all<;>omega),H0.below⟩
theorem wX (hM:ei M w) (CA:aN n):Calls aX 78 #[U n] w (cZ fun v w'=>∃(a0:OA) (c0:Nat),v=.tuple #[.agg #[U (eK n),.slice a0 (bO n).length c0],U (ka n)]∧Ext w w'∧bm M 115 w (bO n) (.slice a0 (bO n).length c0) w'):=by
 refine dK 28 Tryz.func78 J J J hM fun f0 ha H=>?_
 have i0:f0 0=U n:=ha 0 bH
 refine aH<|k<|al H bh ?_
 intro aK w0 dt (H0:HI M w w0 [box aK #[U 0,.slice none 0 0] 68])
 refine aj (v:=U 0) J J<|aG<|sq<|aH<|ak J i0<|k<|lss J J J J<|ak (v:=.bool (decide (n<0))) J J ?_
 rcases bE (decide (n<0)) with b0|b0
 ·
  have p0:=dT b0
  refine aD J J J b0<|aD J J J b0<|k<|ba J J J J b0 J<|aG<|nP J J J<|aH<|k<|bd (v:=.agg #[U 0,.slice none 0 0]) J eo (fun _=>bu)<|k<|cz H0 0 J bh J J J J J J J ?_
  intro w1 (H1:HI M w w1 [box aK #[U 0,.slice none 0 0] 68])
  refine aj (v:=U 1) J J<|aG<|rt<|aS<|iS H1 0 J bh J J J J J aJ ?_
  have e0:(0:Int)=eK n:=by exact(nh<|oV.2 ai).1.symm
  have e1:([]:List (List bG))=bO n:=by exact(nh<|oV.2 ai).2.1.symm
  have e2:(1:Int)=ka n:=by exact(nh<|oV.2 ai).2.2.symm
  have bF:=wE (fun (cK:Int) (fI:List (List bG)) (jE:Int)=>(.tuple #[.agg #[U cK,.slice none fI.length 0],U jE]:Value)) e0 e1 e2
  exact⟨none,0,bF,H1.below,(alB (fun (x_:List (List bG))=>bm _ _ _ x_ (.slice none x_.length 0) _) e1).mp (gQ H1.below)⟩
 have p0:=dF b0
 refine aM J J J b0<|mv J i0<|aM J J J b0<|gtr J J J J<|k<|bc J J J J b0 J<|z<|nx<|cd (b:=decide (4096<n)) J J (fun b1=>?_)<|fun b1=>?_
 ·
  have p1:=dT b1
  refine aH<|k<|bd (v:=.agg #[U 0,.slice none 0 0]) J eo (fun _=>bu)<|k<|cz H0 0 J bh J J J J J J J ?_
  intro w1 (H1:HI M w w1 [box aK #[U 0,.slice none 0 0] 68])
  refine aj (v:=U 1) J J<|aG<|rt<|aS<|iS H1 0 J bh J J J J J aJ ?_
  have e0:(0:Int)=eK n:=by exact(nh<|oV.2 ai).1.symm
  have e1:([]:List (List bG))=bO n:=by exact(nh<|oV.2 ai).2.1.symm
  have e2:(1:Int)=ka n:=by exact(nh<|oV.2 ai).2.2.symm
  have bF:=wE (fun (cK:Int) (fI:List (List bG)) (jE:Int)=>(.tuple #[.agg #[U cK,.slice none fI.length 0],U jE]:Value)) e0 e1 e2
  exact⟨none,0,bF,H1.below,(alB (fun (x_:List (List bG))=>bm _ _ _ x_ (.slice none x_.length 0) _) e1).mp (gQ H1.below)⟩
 have p1:=dF b1
 refine sk<|dM<|ak J i0<|k<|bd (v:=.agg #[U n,.slice none 0 0]) J (ct J eo) (fun _=>bu)<|k<|al H0 bh ?_
 intro aW w1 cR (H1:HI M w w1 [box aW #[U 0,.slice none 0 0] 68,box aK #[U 0,.slice none 0 0] 68])
 refine k<|cz H1 0 J bh J J J J J J J ?_
 intro w2 (H2:HI M w w2 [box aW #[U n,.slice none 0 0] 68,box aK #[U 0,.slice none 0 0] 68])
 refine aG<|sq<|aH<|aj (v:=U 0) J J<|aG<|bk ?_
 have H3:=H2.ke (List bG) 115
 refine lp (fun m f w'=>∃(j:Nat) (xs:List (List bG)) (a0:OA) (c0:Nat),m=n.toNat-j∧f 0=U n∧f 2=pV aK 0∧f 4=pV aW 0∧f 5=U (j:Int)∧HI M w w' [oL w 115 a0 xs c0,box aW #[U n,sL a0 xs c0] 68,box aK #[U 0,.slice none 0 0] 68]∧(j≤n.toNat)∧(xs=List.replicate j (dJ n))) _ ⟨0,([]:List (List bG)),none,0,J,i0,J,J,(bJ J),H3,ai,(by rfl)⟩ ?_
 rintro _ f0 w3 ⟨j,xs,a0,c0,rfl,s0,s1,s2,s3,H4,hk,hs⟩
 refine sq<|aH<|ak J s3<|ak J s0<|k<|lss J J J J<|z<|nx<|cd (b:=decide ((j:Int)<n)) J J (fun b2=>?_)<|fun b2=>?_
 ·
  have p2:=dT b2
  refine sk<|nx<|sq<|bk<|dr 5 [eV (pV aW 1),eV (sL a0 xs c0),eV (U n),fun v w'=>∃(a1:OA) (c1:Nat),v=sL a1 (dJ n) c1∧RV (MS M [oL w 115 a0 xs c0,box aW #[U n,sL a0 xs c0] 68,box aK #[U 0,.slice none 0 0] 68]) w' (sL a1 (dJ n) c1) (dJ n),fun v w'=>∃(a2:OA) (c2:Nat),v=sL a2 ([dJ n]:List (List bG)) c2∧RV (MS M [oL w 115 a0 xs c0,box aW #[U n,sL a0 xs c0] 68,box aK #[U 0,.slice none 0 0] 68]) w' (sL a2 ([dJ n]:List (List bG)) c2) ([dJ n]:List (List bG))] J bu ?_ ?_
  ·
   refine dc (fun _ _ kC _ _=>fa iW J ((kC 4 J).trans s2)<|d0 J J)<|dc (fun _ _ _ ly oW=>lx (H4.ext ly) 1 J l8 J (oW 0 J J) J<|d0 J J)<|dc (fun _ _ l4 _ _=>mv J ((l4 0 J).trans s0)<|d0 J J) ?_
   refine⟨fun _=>⟨fun f4 w9 qC je lP=>?_,by rintro _ _ _ x_ ⟨a1,c1,e_,eQ⟩;exact⟨a1,c1,e_,eQ.lift (Up.ext x_)⟩⟩,?_⟩
   ·
    have eB:=H4.ext je
    have s5:f4 22=U n:=lP 2 J J
    have eF:=PV (n:=n) eB.mb CA ai
    refine ca adw J (ec s5 e0) eF ?_
    rintro _ jb ⟨a3,c3,rfl,lh,fQ⟩
    have gG:=bm.rv fQ eB.mb
    exact⟨_,J,lh,⟨a3,c3,J,gG⟩⟩
   refine⟨fun _=>⟨fun f5 iK re jD jk=>?_,by rintro _ _ _ x_ ⟨a2,c2,e_,gh⟩;exact⟨a2,c2,e_,gh.lift (Up.ext x_)⟩⟩,?_⟩
   ·
    have fR:=H4.ext jD
    obtain⟨a4,c4,s6,gl⟩:∃(a4:OA) (c4:Nat),f5 23=sL a4 (dJ n) c4∧RV (MS M [oL w 115 a0 xs c0,box aW #[U n,sL a0 xs c0] 68,box aK #[U 0,.slice none 0 0] 68]) iK (sL a4 (dJ n) c4) (dJ n):=jk 3 rfl rfl
    have eY:=cj fR gl
    refine bs (xs:=([dJ n]:List (List bG))) (cells:=#[sL a4 (dJ n) c4]) (e:=115) eY J (ct s6 eo) (fun _=>bu) ⟨[sL a4 (dJ n) c4],[],J,⟨_,J,RV.list.1 (eY.rv 0 J)⟩,J⟩ J aJ ?_
    intro g1 jf gv (fg:HI M w jf [own w.heap.size 115 (.slice (some ⟨g1,0,none⟩) 1 1) ([dJ n]:List (List bG)),iL a4 (dJ n) c4,oL w 115 a0 xs c0,box aW #[U n,sL a0 xs c0] 68,box aK #[U 0,.slice none 0 0] 68])
    have gz:=fg.freeze 0 J
    exact⟨_,J,gv,⟨(some ⟨g1,0,none⟩),1,J,(gY J<|gY J<|gz.rv 0 J)⟩⟩
   exact gp.rest J _
  ·
   intro f6 ju ns j0 j8
   have jP:=H4.ext j0
   have s7:=(ns 0 J).trans s0
   have s8:=(ns 2 J).trans s1
   have s9:=(ns 4 J).trans s2
   have ey:=(ns 5 J).trans s3
   have ew:=j8 1 J
   obtain⟨a5,c5,eE,lk⟩:∃(a5:OA) (c5:Nat),f6 24=sL a5 ([dJ n]:List (List bG)) c5∧RV (MS M [oL w 115 a0 xs c0,box aW #[U n,sL a0 xs c0] 68,box aK #[U 0,.slice none 0 0] 68]) ju (sL a5 ([dJ n]:List (List bG)) c5) ([dJ n]:List (List bG)):=j8 4 rfl
   have gI:=cj jP lk
   refine k<|kE gI 1 J J J J ew eE (gI.rv 0 J).src iY eJ J (by rw[hs];simp;omega) J ?_
   intro a6 c6 jK (kO:HI M w jK [iL a5 ([dJ n]:List (List bG)) c5,oL w 115 a6 (xs++([dJ n]:List (List bG))) c6,box aW #[U n,sL a0 xs c0] 68,box aK #[U 0,.slice none 0 0] 68])
   refine bo iW J s9<|k<|cz kO 2 J l8 J J J J J J J ?_
   let bC:=[oL w 115 a6 (xs++([dJ n]:List (List bG))) c6,box aW #[U n,sL a6 (xs++([dJ n]:List (List bG))) c6] 68,box aK #[U 0,.slice none 0 0] 68]
   intro lz (lK:HI M w lz (iL a5 ([dJ n]:List (List bG)) c5::bC))
   refine z<|aF<|nx<|rg<|ak J ey<|k<|add J J J J aY<|aj (v:=U ((j:Int)+1)) J J<|z ?_
   have lT:HI M w lz bC:=lK.c_ [1,2,3] aJ J
   refine bD _ ?_ ⟨(j+1),(xs++([dJ n]:List (List bG))),a6,c6,J,s7,s8,s9,(bJ J),lT,ai,(by rw[hs,an2])⟩
   omega
 have p2:=dF b2
 refine ex<|bg<|bt<|bz<|dM<|k<|cg H4 1 J bh J s2 aJ J<|k<|cz H4 2 J bh J J s1 J J J J ?_
 intro w4 (H5:HI M w w4 [oL w 115 a0 xs c0,box aW #[U n,sL a0 xs c0] 68,box aK #[U n,sL a0 xs c0] 68])
 refine aj (v:=U 0) J J<|aG<|rt<|iS H5 2 J bh J J J s1 J aJ ?_
 have e0:(n:Int)=eK n:=by exact(kA<|lN.2 ai).1.symm
 have e1:(xs:List (List bG))=bO n:=by rw[(kA<|lN.2 ai).2.1,hs,show j=n.toNat from by omega];rfl
 have e2:(0:Int)=ka n:=by exact(kA<|lN.2 ai).2.2.symm
 have bF:=wE (fun (cK:Int) (fI:List (List bG)) (jE:Int)=>(.tuple #[.agg #[U cK,.slice a0 fI.length c0],U jE]:Value)) e0 e1 e2
 exact⟨a0,c0,bF,H5.below,(alB (fun (x_:List (List bG))=>bm _ _ _ x_ (.slice a0 x_.length c0) _) e1).mp (H5.cB 0 J)⟩
theorem pS (hM:ei M w) (fL:aN mn) (eO:cP M w aU aT mr) (nt:aN i) (Bm:aN j) (HA:((mr.length:Nat):Int)=mn) (B7:∀x∈mr,x.length≤1000000000) (HD:mn≤4096):Calls aX 36 #[.agg #[U mn,sL aU mr aT],U i,U j] w (cZ fun v w'=>∃(a0:OA) (c0:Nat),v=.tuple #[.agg #[U (dP mn i j),.slice a0 (bL mn mr i j).length c0],U (iH mn i j)]∧Ext w w'∧bm M 115 w (bL mn mr i j) (.slice a0 (bL mn mr i j).length c0) w'):=by
 refine dK 32 Tryz.func36 J J J hM fun f0 ha H=>?_
 have H0:=cj H eO
 have i0:f0 0=.agg #[U mn,sL aU mr aT]:=ha 0 bH
 have i1:f0 1=U i:=ha 1 bH
 have i2:f0 2=U j:=ha 2 bH
 refine aH<|k<|bx H0 J i0 ?_
 intro aK w0 dt (H1:HI M w w0 [box aK #[U mn,sL aU mr aT] 68,iL aU mr aT])
 refine k<|al H1 bh ?_
 let bC:=[box aK #[U mn,sL aU mr aT] 68,iL aU mr aT]
 intro aW w1 cR (H2:HI M w w1 (box aW #[U 0,.slice none 0 0] 68::bC))
 refine aj (v:=U 0) J J<|aG<|sq<|aH<|k<|cg H2 1 J bh J J aJ J<|ak J i1<|ak J i2<|k ?_
 have cx:=IK (mn:=mn) (i:=i) (j:=j) (KL:=aU) (I3:=mr.length) (Kv:=aT) (w:=w1) fL nt Bm
 refine ca aaM J (ec J<|ec J<|ec J e0) cx ?_
 rintro _ w2 ⟨rfl,d_⟩
 have H3:=H2.ext d_
 refine k<|kc J J<|z<|nx<|cd (b:=!(mH mn [i,j])) J J (fun b0=>?_)<|fun b0=>?_
 ·
  refine sq ?_
  have hq:mH mn [i,j]=false:=by simpa using b0
  refine rg<|k<|bd (v:=.agg #[U 0,.slice none 0 0]) J eo (fun _=>bu)<|k<|cz H3 0 J bh J J J J J J J ?_
  intro w3 (H4:HI M w w3 (box aW #[U 0,.slice none 0 0] 68::bC))
  refine aj (v:=U 1) J J<|aG<|rt<|aS<|iS H4 0 J bh J J J J J aJ ?_
  have e0:(0:Int)=dP mn i j:=by exact(Ix (rs:=mr) hq).1.symm
  have e1:([]:List (List bG))=bL mn mr i j:=by exact(Ix (rs:=mr) hq).2.1.symm
  have e2:(1:Int)=iH mn i j:=by exact(Ix (rs:=mr) hq).2.2.symm
  have bF:=wE (fun (cK:Int) (fI:List (List bG)) (jE:Int)=>(.tuple #[.agg #[U cK,.slice none fI.length 0],U jE]:Value)) e0 e1 e2
  exact⟨none,0,bF,H4.below,(alB (fun (x_:List (List bG))=>bm _ _ _ x_ (.slice none x_.length 0) _) e1).mp (gQ H4.below)⟩
 refine sk<|nx<|sq ?_
 have hq:mH mn [i,j]=true:=by simpa using b0
 have hr:=jC.1 hq
 refine rg<|k<|bs (xs:=([]:List (List bG))) (cells:=#[]) (e:=115) H3 J eo (fun _=>bu) J J aJ ?_
 intro g0 w3 eG H4
 refine bo iW J J<|bR H4 2 J l8 J J J<|k<|kE H4 0 J J J J J J (H4.rv 3 J).src iY eJ J (by simp;omega) J ?_
 let dk:=box aW #[U 0,.slice none 0 0] 68::bC
 intro a0 c0 w4 (H5:HI M w w4 (oL w 115 a0 mr c0::dk))
 refine aj (v:=sL a0 mr c0) J J<|cU<|ak (v:=sL a0 mr c0) J J<|ak J i1<|ak (v:=sL a0 mr c0) J J<|ak J i1<|k<|jh (H5.at_ 0 J) J J J J ai iY eJ ?_
 intro g1 x0 iC aq cN
 refine k<|vR cN eJ J J ?_
 intro a1 c1 cL
 have H6:=cj H5 cL
 refine ak J i2<|k ?_
 have eF:=PU (r:=x0) (i:=j) H6.mb (H6.rv 0 J) Bm<|by exact B7 _ (eh aq)
 refine ca af5 J (ec J<|ec J e0) eF ?_
 rintro _ w5 ⟨a2,c2,rfl,eI,eQ⟩
 have H7:=H6.ic eQ
 refine k<|jh (H7.at_ 2 J) J J J J ai iY eJ ?_
 intro g2 x1 lZ cw eU
 refine k ?_
 have H8:=H7.freeze 0 J
 refine rO H8 2 J lZ J ai eJ J J J J (H8.rv 0 J) ?_
 intro w6 (H9:HI M w w6 (iL a2 (ej x0 j) c2::iL a1 x0 c1::own w.heap.size 115 (.slice a0 mr.length c0) (mr.set i.toNat (ej x0 j))::dk))
 refine cU<|bo gm J J<|bR H9 4 J aQ J J J<|ak (v:=sL a0 mr c0) J J<|k<|bd (v:=.agg #[U mn,sL a0 mr c0]) J (ct J<|ct J eo) (fun _=>bu)<|k<|cz H9 3 J bh J J J J J J J ?_
 intro w7 (db:HI M w w7 (iL a2 (ej x0 j) c2::iL a1 x0 c1::own w.heap.size 115 (.slice a0 mr.length c0) (mr.set i.toNat (ej x0 j))::box aW #[U mn,sL a0 mr c0] 68::bC))
 refine aj (v:=U 0) J J<|aG<|rt<|iS db 3 J bh J J J J J aJ ?_
 have e0:(mn:Int)=dP mn i j:=by exact(jx (rs:=mr) hq).1.symm
 have e1:(mr.set i.toNat (ej x0 j):List (List bG))=bL mn mr i j:=by rw[(jx (rs:=mr) hq).2.1];exact E3 aq
 have l1:mr.length=(bL mn mr i j).length:=by rw[←e1];simp
 have e2:(0:Int)=iH mn i j:=by exact(jx (rs:=mr) hq).2.2.symm
 have bF:=wE (fun (cK:Int) (yp:Nat) (jE:Int)=>(.tuple #[.agg #[U cK,.slice a0 yp c0],U jE]:Value)) e0 l1 e2
 exact⟨a0,c0,bF,db.below,(alB (fun (n_:Nat)=>bm _ _ _ (bL mn mr i j) (.slice a0 n_ c0) _) l1).mp ((alB (fun (x_:List (List bG))=>bm _ _ _ x_ (.slice a0 mr.length c0) _) e1).mp (db.cB 2 J))⟩
theorem mm (hM:ei M w) (fL:aN mn) (eO:cP M w aU aT mr) (nt:aN i) (Bm:aN j) (HA:((mr.length:Nat):Int)=mn) (B7:∀x∈mr,x.length≤1000000000) (HD:mn≤4096):Calls aX 75 #[.agg #[U mn,sL aU mr aT],U i,U j] w (cZ fun v w'=>v=.bool (dG mn mr i j)∧Ext w w'):=by
 refine dK 20 Tryz.func75 J J J hM fun f0 ha H=>?_
 have H0:=cj H eO
 have i0:f0 0=.agg #[U mn,sL aU mr aT]:=ha 0 bH
 have i1:f0 1=U i:=ha 1 bH
 have i2:f0 2=U j:=ha 2 bH
 refine aH<|k<|bx H0 J i0 ?_
 intro aK w0 dt (H1:HI M w w0 [box aK #[U mn,sL aU mr aT] 68,iL aU mr aT])
 refine aj (v:=.bool false) J J<|cU<|k<|cg H1 0 J bh J J aJ J<|ak J i1<|ak J i2<|k ?_
 have cx:=IK (mn:=mn) (i:=i) (j:=j) (KL:=aU) (I3:=mr.length) (Kv:=aT) (w:=w0) fL nt Bm
 refine ca aaM J (ec J<|ec J<|ec J e0) cx ?_
 rintro _ w1 ⟨rfl,cR⟩
 have H2:=H1.ext cR
 refine ak (v:=.bool (mH mn [i,j])) J J ?_
 rcases bE (mH mn [i,j]) with b0|b0
 ·
  refine aM J J J b0<|fa iW J J<|aM J J J b0<|lx H2 0 J l8 J J J<|aM J J J b0<|mv J i1<|aM J J J b0<|ia (H2.rv 1 J) J J J J (by have hr:=jC.1 b0;omega) iY eJ ?_
  intro fz x0 aq cN
  refine aM J J J b0<|vR cN.w eJ J J ?_
  intro a0 c0 cL
  have H3:=cj H2 cL
  refine aM J J J b0<|mv J i2<|aM J J J b0 ?_
  have eF:=AK (r:=x0) (i:=j) H3.mb (H3.rv 0 J) Bm<|by exact B7 _ (eh aq)
  refine ca OL J (ec J<|ec J e0) eF ?_
  rintro _ w2 ⟨rfl,d_⟩
  have H4:=H3.ext d_
  refine k<|ba J J J J b0 J<|aj (v:=.bool (fU x0 j)) J J<|aG<|rt<|r1 J J ?_
  exact⟨alB Value.bool (by unfold dG;first|(rw[oK aq,b0];rfl)|(rw[b0];rfl)),H4.below⟩
 refine aD J J J b0<|aD J J J b0<|aD J J J b0<|aD J J J b0<|aD J J J b0<|aD J J J b0<|aD J J J b0<|k<|bc J J J J b0 J<|aj (v:=.bool false) J J<|aG<|rt<|r1 J J ?_
 exact⟨alB Value.bool (by unfold dG;first|(rw[oK aq,b0];rfl)|(rw[b0];rfl)),H2.below⟩
theorem Lh (hM:ei M w) (fL:aN mn) (eO:cP M w aU aT mr) (HA:((mr.length:Nat):Int)=mn) (B7:∀x∈mr,x.length≤1000000000) (HD:mn≤4096) (u9:∀x∈mr,x.length≤64):Calls aX 104 #[.agg #[U mn,sL aU mr aT]] w (cZ fun v w'=>∃(a0:OA) (c0:Nat),v=.slice a0 (cW mn mr).length c0∧Ext w w'∧RV M w' (.slice a0 (cW mn mr).length c0) (cW mn mr)):=by
 refine dK 35 Tryz.func104 J J J hM fun f0 ha H=>?_
 have H0:=cj H eO
 have lu:=bN eO
 have i0:f0 0=.agg #[U mn,sL aU mr aT]:=ha 0 bH
 refine aH<|k<|bx H0 J i0 ?_
 intro aK w0 dt (H1:HI M w w0 [box aK #[U mn,sL aU mr aT] 68,iL aU mr aT])
 refine aj (v:=.slice none 0 0) J J<|cU<|aj (v:=.slice none 0 0) J J<|aG<|sq<|aH<|aj (v:=U 0) J J<|aG<|bk ?_
 have H2:=H1.ke (Int×Int) 135
 let bC:=[box aK #[U mn,sL aU mr aT] 68,iL aU mr aT]
 refine lp (fun m f w'=>∃(i:Nat) (xs:List (Int×Int)) (a0:OA) (c0:Nat),m=mn.toNat-i∧f 1=pV aK 0∧f 3=sL a0 xs c0∧f 4=U (i:Int)∧HI M w w' (oL w 135 a0 xs c0::bC)∧(((i:Nat):Int)≤mn∨i=0)∧(xs=j5 mr i)) _ ⟨0,([]:List (Int×Int)),none,0,J,J,J,(bJ J),H2,(by right;rfl),(by rfl)⟩ ?_
 rintro _ f0 w1 ⟨i,xs,a0,c0,rfl,s0,s1,s2,H3,yI,hs⟩
 refine sq<|aH<|ak J s2<|bo gm J s0<|bR H3 1 J aQ J J J<|k<|lss J J J J<|z<|nx<|cd (b:=decide ((i:Int)<mn)) J J (fun b0=>?_)<|fun b0=>?_
 ·
  have p0:=dT b0
  refine sk<|nx<|sq<|bk<|aH<|bo iW J s0<|bR H3 1 J l8 J J J<|ak J s2<|k<|ia (H3.rv 2 J) J J J J ai iY eJ ?_
  intro fz x0 aq cN
  refine k<|vR cN.w eJ J J ?_
  intro a1 c1 cL
  have Ve:=bN cL
  have H4:=cj H3 cL
  refine k ?_
  have cx:=NL (r:=x0) H4.mb (H4.rv 0 J)<|by have h_:=u9 _ (eh aq);omega
  refine ca ado J (ec J e0) cx ?_
  rintro _ w2 ⟨a2,c2,rfl,cR,eQ⟩
  have H5:=H4.ic eQ
  refine aj (v:=sL a2 (fH x0) c2) J J<|cU<|aj (v:=U 0) J J<|aG<|bk<|lp (fun m f w'=>∃(q:Nat) (qU:List (Int×Int)) (a3:OA) (c3:Nat),m=(fH x0).length-q∧f 1=pV aK 0∧f 3=sL a3 qU c3∧f 4=U (i:Int)∧f 5=sL a2 (fH x0) c2∧f 6=U (q:Int)∧HI M w w' (oL w 3 a2 (fH x0) c2::iL a1 x0 c1::oL w 135 a3 qU c3::bC)∧(q≤(fH x0).length)∧(qU=j5 mr i++((fH x0).take q).map fun j=>(((i:Nat):Int),j))) _ ⟨0,xs,a0,c0,J,s0,s1,s2,J,(bJ J),H5,ai,(by rw[hs];simp)⟩ ?_
  rintro _ f1 w3 ⟨q,qU,a3,c3,rfl,s3,s4,s5,s6,s7,H6,jw,gM⟩
  refine sq<|aH<|ak J s7<|ak J s6<|k<|ep J J cY<|k<|lss J J J J<|z<|nx<|cd (b:=decide ((q:Int)<((fH x0).length:Int))) J J (fun b1=>?_)<|fun b1=>?_
  ·
   have p1:=dT b1
   refine sk<|nx<|sq<|bk<|rg<|ak J s4<|ak J s5<|ak J s6<|ak J s7<|k<|jh (H6.at_ 0 J) J J J J ai cY aQ ?_
   intro g0 x1 iC cw eU
   refine k<|kB eU aQ J J ?_
   intro gh
   refine k<|bd (v:=.agg #[U (i:Int),U x1]) J (ct J<|ct J eo) (fun _=>bu)<|k<|bs (xs:=([((i:Int),x1)]:List (Int×Int))) (cells:=#[U (i:Int),U x1]) (e:=135) H6 J (ct J eo) (fun _=>bu) ⟨[U (i:Int),U x1],[],J,⟨_,_,J,⟨J,(show aN ((i:Int)) from aY)⟩,⟨J,(show aN (x1) from aY)⟩⟩,J⟩ J aJ ?_
   intro g1 w4 d_ H7
   refine k<|kE H7 3 J J J J J J (fD<|H7.at_ 0 J) u0 tJ J (by have VL:=xJ u9 i;have wm:=pX x0;have VK:=u9 _ (eh aq);rw[gM,im,aml,lY];simp only[jv,gW];omega) J ?_
   intro a4 c4 w5 (H8:HI M w w5 (own w.heap.size 135 (.slice (some ⟨g1,0,none⟩) 1 1) ([((i:Int),x1)]:List (Int×Int))::oL w 3 a2 (fH x0) c2::iL a1 x0 c1::oL w 135 a4 (qU++([((i:Int),x1)]:List (Int×Int))) c4::bC))
   refine aj (v:=sL a4 (qU++([((i:Int),x1)]:List (Int×Int))) c4) J J<|z<|aF<|nx<|rg<|ak J s7<|k<|add J J J J (by have wm:=pX x0;have VK:=u9 _ (eh aq);unfold aN;omega)<|aj (v:=U ((q:Int)+1)) J J<|z ?_
   have H9:HI M w w5 (oL w 3 a2 (fH x0) c2::iL a1 x0 c1::oL w 135 a4 (qU++([((i:Int),x1)]:List (Int×Int))) c4::bC):=H8.c_ [1,2,3,4,5] aJ J
   refine bD _ ?_ ⟨(q+1),(qU++([((i:Int),x1)]:List (Int×Int))),a4,c4,J,s3,J,s5,s6,(bJ J),H9,ai,(by rw[gM];exact GA cw)⟩
   omega
  have p1:=dF b1
  refine ex<|bg<|bt<|bz<|aF<|nx<|rg<|ak J s5<|k<|add J J J J aY<|aj (v:=U ((i:Int)+1)) J J<|z ?_
  have H7:HI M w w3 (oL w 135 a3 qU c3::bC):=H6.c_ [2,3,4] aJ J
  refine bD _ ?_ ⟨(i+1),qU,a3,c3,J,s3,s4,(bJ J),H7,(by left;omega),(by rw[gM];exact IP aq ai)⟩
  omega
 have p0:=dF b0
 refine ex<|bg<|bt<|bz<|dM<|ak J s1<|aj (v:=sL a0 xs c0) J J<|aG<|rt<|r1 J J ?_
 have e0:(xs:List (Int×Int))=cW mn mr:=by rw[hs];exact Gz ai ai
 have bF:=fu (fun (cK:List (Int×Int))=>(.slice a0 cK.length c0:Value)) e0
 exact⟨a0,c0,bF,H3.below,(alB (fun (x_:List (Int×Int))=>RV _ _ (.slice a0 x_.length c0) x_) e0).mp (H3.dV 0 J)⟩
theorem Tc (hM:ei M w) (afL:aN an) (JP:cP M w ft fm ar) (afK:aN bn) (JM:cP M w fq fl br) (acT:((ar.length:Nat):Int)=an) (Oo:∀x∈ar,x.length≤1000000000) (acZ:an≤4096) (acS:((br.length:Nat):Int)=bn) (On:∀x∈br,x.length≤1000000000) (acY:bn≤4096):Calls aX 98 #[.agg #[U an,sL ft ar fm],.agg #[U bn,sL fq br fl]] w (cZ fun v w'=>∃(a0:OA) (c0:Nat),v=.tuple #[.agg #[U (j1 an bn),.slice a0 (ga an ar bn br).length c0],U (nY an bn)]∧Ext w w'∧bm M 115 w (ga an ar bn br) (.slice a0 (ga an ar bn br).length c0) w'):=by
 refine dK 40 Tryz.func98 J J J hM fun f0 ha H=>?_
 have H0:=cj H JP
 have H1:=cj H0 JM
 have acK:=bN JP
 have acJ:=bN JM
 have i0:f0 0=.agg #[U an,sL ft ar fm]:=ha 0 bH
 have i1:f0 1=.agg #[U bn,sL fq br fl]:=ha 1 bH
 refine aH<|k<|bx H1 J i0 ?_
 let bC:=[iL fq br fl,iL ft ar fm]
 intro aK w0 dt (H2:HI M w w0 (box aK #[U an,sL ft ar fm] 68::bC))
 refine k<|bx H2 J i1 ?_
 let dk:=box aK #[U an,sL ft ar fm] 68::bC
 intro aW w1 cR (H3:HI M w w1 (box aW #[U bn,sL fq br fl] 68::dk))
 refine k<|al H3 bh ?_
 let dv:=box aW #[U bn,sL fq br fl] 68::dk
 intro bj w2 d_ (H4:HI M w w2 (box bj #[U 0,.slice none 0 0] 68::dv))
 refine aj (v:=U 0) J J<|aG<|sq<|aH<|bo gm J J<|bR H4 2 J aQ J J J<|bo gm J J<|bR H4 1 J aQ J J J<|k<|neq J J J J<|z<|nx<|cd (b:=!decide (an=bn)) J J (fun b0=>?_)<|fun b0=>?_
 ·
  have p0:=dF<|fE b0
  refine aH<|k<|bd (v:=.agg #[U 0,.slice none 0 0]) J eo (fun _=>bu)<|k<|cz H4 0 J bh J J J J J J J ?_
  intro w3 (H5:HI M w w3 (box bj #[U 0,.slice none 0 0] 68::dv))
  refine aj (v:=U 1) J J<|aG<|rt<|aS<|iS H5 0 J bh J J J J J aJ ?_
  have e0:(0:Int)=j1 an bn:=by exact(yg (ar:=ar) (br:=br) p0).1.symm
  have e1:([]:List (List bG))=ga an ar bn br:=by exact(yg p0).2.1.symm
  have e2:(1:Int)=nY an bn:=by exact(yg (ar:=ar) (br:=br) p0).2.2.symm
  have bF:=wE (fun (cK:Int) (fI:List (List bG)) (jE:Int)=>(.tuple #[.agg #[U cK,.slice none fI.length 0],U jE]:Value)) e0 e1 e2
  exact⟨none,0,bF,H5.below,(alB (fun (x_:List (List bG))=>bm _ _ _ x_ (.slice none x_.length 0) _) e1).mp (gQ H5.below)⟩
 have p0:=dT<|fF b0
 refine sk<|dM<|bo gm J J<|bR H4 2 J aQ J J J<|k<|bd (v:=.agg #[U an,.slice none 0 0]) J (ct J eo) (fun _=>bu)<|k<|al H4 bh ?_
 let dD:=box bj #[U 0,.slice none 0 0] 68::dv
 intro dI w3 eG (H5:HI M w w3 (box dI #[U 0,.slice none 0 0] 68::dD))
 refine k<|cz H5 0 J bh J J J J J J J ?_
 intro w4 (H6:HI M w w4 (box dI #[U an,.slice none 0 0] 68::dD))
 refine aG<|sq<|aH<|aj (v:=U 0) J J<|aG<|bk ?_
 have H7:=H6.ke (List bG) 115
 refine lp (fun m f w'=>∃(j:Nat) (xs:List (List bG)) (a0:OA) (c0:Nat),m=an.toNat-j∧f 2=pV aK 0∧f 3=pV aW 0∧f 4=pV bj 0∧f 6=pV dI 0∧f 7=U (j:Int)∧HI M w w' (oL w 115 a0 xs c0::box dI #[U an,sL a0 xs c0] 68::dD)∧(j≤an.toNat)∧(xs=tm ar br j)) _ ⟨0,([]:List (List bG)),none,0,J,J,J,J,J,(bJ J),H7,ai,(by rfl)⟩ ?_
 rintro _ f0 w5 ⟨j,xs,a0,c0,rfl,s0,s1,s2,s3,s4,H8,hk,hs⟩
 refine sq<|aH<|ak J s4<|bo gm J s0<|bR H8 4 J aQ J J J<|k<|lss J J J J<|z<|nx<|cd (b:=decide ((j:Int)<an)) J J (fun b1=>?_)<|fun b1=>?_
 ·
  have p1:=dT b1
  refine sk<|nx<|sq<|bk ?_
  obtain⟨x0,aq⟩:∃x,ar[(j:Int).toNat]? =some x:=⟨_,dW ai⟩
  obtain⟨x1,cw⟩:∃x,br[(j:Int).toNat]? =some x:=⟨_,dW ai⟩
  refine dr 14 [eV (pV dI 1),eV (sL a0 xs c0),eV (pV aK 1),eV (sL ft ar fm),eV (U (j:Int)),fun v w'=>∃(fz:Addr),v=.pointer (some fz)∧At (MS M [oL w 115 a0 xs c0,box dI #[U an,sL a0 xs c0] 68,box bj #[U 0,.slice none 0 0] 68,box aW #[U bn,sL fq br fl] 68,box aK #[U an,sL ft ar fm] 68,iL fq br fl,iL ft ar fm]) w' fz x0,fun v w'=>∃(a1:OA) (c1:Nat),v=sL a1 x0 c1∧RV (MS M [oL w 115 a0 xs c0,box dI #[U an,sL a0 xs c0] 68,box bj #[U 0,.slice none 0 0] 68,box aW #[U bn,sL fq br fl] 68,box aK #[U an,sL ft ar fm] 68,iL fq br fl,iL ft ar fm]) w' (sL a1 x0 c1) x0,eV (pV aW 1),eV (sL fq br fl),eV (U (j:Int)),fun v w'=>∃(iG:Addr),v=.pointer (some iG)∧At (MS M [oL w 115 a0 xs c0,box dI #[U an,sL a0 xs c0] 68,box bj #[U 0,.slice none 0 0] 68,box aW #[U bn,sL fq br fl] 68,box aK #[U an,sL ft ar fm] 68,iL fq br fl,iL ft ar fm]) w' iG x1,fun v w'=>∃(a2:OA) (c2:Nat),v=sL a2 x1 c2∧RV (MS M [oL w 115 a0 xs c0,box dI #[U an,sL a0 xs c0] 68,box bj #[U 0,.slice none 0 0] 68,box aW #[U bn,sL fq br fl] 68,box aK #[U an,sL ft ar fm] 68,iL fq br fl,iL ft ar fm]) w' (sL a2 x1 c2) x1,fun v w'=>∃(a3:OA) (c3:Nat),v=sL a3 (fZ x0 x1) c3∧RV (MS M [oL w 115 a0 xs c0,box dI #[U an,sL a0 xs c0] 68,box bj #[U 0,.slice none 0 0] 68,box aW #[U bn,sL fq br fl] 68,box aK #[U an,sL ft ar fm] 68,iL fq br fl,iL ft ar fm]) w' (sL a3 (fZ x0 x1) c3) (fZ x0 x1),fun v w'=>∃(a4:OA) (c4:Nat),v=sL a4 ([fZ x0 x1]:List (List bG)) c4∧RV (MS M [oL w 115 a0 xs c0,box dI #[U an,sL a0 xs c0] 68,box bj #[U 0,.slice none 0 0] 68,box aW #[U bn,sL fq br fl] 68,box aK #[U an,sL ft ar fm] 68,iL fq br fl,iL ft ar fm]) w' (sL a4 ([fZ x0 x1]:List (List bG)) c4) ([fZ x0 x1]:List (List bG))] J bu ?_ ?_
  ·
   refine dc (fun _ _ kC _ _=>fa iW J ((kC 6 J).trans s3)<|d0 J J)<|dc (fun _ _ _ je oW=>lx (H8.ext je) 1 J l8 J (oW 0 J J) J<|d0 J J)<|dc (fun _ _ l4 _ _=>fa iW J ((l4 2 J).trans s0)<|d0 J J)<|dc (fun _ _ _ jD lP=>lx (H8.ext jD) 4 J l8 J (lP 2 J J) J<|d0 J J)<|dc (fun _ _ re _ _=>mv J ((re 7 J).trans s4)<|d0 J J) ?_
   refine⟨fun _=>⟨fun f6 ju ns j0 j8=>?_,by rintro _ _ _ x_ ⟨fz,e_,cN⟩;exact⟨fz,e_,cN.lift (Up.ext x_)⟩⟩,?_⟩
   ·
    have gI:=H8.ext j0
    have s7:f6 26=sL ft ar fm:=j8 3 J J
    have s8:f6 27=U (j:Int):=j8 4 J J
    refine ia (gI.rv 6 J) J J s7 s8 ai iY eJ ?_
    intro kX x2 dR gJ
    obtain rfl:x0=x2:=alD (aq.symm.trans dR)
    exact⟨_,J,Ext.refl _,⟨kX,J,gJ⟩⟩
   refine⟨fun _=>⟨fun f7 jK rb kb kj=>?_,by rintro _ _ _ x_ ⟨a1,c1,e_,cL⟩;exact⟨a1,c1,e_,cL.lift (Up.ext x_)⟩⟩,?_⟩
   ·
    have kO:=H8.ext kb
    obtain⟨jc,s9,km⟩:∃(jc:Addr),f7 28=.pointer (some jc)∧At (MS M [oL w 115 a0 xs c0,box dI #[U an,sL a0 xs c0] 68,box bj #[U 0,.slice none 0 0] 68,box aW #[U bn,sL fq br fl] 68,box aK #[U an,sL ft ar fm] 68,iL fq br fl,iL ft ar fm]) jK jc x0:=kj 5 rfl rfl
    have lK:=kO.put (it:=lq jc x0) J km
    refine vR (lK.wK 0 J).w eJ J s9 ?_
    intro a5 c5 gl
    exact⟨_,J,Ext.refl _,⟨a5,c5,J,(gY J gl)⟩⟩
   refine dc (fun _ _ qa _ _=>fa iW J ((qa 3 J).trans s1)<|d0 J J)<|dc (fun _ _ _ qL jj=>lx (H8.ext qL) 3 J l8 J (jj 7 J J) J<|d0 J J)<|dc (fun _ _ r6 _ _=>mv J ((r6 7 J).trans s4)<|d0 J J) ?_
   refine⟨fun _=>⟨fun f11 jX mg oG iz=>?_,by rintro _ _ _ x_ ⟨iG,e_,eU⟩;exact⟨iG,e_,eU.lift (Up.ext x_)⟩⟩,?_⟩
   ·
    have kt:=H8.ext oG
    have ew:f11 31=sL fq br fl:=iz 8 J J
    have eE:f11 32=U (j:Int):=iz 9 J J
    refine ia (kt.rv 5 J) J J ew eE ai iY eJ ?_
    intro sK x3 gX oD
    obtain rfl:x1=x3:=alD (cw.symm.trans gX)
    exact⟨_,J,Ext.refl _,⟨sK,J,oD⟩⟩
   refine⟨fun _=>⟨fun f12 kJ pq tc jI=>?_,by rintro _ _ _ x_ ⟨a2,c2,e_,eQ⟩;exact⟨a2,c2,e_,eQ.lift (Up.ext x_)⟩⟩,?_⟩
   ·
    have lJ:=H8.ext tc
    obtain⟨kG,fc,qe⟩:∃(kG:Addr),f12 33=.pointer (some kG)∧At (MS M [oL w 115 a0 xs c0,box dI #[U an,sL a0 xs c0] 68,box bj #[U 0,.slice none 0 0] 68,box aW #[U bn,sL fq br fl] 68,box aK #[U an,sL ft ar fm] 68,iL fq br fl,iL ft ar fm]) kJ kG x1:=jI 10 rfl rfl
    have kH:=lJ.put (it:=lq kG x1) J qe
    refine vR (kH.wK 0 J).w eJ J fc ?_
    intro a6 c6 lk
    exact⟨_,J,Ext.refl _,⟨a6,c6,J,(gY J lk)⟩⟩
   refine⟨fun _=>⟨fun f13 ow wb vq kg=>?_,by rintro _ _ _ x_ ⟨a3,c3,e_,fQ⟩;exact⟨a3,c3,e_,fQ.lift (Up.ext x_)⟩⟩,?_⟩
   ·
    have sh:=H8.ext vq
    obtain⟨a7,c7,fJ,lM⟩:∃(a7:OA) (c7:Nat),f13 29=sL a7 x0 c7∧RV (MS M [oL w 115 a0 xs c0,box dI #[U an,sL a0 xs c0] 68,box bj #[U 0,.slice none 0 0] 68,box aW #[U bn,sL fq br fl] 68,box aK #[U an,sL ft ar fm] 68,iL fq br fl,iL ft ar fm]) ow (sL a7 x0 c7) x0:=kg 6 rfl rfl
    have BV:=cj sh lM
    obtain⟨a8,c8,fw,ml⟩:∃(a8:OA) (c8:Nat),f13 34=sL a8 x1 c8∧RV (MS M [oL w 115 a0 xs c0,box dI #[U an,sL a0 xs c0] 68,box bj #[U 0,.slice none 0 0] 68,box aW #[U bn,sL fq br fl] 68,box aK #[U an,sL ft ar fm] 68,iL fq br fl,iL ft ar fm]) ow (sL a8 x1 c8) x1:=kg 11 rfl rfl
    have qJ:=cj BV ml
    have eF:=Td (a:=x0) (b:=x1) qJ.mb (qJ.rv 1 J) (qJ.rv 0 J) (by exact Oo _ (eh aq))<|by exact On _ (eh cw)
    refine ca adq J (ec fJ<|ec fw e0) eF ?_
    rintro _ kv ⟨a9,c9,rfl,qK,kK⟩
    have lD:=bm.rv kK qJ.mb
    exact⟨_,J,qK,⟨a9,c9,J,(gY J<|gY J lD)⟩⟩
   refine⟨fun _=>⟨fun f14 nU qb vo uL=>?_,by rintro _ _ _ x_ ⟨a4,c4,e_,gG⟩;exact⟨a4,c4,e_,gG.lift (Up.ext x_)⟩⟩,?_⟩
   ·
    have BU:=H8.ext vo
    obtain⟨lI,lH,fX,mZ⟩:∃(lI:OA) (lH:Nat),f14 35=sL lI (fZ x0 x1) lH∧RV (MS M [oL w 115 a0 xs c0,box dI #[U an,sL a0 xs c0] 68,box bj #[U 0,.slice none 0 0] 68,box aW #[U bn,sL fq br fl] 68,box aK #[U an,sL ft ar fm] 68,iL fq br fl,iL ft ar fm]) nU (sL lI (fZ x0 x1) lH) (fZ x0 x1):=uL 12 rfl rfl
    have uB:=cj BU mZ
    refine bs (xs:=([fZ x0 x1]:List (List bG))) (cells:=#[sL lI (fZ x0 x1) lH]) (e:=115) uB J (ct fX eo) (fun _=>bu) ⟨[sL lI (fZ x0 x1) lH],[],J,⟨_,J,RV.list.1 (uB.rv 0 J)⟩,J⟩ J aJ ?_
    intro g1 ov HW (sZ:HI M w ov (own w.heap.size 115 (.slice (some ⟨g1,0,none⟩) 1 1) ([fZ x0 x1]:List (List bG))::iL lI (fZ x0 x1) lH::oL w 115 a0 xs c0::box dI #[U an,sL a0 xs c0] 68::dD))
    have sP:=sZ.freeze 0 J
    exact⟨_,J,HW,⟨(some ⟨g1,0,none⟩),1,J,(gY J<|gY J<|sP.rv 0 J)⟩⟩
   exact gp.rest J _
  ·
   intro f15 pL Bc Ap xO
   have lS:=H8.ext Ap
   have gF:=(Bc 2 J).trans s0
   have gL:=(Bc 3 J).trans s1
   have gE:=(Bc 4 J).trans s2
   have jg:=(Bc 6 J).trans s3
   have kU:=(Bc 7 J).trans s4
   have oA:=xO 1 J
   obtain⟨pI,pF,pw,pP⟩:∃(pI:OA) (pF:Nat),f15 36=sL pI ([fZ x0 x1]:List (List bG)) pF∧RV (MS M [oL w 115 a0 xs c0,box dI #[U an,sL a0 xs c0] 68,box bj #[U 0,.slice none 0 0] 68,box aW #[U bn,sL fq br fl] 68,box aK #[U an,sL ft ar fm] 68,iL fq br fl,iL ft ar fm]) pL (sL pI ([fZ x0 x1]:List (List bG)) pF) ([fZ x0 x1]:List (List bG)):=xO 13 rfl
   have sO:=cj lS pP
   refine k<|kE sO 1 J J J J oA pw (sO.rv 0 J).src iY eJ J (by rw[hs,C_];simp only[jv,gW];omega) J ?_
   intro a12 qH nL (sY:HI M w nL (iL pI ([fZ x0 x1]:List (List bG)) pF::oL w 115 a12 (xs++([fZ x0 x1]:List (List bG))) qH::box dI #[U an,sL a0 xs c0] 68::dD))
   refine bo iW J jg<|k<|cz sY 2 J l8 J J J J J J J ?_
   let jO:=oL w 115 a12 (xs++([fZ x0 x1]:List (List bG))) qH::box dI #[U an,sL a12 (xs++([fZ x0 x1]:List (List bG))) qH] 68::dD
   intro xX (BT:HI M w xX (iL pI ([fZ x0 x1]:List (List bG)) pF::jO))
   refine z<|aF<|nx<|rg<|ak J kU<|k<|add J J J J aY<|aj (v:=U ((j:Int)+1)) J J<|z ?_
   have sN:HI M w xX jO:=BT.c_ [1,2,3,4,5,6,7] aJ J
   refine bD _ ?_ ⟨(j+1),(xs++([fZ x0 x1]:List (List bG))),a12,qH,J,gF,gL,gE,jg,(bJ J),sN,ai,(by rw[hs,GB,oK aq,oK cw])⟩
   omega
 have p1:=dF b1
 refine ex<|bg<|bt<|bz<|dM<|k<|cg H8 1 J bh J s3 aJ J<|k<|cz H8 2 J bh J J s2 J J J J ?_
 intro w6 (H9:HI M w w6 (oL w 115 a0 xs c0::box dI #[U an,sL a0 xs c0] 68::box bj #[U an,sL a0 xs c0] 68::dv))
 refine aj (v:=U 0) J J<|aG<|rt<|iS H9 2 J bh J J J s2 J aJ ?_
 have e0:(an:Int)=j1 an bn:=by exact(rT (ar:=ar) (br:=br) p0).1.symm
 have e1:(xs:List (List bG))=ga an ar bn br:=by rw[(rT p0).2.1,hs,show j=an.toNat from by omega]
 have e2:(0:Int)=nY an bn:=by exact(rT (ar:=ar) (br:=br) p0).2.2.symm
 have bF:=wE (fun (cK:Int) (fI:List (List bG)) (jE:Int)=>(.tuple #[.agg #[U cK,.slice a0 fI.length c0],U jE]:Value)) e0 e1 e2
 exact⟨a0,c0,bF,H9.below,(alB (fun (x_:List (List bG))=>bm _ _ _ x_ (.slice a0 x_.length c0) _) e1).mp (H9.cB 0 J)⟩
theorem DZ (hM:ei M w) (fL:aN mn) (eO:cP M w aU aT mr) (HA:((mr.length:Nat):Int)=mn) (B7:∀x∈mr,x.length≤1000000000) (HD:mn≤4096):Calls aX 72 #[.agg #[U mn,sL aU mr aT]] w (cZ fun v w'=>v=.tuple #[U (((eC mn mr).getD 0:Nat):Int),.bool ((eC mn mr).isSome)]∧Ext w w'):=by
 refine dK 16 Tryz.func72 J J J hM fun f0 ha H=>?_
 have H0:=cj H eO
 have lu:=bN eO
 have i0:f0 0=.agg #[U mn,sL aU mr aT]:=ha 0 bH
 refine aH<|k<|bx H0 J i0 ?_
 intro aK w0 dt (H1:HI M w w0 [box aK #[U mn,sL aU mr aT] 68,iL aU mr aT])
 refine aj (v:=U 0) J J<|aj (v:=.bool false) J J<|aG<|sq<|aH<|aj (v:=U 0) J J<|aG<|bk<|lp (fun m f w'=>∃(j:Nat),m=mn.toNat-j∧f 1=pV aK 0∧f 4=U (j:Int)∧HI M w w' [box aK #[U mn,sL aU mr aT] 68,iL aU mr aT]∧(((j:Nat):Int)≤mn∨j=0)∧(∀k,k<j→dG mn mr ((k:Nat):Int) ((k:Nat):Int)=false)) _ ⟨0,J,J,(bJ J),H1,(by right;rfl),(by intro k_ h_;omega)⟩ ?_
 rintro _ f0 w1 ⟨j,rfl,s0,s1,H2,hk,hs⟩
 refine sq<|aH<|ak J s1<|bo gm J s0<|bR H2 0 J aQ J J J<|k<|lss J J J J<|z<|nx<|cd (b:=decide ((j:Int)<mn)) J J (fun b0=>?_)<|fun b0=>?_
 ·
  have p0:=dT b0
  refine sk<|nx<|sq<|bk<|aH<|k<|cg H2 0 J bh J s0 aJ J<|ak J s1<|ak J s1<|k ?_
  have cx:=mm (mn:=mn) (mr:=mr) (i:=(j:Int)) (j:=(j:Int)) H2.mb fL (H2.rv 1 J) aY aY cG cG cG
  refine ca xS J (ec J<|ec J<|ec J e0) cx ?_
  rintro _ w2 ⟨rfl,cR⟩
  have H3:=H2.ext cR
  refine z<|nx<|cd (b:=dG mn mr (j:Int) (j:Int)) J J (fun b1=>?_)<|fun b1=>?_
  ·
   refine aH<|ak J s1<|aj (v:=U (j:Int)) J J<|aj (v:=.bool true) J J<|aG<|rt<|bM<|aS<|gb<|bM<|aS<|r2 J J J ?_
   have e0:((j:Int):Int)=(((eC mn mr).getD 0:Nat):Int):=by rw[I6 p0 b1 hs];rfl
   have e1:(true:Bool)=(eC mn mr).isSome:=by rw[I6 p0 b1 hs];rfl
   have bF:=sd (fun (cK:Int) (fI:Bool)=>(.tuple #[U cK,.bool fI]:Value)) e0 e1
   exact⟨bF,H3.below⟩
  refine sk<|aF<|nx<|rg<|ak J s1<|k<|add J J J J aY<|aj (v:=U ((j:Int)+1)) J J<|z<|bD _ ?_ ⟨(j+1),J,s0,(bJ J),H3,(by left;omega),(by exact OX (p:=fun k=>dG mn mr ((k:Nat):Int) ((k:Nat):Int)) hs b1)⟩
  omega
 have p0:=dF b0
 refine ex<|bg<|bt<|bz<|dM<|aj (v:=U 0) J J<|aj (v:=.bool false) J J<|aG<|rt<|r2 J J J ?_
 have e0:(0:Int)=(((eC mn mr).getD 0:Nat):Int):=by rw[GG ai hs];rfl
 have e1:(false:Bool)=(eC mn mr).isSome:=by rw[GG ai hs];rfl
 have bF:=sd (fun (cK:Int) (fI:Bool)=>(.tuple #[U cK,.bool fI]:Value)) e0 e1
 exact⟨bF,H2.below⟩
theorem dh:jt aX 32 1 1:=mu Tryz.underlying32
theorem eR:fA aX 29 1 false 24 (.slice none 0 0):=⟨bu,bu⟩
theorem fj:aX.underlying 29=some (.slice 85):=bu
theorem gB:fA aX 85 5 true 40 (.agg #[.int .i64 0,.int .i64 0,.bool false,.int .i64 0,.int .i64 0]):=⟨bu,bu⟩
theorem oe:jt aX 85 2 2:=mu Tryz.underlying85
theorem mC:fA aX 4 1 false 1 (.bool false):=⟨bu,bu⟩
theorem nv:jt aX 85 3 3:=mu Tryz.underlying85
theorem kD:jt aX 32 2 2:=mu Tryz.underlying32
theorem lA:fA aX 30 1 false 24 (.slice none 0 0):=⟨bu,bu⟩
theorem pM:aX.underlying 74=some (.slice 79):=bu
theorem tg:fA aX 79 3 true 24 (.agg #[.int .i64 0,.int .i64 0,.int .i64 0]):=⟨bu,bu⟩
theorem AI {DL:OA} {DD:Nat} {kp:az} (hM:ei M w) (cX:cP M w av au I) (fM:cP M w ax aw fo) (fL:aN mn) (eO:cP M w aU aT mr) (aam:cP M w DL DD kp) (ho:et I) (cT:I.length≤64) (eT:fo.length=I.length) (bV:cq mn mr=true) (Dk:mn=((I.length:Nat):Int)) (zL:∀x∈kp,0≤x∧x<((I.length:Nat):Int)):Calls aX 70 #[.agg #[.slice aC aE aB,sL av I au,sL ax fo aw],.agg #[U mn,sL aU mr aT],sL DL kp DD] w (cZ fun v w'=>∃(a0:OA) (c0:Nat),v=.slice a0 (cJ I fo mn mr kp I.length).length c0∧Ext w w'∧bm M 79 w (cJ I fo mn mr kp I.length) (.slice a0 (cJ I fo mn mr kp I.length).length c0) w'):=by
 refine dK 99 Tryz.func70 J J J hM fun f0 ha H=>?_
 let J0:=iL av I au
 have H0:=H.put (it:=J0) J<|by rw[dY];exact cX
 let J1:=iL ax fo aw
 have H1:=H0.put (it:=J1) J<|by rw[bp rfl,dY];exact fM
 let J2:=iL aU mr aT
 have H2:=H1.put (it:=J2) J<|by rw[bp rfl,bp rfl,dY];exact eO
 let J3:=iL DL kp DD
 have H3:=H2.put (it:=J3) J<|by rw[bp rfl,bp rfl,bp rfl,dY];exact aam
 have iT:=bN cX
 have nn:=bN fM
 have lu:=bN eO
 have ajT:=bN aam
 have i0:f0 0=.agg #[.slice aC aE aB,sL av I au,sL ax fo aw]:=ha 0 bH
 have i1:f0 1=.agg #[U mn,sL aU mr aT]:=ha 1 bH
 have i2:f0 2=sL DL kp DD:=ha 2 bH
 refine aH<|k<|bx H3 J i0 ?_
 let bC:=[J3,J2,J1,J0]
 intro aK w0 dt (H4:HI M w w0 (box aK #[.slice aC aE aB,sL av I au,sL ax fo aw] 32::bC))
 let J4:=box aK #[.slice aC aE aB,sL av I au,sL ax fo aw] 32
 refine k<|bx H4 J i1 ?_
 intro aW w1 cR (H5:HI M w w1 (box aW #[U mn,sL aU mr aT] 68::J4::bC))
 let J5:=box aW #[U mn,sL aU mr aT] 68
 refine aj (v:=.slice none 0 0) J J<|cU<|aj (v:=.slice none 0 0) J J<|aG<|sq<|aH<|aj (v:=U 0) J J<|aG<|bk ?_
 have H6:=H5.ke (Int×Int×Int) 79
 refine lp (fun m f w'=>∃(a_:Nat) (rF:List (Int×Int×Int)) (a0:OA) (c0:Nat),m=I.length-a_∧f 2=sL DL kp DD∧f 3=pV aK 0∧f 4=pV aW 0∧f 7=sL a0 rF c0∧f 8=U (a_:Int)∧HI M w w' (oL w 79 a0 rF c0::J5::J4::bC)∧(a_≤I.length)∧(rF=cJ I fo mn mr kp a_)) _ ⟨0,([]:List (Int×Int×Int)),none,0,J,i2,J,J,J,(bJ J),H6,ai,(by rfl)⟩ ?_
 rintro _ f0 w2 ⟨a_,rF,a0,c0,rfl,s0,s1,s2,s3,s4,H7,ha_,Dg⟩
 refine sq<|aH<|ak J s4<|bo dh J s1<|bR H7 2 J eR J J J<|k<|ep J J fj<|k<|lss J J J J<|z<|nx<|cd (b:=decide ((a_:Int)<(I.length:Int))) J J (fun b0=>?_)<|fun b0=>?_
 ·
  have p0:=dT b0
  refine sk<|nx<|sq<|bk<|aH<|aj (v:=U 0) J J<|aG<|bk<|lp (fun m f w'=>∃(b_:Nat) (og:List (Int×Int×Int)) (a1:OA) (c1:Nat),m=I.length-b_∧f 2=sL DL kp DD∧f 3=pV aK 0∧f 4=pV aW 0∧f 7=sL a1 og c1∧f 8=U (a_:Int)∧f 9=U (b_:Int)∧HI M w w' (oL w 79 a1 og c1::J5::J4::bC)∧(b_≤I.length)∧(og=cJ I fo mn mr kp a_++ma I fo mn mr kp a_ b_)) _ ⟨0,rF,a0,c0,J,s0,s1,s2,s3,s4,(bJ J),H7,ai,(by rw[Dg];exact(amA _).symm)⟩ ?_
  rintro _ f1 w3 ⟨b_,og,a1,c1,rfl,s5,s6,s7,s8,s9,ey,H8,VE,uI⟩
  refine sq<|aH<|ak J ey<|bo dh J s6<|bR H8 2 J eR J J J<|k<|ep J J fj<|k<|lss J J J J<|z<|nx<|cd (b:=decide ((b_:Int)<(I.length:Int))) J J (fun b1=>?_)<|fun b1=>?_
  ·
   have p1:=dT b1
   refine sk<|nx<|sq<|bk<|sq<|sq<|yY J bu<|kq (fun _ _=>mv J s9 e1)<|kq (fun _ _=>mv J ey e1)<|kq (fun _ _=>eql J J J J e1)<|kq (fun _ _=>mv (v:=.bool (decide ((a_:Int)=(b_:Int)))) J J e1) ?_
   rcases bE (decide ((a_:Int)=(b_:Int))) with b2|b2
   ·
    have p2:=dT b2
    refine qn J J J b2<|qn J J J b2<|qn J J J b2<|qn J J J b2<|qn J J J b2<|qn J J J b2<|qn J J J b2<|kq (fun _ _=>ba J J J J b2 J e1)<|kq (fun _ _=>mv (v:=.bool true) J J e1)<|qn J J J J<|qn J J J J<|qn J J J J<|qn J J J J<|qn J J J J<|qn J J J J<|qn J J J J<|kq (fun _ _=>ba J J J J J J e1)<|kq (fun _ _=>mv (v:=.bool true) J J e1)<|qn J J J J<|qn J J J J<|qn J J J J<|qn J J J J<|qn J J J J<|qn J J J J<|qn J J J J<|qn J J J J<|qn J J J J<|qn J J J J<|qn J J J J<|qn J J J J<|qn J J J J<|kq (fun _ _=>ba J J J J J J e1)<|kq (fun _ _=>mv (v:=.bool true) J J e1)<|qn J J J J<|qn J J J J<|qn J J J J<|qn J J J J<|kq (fun _ _=>ba J J J J J J e1)<|zq ?_
    intro w4 d_
    have H9:=H8.ext d_
    refine nx<|nP J J J<|ex<|bg<|bz<|nx<|rg<|ak J ey<|k<|add J J J J aY<|aj (v:=U ((b_:Int)+1)) J J<|z<|bD _ ?_ ⟨(b_+1),og,a1,c1,J,s5,s6,s7,s8,s9,(bJ J),H9,ai,(by (rw[uI,sz (show (dE I (a_:Int) (b_:Int)&&!dG mn mr (a_:Int) (b_:Int))=false from(by simp only[dE,cm,gU,b0,b1,b2,BL,amq,amv];done))];done))⟩
    omega
   have p2:=dF b2
   refine qy J J J b2<|kq (fun _ _=>fa dh J s6 e1)<|qy J J J b2<|kq (fun _ x_=>lx (H8.ext x_) 2 J eR J J J e1)<|qy J J J b2<|kq (fun _ _=>mv J s9 e1)<|qy J J J b2<|hG (H8.rv 6 J) J J J J ai fj gB ?_
   intro fz x0 aq cN
   refine qy J J J b2<|kq (fun _ _=>fa oe J J e1)<|qy J J J b2<|tL ((cN).s2).fst.w mC J J<|qy J J J b2<|kq (fun _ _=>kc J J e1)<|kq (fun _ _=>bc J J J J b2 J e1)<|kq (fun _ _=>mv (v:=.bool (!x0.2.2.1)) J J e1) ?_
   rcases bE (!x0.2.2.1) with b3|b3
   ·
    refine qn J J J b3<|qn J J J b3<|qn J J J b3<|qn J J J b3<|qn J J J b3<|qn J J J b3<|qn J J J b3<|kq (fun _ _=>ba J J J J b3 J e1)<|kq (fun _ _=>mv (v:=.bool true) J J e1)<|qn J J J J<|qn J J J J<|qn J J J J<|qn J J J J<|qn J J J J<|qn J J J J<|qn J J J J<|qn J J J J<|qn J J J J<|qn J J J J<|qn J J J J<|qn J J J J<|qn J J J J<|kq (fun _ _=>ba J J J J J J e1)<|kq (fun _ _=>mv (v:=.bool true) J J e1)<|qn J J J J<|qn J J J J<|qn J J J J<|qn J J J J<|kq (fun _ _=>ba J J J J J J e1)<|zq ?_
    intro w4 d_
    have H9:=H8.ext d_
    refine nx<|nP J J J<|ex<|bg<|bz<|nx<|rg<|ak J ey<|k<|add J J J J aY<|aj (v:=U ((b_:Int)+1)) J J<|z<|bD _ ?_ ⟨(b_+1),og,a1,c1,J,s5,s6,s7,s8,s9,(bJ J),H9,ai,(by (rw[uI,sz (show (dE I (a_:Int) (b_:Int)&&!dG mn mr (a_:Int) (b_:Int))=false from(by simp only[dE,cm,gU,aq,b0,b1,b2,(fE b3),BL,amq,amv];done))];done))⟩
    omega
   refine qy J J J b3<|kq (fun _ _=>fa dh J s6 e1)<|qy J J J b3<|kq (fun _ x_=>lx (H8.ext x_) 2 J eR J J J e1)<|qy J J J b3<|kq (fun _ _=>mv J ey e1)<|qy J J J b3<|hG (H8.rv 6 J) J J J J ai fj gB ?_
   intro iG x1 cw eU
   refine qy J J J b3<|kq (fun _ _=>fa oe J J e1)<|qy J J J b3<|tL ((eU).s2).fst.w mC J J<|qy J J J b3<|kq (fun _ _=>kc J J e1)<|kq (fun _ _=>bc J J J J b3 J e1)<|kq (fun _ _=>mv (v:=.bool (!x1.2.2.1)) J J e1) ?_
   rcases bE (!x1.2.2.1) with b4|b4
   ·
    refine qn J J J b4<|qn J J J b4<|qn J J J b4<|qn J J J b4<|qn J J J b4<|qn J J J b4<|qn J J J b4<|qn J J J b4<|qn J J J b4<|qn J J J b4<|qn J J J b4<|qn J J J b4<|qn J J J b4<|kq (fun _ _=>ba J J J J b4 J e1)<|kq (fun _ _=>mv (v:=.bool true) J J e1)<|qn J J J J<|qn J J J J<|qn J J J J<|qn J J J J<|kq (fun _ _=>ba J J J J J J e1)<|zq ?_
    intro w4 d_
    have H9:=H8.ext d_
    refine nx<|nP J J J<|ex<|bg<|bz<|nx<|rg<|ak J ey<|k<|add J J J J aY<|aj (v:=U ((b_:Int)+1)) J J<|z<|bD _ ?_ ⟨(b_+1),og,a1,c1,J,s5,s6,s7,s8,s9,(bJ J),H9,ai,(by (rw[uI,sz (show (dE I (a_:Int) (b_:Int)&&!dG mn mr (a_:Int) (b_:Int))=false from(by simp only[dE,cm,gU,aq,cw,b0,b1,b2,(fF b3),(fE b4),BL,amq,amv];done))];done))⟩
    omega
   refine qy J J J b4<|kq (fun _ _=>fa dh J s6 e1)<|qy J J J b4<|kq (fun _ x_=>lx (H8.ext x_) 2 J eR J J J e1)<|qy J J J b4<|kq (fun _ _=>mv J s9 e1)<|qy J J J b4<|hG (H8.rv 6 J) J J J J ai fj gB ?_
   intro kX x_ ki gJ
   obtain rfl:x0=x_:=alD (aq.symm.trans ki)
   refine qy J J J b4<|kq (fun _ _=>fa nv J J e1)<|qy J J J b4<|fV ((gJ).s3).fst.w aQ J J ?_
   intro cL
   refine qy J J J b4<|kq (fun _ _=>fa dh J s6 e1)<|qy J J J b4<|kq (fun _ x_=>lx (H8.ext x_) 2 J eR J J J e1)<|qy J J J b4<|kq (fun _ _=>mv J ey e1)<|qy J J J b4<|hG (H8.rv 6 J) J J J J ai fj gB ?_
   intro jc x_ ki km
   obtain rfl:x1=x_:=alD (cw.symm.trans ki)
   refine qy J J J b4<|kq (fun _ _=>fa nv J J e1)<|qy J J J b4<|fV ((km).s3).fst.w aQ J J ?_
   intro eQ
   refine qy J J J b4<|kq (fun _ _=>neq J J J J e1)<|kq (fun _ _=>bc J J J J b4 J e1)<|kq (fun _ _=>mv (v:=.bool (!decide (x0.2.2.2.1=x1.2.2.2.1))) J J e1) ?_
   rcases bE (!decide (x0.2.2.2.1=x1.2.2.2.1)) with b5|b5
   ·
    have p5:=dF<|fE b5
    refine qn J J J b5<|qn J J J b5<|qn J J J b5<|qn J J J b5<|kq (fun _ _=>ba J J J J b5 J e1)<|zq ?_
    intro w4 d_
    have H9:=H8.ext d_
    refine nx<|nP J J J<|ex<|bg<|bz<|nx<|rg<|ak J ey<|k<|add J J J J aY<|aj (v:=U ((b_:Int)+1)) J J<|z<|bD _ ?_ ⟨(b_+1),og,a1,c1,J,s5,s6,s7,s8,s9,(bJ J),H9,ai,(by (rw[uI,sz (show (dE I (a_:Int) (b_:Int)&&!dG mn mr (a_:Int) (b_:Int))=false from(by simp only[dE,cm,gU,aq,cw,b0,b1,b2,(fF b3),(fF b4),(fE b5),BL,amq,amv];done))];done))⟩
    omega
   have p5:=dT<|fF b5
   refine qy J J J b5<|kq (fun _ x_=>cg (H8.ext x_) 1 J bh J s7 aJ J e1)<|qy J J J b5<|kq (fun _ _=>mv J s9 e1)<|qy J J J b5<|kq (fun _ _=>mv J ey e1)<|qy J J J b5<|kq (v:=.bool (dG mn mr (a_:Int) (b_:Int))) (fun v_ x_=>?_) ?_
   ·
    have cc:=mm (mn:=mn) (mr:=mr) (i:=(a_:Int)) (j:=(b_:Int)) (w:=v_) (H8.ext x_).mb fL ((H8.ext x_).rv 4 rfl) aY aY (by exact(bQ bV).1) (by exact(bQ bV).2.1)<|by exact(bQ bV).2.2.1
    exact ca xS J (ec J<|ec J<|ec J e0) cc fun _ _ h_=>e2 h_
   refine kq (fun _ _=>bc J J J J b5 J e1)<|zq ?_
   intro w4 d_
   have H9:=H8.ext d_
   refine nx<|cd (b:=dG mn mr (a_:Int) (b_:Int)) J J (fun b6=>?_)<|fun b6=>?_
   ·
    refine ex<|bg<|bz<|nx<|rg<|ak J ey<|k<|add J J J J aY<|aj (v:=U ((b_:Int)+1)) J J<|z<|bD _ ?_ ⟨(b_+1),og,a1,c1,J,s5,s6,s7,s8,s9,(bJ J),H9,ai,(by (rw[uI,sz (show (dE I (a_:Int) (b_:Int)&&!dG mn mr (a_:Int) (b_:Int))=false from(by simp only[dE,cm,gU,aq,cw,b0,b1,b2,(fF b3),(fF b4),(fF b5),b6,BL,amq,amv];done))];done))⟩
    omega
   refine sk<|nx<|sq ?_
   have aag:(dE I (a_:Int) (b_:Int)&&!dG mn mr (a_:Int) (b_:Int))=true:=(by simp only[dE,cm,gU,aq,cw,b0,b1,b2,(fF b3),(fF b4),(fF b5),b6,BL,amq,amv];done)
   refine rg<|aj (v:=U 0) J J<|aG<|bk<|lp (fun m f w'=>∃(i_:Nat) (wA:List (Int×Int×Int)) (a2:OA) (c2:Nat),m=kp.length-i_∧f 2=sL DL kp DD∧f 3=pV aK 0∧f 4=pV aW 0∧f 7=sL a2 wA c2∧f 8=U (a_:Int)∧f 9=U (b_:Int)∧f 10=U (i_:Int)∧HI M w w' (oL w 79 a2 wA c2::J5::J4::bC)∧(i_≤kp.length)∧(∀y∈kp.take i_,D9 fo mn mr a_ b_ y=false)∧(wA=og)) _ ⟨0,og,a1,c1,J,s5,s6,s7,s8,s9,ey,(bJ J),H9,ai,(by intro y h;simp at h),(by rfl)⟩ ?_
   rintro _ f2 w5 ⟨i_,wA,a2,c2,rfl,ew,eE,fc,fJ,fw,fX,gF,db,yI,uH,TZ⟩
   refine sq<|aH<|ak J gF<|ak J ew<|k<|ep J J cY<|k<|lss J J J J<|z<|nx<|cd (b:=decide ((i_:Int)<(kp.length:Int))) J J (fun b7=>?_)<|fun b7=>?_
   ·
    have p7:=dT b7
    refine sk<|nx<|sq<|bk<|sq ?_
    have A_:og.length≤5000:=by rw[uI];exact Qw ai ai cT
    refine rg<|ak J ew<|ak J gF<|k<|ia (db.rv 3 J) J J J J ai cY aQ ?_
    intro sK x2 dR oD
    refine k<|kB oD.w aQ J J ?_
    intro gh
    refine aj (v:=U x2) J J<|aG<|sq ?_
    have afg:=zL _<|eh dR
    have akx:=alB List.length TZ
    refine rg<|bo kD J eE<|bR db 2 J lA J J J<|ak (v:=U x2) J J<|k<|ia (db.rv 5 J) J J J J ai cY aQ ?_
    intro kG x3 gX qe
    refine k<|kB qe.w aQ J J ?_
    intro fQ
    refine ak J fX<|k<|eql J J J J<|ak (v:=.bool (decide (x3=(b_:Int)))) J J ?_
    rcases bE (decide (x3=(b_:Int))) with b8|b8
    ·
     have p8:=dT b8
     refine aM J J J b8<|cg db 1 J bh J fc aJ J<|aM J J J b8<|mv J fw<|aM J J J b8<|mv (v:=U x2) J J<|aM J J J b8 ?_
     have cx:=mm (mn:=mn) (mr:=mr) (i:=(a_:Int)) (j:=x2) db.mb fL (db.rv 4 J) aY gh (by exact(bQ bV).1) (by exact(bQ bV).2.1)<|by exact(bQ bV).2.2.1
     refine ca xS J (ec J<|ec J<|ec J e0) cx ?_
     rintro _ w6 ⟨rfl,eG⟩
     have da:=db.ext eG
     refine k<|ba J J J J b8 J<|z<|nx<|cd (b:=dG mn mr (a_:Int) x2) J J (fun b9=>?_)<|fun b9=>?_
     ·
      refine aH<|ak J fJ<|ak J fw<|ak J fX<|ak (v:=U x2) J J<|k<|bd (v:=.agg #[U (a_:Int),U (b_:Int),U x2]) J (ct J<|ct J<|ct J eo) (fun _=>bu)<|k<|bs (xs:=([((a_:Int),(b_:Int),x2)]:List (Int×Int×Int))) (cells:=#[U (a_:Int),U (b_:Int),U x2]) (e:=79) da J (ct J eo) (fun _=>bu) ⟨[U (a_:Int),U (b_:Int),U x2],[],J,⟨_,_,J,⟨J,(show aN ((a_:Int)) from aY)⟩,⟨_,_,J,⟨J,(show aN ((b_:Int)) from aY)⟩,⟨J,(show aN (x2) from cG)⟩⟩⟩,J⟩ J aJ ?_
      intro g0 w7 eI eB
      refine k<|kE eB 1 J J J J J J (fD<|eB.at_ 0 J) pM tg J (by simp;omega) J ?_
      intro a3 c3 w8 (dZ:HI M w w8 (own w.heap.size 79 (.slice (some ⟨g0,0,none⟩) 1 1) ([((a_:Int),(b_:Int),x2)]:List (Int×Int×Int))::oL w 79 a3 (wA++([((a_:Int),(b_:Int),x2)]:List (Int×Int×Int))) c3::J5::J4::bC))
      refine aj (v:=sL a3 (wA++([((a_:Int),(b_:Int),x2)]:List (Int×Int×Int))) c3) J J<|aG<|ex<|Dd aJ<|bg<|bt<|bz<|aF<|nx<|rg<|ak J fX<|k<|add J J J J aY<|aj (v:=U ((b_:Int)+1)) J J<|z ?_
      have cM:HI M w w8 (oL w 79 a3 (wA++([((a_:Int),(b_:Int),x2)]:List (Int×Int×Int))) c3::J5::J4::bC):=dZ.c_ [1,2,3,4,5,6,7] aJ J
      refine bD _ ?_ ⟨(b_+1),(wA++([((a_:Int),(b_:Int),x2)]:List (Int×Int×Int))),a3,c3,J,ew,eE,fc,J,fw,(bJ J),cM,ai,(by (rw[TZ,uI,alY,Qt aag uH dR (by simp only[D9,B_ gX,b0,b1,b2,(fF b3),(fF b4),(fF b5),b6,b7,b8,b9,BL];done)];done))⟩
      omega
     refine sk<|aF<|nx<|rg<|ak J gF<|k<|add J J J J aY<|aj (v:=U ((i_:Int)+1)) J J<|z<|bD _ ?_ ⟨(i_+1),wA,a2,c2,J,ew,eE,fc,fJ,fw,fX,(bJ J),da,ai,(by exact HN uH dR (by simp only[D9,B_ gX,b0,b1,b2,(fF b3),(fF b4),(fF b5),b6,b7,b8,b9,BL])),ai⟩
     omega
    have p8:=dF b8
    refine aD J J J b8<|aD J J J b8<|aD J J J b8<|aD J J J b8<|k<|bc J J J J b8 J<|aG<|l7 J J J<|sk<|aF<|nx<|rg<|ak J gF<|k<|add J J J J aY<|aj (v:=U ((i_:Int)+1)) J J<|z<|bD _ ?_ ⟨(i_+1),wA,a2,c2,J,ew,eE,fc,fJ,fw,fX,(bJ J),db,ai,(by exact HN uH dR (by simp only[D9,B_ gX,b0,b1,b2,(fF b3),(fF b4),(fF b5),b6,b7,b8,BL])),ai⟩
    omega
   have p7:=dF b7
   refine ex<|bg<|bt<|bz<|aF<|nx<|rg<|ak J fX<|k<|add J J J J aY<|aj (v:=U ((b_:Int)+1)) J J<|z<|bD _ ?_ ⟨(b_+1),wA,a2,c2,J,ew,eE,fc,fJ,fw,(bJ J),db,ai,(by (rw[TZ,uI,Qu aag uH ai];done))⟩
   omega
  have p1:=dF b1
  refine ex<|bg<|bt<|bz<|aF<|nx<|rg<|ak J s9<|k<|add J J J J aY<|aj (v:=U ((a_:Int)+1)) J J<|z<|bD _ ?_ ⟨(a_+1),og,a1,c1,J,s5,s6,s7,s8,(bJ J),H8,ai,(by rw[uI,Qv ai ai])⟩
  omega
 have p0:=dF b0
 refine ex<|bg<|bt<|bz<|dM<|ak J s3<|aj (v:=sL a0 rF c0) J J<|aG<|rt<|r1 J J ?_
 have e0:(rF:List (Int×Int×Int))=cJ I fo mn mr kp I.length:=by rw[Dg,show a_=I.length from by omega]
 have bF:=fu (fun (cK:List (Int×Int×Int))=>(.slice a0 cK.length c0:Value)) e0
 exact⟨a0,c0,bF,H7.below,(alB (fun (x_:List (Int×Int×Int))=>bm _ _ _ x_ (.slice a0 x_.length c0) _) e0).mp (H7.cB 0 J)⟩
theorem Ik:aX.underlying 9=some (.string):=bu
theorem Av:aX.underlying 22=some (.slice 45):=bu
theorem EX:fA aX 45 1 false 24 (.slice none 0 0):=⟨bu,bu⟩
theorem xG:aX.underlying 45=some (.slice 48):=bu
theorem CU:fA aX 48 3 true 32 (.agg #[.bool false,.string ⟨#[]⟩,.int .i64 0]):=⟨bu,bu⟩
theorem Ue:dq aX 15:=dy Tryz.func15
theorem EC:jt aX 48 1 1:=mu Tryz.underlying48
theorem Io:fA aX 9 1 false 16 (.string ⟨#[]⟩):=⟨bu,bu⟩
theorem af2:dq aX 81:=dy Tryz.func81
theorem ago:dq aX 14:=dy Tryz.func14
theorem Nf:aX.underlying 28=some (.slice 9):=bu
theorem dn:fA aX 32 3 true 72 (.agg #[.slice none 0 0,.slice none 0 0,.slice none 0 0]):=⟨bu,bu⟩
theorem aga:dq aX 39:=dy Tryz.func39
theorem Bw:jt aX 32 0 0:=mu Tryz.underlying32
theorem Ip:fA aX 28 1 false 24 (.slice none 0 0):=⟨bu,bu⟩
theorem af':dq aX 40:=dy Tryz.func40
theorem Rs:jt aX 48 0 0:=mu Tryz.underlying48
theorem Rr:jt aX 48 2 2:=mu Tryz.underlying48
theorem Bu:jt aX 85 4 4:=mu Tryz.underlying85
theorem aaW:dq aX 41:=dy Tryz.func41
theorem NK (h_s:s.size≤maxLen):Calls aX 81 #[.string s] w (cZ fun v w'=>v=.bool (xe s)∧Ext w w'):=by
 refine dK 28 Tryz.func81 J J J yo fun f0 ha H=>?_
 have i0:f0 0=.string s:=ha 0 bH
 have hS_:s.size≤9223372036854775807:=by have h_:=h_s;simp only[maxLen] at h_;exact h_
 refine aH<|aj (v:=.bool false) J J<|aG<|sq<|aH<|aj (v:=U 0) J J<|aG<|bk<|lp (fun m f w'=>∃(j:Nat),m=s.size-j∧f 0=.string s∧f 3=U (j:Int)∧HI (fun _=>False) w w' []∧(j≤s.size)∧((s.data.toList.take j).all AQ=true)) _ ⟨0,J,i0,(bJ J),H,ai,(by rfl)⟩ ?_
 rintro _ f0 w0 ⟨j,rfl,s0,s1,H0,hk,hs⟩
 refine sq<|aH<|ak J s1<|ak J s0<|k<|Vd J J Ik<|k<|lss J J J J<|z<|nx<|cd (b:=decide ((j:Int)<(s.size:Int))) J J (fun b0=>?_)<|fun b0=>?_
 ·
  have p0:=dT b0
  refine sk<|nx<|sq<|bk<|aH<|ak J s0<|ak J s1<|k<|ixS J J J J ai Ik ?_
  intro c0 oY
  refine k<|lss J J J J<|ak (v:=.bool (decide ((c0.toNat:Int)<97))) J J ?_
  rcases bE (decide ((c0.toNat:Int)<97)) with b1|b1
  ·
   refine aD J J J b1<|aD J J J b1<|aD J J J b1<|aD J J J b1<|k<|ba J J J J b1 J<|aG<|nP J J J<|aH<|aj (v:=.bool false) J J<|aG<|rt<|bM<|aS<|gb<|bM<|aS<|r1 J J ?_
   exact⟨alB Value.bool (by exact L4 oY (YQ b1)),H0.below⟩
  have p1:=dF b1
  refine aM J J J b1<|mv J s0<|aM J J J b1<|mv J s1<|aM J J J b1<|ixS J J J J ai Ik ?_
  intro c1 qE
  refine aM J J J b1<|gtr J J J J<|k<|bc J J J J b1 J<|z<|nx<|cd (b:=decide (122<(c1.toNat:Int))) J J (fun b2=>?_)<|fun b2=>?_
  ·
   refine aH<|aj (v:=.bool false) J J<|aG<|rt<|bM<|aS<|gb<|bM<|aS<|r1 J J ?_
   exact⟨alB Value.bool (by exact L4 oY (by have e_:=alD (qE.symm.trans oY);subst e_;exact YR b2)),H0.below⟩
  have p2:=dF b2
  refine sk<|aF<|nx<|rg<|ak J s1<|k<|add J J J J aY<|aj (v:=U ((j:Int)+1)) J J<|z<|bD _ ?_ ⟨(j+1),J,s0,(bJ J),H0,ai,(by exact DH (MQ oY) hs (by have e_:=alD (qE.symm.trans oY);subst e_;exact Xh b1 b2))⟩
  omega
 have p0:=dF b0
 refine ex<|bg<|bt<|bz<|dM<|ak J s0<|k<|Vd J J Ik<|k<|geq J J J J<|ak (v:=.bool (decide (1≤(s.size:Int)))) J J ?_
 rcases bE (decide (1≤(s.size:Int))) with b1|b1
 ·
  have p1:=dT b1
  refine aM J J J b1<|mv J s0<|aM J J J b1<|Vd J J Ik<|aM J J J b1<|leq J J J J<|k<|ba J J J J b1 J<|aj (v:=.bool (decide ((s.size:Int)≤8))) J J<|aG<|rt<|r1 J J ?_
  exact⟨alB Value.bool (by unfold xe;rw[I2 hs ai];first|(rw[show decide (1≤s.size)=true from alM ai,am8,am8,am4];omega)|(rw[show decide (1≤s.size)=false from alH ai];rfl)),H0.below⟩
 have p1:=dF b1
 refine aD J J J b1<|aD J J J b1<|aD J J J b1<|k<|bc J J J J b1 J<|aj (v:=.bool false) J J<|aG<|rt<|r1 J J ?_
 exact⟨alB Value.bool (by unfold xe;rw[I2 hs ai];first|(rw[show decide (1≤s.size)=true from alM ai,am8,am8,am4];omega)|(rw[show decide (1≤s.size)=false from alH ai];rfl)),H0.below⟩
theorem zv (hM:ei M w) (r7:cP M w kr ko h) (wh:h.flatten.length≤1048576):Calls aX 15 #[sL kr h ko] w (cZ fun v w'=>∃(a0:OA) (c0:Nat),v=.slice a0 h.flatten.length c0∧Ext w w'∧RV M w' (.slice a0 h.flatten.length c0) h.flatten):=by
 refine dK 18 Tryz.func15 J J J hM fun f0 ha H=>?_
 have H0:=cj H r7
 have Oa:=bN r7
 have i0:f0 0=sL kr h ko:=ha 0 bH
 refine aH<|aj (v:=.slice none 0 0) J J<|cU<|aj (v:=.slice none 0 0) J J<|aG<|sq<|aH<|aj (v:=U 0) J J<|aG<|bk ?_
 have H1:=H0.ke (Bool×fO×Int) 48
 refine lp (fun m f w'=>∃(j:Nat) (xs:List (Bool×fO×Int)) (a0:OA) (c0:Nat),m=h.length-j∧f 0=sL kr h ko∧f 3=sL a0 xs c0∧f 4=U (j:Int)∧HI M w w' [oL w 48 a0 xs c0,iL kr h ko]∧(j≤h.length)∧(xs=(h.take j).flatten)) _ ⟨0,([]:List (Bool×fO×Int)),none,0,J,i0,J,(bJ J),H1,ai,(by rfl)⟩ ?_
 rintro _ f0 w0 ⟨j,xs,a0,c0,rfl,s0,s1,s2,H2,hk,hs⟩
 refine sq<|aH<|ak J s2<|ak J s0<|k<|ep J J Av<|k<|lss J J J J<|z<|nx<|cd (b:=decide ((j:Int)<(h.length:Int))) J J (fun b0=>?_)<|fun b0=>?_
 ·
  have p0:=dT b0
  refine sk<|nx<|sq<|bk<|rg<|ak J s1<|ak J s0<|ak J s2<|k<|ia (H2.rv 1 J) J J J J ai Av EX ?_
  intro fz x0 aq cN
  refine k<|vR cN.w EX J J ?_
  intro a1 c1 cL
  have Ve:=bN cL
  have H3:=cj H2 cL
  refine k<|kE H3 1 J J J J J J (H3.rv 0 J).src xG CU J (by have h_:=J' aq;rw[hs];omega) J ?_
  intro a2 c2 w1 (H4:HI M w w1 [iL a1 x0 c1,oL w 48 a2 (xs++x0) c2,iL kr h ko])
  refine aj (v:=sL a2 (xs++x0) c2) J J<|z<|aF<|nx<|rg<|ak J s2<|k<|add J J J J aY<|aj (v:=U ((j:Int)+1)) J J<|z ?_
  have H5:HI M w w1 [oL w 48 a2 (xs++x0) c2,iL kr h ko]:=H4.c_ [1,2] aJ J
  refine bD _ ?_ ⟨(j+1),(xs++x0),a2,c2,J,s0,J,(bJ J),H5,ai,(by rw[hs,Bs aq])⟩
  omega
 have p0:=dF b0
 refine ex<|bg<|bt<|bz<|dM<|ak J s1<|aj (v:=sL a0 xs c0) J J<|aG<|rt<|r1 J J ?_
 have e0:(xs:List (Bool×fO×Int))=h.flatten:=by rw[hs,k0 ai]
 have bF:=fu (fun (cK:List (Bool×fO×Int))=>(.slice a0 cK.length c0:Value)) e0
 exact⟨a0,c0,bF,H2.below,(alB (fun (x_:List (Bool×fO×Int))=>RV _ _ (.slice a0 x_.length c0) x_) e0).mp (H2.dV 0 J)⟩
theorem Lf (hM:ei M w) (r7:cP M w kr ko h) (wh:h.flatten.length≤1048576):Calls aX 14 #[sL kr h ko] w (cZ fun v w'=>v=U (h.flatten.length:Int)∧Ext w w'):=by
 refine dK 6 Tryz.func14 J J J hM fun f0 ha H=>?_
 have H0:=cj H r7
 have i0:f0 0=sL kr h ko:=ha 0 bH
 refine aH<|aj (v:=U 0) J J<|cU<|ak J i0<|k ?_
 have cx:=zv (h:=h) H0.mb (H0.rv 0 J)<|by exact wh
 refine ca Ue J (ec J e0) cx ?_
 rintro _ w0 ⟨a0,c0,rfl,dt,cL⟩
 have H1:=H0.ext dt
 have H2:=H1.put (it:=iL a0 h.flatten c0) J cL
 refine k<|ep J J xG<|aj (v:=U (h.flatten.length:Int)) J J<|aG<|rt<|r1 J J ?_
 exact⟨J,H2.below⟩
theorem Le (hM:ei M w) (r7:cP M w kr ko h) (wh:h.flatten.length≤1048576):Calls aX 39 #[sL kr h ko] w (cZ fun v w'=>v=.bool (kV h)∧Ext w w'):=by
 refine dK 23 Tryz.func39 J J J hM fun f0 ha H=>?_
 have H0:=cj H r7
 have Oa:=bN r7
 have i0:f0 0=sL kr h ko:=ha 0 bH
 refine aH<|aj (v:=.bool false) J J<|cU<|ak J i0<|k ?_
 have cx:=zv (h:=h) H0.mb (H0.rv 0 J)<|by exact wh
 refine ca Ue J (ec J e0) cx ?_
 rintro _ w0 ⟨a0,c0,rfl,dt,cL⟩
 have H1:=H0.ext dt
 have H2:=H1.put (it:=iL a0 h.flatten c0) J cL
 refine aj (v:=sL a0 h.flatten c0) J J<|aG<|sq<|aH<|aj (v:=U 0) J J<|aG<|bk<|lp (fun m f w'=>∃(j:Nat),m=h.flatten.length-j∧f 3=sL a0 h.flatten c0∧f 4=U (j:Int)∧HI M w w' [iL a0 h.flatten c0,iL kr h ko]∧(j≤h.flatten.length)∧((h.flatten.take j).all D4=true)) _ ⟨0,J,J,(bJ J),H2,ai,(by rfl)⟩ ?_
 rintro _ f0 w1 ⟨j,rfl,s0,s1,H3,hk,hs⟩
 refine sq<|aH<|ak J s1<|ak J s0<|k<|ep J J xG<|k<|lss J J J J<|z<|nx<|cd (b:=decide ((j:Int)<(h.flatten.length:Int))) J J (fun b0=>?_)<|fun b0=>?_
 ·
  have p0:=dT b0
  refine sk<|nx<|sq<|bk<|aH<|ak J s0<|ak J s1<|k<|ia (H3.rv 0 J) J J J J ai xG CU ?_
  intro fz x0 aq cN
  refine bo EC J J<|k<|Zl ((cN).s1).fst.w Io J J ?_
  intro eQ
  refine k ?_
  have eF:=NK (s:=x0.2.1) (w:=w1) cG
  refine ca af2 J (ec J e0) eF ?_
  rintro _ w2 ⟨rfl,cR⟩
  have H4:=H3.ext cR
  refine k<|kc J J<|z<|nx<|cd (b:=!(xe x0.2.1)) J J (fun b1=>?_)<|fun b1=>?_
  ·
   refine aH<|aj (v:=.bool false) J J<|aG<|rt<|bM<|aS<|gb<|bM<|aS<|r1 J J ?_
   exact⟨alB Value.bool (by exact S6 aq (by simpa using b1)),H4.below⟩
  refine sk<|aF<|nx<|rg<|ak J s1<|k<|add J J J J aY<|aj (v:=U ((j:Int)+1)) J J<|z<|bD _ ?_ ⟨(j+1),J,s0,(bJ J),H4,ai,(by exact DH aq hs (by simpa [D4] using b1))⟩
  omega
 have p0:=dF b0
 refine ex<|bg<|bt<|bz<|dM<|ak J s0<|k<|ep J J xG<|k<|leq J J J J<|aj (v:=.bool (decide ((h.flatten.length:Int)≤4096))) J J<|aG<|rt<|r1 J J ?_
 exact⟨alB Value.bool (by exact PO hs ai),H3.below⟩
theorem Ld {m:Int} (hM:ei M w) (r7:cP M w kr ko h) (h_m:aN m) (wh:h.flatten.length≤1048576):Calls aX 5 #[sL kr h ko,U m] w (cZ fun v w'=>v=.bool (mF h m)∧Ext w w'):=by
 refine dK 32 Tryz.func5 J J J hM fun f0 ha H=>?_
 have H0:=cj H r7
 have Oa:=bN r7
 have i0:f0 0=sL kr h ko:=ha 0 bH
 have i1:f0 1=U m:=ha 1 bH
 refine aH<|aj (v:=.bool false) J J<|aG<|sq<|aH<|ak J i0<|k<|ep J J Av<|ak J i1<|k<|gtr J J J J<|ak (v:=.bool (decide (m<(h.length:Int)))) J J ?_
 rcases bE (decide (m<(h.length:Int))) with b0|b0
 ·
  have p0:=dT b0
  refine aD J J J b0<|aD J J J b0<|aD J J J b0<|aD J J J b0<|k<|ba J J J J b0 J<|aG<|nP J J J<|aH<|aj (v:=.bool false) J J<|aG<|rt<|aS<|r1 J J ?_
  exact⟨alB Value.bool (by exact Px p0),H0.below⟩
 have p0:=dF b0
 refine aM J J J b0<|mv J i0<|aM J J J b0 ?_
 have cx:=Lf (h:=h) H0.mb (H0.rv 0 J)<|by exact wh
 refine ca ago J (ec J e0) cx ?_
 rintro _ w0 ⟨rfl,dt⟩
 have H1:=H0.ext dt
 refine aM J J J b0<|mv J i1<|aM J J J b0<|gtr J J J J<|k<|bc J J J J b0 J<|z<|nx<|cd (b:=decide (m<(h.flatten.length:Int))) J J (fun b1=>?_)<|fun b1=>?_
 ·
  have p1:=dT b1
  refine aH<|aj (v:=.bool false) J J<|aG<|rt<|aS<|r1 J J ?_
  exact⟨alB Value.bool (by exact Pw p1),H1.below⟩
 have p1:=dF b1
 refine sk<|dM<|ak J i0<|k ?_
 have eF:=zv (h:=h) H1.mb (H1.rv 0 J)<|by exact wh
 refine ca Ue J (ec J e0) eF ?_
 rintro _ w1 ⟨a0,c0,rfl,cR,cL⟩
 have H2:=H1.ext cR
 have H3:=H2.put (it:=iL a0 h.flatten c0) J cL
 refine aj (v:=sL a0 h.flatten c0) J J<|aG<|sq<|aH<|aj (v:=U 0) J J<|aG<|bk<|lp (fun m f w'=>∃(j:Nat),m=h.flatten.length-j∧f 5=sL a0 h.flatten c0∧f 6=U (j:Int)∧HI M w w' [iL a0 h.flatten c0,iL kr h ko]∧(j≤h.flatten.length)∧((h.flatten.take j).all yh=true)) _ ⟨0,J,J,(bJ J),H3,ai,(by rfl)⟩ ?_
 rintro _ f0 w2 ⟨j,rfl,s0,s1,H4,hk,hs⟩
 refine sq<|aH<|ak J s1<|ak J s0<|k<|ep J J xG<|k<|lss J J J J<|z<|nx<|cd (b:=decide ((j:Int)<(h.flatten.length:Int))) J J (fun b2=>?_)<|fun b2=>?_
 ·
  have p2:=dT b2
  refine sk<|nx<|sq<|bk<|aH<|ak J s0<|ak J s1<|k<|ia (H4.rv 0 J) J J J J ai xG CU ?_
  intro fz x0 aq cN
  refine bo EC J J<|k<|Zl ((cN).s1).fst.w Io J J ?_
  intro eQ
  refine k<|Vd J J Ik<|k<|gtr J J J J<|z<|nx<|cd (b:=decide (20<(x0.2.1.size:Int))) J J (fun b3=>?_)<|fun b3=>?_
  ·
   refine aH<|aj (v:=.bool false) J J<|aG<|rt<|bM<|aS<|gb<|bM<|aS<|r1 J J ?_
   exact⟨alB Value.bool (by exact Pv aq (by simpa using b3)),H4.below⟩
  have p3:=dF b3
  refine sk<|aF<|nx<|rg<|ak J s1<|k<|add J J J J aY<|aj (v:=U ((j:Int)+1)) J J<|z<|bD _ ?_ ⟨(j+1),J,s0,(bJ J),H4,ai,(by exact DH aq hs (alM ai))⟩
  omega
 have p2:=dF b2
 refine ex<|bg<|bt<|bz<|dM<|aj (v:=.bool true) J J<|aG<|rt<|r1 J J ?_
 exact⟨alB Value.bool (by exact Pz p0 p1 hs ai),H4.below⟩
theorem NJ {l:List fO} (hM:ei M w) (rj:cP M w dO dN l) (h_s:s.size≤maxLen):Calls aX 40 #[sL dO l dN,.string s] w (cZ fun v w'=>v=U (jW l s)∧Ext w w'):=by
 refine dK 19 Tryz.func40 J J J hM fun f0 ha H=>?_
 have H0:=cj H rj
 have xM:=bN rj
 have i0:f0 0=sL dO l dN:=ha 0 bH
 have i1:f0 1=.string s:=ha 1 bH
 refine aH<|aj (v:=U 0) J J<|aG<|sq<|aH<|aj (v:=U 0) J J<|aG<|bk<|lp (fun m f w'=>∃(j:Nat),m=l.length-j∧f 0=sL dO l dN∧f 1=.string s∧f 5=U (j:Int)∧HI M w w' [iL dO l dN]∧(j≤l.length)∧((l.take j).any (Zu s)=false)) _ ⟨0,J,i0,i1,(bJ J),H0,ai,bH⟩ ?_
 rintro _ f0 w0 ⟨j,rfl,s0,s1,s2,H1,hk,hs⟩
 refine sq<|aH<|ak J s2<|ak J s0<|k<|ep J J Nf<|k<|lss J J J J<|z<|nx<|cd (b:=decide ((j:Int)<(l.length:Int))) J J (fun b0=>?_)<|fun b0=>?_
 ·
  have p0:=dT b0
  refine sk<|nx<|sq<|bk<|aH<|ak J s0<|ak J s2<|k<|ia (H1.rv 0 J) J J J J ai Nf Io ?_
  intro fz x0 aq cN
  refine k<|Zl cN.w Io J J ?_
  intro cL
  refine ak J s1<|k<|eqS J J J J<|z<|nx<|cd (b:=decide (x0=s)) J J (fun b1=>?_)<|fun b1=>?_
  ·
   refine aH<|ak J s2<|aj (v:=U (j:Int)) J J<|aG<|rt<|bM<|aS<|gb<|bM<|aS<|r1 J J ?_
   exact⟨alB (Value.int .i64) (by exact pY aq hs b1),H1.below⟩
  have p1:=dF b1
  refine sk<|aF<|nx<|rg<|ak J s2<|k<|add J J J J aY<|aj (v:=U ((j:Int)+1)) J J<|z<|bD _ ?_ ⟨(j+1),J,s0,s1,(bJ J),H1,ai,(by exact kF aq hs b1)⟩
  omega
 have p0:=dF b0
 refine ex<|bg<|bt<|bz<|dM<|aj (v:=U (-1)) J J<|aG<|rt<|r1 J J ?_
 exact⟨alB (Value.int .i64) (by exact rW hs ai),H1.below⟩
theorem Tb (hM:ei M w) (r7:cP M w kr ko h) (wh:h.flatten.length≤1048576):Calls aX 16 #[sL kr h ko] w (cZ fun v w'=>∃(a0:OA) (c0:Nat) (a1:OA) (c1:Nat) (a2:OA) (c2:Nat),v=.tuple #[.agg #[.slice a0 (qY h).length c0,.slice a1 (j6 h).length c1,.slice a2 ([]:az).length c2],U (tW h)]∧Ext w w'∧RV M w' (.slice a0 (qY h).length c0) (qY h)∧RV M w' (.slice a1 (j6 h).length c1) (j6 h)∧RV M w' (.slice a2 ([]:az).length c2) ([]:az)):=by
 refine dK 66 Tryz.func16 J J J hM fun f0 ha H=>?_
 have H0:=cj H r7
 have Oa:=bN r7
 have i0:f0 0=sL kr h ko:=ha 0 bH
 refine aH<|k<|al H0 dn ?_
 intro aK w0 dt (H1:HI M w w0 [box aK #[.slice none 0 0,.slice none 0 0,.slice none 0 0] 32,iL kr h ko])
 refine aj (v:=U 0) J J<|aG<|sq<|aH<|ak J i0<|k ?_
 have cx:=Le (h:=h) H1.mb (H1.rv 1 J)<|by exact wh
 refine ca aga J (ec J e0) cx ?_
 rintro _ w1 ⟨rfl,cR⟩
 have H2:=H1.ext cR
 refine k<|kc J J<|z<|nx<|cd (b:=!(kV h)) J J (fun b0=>?_)<|fun b0=>?_
 ·
  refine sq ?_
  have hq:kV h=false:=by simpa using b0
  refine rg<|k<|bd (v:=.agg #[.slice none 0 0,.slice none 0 0,.slice none 0 0]) J eo (fun _=>bu)<|k<|cz H2 0 J dn J J J J J J J ?_
  intro w2 (H3:HI M w w2 [box aK #[.slice none 0 0,.slice none 0 0,.slice none 0 0] 32,iL kr h ko])
  refine aj (v:=U 1) J J<|aG<|rt<|aS<|iS H3 0 J dn J J J J J aJ ?_
  have e0:([]:List fO)=qY h:=by exact(D7 hq).1.symm
  have e1:([]:List aR)=j6 h:=by exact(D7 hq).2.1.symm
  have e2:([]:az)=([]:az):=rfl
  have e3:(1:Int)=tW h:=by exact(D7 hq).2.2.symm
  have bF:=RR (fun (cK:List fO) (fI:List aR) (jE:az) (vt:Int)=>(.tuple #[.agg #[.slice none cK.length 0,.slice none fI.length 0,.slice none jE.length 0],U vt]:Value)) e0 e1 e2 e3
  exact⟨none,0,none,0,none,0,bF,H3.below,(alB (fun (x_:List fO)=>RV _ _ (.slice none x_.length 0) x_) e0).mp (lC _ _),(alB (fun (x_:List aR)=>RV _ _ (.slice none x_.length 0) x_) e1).mp (lC _ _),(alB (fun (x_:az)=>RV _ _ (.slice none x_.length 0) x_) e2).mp (lC _ _)⟩
 refine sk<|nx<|sq ?_
 have hq:kV h=true:=by simpa using b0
 refine rg<|k<|al H2 dn ?_
 let bC:=[box aK #[.slice none 0 0,.slice none 0 0,.slice none 0 0] 32,iL kr h ko]
 intro aW w2 d_ (H3:HI M w w2 (box aW #[.slice none 0 0,.slice none 0 0,.slice none 0 0] 32::bC))
 refine aG<|sq<|aH<|aj (v:=U 0) J J<|aG<|bk ?_
 have H4:=H3.ke fO 9
 have H5:=H4.ke aR 85
 refine lp (fun m f w'=>∃(i:Nat) (vs:List fO) (aL:List aR) (a0:OA) (c0:Nat) (a1:OA) (c1:Nat),m=h.length-i∧f 0=sL kr h ko∧f 2=pV aK 0∧f 4=pV aW 0∧f 5=U (i:Int)∧HI M w w' (oL w 85 a1 aL c1::oL w 9 a0 vs c0::box aW #[sL a0 vs c0,sL a1 aL c1,.slice none 0 0] 32::bC)∧(i≤h.length)∧(vs=(mO h i).1)∧(aL=(mO h i).2)) _ ⟨0,([]:List fO),([]:List aR),none,0,none,0,J,i0,J,J,(bJ J),H5,ai,(by rfl),(by rfl)⟩ ?_
 rintro _ f0 w3 ⟨i,vs,aL,a0,c0,a1,c1,rfl,s0,s1,s2,s3,H6,yI,h1,h2⟩
 refine sq<|aH<|ak J s3<|ak J s0<|k<|ep J J Av<|k<|lss J J J J<|z<|nx<|cd (b:=decide ((i:Int)<(h.length:Int))) J J (fun b1=>?_)<|fun b1=>?_
 ·
  have p1:=dT b1
  refine sk<|nx<|sq<|bk<|aH<|aj (v:=U 0) J J<|aG<|bk<|lp (fun m f w'=>∃(q:Nat) (vs:List fO) (aL:List aR) (a2:OA) (c2:Nat) (a3:OA) (c3:Nat),m=(h.getD i []).length-q∧f 0=sL kr h ko∧f 2=pV aK 0∧f 4=pV aW 0∧f 5=U (i:Int)∧f 6=U (q:Int)∧HI M w w' (oL w 85 a3 aL c3::oL w 9 a2 vs c2::box aW #[sL a2 vs c2,sL a3 aL c3,.slice none 0 0] 32::bC)∧(q≤(h.getD i []).length)∧(vs=(lB i (mO h i) (h.getD i []) q).1)∧(aL=(lB i (mO h i) (h.getD i []) q).2)) _ ⟨0,vs,aL,a0,c0,a1,c1,J,s0,s1,s2,s3,(bJ J),H6,ai,(by exact h1),(by exact h2)⟩ ?_
  rintro _ f1 w4 ⟨q,vs,aL,a2,c2,a3,c3,rfl,s4,s5,s6,s7,s8,H7,hk,h1,h2⟩
  refine sq<|aH<|ak J s8<|ak J s4<|ak J s7<|k<|ia (H7.rv 4 J) J J J J ai Av EX ?_
  intro fz x0 aq cN
  refine k<|vR cN.w EX J J ?_
  intro a4 c4 cL
  have Ve:=bN cL
  have H8:=cj H7 cL
  refine k<|ep J J xG<|k<|lss J J J J<|z<|nx<|cd (b:=decide ((q:Int)<(x0.length:Int))) J J (fun b2=>?_)<|fun b2=>?_
  ·
   have p2:=dT b2
   refine sk<|nx<|sq<|bk<|aH<|ak J s4<|ak J s7<|k<|ia (H8.rv 5 J) J J J J ai Av EX ?_
   intro iG x1 cw eU
   refine k<|vR eU.w EX J J ?_
   intro a5 c5 eQ
   have ln1:=bN eQ
   have H9:=cj H8 eQ
   refine ak J s8<|k<|ia (H9.rv 0 J) J J J J (by have e_:=ay cw aq;subst e_;omega) xG CU ?_
   intro kX x2 dR gJ
   refine k<|vQ gJ.w CU J J ?_
   intro v0 gh
   obtain⟨_,⟨_,_,rfl,rfl,⟨_,_,rfl,⟨rfl,fQ⟩,⟨rfl,gG⟩⟩⟩,rfl⟩:=gh
   refine k<|al H9 CU ?_
   let dk:=box aW #[sL a2 vs c2,sL a3 aL c3,.slice none 0 0] 32::bC
   intro bj w5 eG (db:HI M w w5 (box bj #[.bool false,.string ⟨#[]⟩,U 0] 48::iL a5 x1 c5::iL a4 x0 c4::oL w 85 a3 aL c3::oL w 9 a2 vs c2::dk))
   refine k<|cz db 0 J CU J J J J J J J ?_
   intro w6 (da:HI M w w6 (box bj #[.bool x2.1,.string x2.2.1,U x2.2.2] 48::iL a5 x1 c5::iL a4 x0 c4::oL w 85 a3 aL c3::oL w 9 a2 vs c2::dk))
   refine cU<|bo Bw J s6<|bR da 5 J Ip J J J<|bo EC J J<|bR da 0 J Io J J J<|k ?_
   have eB:=da.freeze 4 J
   have eF:=NJ (l:=vs) (s:=x2.2.1) eB.mb (eB.rv 4 J) cG
   refine ca af' J (ec J<|ec J e0) eF ?_
   rintro _ w7 ⟨rfl,eI⟩
   have dZ:=da.ext eI
   refine aj (v:=U (jW vs x2.2.1)) J J<|aG<|sq<|aH<|ak (v:=U (jW vs x2.2.1)) J J<|k<|lss J J J J<|z<|nx<|cd (b:=decide ((jW vs x2.2.1)<0)) J J (fun b3=>?_)<|fun b3=>?_
   ·
    have p3:=dT b3
    refine aH<|bo Bw J s6<|bR dZ 5 J Ip J J J<|k<|ep J J Nf<|aj (v:=U (vs.length:Int)) J J<|aG<|rg<|bo Bw J s6<|bR dZ 5 J Ip J J J<|bo EC J J<|bR dZ 0 J Io J J J<|k<|bs (xs:=([x2.2.1]:List fO)) (cells:=#[.string x2.2.1]) (e:=9) dZ J (ct J eo) (fun _=>bu) ⟨[.string x2.2.1],[],J,⟨J,cG⟩,J⟩ J aJ ?_
    intro g0 w8 ly cM
    refine k<|kE cM 5 J J J J J J (fD<|cM.at_ 0 J) Nf Io J (by have e_:=ay cw aq;have h_:=yk (k:=q) aq ai;rw[←jJ aq,←h1,←h2] at h_;simp only[jv,gW];omega) J ?_
    intro a6 c6 w9 (fR:HI M w w9 (own w.heap.size 9 (.slice (some ⟨g0,0,none⟩) 1 1) ([x2.2.1]:List fO)::box bj #[.bool x2.1,.string x2.2.1,U x2.2.2] 48::iL a5 x1 c5::iL a4 x0 c4::oL w 85 a3 aL c3::oL w 9 a6 (vs++([x2.2.1]:List fO)) c6::dk))
    refine bo Bw J s6<|k<|cz fR 6 J Ip J J J J J J J ?_
    let dv:=oL w 9 a6 (vs++([x2.2.1]:List fO)) c6::box aW #[sL a6 (vs++([x2.2.1]:List fO)) c6,sL a3 aL c3,.slice none 0 0] 32::bC
    intro jb (eY:HI M w jb (own w.heap.size 9 (.slice (some ⟨g0,0,none⟩) 1 1) ([x2.2.1]:List fO)::box bj #[.bool x2.1,.string x2.2.1,U x2.2.2] 48::iL a5 x1 c5::iL a4 x0 c4::oL w 85 a3 aL c3::dv))
    refine aG<|rg<|bo dh J s6<|bR eY 6 J eR J J J<|ak J s7<|ak J s8<|bo Rs J J<|bR eY 1 J mC J J J<|ak (v:=U (vs.length:Int)) J J<|bo Rr J J<|bR eY 1 J aQ J J J<|k<|bd (v:=.agg #[U (i:Int),U (q:Int),.bool x2.1,U (vs.length:Int),U x2.2.2]) J (ct J<|ct J<|ct J<|ct J<|ct J eo) (fun _=>bu)<|k<|bs (xs:=([((i:Int),(q:Int),x2.1,(vs.length:Int),x2.2.2)]:List aR)) (cells:=#[U (i:Int),U (q:Int),.bool x2.1,U (vs.length:Int),U x2.2.2]) (e:=85) eY J (ct J eo) (fun _=>bu) ⟨[U (i:Int),U (q:Int),.bool x2.1,U (vs.length:Int),U x2.2.2],[],J,⟨_,_,J,⟨J,(show aN ((i:Int)) from aY)⟩,⟨_,_,J,⟨J,(show aN ((q:Int)) from aY)⟩,⟨_,_,J,J,⟨_,_,J,⟨J,(show aN ((vs.length:Int)) from(by have e_:=ay cw aq;have h3:=yk (k:=q) aq ai;rw[←jJ aq,←h1,←h2] at h3;unfold aN;omega))⟩,⟨J,(show aN (x2.2.2) from aY)⟩⟩⟩⟩⟩,J⟩ J aJ ?_
    intro g1 iK iJ fg
    refine k<|kE fg 5 J J J J J J (fD<|fg.at_ 0 J) fj gB J (by have e_:=ay cw aq;have h_:=yk (k:=q) aq ai;rw[←jJ aq,←h1,←h2] at h_;simp only[jv,gW];omega) J ?_
    intro a7 c7 jf (gz:HI M w jf (own w.heap.size 85 (.slice (some ⟨g1,0,none⟩) 1 1) ([((i:Int),(q:Int),x2.1,(vs.length:Int),x2.2.2)]:List aR)::own w.heap.size 9 (.slice (some ⟨g0,0,none⟩) 1 1) ([x2.2.1]:List fO)::box bj #[.bool x2.1,.string x2.2.1,U x2.2.2] 48::iL a5 x1 c5::iL a4 x0 c4::oL w 85 a7 (aL++([((i:Int),(q:Int),x2.1,(vs.length:Int),x2.2.2)]:List aR)) c7::dv))
    refine bo dh J s6<|k<|cz gz 7 J eR J J J J J J J ?_
    intro ju (jP:HI M w ju (own w.heap.size 85 (.slice (some ⟨g1,0,none⟩) 1 1) ([((i:Int),(q:Int),x2.1,(vs.length:Int),x2.2.2)]:List aR)::own w.heap.size 9 (.slice (some ⟨g0,0,none⟩) 1 1) ([x2.2.1]:List fO)::box bj #[.bool x2.1,.string x2.2.1,U x2.2.2] 48::iL a5 x1 c5::iL a4 x0 c4::oL w 85 a7 (aL++([((i:Int),(q:Int),x2.1,(vs.length:Int),x2.2.2)]:List aR)) c7::oL w 9 a6 (vs++([x2.2.1]:List fO)) c6::box aW #[sL a6 (vs++([x2.2.1]:List fO)) c6,sL a7 (aL++([((i:Int),(q:Int),x2.1,(vs.length:Int),x2.2.2)]:List aR)) c7,.slice none 0 0] 32::bC))
    refine z<|aF<|nx<|rg<|ak J s8<|k<|add J J J J aY<|aj (v:=U ((q:Int)+1)) J J<|z ?_
    have gI:HI M w ju (oL w 85 a7 (aL++([((i:Int),(q:Int),x2.1,(vs.length:Int),x2.2.2)]:List aR)) c7::oL w 9 a6 (vs++([x2.2.1]:List fO)) c6::box aW #[sL a6 (vs++([x2.2.1]:List fO)) c6,sL a7 (aL++([((i:Int),(q:Int),x2.1,(vs.length:Int),x2.2.2)]:List aR)) c7,.slice none 0 0] 32::bC):=jP.c_ [5,6,7,8,9] aJ J
    refine bD _ ?_ ⟨(q+1),(vs++([x2.2.1]:List fO)),(aL++([((i:Int),(q:Int),x2.1,(vs.length:Int),x2.2.2)]:List aR)),a6,c6,a7,c7,J,s4,s5,s6,s7,(bJ J),gI,(by rw[jJ aq];omega),(by rw[h1] at *;have e_:=ay cw aq;subst e_;rw[jJ aq] at *;first|exact(zl dR p3).1|exact(zj dR p3).1),(by rw[h1,h2] at *;have e_:=ay cw aq;subst e_;rw[jJ aq] at *;first|exact(zl dR p3).2|exact(zj dR p3).2)⟩
    rw[jJ aq];omega
   have p3:=dF b3
   refine sk<|nx<|rg<|bo dh J s6<|bR dZ 5 J eR J J J<|ak J s7<|ak J s8<|bo Rs J J<|bR dZ 0 J mC J J J<|ak (v:=U (jW vs x2.2.1)) J J<|bo Rr J J<|bR dZ 0 J aQ J J J<|k<|bd (v:=.agg #[U (i:Int),U (q:Int),.bool x2.1,U (jW vs x2.2.1),U x2.2.2]) J (ct J<|ct J<|ct J<|ct J<|ct J eo) (fun _=>bu)<|k<|bs (xs:=([((i:Int),(q:Int),x2.1,jW vs x2.2.1,x2.2.2)]:List aR)) (cells:=#[U (i:Int),U (q:Int),.bool x2.1,U (jW vs x2.2.1),U x2.2.2]) (e:=85) dZ J (ct J eo) (fun _=>bu) ⟨[U (i:Int),U (q:Int),.bool x2.1,U (jW vs x2.2.1),U x2.2.2],[],J,⟨_,_,J,⟨J,(show aN ((i:Int)) from aY)⟩,⟨_,_,J,⟨J,(show aN ((q:Int)) from aY)⟩,⟨_,_,J,J,⟨_,_,J,⟨J,(show aN (jW vs x2.2.1) from(by have h_:=u7 (p:=Zu x2.2.1) (r:=vs);have e_:=ay cw aq;have h3:=yk (k:=q) aq ai;rw[←jJ aq,←h1,←h2] at h3;unfold jW;unfold aN;omega))⟩,⟨J,(show aN (x2.2.2) from aY)⟩⟩⟩⟩⟩,J⟩ J aJ ?_
   intro g0 w8 ly cM
   refine k<|kE cM 4 J J J J J J (fD<|cM.at_ 0 J) fj gB J (by have e_:=ay cw aq;have h_:=yk (k:=q) aq ai;rw[←jJ aq,←h1,←h2] at h_;simp only[jv,gW];omega) J ?_
   intro a6 c6 w9 (fR:HI M w w9 (own w.heap.size 85 (.slice (some ⟨g0,0,none⟩) 1 1) ([((i:Int),(q:Int),x2.1,jW vs x2.2.1,x2.2.2)]:List aR)::box bj #[.bool x2.1,.string x2.2.1,U x2.2.2] 48::iL a5 x1 c5::iL a4 x0 c4::oL w 85 a6 (aL++([((i:Int),(q:Int),x2.1,jW vs x2.2.1,x2.2.2)]:List aR)) c6::oL w 9 a2 vs c2::dk))
   refine bo dh J s6<|k<|cz fR 6 J eR J J J J J J J ?_
   intro jb (eY:HI M w jb (own w.heap.size 85 (.slice (some ⟨g0,0,none⟩) 1 1) ([((i:Int),(q:Int),x2.1,jW vs x2.2.1,x2.2.2)]:List aR)::box bj #[.bool x2.1,.string x2.2.1,U x2.2.2] 48::iL a5 x1 c5::iL a4 x0 c4::oL w 85 a6 (aL++([((i:Int),(q:Int),x2.1,jW vs x2.2.1,x2.2.2)]:List aR)) c6::oL w 9 a2 vs c2::box aW #[sL a2 vs c2,sL a6 (aL++([((i:Int),(q:Int),x2.1,jW vs x2.2.1,x2.2.2)]:List aR)) c6,.slice none 0 0] 32::bC))
   refine z<|aF<|nx<|rg<|ak J s8<|k<|add J J J J aY<|aj (v:=U ((q:Int)+1)) J J<|z ?_
   have fg:HI M w jb (oL w 85 a6 (aL++([((i:Int),(q:Int),x2.1,jW vs x2.2.1,x2.2.2)]:List aR)) c6::oL w 9 a2 vs c2::box aW #[sL a2 vs c2,sL a6 (aL++([((i:Int),(q:Int),x2.1,jW vs x2.2.1,x2.2.2)]:List aR)) c6,.slice none 0 0] 32::bC):=eY.c_ [4,5,6,7,8] aJ J
   refine bD _ ?_ ⟨(q+1),vs,(aL++([((i:Int),(q:Int),x2.1,jW vs x2.2.1,x2.2.2)]:List aR)),a2,c2,a6,c6,J,s4,s5,s6,s7,(bJ J),fg,(by rw[jJ aq];omega),(by rw[h1] at *;have e_:=ay cw aq;subst e_;rw[jJ aq] at *;first|exact(zl dR p3).1|exact(zj dR p3).1),(by rw[h1,h2] at *;have e_:=ay cw aq;subst e_;rw[jJ aq] at *;first|exact(zl dR p3).2|exact(zj dR p3).2)⟩
   rw[jJ aq];omega
  have p2:=dF b2
  refine ex<|bg<|bt<|bz<|aF<|nx<|rg<|ak J s7<|k<|add J J J J aY<|aj (v:=U ((i:Int)+1)) J J<|z ?_
  have H9:HI M w w4 (oL w 85 a3 aL c3::oL w 9 a2 vs c2::box aW #[sL a2 vs c2,sL a3 aL c3,.slice none 0 0] 32::bC):=H8.c_ [1,2,3,4,5] aJ J
  refine bD _ ?_ ⟨(i+1),vs,aL,a2,c2,a3,c3,J,s4,s5,s6,(bJ J),H9,ai,(by rw[h1,KH ai (by rw[jJ aq];omega)]),(by rw[h2,KH ai (by rw[jJ aq];omega)])⟩
  omega
 have p1:=dF b1
 refine ex<|bg<|bt<|bz<|dM<|k<|cg H6 2 J dn J s2 aJ J<|k<|cz H6 3 J dn J J s1 J J J J ?_
 intro w4 (H7:HI M w w4 [oL w 85 a1 aL c1,oL w 9 a0 vs c0,box aW #[sL a0 vs c0,sL a1 aL c1,.slice none 0 0] 32,box aK #[sL a0 vs c0,sL a1 aL c1,.slice none 0 0] 32,iL kr h ko])
 refine aj (v:=U 0) J J<|aG<|rt<|iS H7 3 J dn J J J s1 J aJ ?_
 have e0:(vs:List fO)=qY h:=by rw[(zB hq).1,h1];unfold OQ;rw[show i=h.length from by omega]
 have e1:(aL:List aR)=j6 h:=by rw[(zB hq).2.1,h2];unfold xA;rw[show i=h.length from by omega]
 have e2:([]:az)=([]:az):=rfl
 have e3:(0:Int)=tW h:=by exact(zB hq).2.2.symm
 have bF:=RR (fun (cK:List fO) (fI:List aR) (jE:az) (vt:Int)=>(.tuple #[.agg #[.slice a0 cK.length c0,.slice a1 fI.length c1,.slice none jE.length 0],U vt]:Value)) e0 e1 e2 e3
 exact⟨a0,c0,a1,c1,none,0,bF,H7.below,(alB (fun (x_:List fO)=>RV _ _ (.slice a0 x_.length c0) x_) e0).mp (H7.dV 1 J),(alB (fun (x_:List aR)=>RV _ _ (.slice a1 x_.length c1) x_) e1).mp (H7.dV 0 J),(alB (fun (x_:az)=>RV _ _ (.slice none x_.length 0) x_) e2).mp (lC _ _)⟩
theorem Cr {val:Int} (hM:ei M w) (cX:cP M w av au I) (afH:aN vr) (ajX:aN val):Calls aX 41 #[.agg #[.slice aC aE aB,sL av I au,.slice ax cH aw],U vr,U val] w (cZ fun v w'=>v=.tuple #[U (max (g_ I vr val) 0),.bool (decide (0≤g_ I vr val))]∧Ext w w'):=by
 refine dK 43 Tryz.func41 J J J hM fun f0 ha H=>?_
 have H0:=cj H cX
 have iT:=bN cX
 have i0:f0 0=.agg #[.slice aC aE aB,sL av I au,.slice ax cH aw]:=ha 0 bH
 have i1:f0 1=U vr:=ha 1 bH
 have i2:f0 2=U val:=ha 2 bH
 refine aH<|k<|bx H0 J i0 ?_
 intro aK w0 dt (H1:HI M w w0 [box aK #[.slice aC aE aB,sL av I au,.slice ax cH aw] 32,iL av I au])
 refine aj (v:=U 0) J J<|aj (v:=.bool false) J J<|aG<|sq<|aH<|aj (v:=U 0) J J<|aG<|bk<|lp (fun m f w'=>∃(j:Nat),m=I.length-j∧f 1=U vr∧f 2=U val∧f 3=pV aK 0∧f 8=U (j:Int)∧HI M w w' [box aK #[.slice aC aE aB,sL av I au,.slice ax cH aw] 32,iL av I au]∧(j≤I.length)∧((I.take j).any (sD vr val)=false)) _ ⟨0,J,i1,i2,J,(bJ J),H1,ai,bH⟩ ?_
 rintro _ f0 w1 ⟨j,rfl,s0,s1,s2,s3,H2,hk,hs⟩
 refine sq<|aH<|ak J s3<|bo dh J s2<|bR H2 0 J eR J J J<|k<|ep J J fj<|k<|lss J J J J<|z<|nx<|cd (b:=decide ((j:Int)<(I.length:Int))) J J (fun b0=>?_)<|fun b0=>?_
 ·
  have p0:=dT b0
  refine sk<|nx<|sq<|bk<|aH<|bo dh J s2<|bR H2 0 J eR J J J<|ak J s3<|k<|ia (H2.rv 1 J) J J J J ai fj gB ?_
  intro fz x0 aq cN
  refine bo oe J J<|k<|QK ((cN).s2).fst.w mC J J<|ak (v:=.bool x0.2.2.1) J J ?_
  rcases bE (x0.2.2.1) with b1|b1
  ·
   refine aM J J J b1<|fa dh J s2<|aM J J J b1<|lx H2 0 J eR J J J<|aM J J J b1<|mv J s3<|aM J J J b1<|ia (H2.rv 1 J) J J J J ai fj gB ?_
   intro iG x1 cw eU
   refine aM J J J b1<|fa nv J J<|aM J J J b1<|kB ((eU).s3).fst.w aQ J J ?_
   intro cL
   refine aM J J J b1<|mv J s0<|aM J J J b1<|eql J J J J<|k<|ba J J J J b1 J<|ak (v:=.bool (decide (x1.2.2.2.1=vr))) J J ?_
   rcases bE (decide (x1.2.2.2.1=vr)) with b2|b2
   ·
    have p2:=dT b2
    refine aM J J J b2<|fa dh J s2<|aM J J J b2<|lx H2 0 J eR J J J<|aM J J J b2<|mv J s3<|aM J J J b2<|ia (H2.rv 1 J) J J J J ai fj gB ?_
    intro kX x2 dR gJ
    refine aM J J J b2<|fa Bu J J<|aM J J J b2<|kB (gJ).s4.w aQ J J ?_
    intro eQ
    refine aM J J J b2<|mv J s1<|aM J J J b2<|eql J J J J<|k<|ba J J J J b2 J<|z<|nx<|cd (b:=decide (x2.2.2.2.2=val)) J J (fun b3=>?_)<|fun b3=>?_
    ·
     refine aH<|ak J s3<|aj (v:=U (j:Int)) J J<|aj (v:=.bool true) J J<|aG<|rt<|bM<|aS<|gb<|bM<|aS<|r2 J J J ?_
     have e0:((j:Int):Int)=(max (g_ I vr val) 0):=by have e1:=ay cw aq;subst e1;have e2:=ay dR aq;subst e2;have h_:=Pa aq b1 b2 b3 hs;omega
     have e1:(true:Bool)=decide (0≤g_ I vr val):=by have e1:=ay cw aq;subst e1;have e2:=ay dR aq;subst e2;have h_:=Pa aq b1 b2 b3 hs;symm;rw[alC];omega
     have bF:=sd (fun (cK:Int) (fI:Bool)=>(.tuple #[U cK,.bool fI]:Value)) e0 e1
     exact⟨bF,H2.below⟩
    have p3:=dF b3
    refine sk<|aF<|nx<|rg<|ak J s3<|k<|add J J J J aY<|aj (v:=U ((j:Int)+1)) J J<|z<|bD _ ?_ ⟨(j+1),J,s0,s1,s2,(bJ J),H2,ai,(by have e1:=ay cw aq;subst e1;first|exact kF aq hs (L9 b2)|(have e2:=ay dR aq;subst e2;exact kF aq hs (L8 b3)))⟩
    omega
   have p2:=dF b2
   refine aD J J J b2<|aD J J J b2<|aD J J J b2<|aD J J J b2<|aD J J J b2<|aD J J J b2<|aD J J J b2<|aD J J J b2<|k<|bc J J J J b2 J<|aG<|l7 J J J<|sk<|aF<|nx<|rg<|ak J s3<|k<|add J J J J aY<|aj (v:=U ((j:Int)+1)) J J<|z<|bD _ ?_ ⟨(j+1),J,s0,s1,s2,(bJ J),H2,ai,(by have e1:=ay cw aq;subst e1;first|exact kF aq hs (L9 b2)|(have e2:=ay dR aq;subst e2;exact kF aq hs (L8 b3)))⟩
   omega
  refine aD J J J b1<|aD J J J b1<|aD J J J b1<|aD J J J b1<|aD J J J b1<|aD J J J b1<|aD J J J b1<|aD J J J b1<|k<|bc J J J J b1 J<|ak (v:=.bool false) J J<|aD J J J J<|aD J J J J<|aD J J J J<|aD J J J J<|aD J J J J<|aD J J J J<|aD J J J J<|aD J J J J<|k<|bc J J J J J J<|aG<|l7 J J J<|sk<|aF<|nx<|rg<|ak J s3<|k<|add J J J J aY<|aj (v:=U ((j:Int)+1)) J J<|z<|bD _ ?_ ⟨(j+1),J,s0,s1,s2,(bJ J),H2,ai,(by exact kF aq hs (Xy b1))⟩
  omega
 have p0:=dF b0
 refine ex<|bg<|bt<|bz<|dM<|aj (v:=U 0) J J<|aj (v:=.bool false) J J<|aG<|rt<|r2 J J J ?_
 have e0:(0:Int)=(max (g_ I vr val) 0):=by have h_:=Lz hs ai;omega
 have e1:(false:Bool)=decide (0≤g_ I vr val):=by have h_:=Lz hs ai;symm;rw[al1];omega
 have bF:=sd (fun (cK:Int) (fI:Bool)=>(.tuple #[U cK,.bool fI]:Value)) e0 e1
 exact⟨bF,H2.below⟩
theorem Lc (hM:ei M w) (cX:cP M w av au I):Calls aX 17 #[.agg #[.slice aC aE aB,sL av I au,.slice ax cH aw]] w (cZ fun v w'=>v=.tuple #[U ((kh I).1),U ((kh I).2.1),U ((kh I).2.2)]∧Ext w w'):=by
 refine dK 43 Tryz.func17 J J J hM fun f0 ha H=>?_
 have H0:=cj H cX
 have iT:=bN cX
 have i0:f0 0=.agg #[.slice aC aE aB,sL av I au,.slice ax cH aw]:=ha 0 bH
 refine aH<|k<|bx H0 J i0 ?_
 intro aK w0 dt (H1:HI M w w0 [box aK #[.slice aC aE aB,sL av I au,.slice ax cH aw] 32,iL av I au])
 refine aj (v:=U 0) J J<|aj (v:=U 0) J J<|aj (v:=U 0) J J<|aG<|sq<|aH<|aj (v:=U 0) J J<|aG<|bk ?_
 let bC:=[box aK #[.slice aC aE aB,sL av I au,.slice ax cH aw] 32,iL av I au]
 refine lp (fun m f w'=>∃(j:Nat),m=I.length-j∧f 1=pV aK 0∧f 5=U (j:Int)∧HI M w w' bC∧(j≤I.length)∧(∀k,k<j→sI I k=false)) _ ⟨0,J,J,(bJ J),H1,ai,(by intro k hk;omega)⟩ ?_
 rintro _ f0 w1 ⟨j,rfl,s0,s1,H2,hk,hs⟩
 refine sq<|aH<|ak J s1<|bo dh J s0<|bR H2 0 J eR J J J<|k<|ep J J fj<|k<|lss J J J J<|z<|nx<|cd (b:=decide ((j:Int)<(I.length:Int))) J J (fun b0=>?_)<|fun b0=>?_
 ·
  have p0:=dT b0
  refine sk<|nx<|sq<|bk<|aH<|bo dh J s0<|bR H2 0 J eR J J J<|ak J s1<|k<|ia (H2.rv 1 J) J J J J ai fj gB ?_
  intro fz x0 aq cN
  refine k<|vQ cN.w gB J J ?_
  intro v0 cL
  obtain⟨_,⟨_,_,rfl,⟨rfl,eQ⟩,⟨_,_,rfl,⟨rfl,gh⟩,⟨_,_,rfl,rfl,⟨_,_,rfl,⟨rfl,fQ⟩,⟨rfl,gG⟩⟩⟩⟩⟩,rfl⟩:=cL
  refine k<|al H2 gB ?_
  intro aW w2 cR (H3:HI M w w2 (box aW #[U 0,U 0,.bool false,U 0,U 0] 85::bC))
  refine k<|cz H3 0 J gB J J J J J J J ?_
  intro w3 (H4:HI M w w3 (box aW #[U x0.1,U x0.2.1,.bool x0.2.2.1,U x0.2.2.2.1,U x0.2.2.2.2] 85::bC))
  refine aG<|sq<|aH<|bo oe J J<|bR H4 0 J mC J J J<|k<|kc J J<|z<|nx<|cd (b:=!x0.2.2.1) J J (fun b1=>?_)<|fun b1=>?_
  ·
   refine ex<|bg<|bz<|nx<|rg<|ak J s1<|k<|add J J J J aY<|aj (v:=U ((j:Int)+1)) J J<|z ?_
   have H5:HI M w w3 bC:=H4.c_ [1,2] aJ J
   refine bD _ ?_ ⟨(j+1),J,s0,(bJ J),H5,ai,(by exact KA hs aq (UD<|by simpa using b1))⟩
   omega
  refine sk<|nx<|sq<|aH<|bo Bu J J<|bR H4 0 J aQ J J J<|k<|eql J J J J<|z<|nx<|cd (b:=decide (x0.2.2.2.2=0)) J J (fun b2=>?_)<|fun b2=>?_
  ·
   have p2:=dT b2
   refine aH<|ak J s1<|ak J s1<|aj (v:=U (j:Int)) J J<|aj (v:=U (j:Int)) J J<|aj (v:=U 5) J J<|aG<|rt<|aS<|bM<|aS<|gb<|bM<|aS<|r3 J J J J ?_
   have e0:((j:Int):Int)=(kh I).1:=by exact(alB (fun z_:Int×Int×Int=>z_.1)<|DC hs aq (by simpa using b1) p2).symm
   have e1:((j:Int):Int)=(kh I).2.1:=by exact(alB (fun z_:Int×Int×Int=>z_.2.1)<|DC hs aq (by simpa using b1) p2).symm
   have e2:(5:Int)=(kh I).2.2:=by exact(alB (fun z_:Int×Int×Int=>z_.2.2)<|DC hs aq (by simpa using b1) p2).symm
   have bF:=wE (fun (cK:Int) (fI:Int) (jE:Int)=>(.tuple #[U cK,U fI,U jE]:Value)) e0 e1 e2
   exact⟨bF,H4.below⟩
  have p2:=dF b2
  refine sk<|dM<|k<|cg H4 1 J dn J s0 aJ J<|bo nv J J<|bR H4 0 J aQ J J J<|bo Bu J J<|bR H4 0 J aQ J J J<|k ?_
  have cx:=Cr (I:=I) (vr:=x0.2.2.2.1) (val:=x0.2.2.2.2) (aC:=aC) (aE:=aE) (aB:=aB) (ax:=ax) (cH:=cH) (aw:=aw) H4.mb (H4.rv 2 J) fQ gG
  refine ca aaW J (ec J<|ec J<|ec J e0) cx ?_
  rintro _ w4 ⟨rfl,d_⟩
  have H5:=H4.ext d_
  refine ak (v:=.tuple #[U (max (g_ I x0.2.2.2.1 x0.2.2.2.2) 0),.bool (decide (0≤g_ I x0.2.2.2.1 x0.2.2.2.2))]) J J<|k<|xt J J J<|k<|xt J J J<|aj (v:=U (max (g_ I x0.2.2.2.1 x0.2.2.2.2) 0)) J J<|aj (v:=.bool (decide (0≤g_ I x0.2.2.2.1 x0.2.2.2.2))) J J<|cU<|ak (v:=U (max (g_ I x0.2.2.2.1 x0.2.2.2.2) 0)) J J<|ak J s1<|k<|lss J J J J<|z<|nx<|cd (b:=decide ((max (g_ I x0.2.2.2.1 x0.2.2.2.2) 0)<(j:Int))) J J (fun b3=>?_)<|fun b3=>?_
  ·
   have p3:=dT b3
   refine aH<|ak (v:=U (max (g_ I x0.2.2.2.1 x0.2.2.2.2) 0)) J J<|ak J s1<|aj (v:=U (max (g_ I x0.2.2.2.1 x0.2.2.2.2) 0)) J J<|aj (v:=U (j:Int)) J J<|aj (v:=U 4) J J<|aG<|rt<|bM<|aS<|gb<|bM<|aS<|r3 J J J J ?_
   have e0:((max (g_ I x0.2.2.2.1 x0.2.2.2.2) 0):Int)=(kh I).1:=by exact(alB (fun z_:Int×Int×Int=>z_.1)<|BE hs aq (by simpa using b1) p2 p3).symm
   have e1:((j:Int):Int)=(kh I).2.1:=by exact(alB (fun z_:Int×Int×Int=>z_.2.1)<|BE hs aq (by simpa using b1) p2 p3).symm
   have e2:(4:Int)=(kh I).2.2:=by exact(alB (fun z_:Int×Int×Int=>z_.2.2)<|BE hs aq (by simpa using b1) p2 p3).symm
   have bF:=wE (fun (cK:Int) (fI:Int) (jE:Int)=>(.tuple #[U cK,U fI,U jE]:Value)) e0 e1 e2
   exact⟨bF,H5.below⟩
  have p3:=dF b3
  refine sk<|aF<|nx<|rg<|ak J s1<|k<|add J J J J aY<|aj (v:=U ((j:Int)+1)) J J<|z ?_
  have H6:HI M w w4 bC:=H5.c_ [1,2] aJ J
  refine bD _ ?_ ⟨(j+1),J,s0,(bJ J),H6,ai,(by exact KA hs aq (UE p2 p3))⟩
  omega
 have p0:=dF b0
 refine ex<|bg<|bt<|bz<|dM<|aj (v:=U 0) J J<|aj (v:=U 0) J J<|aj (v:=U 0) J J<|aG<|rt<|r3 J J J J ?_
 have e0:(0:Int)=(kh I).1:=by exact(alB (fun z_:Int×Int×Int=>z_.1)<|F2 hs ai).symm
 have e1:(0:Int)=(kh I).2.1:=by exact(alB (fun z_:Int×Int×Int=>z_.2.1)<|F2 hs ai).symm
 have e2:(0:Int)=(kh I).2.2:=by exact(alB (fun z_:Int×Int×Int=>z_.2.2)<|F2 hs ai).symm
 have bF:=wE (fun (cK:Int) (fI:Int) (jE:Int)=>(.tuple #[U cK,U fI,U jE]:Value)) e0 e1 e2
 exact⟨bF,H2.below⟩
end Go.Proofs.YtefcbihikknlkaaGreatDoor
