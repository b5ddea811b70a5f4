/- Engine, part P: function values that are handed in; blocks that are only read; small words on lists. -/
import Derived.Test.YtgjakhpjmapelaaGreatDoorTwnA
import Derived.WalkKit
import Derived.ProofKit
import Derived.OpenShut
import Derived.ReadAgain
import Derived.ChangeStays
import Derived.Below
import Derived.ChangeSame
import Derived.ArgAppend
import Derived.Laws.CopyRow
import Derived.LaidMore
import Derived.Stop.Joined
import Derived.Laws.StructEq
import Derived.ChangeKeysEq
import Derived.MapKept
import Derived.Laws.BytesArg
set_option linter.unusedVariables false
set_option linter.unusedSimpArgs false
set_option linter.unusedSectionVars false
namespace Go.Ew
open Go.RowKit
variable {k:Nat}
def ro (b:Nat) (cs:Array Value) (t:TypeId):Item:=⟨none,fun M w=>w.heap[b]? =some (.cells cs t (0,0))∧¬M b,fun h u _=>by
 have hb:b<_:=(am7.1 h.1).1
 have:=u.2 b hb h.2
 exact⟨this.1.trans h.1,this.2⟩⟩
section
variable {P:Program} {n:Nat} {ops:Array Oper} {f:aP} {w w0 w':aG} {K:aP→aG→Prop} {M0:cb} {l:List Item}
variable {d:Nat} {T ty e:TypeId} {ps:String} {af:Array Edge} {x y:Operand} {v:Value}
theorem wc {bb off:Nat} {cs:Array Value} {t:TypeId} {k bytes:Nat} {agg:Bool} {z:Value} (H:HI M0 w0 w l) (i:Nat) (hi:l[i]? =some (ro bb cs t)) (F:ey P T k agg bytes z) (ox:bJ n x=true) (hx:ev f x=.pointer (some ⟨bb,off,none⟩))
  (hk:agg=false→k=1) (hl:((cs.toList.drop off).take k).length=k) (h:K (cx f d (sG agg ((cs.toList.drop off).take k))) w):SO P n ops ⟨some d,.load T x,ty,ps,af,none⟩ f w K:=by
 have hb:w.heap[bb]? =some (.cells cs t (0,0)):=(H.at_ i hi).1
 refine SO.value (v:=sG agg ((cs.toList.drop off).take k)) ?_ h
 have hc:∀j u,((cs.toList.drop off).take k)[j]? =some u→w.cell? ((⟨bb,off,none⟩:Addr).add j)=some u:=by
  intro j u hu
  rw[show (⟨bb,off,none⟩:Addr).add j=⟨bb,off+j,none⟩ from by unfold Addr.add;split<;>simp_all,cell_of_row w bb (off+j) cs t (0,0) hb]
  have hj:j<k:=by
   have:=(dU.1 hu).1
   omega
  rw[am5,amF hj,ank] at hu
  simpa using hu
 simp[execOp,aM ox,hx,Instr.loadAt,Instr.sureAddr,rJ F hk hl hc]
theorem lr {bb off:Nat} {cs:Array Value} {t:TypeId} {bytes:Nat} {z:Value} (H:HI M0 w0 w l) (i:Nat) (hi:l[i]? =some (ro bb cs t)) (F:ey P T 1 false bytes z) (ox:bJ n x=true) (hx:ev f x=.pointer (some ⟨bb,off,none⟩))
  (hl:((cs.toList.drop off).take 1).length=1) (h:K (cx f d (sG false ((cs.toList.drop off).take 1))) w):SO P n ops ⟨some d,.load T x,ty,ps,af,none⟩ f w K:=wc H i hi F ox hx (fun _=>rfl) hl h
end
def FP {α:Type} [GT α] (P:Program) (g:FuncId) (C:List Value) (M:cb) (w:aG) (xs:List α) (p:α→Bool):Prop:=
 cH P g∧∀w1 v x,x∈xs→Ext w w1→RV M w1 v x→Calls P g ([v]++C).toArray w1 (cA fun u w2=>u=.bool (p x)∧Ext w1 w2)
theorem FP.sub {α:Type} [GT α] {P:Program} {g:FuncId} {C:List Value} {M M':cb} {w w':aG} {xs:List α} {p:α→Bool} (h:FP P g C M w xs p) (e:Ext w w') (hM:∀b,M b→M' b):FP P g C M' w' xs p:=
 ⟨h.1,fun w1 v x hx e' hv=>h.2 w1 v x hx (e.trans e') (hv.lift (Up.less fun b _ hb=>hM b hb))⟩
theorem T0 {M0:cb} {l:List Item}:∀b,M0 b→MS M0 l b:=fun _ h=>.inl h
theorem nG {α:Type} {r:List α} {x:α} (h:r[((k:Nat):Int).toNat]? =some x):r.take (k+1)=r.take k++[x]:=by
 rw[dM] at h
 rw[am9,h];rfl
theorem mO {α:Type} {r:List α} (h:r.length≤k):r.take k=r:=amL h
theorem pD {α:Type} {r:List α} {x:α} {p:α→Bool} (h:r[((k:Nat):Int).toNat]? =some x) (h1:(r.take k).any p=false) (h2:p x=false):(r.take (k+1)).any p=false:=by
 rw[nG h];simp[h1,h2]
def eO {α:Type} (p:α→Bool) (r:List α):Int:=match r.findIdx? p with|some i=>i|none=> -1
theorem uA {α:Type} {r:List α} {x:α} {p:α→Bool} (h:r[((k:Nat):Int).toNat]? =some x) (h1:(r.take k).any p=false) (h2:p x=true):(k:Int)=eO p r:=by
 rw[dM] at h
 obtain⟨hk,hx⟩:=dU.1 h
 have:r.findIdx? p=some k:=by
  rw[am3]
  refine⟨hk,by rw[hx];exact h2,fun j hj=>?_⟩
  have hm:r[j]∈r.take k:=by
   rw[List.mem_take_iff_getElem]
   exact⟨j,by omega,J⟩
  have:=aol.1 h1 _ hm
  simpa using this
 simp[eO,this]
theorem vg {α:Type} {r:List α} {p:α→Bool} (h1:(r.take k).any p=false) (h2:r.length≤k):(-1:Int)=eO p r:=by
 rw[mO h2] at h1
 have:r.findIdx? p=none:=by
  rw[aoy]
  intro x hx
  simpa using aol.1 h1 x hx
 simp[eO,this]
theorem uB {α:Type} {p:α→Bool} {r:List α}:decide ((0:Int)≤eO p r)=r.any p:=by
 unfold eO
 cases h:r.findIdx? p with
 |none=>
  rw[aoy] at h
  have:r.any p=false:=aol.2<|by intro x hx;simp[h x hx]
  simp[this]
 |some i=>
  rw[am3] at h
  obtain⟨hi,hp,_⟩:=h
  have:r.any p=true:=anc.2 ⟨_,aoS hi,hp⟩
  simp[this]
theorem wJ {α:Type} {p:α→Bool} {r:List α}: -1≤eO p r∧eO p r≤r.length:=by
 unfold eO
 cases h:r.findIdx? p with
 |none=>simp only[];omega
 |some i=>
  rw[am3] at h
  obtain⟨hi,_⟩:=h
  simp only[];omega
theorem bl {α:Type} [GT α] {M:cb} {w:aG} {a:Option Addr} {n c:Nat} {xs:List α} (h:RV M w (.slice a n c) xs):xs.length≤9223372036854775807:=by
 obtain⟨a',m,c',e,h2,h3,h4, -⟩:=RV.list.1 h
 injection e with e1 e2 e3
 unfold maxLen at h4
 omega
def bj {α:Type} [GT α] (M:cb) (e:TypeId) (w0:aG) (xs:List α) (v:Value) (w:aG):Prop:=
 Ext w0 w∧(∀b,v.ownBlock=some b→b<w.heap.size)∧(own w0.heap.size e v xs).holds (fun b=>M b∨v.ownBlock=some b) w
section
variable {M0:cb} {w0 w w':aG} {l:List Item} {α:Type} [GT α] {v:Value} {xs:List α} {e:TypeId}
theorem HI.eS (H:HI M0 w0 w l) (h:bj (MS M0 l) e w xs v w'):HI M0 w0 w' (own w0.heap.size e v xs::l):=by
 obtain⟨hx,hb,cs,h1,h2⟩:=h
 have zo:∀(B:Nat),B≤w.heap.size→w'.ownsRow B e (GT.size α) v xs.length cs:=by
  intro B hB
  refine⟨h1.1,?_⟩
  rcases h1.2 with h3|⟨g,cap,cur,rfl,h3,h4⟩
  ·exact .inl h3
  ·exact .inr ⟨g,cap,cur,J,amP hB h3,h4⟩
 have BJ:∀b,v.ownBlock=some b→w.heap.size≤b:=fun b wh=>(h1.lt b wh).1
 cases hv:v.ownBlock with
 |none=>
  refine(H.ext hx).put hv ⟨cs,zo _ H.below.size,bB.lift (Up.less ?_) h2⟩
  intro b BN hM
  exact .inl hM
 |some b=>
  refine H.new hx b hv (BJ b hv) (hb b hv) ⟨cs,zo _ H.below.size,bB.lift (Up.less ?_) h2⟩
  rintro c hc (hM|⟨it,hit,ab_⟩)
  ·exact .inl (.inl hM)
  ·rcases amV.1 hit with rfl|hit
   ·exact .inr ab_
   ·exact .inl (.inr ⟨it,hit,ab_⟩)
theorem HI.du (H:HI M0 w0 w l) (i:Nat) (hi:l[i]? =some (own w0.heap.size e v xs)):bj M0 e w0 xs v w:=by
 obtain⟨cs,h1,h2⟩:=H.at_ i hi
 refine⟨H.below,fun b hb=>(wH H hi b hb).2,cs,h1,bB.lift (Up.less ?_) h2⟩
 rintro b _ (hM|hb)
 ·exact .inl hM
 ·exact .inr ⟨_,dN hi,hb⟩
theorem fU {M:cb} (h:Ext w0 w):bj M e w0 ([]:List α) (.slice none 0 0) w:=⟨h,fun b hb=>(by cases hb),[],World.ownsRow_nil w _ e _,rfl⟩
theorem bj.rv {M:cb} (h:bj M e w xs v w') (hM:∀b,M b→b<w.heap.size):RV M w' v xs:=by
 obtain⟨_,hb,ho⟩:=h
 refine zV ho (fun b _ vk=>.inl vk)<|fun b wh hMb=>?_
 obtain⟨cs,h1,_⟩:=ho
 have:=(h1.lt b wh).1
 have:=hM b hMb
 omega
end
section
variable {α:Type} {β:Type} {γ:Type} {δ:Type} {ε:Type} {ζ:Type} {V:Type} {a a':α} {b b':β} {c c':γ} {d d':δ} {e e':ε} {z z':ζ}
theorem iD (f:α→V) (h1:a=a'):f a=f a':=by rw[h1]
theorem ny (f:α→β→V) (h1:a=a') (h2:b=b'):f a b=f a' b':=by rw[h1,h2]
theorem qX (f:α→β→γ→V) (h1:a=a') (h2:b=b') (h3:c=c'):f a b c=f a' b' c':=by rw[h1,h2,h3]
theorem cg4 (f:α→β→γ→δ→V) (h1:a=a') (h2:b=b') (h3:c=c') (h4:d=d'):f a b c d=f a' b' c' d':=by rw[h1,h2,h3,h4]
end
theorem mJ {α:Type} [GT α] {M0:cb} {l:List Item} {it:Item} {w:aG} {v:Value} {x:α} (hn:it.jG=none) (h:RV (MS M0 (it::l)) w v x):RV (MS M0 l) w v x:=by rwa [aH hn] at h
end Go.Ew
namespace Go.Ew
open Go.RowKit Go.WideShapes Go.ChangeShapes
abbrev NoM:Nat→Prop:=fun _=>False
def Yi (P:Program) (t:TypeId) (α:Type) [GT α]:Prop:=
 P.cellsOf t=GT.size α∧∀{H:Type} (enc:TypeId×Value→H) (W:aG) (n:Nat) (cs:List Value) (x:DataW H×List MemPlace),
  DataW.trod enc P W 0 (fun _=>true) true n t cs=some x→∃y:α,GT.rep NoM W cs y
section
variable {P:Program} {t e:TypeId}
theorem K7 (hc:P.cellsOf t=1) (ht:P.underlying t=some .string):Yi P t bA:=by
 refine⟨hc,fun enc W n cs x h=>?_⟩
 obtain⟨k,rfl, -,hk⟩:=DataW.trod_string ht h
 exact⟨k,J,hk⟩
section
variable {H:Type} {enc:TypeId×Value→H} {W:aG} {base:Nat} {v:Value} {d:DataW H} {ps:List MemPlace}
theorem YD {α:Type} [GT α] (ha:GT.agg α=false) (O:Yi P t α) (hv:v.cells=#[v]) (h:DataW.Trod enc P W 0 (fun _=>true) true t v d ps):∃y:α,RV NoM W v y:=by
 obtain⟨n,h⟩:=h
 obtain⟨y,hy⟩:=O.2 enc W n _ _ h
 rw[hv] at hy
 exact⟨y,_,hy,by rw[ha];rfl⟩
theorem YE {k:IntKind} (ht:P.underlying t=some (.int k)) (hv:Value.okWide P W .any base t v) (h:DataW.Trod enc P W 0 (fun _=>true) true t v d ps):∃n:Int,v=.int k n∧(Lit.int k n).wf=true:=by
 obtain⟨n,h⟩:=h
 obtain⟨m,rfl⟩:=okWide_int ht hv
 obtain⟨m',e, -,hw⟩:=DataW.trod_int ht h
 simp[Value.cells] at e
 subst e
 exact⟨m,J,hw⟩
theorem YF (ht:P.underlying t=some (.int .i64)) (hv:Value.okWide P W .any base t v) (h:DataW.Trod enc P W 0 (fun _=>true) true t v d ps):∃n:Int,v=.int .i64 n∧aL n:=by
 obtain⟨n,rfl,hw⟩:=YE ht hv h
 exact⟨n,J,bounds_i64 hw⟩
theorem Ph (hc:P.cellsOf t=1) (ht:P.underlying t=some .string) (hv:Value.okWide P W .any base t v) (h:DataW.Trod enc P W 0 (fun _=>true) true t v d ps):∃x:bA,v=.string x∧x.size≤maxLen:=by
 obtain⟨s,rfl⟩:=okWide_string ht hv
 obtain⟨y,hy⟩:=YD rfl (K7 hc ht) rfl h
 obtain⟨e,hs⟩:=RV.str.1 hy
 injection e with e
 subst e
 exact⟨s,J,hs⟩
theorem D3 {W':aG} {T:TypeId→Prop} (K:Kids P T) (hz:∀t e,T t→P.underlying t=some (.slice e)→0<P.cellsOf e) (e:Ext W W') {sp:Nat→Bool}:
  ∀{ts:List TypeId} {vs:List Value} {ds:List (DataW H)} {ps:List MemPlace},(∀t∈ts,T t)→DataW.TrodAll enc P W 0 (fun _=>true) true ts vs ds ps→(∀p∈ps,sp p.block=true)→DataW.TrodAll enc P W' 0 sp true ts vs ds ps
 |[],[],[],_,_,h,_=>h
 |t::_,v::_,_::_,_,hT,⟨p,q,⟨n,h1⟩,h2,hp⟩,hs=>by
  refine⟨p,q,⟨n,?_⟩,D3 K hz e (fun t ht=>hT t<|amV.2<|Or.inr ht) h2 (fun x hx=>hs x<|by rw[hp];exact anP _ hx),hp⟩
  have hr:=DataW.trod_respare K hz n _ _ _ (hT _<|amV.2<|Or.inl J) h1 (spare':=sp)<|fun x hx=>hs x<|by rw[hp];exact anV _ hx
  exact DataW.trod_carry n _ _ _ hr fun x hx=>Below.same e.toBelow (DataW.trod_lt n _ _ _ h1 x hx)
 |[],[],_::_,_,_,h,_=>h.elim
 |[],_::_,_,_,_,h,_=>h.elim
 |_::_,[],_,_,_,h,_=>h.elim
 |_::_,_::_,[],_,_,h,_=>h.elim
theorem R4 {f:Func} {s:ChangeSpec} {apart fresh handsOn again:Bool} {W W':aG} {args:Array Value} {ds gs:List (DataW H)} {before:List MemPlace} {tb:TypeId}
  (K:Kids P (·<P.types.size)) (hz:∀t e,t<P.types.size→P.underlying t=some (.slice e)→0<P.cellsOf e) (hts:∀t∈f.params.toList,t<P.types.size)
  (Xj:s.vars=[]) (hW:DataW.Whole enc P f.params.toList s.vars apart W args.toList ds gs before) (e:Ext W W') (hrt:f.resultTypes=#[tb]) (hu:P.underlying tb=some .bool)
  (h1:(s.fn H (ds++gs)).results=[.lit (.bool true)]) (h2:(s.fn H (ds++gs)).args=ds) (h3:(s.fn H (ds++gs)).vars=[]):
  s.post enc P f apart fresh handsOn again W args (.bool true) W':=by
 have eZ:∀p∈before,p.block<W.heap.size:=fun p hp=>hW.lt p hp
 have hW2:=hW
 obtain⟨p,q,hA,hV,Gu,hfz,lL⟩:=hW2
 rw[Xj] at hV
 have hq:gs=[]∧q=[]:=by
  cases gs with
  |nil=>exact⟨rfl,hV⟩
  |cons _ _=>exact hV.elim
 obtain⟨rfl,rfl⟩:=hq
 rw[anR] at Gu
 subst Gu
 have hold:∀x∈before,(fun b=>decide (b<W.heap.size)) x.block=true:=fun x hx=>by simpa using eZ x hx
 have abR:∀(b:Nat) (sp:Nat→Bool) (hd:Bool),DataW.TrodAll enc P W' b sp hd f.resultTypes.toList ((Value.bool true).resultList f.resultTypes.size) (s.fn H (ds++[])).results []:=by
  intro b sp hd
  rw[h1,hrt]
  exact trodAll_mk1<|shut_bool hu _
 have Qh:∀sp:Nat→Bool,(∀x∈before,sp x.block=true)→DataW.TrodAll enc P W' 0 sp true f.params.toList args.toList (s.fn H (ds++[])).args before:=by
  intro sp hsp
  rw[h2]
  exact D3 K hz e hts hA hsp
 have hvs:∀sp:Nat→Bool,DataW.TrodVars enc P W' sp s.vars (s.fn H (ds++[])).vars []:=by
  intro sp
  rw[h3,Xj]
  rfl
 refine⟨ds,[],before,[],before,[],hW,abR _ _ _,Qh _ hold,hvs _,World.keptBut_mono (fun x hx=>⟨hx,.inr (.inl hx)⟩) (e.frame (·∈before)),fun _=>?_⟩
 refine⟨ok_one (by rw[hrt]) rfl (okWide_bool_mk hu _),(s.fn H<|ds++[]).results++(s.fn H<|ds++[]).args,(s.fn H<|ds++[]).vars,([]++before)++[],⟨[]++before,[],trodAll_append (Qh _<|fun _ _=>rfl) (abR _ _ _),hvs _,J,?_,?_⟩,?_⟩
 ·intro b off hp
  have sJ:MemPlace.cell b off∈before:=by simpa using hp
  rw[Below.frozen e.toBelow (eZ _ sJ)]
  exact hfz b off sJ
 ·intro ha
  simpa using lL ha
 ·intro x hx _
  simpa using hx
end
end
end Go.Ew
namespace Go.Ew
open Go.RowKit
def PG (Φ:List (Nat→Nat→Value→aG→Prop)) (i lo hi:Nat):Value→aG→Prop:=Φ.getD i (fun _ _ _ _=>True) lo hi
structure T4 (P:Program) (n:Nat) (l:dw) (k:Nat) (Φ:List (Nat→Nat→Value→aG→Prop)) (f0:aP) (w0:aG) (i:Nat) (o:Oper):Prop where
 go:∀f w,(∀t,(jf k l).contains t=false→f t=f0 t)→Ext w0 w→(∀j,kU o j=true→Nat.blt j k=true→∃lo hi,w0.heap.size≤lo∧hi≤w.heap.size∧PG Φ j lo hi (f (iT l j)) w)→
  SO P n l.toArray o f w (fun f' w'=>∃v,f'=dh f o.dst v∧Ext w w'∧PG Φ i w.heap.size w'.heap.size v w')
 mono:∀lo hi v w w',Ext w w'→PG Φ i lo hi v w→PG Φ i lo hi v w'
def xa (P:Program) (n:Nat) (l:dw) (k:Nat) (Φ:List (Nat→Nat→Value→aG→Prop)) (f0:aP) (w0:aG):Nat→dw→Prop
 |_,[]=>True
 |i,o::r=>(Nat.blt i k=true→T4 P n l k Φ f0 w0 i o)∧xa P n l k Φ f0 w0 (i+1) r
section
variable {P:Program} {n:Nat} {l:dw} {k:Nat} {Φ:List (Nat→Nat→Value→aG→Prop)} {f0:aP} {w0:aG}
theorem xa.at_:∀(r:dw) (i:Nat),xa P n l k Φ f0 w0 i r→∀j o,r[j]? =some o→Nat.blt (i+j) k=true→T4 P n l k Φ f0 w0 (i+j) o
 |[],_,_,j,o,h,_=>by simp at h
 |x::r,i,h,0,o,hj,hk=>by
  simp only[amR,amO] at hj
  subst hj
  exact h.1 hk
 |x::r,i,h,j+1,o,hj,hk=>by
  simp only[amY] at hj
  have:=xa.at_ r (i+1) h.2 j o hj<|by rw[show i+1+j=i+(j+1) from by omega];exact hk
  rwa [show i+1+j=i+(j+1) from by omega] at this
theorem xa.rest {i:Nat} (h:Nat.ble k i=true):∀r,xa P n l k Φ f0 w0 i r:=by
 intro r
 induction r generalizing i with
 |nil=>exact trivial
 |cons o r ih=>
  simp only[apo] at h
  exact⟨fun hk=>by simp only[aoG] at hk;omega,ih (by simp only[apo];omega)⟩
section
variable {M0:cb} {zM w w':aG} {l:List Item} {v:Value} {z:Value} {T:TypeId} {lo hi:Nat}
def QS (b:Nat) (cs:Array Value) (t:TypeId) (lo hi:Nat) (w:aG):Prop:=lo≤b∧b<hi∧w.heap[b]? =some (.cells cs t (0,0))
theorem QS.ext {b:Nat} {cs:Array Value} {t:TypeId} (h:QS b cs t lo hi w) (e:Ext w w'):QS b cs t lo hi w':=
 ⟨h.1,h.2.1,(e.block b (am7.1 h.2.2).1).trans h.2.2⟩
theorem HI.laid {b:Nat} {cs:Array Value} {t:TypeId} (H:HI M0 zM w l) (x:Ext w w') (hb:w.heap.size≤b) (h:w'.heap[b]? =some (.cells cs t (0,0))):HI M0 zM w' (box b cs t::l):=
 H.new x b rfl hb (am7.1 h).1 h
end
section
variable {x:Operand} {v:Value} {ops:Array Oper} {f:aP} {w:aG} {K:aP→aG→Prop} {d:Nat} {ty T:TypeId} {ps:String} {af:Array Edge} {bytes size:Nat} {agg:Bool} {z:Value}
end
end
end Go.Ew
namespace Go.Ew
open Go.RowKit
variable {i:Nat}
inductive Kd where
 |v
 |n
 |s (a j:Nat)
def abw:Kd→Option Nat
 | .s a _=>some a
 |_=>none
def PY (Ks:List Kd) (i:Nat):Kd:=Ks.getD i .v
def Hs (Φ:List (Value→Prop)) (i:Nat):Value→Prop:=Φ.getD i (fun _=>True)
def zH (Z:List (Array Value×TypeId)) (i:Nat):Array Value×TypeId:=Z.getD i (#[],0)
def Yh (P:Program) (n:Nat) (l:dw) (Ks:List Kd) (Φ:List (Value→Prop)) (Z:List (Array Value×TypeId)) (f0:aP) (w0:aG) (i:Nat) (o:Oper):Prop:=
 match PY Ks i with
 | .v=>o.dst.isSome=true∧∀f w,(∀t,(jf l.length l).contains t=false→f t=f0 t)→Ext w0 w→(∀j,kU o j=true→(∃x,l[j]? =some x∧x.dst.isSome=true)→Hs Φ j (f (iT l j)))→
   SO P n l.toArray o f w (fun f' w'=>∃v,f'=dh f o.dst v∧w'=w∧Hs Φ i v)
 | .n=>o.dst.isSome=true∧∀f w,(∀t,(jf l.length l).contains t=false→f t=f0 t)→Ext w0 w→(∀j,kU o j=true→(∃x,l[j]? =some x∧x.dst.isSome=true)→Hs Φ j (f (iT l j)))→
   SO P n l.toArray o f w (fun f' w'=>f'=dh f o.dst (.pointer (some ⟨w.heap.size,0,none⟩))∧w'=w.alloc (.cells (zH Z i).1 (zH Z i).2)∧Hs Φ i (.pointer (some ⟨w.heap.size,0,none⟩)))
 | .s a j=>o.dst=none∧kU o a=true∧kU o j=true∧(∃x,l[a]? =some x∧x.dst.isSome=true)∧(∃x,l[j]? =some x∧x.dst.isSome=true)∧(match PY Ks a with| .n=>True|_=>False)∧(∀v,Hs Φ j v→v.cells.size=(zH Z a).1.size)∧
   ∀f w b cur,Ext w0 w→f (iT l a)=.pointer (some ⟨b,0,none⟩)→w.heap[b]? =some (.cells cur (zH Z a).2 (0,0))→cur.size=(zH Z a).1.size→Hs Φ j (f (iT l j))→
   SO P n l.toArray o f w (fun f' w'=>f'=f∧w'=w.setRow b (f (iT l j)).cells)
def G' (P:Program) (n:Nat) (l:dw) (Ks:List Kd) (Φ:List (Value→Prop)) (Z:List (Array Value×TypeId)) (f0:aP) (w0:aG):Nat→dw→Prop
 |_,[]=>True
 |i,o::r=>Yh P n l Ks Φ Z f0 w0 i o∧G' P n l Ks Φ Z f0 w0 (i+1) r
section
variable {P:Program} {n:Nat} {l:dw} {Ks:List Kd} {Φ:List (Value→Prop)} {Z:List (Array Value×TypeId)} {f0:aP} {w0:aG}
theorem G'.at_:∀(r:dw) (i:Nat),G' P n l Ks Φ Z f0 w0 i r→∀j o,r[j]? =some o→Yh P n l Ks Φ Z f0 w0 (i+j) o
 |[],_,_,j,o,h=>by simp at h
 |x::r,i,h,0,o,hj=>by
  simp only[amR,amO] at hj
  subst hj
  exact h.1
 |x::r,i,h,j+1,o,hj=>by
  simp only[amY] at hj
  have:=G'.at_ r (i+1) h.2 j o hj
  rwa [show i+1+j=i+(j+1) from by omega] at this
def ad9 (l:dw) (Ks:List Kd) (Z:List (Array Value×TypeId)) (L:Nat→Bool) (f:aP) (i:Nat) (cur:Array Value):Prop:=
 cur.size=(zH Z i).1.size∧(∀s j,Ks[s]? =some (.s i j)→L s=true→cur=(f (iT l j)).cells)∧((∀s j,Ks[s]? =some (.s i j)→L s=false)→cur=(zH Z i).1)
theorem adf (hN:nodupB (jf l.length l)=true) {j:Nat} {oi oj:Oper} (hi:l[i]? =some oi) (hj:l[j]? =some oj) {di dj:Nat} (vj:oi.dst=some di) (El:oj.dst=some dj) (gD:i≠j):dj≠di:=by
 rintro rfl
 have lL:=oO _ hN
 unfold jf at lL
 rw[anA] at lL
 exact gD<|ic (·.dst) l lL i j oi oj hi hj (by simp[vj])<|by simp[vj,El]
theorem OK {o:Oper} (hi:l[i]? =some o) {d:Nat} (hd:o.dst=some d):iT l i=d:=by unfold iT;rw[hi];simp[hd]
end
theorem ad9.zero {l:dw} {Ks:List Kd} {Z:List (Array Value×TypeId)} {f:aP} {cur:Array Value} (h:ad9 l Ks Z (fun _=>true) f i cur) (hn:(Ks.filterMap abw).contains i=false):cur=(zH Z i).1:=by
 refine h.2.2 fun s j hs=>?_
 exfalso
 have:i∈Ks.filterMap abw:=am4.2 ⟨_,dN hs,J⟩
 rw[←anj,hn] at this
 cases this
section
variable {P:Program} {n:Nat} {ops:Array Oper} {f:aP} {w ws:aG} {K:aP→aG→Prop} {x y:Operand} {d:Nat} {ty T e:TypeId} {ps:String} {af:Array Edge} {v:Value} {M:cb} {kk:IntKind} {bytes:Nat} {z:Value} {ad:Addr} {size:Nat} {agg:Bool}
end
end Go.Ew
namespace Go.Ew
open Go.RowKit
def Cn (Φ:List ((cb)→Value→aG→Prop)) (i:Nat):(cb)→Value→aG→Prop:=Φ.getD i (fun _ _ _=>True)
def adZ (N N':cb) (w w':aG):Prop:=w.heap.size≤w'.heap.size∧(∀c,c<w.heap.size→¬N c→w'.heap[c]? =w.heap[c]?)∧∀c,c<w.heap.size→N' c→N c
def Yj (P:Program) (n:Nat) (l:dw) (Ks:List Kd) (Φ:List ((cb)→Value→aG→Prop)) (Z:List (Array Value×TypeId)) (f0:aP) (w0:aG) (i:Nat) (o:Oper):Prop:=
 (∀N N' v w w',adZ N N' w w'→Cn Φ i N v w→Cn Φ i N' v w')∧
 match PY Ks i with
 | .v=>o.dst.isSome=true∧∀f w N,(∀t,(jf l.length l).contains t=false→f t=f0 t)→Ext w0 w→(∀c,N c→w0.heap.size≤c∧c<w.heap.size)→(∀j,kU o j=true→(∃x,l[j]? =some x∧x.dst.isSome=true)→Cn Φ j N (f (iT l j)) w)→
   SO P n l.toArray o f w (fun f' w'=>∃v,f'=dh f o.dst v∧Ext w w'∧Cn Φ i N v w')
 | .n=>o.dst.isSome=true∧(∀N v w,Cn Φ i N v w)∧∀f w N,(∀t,(jf l.length l).contains t=false→f t=f0 t)→Ext w0 w→(∀c,N c→w0.heap.size≤c∧c<w.heap.size)→(∀j,kU o j=true→(∃x,l[j]? =some x∧x.dst.isSome=true)→Cn Φ j N (f (iT l j)) w)→
   SO P n l.toArray o f w (fun f' w'=>f'=dh f o.dst (.pointer (some ⟨w.heap.size,0,none⟩))∧w'=w.alloc (.cells (zH Z i).1 (zH Z i).2))
 | .s a j=>o.dst=none∧kU o a=true∧kU o j=true∧(∃x,l[a]? =some x∧x.dst.isSome=true)∧(∃x,l[j]? =some x∧x.dst.isSome=true)∧a≠j∧(match PY Ks a with| .n=>True|_=>False)∧(∀N v w,Cn Φ j N v w→v.cells.size=(zH Z a).1.size)∧
   ∀f w N b cur,Ext w0 w→f (iT l a)=.pointer (some ⟨b,0,none⟩)→w.heap[b]? =some (.cells cur (zH Z a).2 (0,0))→cur.size=(zH Z a).1.size→Cn Φ j N (f (iT l j)) w→
   SO P n l.toArray o f w (fun f' w'=>f'=f∧w'=w.setRow b (f (iT l j)).cells)
def Ha (P:Program) (n:Nat) (l:dw) (Ks:List Kd) (Φ:List ((cb)→Value→aG→Prop)) (Z:List (Array Value×TypeId)) (f0:aP) (w0:aG):Nat→dw→Prop
 |_,[]=>True
 |i,o::r=>Yj P n l Ks Φ Z f0 w0 i o∧Ha P n l Ks Φ Z f0 w0 (i+1) r
section
variable {P:Program} {n:Nat} {l:dw} {Ks:List Kd} {Φ:List ((cb)→Value→aG→Prop)} {Z:List (Array Value×TypeId)} {f0:aP} {w0:aG}
theorem Ha.at_:∀(r:dw) (i:Nat),Ha P n l Ks Φ Z f0 w0 i r→∀j o,r[j]? =some o→Yj P n l Ks Φ Z f0 w0 (i+j) o
 |[],_,_,j,o,h=>by simp at h
 |x::r,i,h,0,o,hj=>by
  simp only[amR,amO] at hj
  subst hj
  exact h.1
 |x::r,i,h,j+1,o,hj=>by
  simp only[amY] at hj
  have:=Ha.at_ r (i+1) h.2 j o hj
  rwa [show i+1+j=i+(j+1) from by omega] at this
end
section
variable {α:Type} [GT α] {M N N':cb} {w0 w w':aG} {v:Value} {x:α}
end
end Go.Ew
namespace Go.Ew
open Go.RowKit
def FP2 {α β:Type} [GT α] [GT β] (P:Program) (g:FuncId) (C:List Value) (M:cb) (w:aG) (xs:List α) (ys:List β) (q:α→β→Bool):Prop:=
 cH P g∧∀w1 v x u y,x∈xs→y∈ys→Ext w w1→RV M w1 v x→RV M w1 u y→Calls P g ([v,u]++C).toArray w1 (cA fun r w2=>r=.bool (q x y)∧Ext w1 w2)
theorem FP2.sub {α β:Type} [GT α] [GT β] {P:Program} {g:FuncId} {C:List Value} {M M':cb} {w w':aG} {xs:List α} {ys:List β} {q:α→β→Bool} (h:FP2 P g C M w xs ys q) (e:Ext w w') (hM:∀b,M b→M' b):FP2 P g C M' w' xs ys q:=
 ⟨h.1,fun w1 v x u y hx hy e' hv hu=>h.2 w1 v x u y hx hy (e.trans e') (hv.lift (Up.less fun b _ hb=>hM b hb)) (hu.lift (Up.less fun b _ hb=>hM b hb))⟩
end Go.Ew
namespace Go.Ew
open Go.RowKit
structure SV where
 a:Option Addr
 n:Nat
 c:Nat
def SV.v (s:SV):Value:=.slice s.a s.n s.c
instance gSV:GT SV where
 size:=1
 agg:=false
 rep _ _ cs s:=cs=[s.v]
 len h:=by rw[h];rfl
 one h:=by rw[h];simp[Value.oneCell',SV.v]
 single _:=rfl
 pos:=by decide
 lift h _:=h
theorem RV.sv {M:cb} {w:aG} {v:Value} {s:SV}:RV M w v s↔v=s.v:=by
 constructor
 ·rintro⟨cs,rfl,rfl⟩;rfl
 ·rintro rfl;exact⟨_,rfl,rfl⟩
section
variable {α:Type} [GT α] {B:Nat} {e E:TypeId} {ss:List SV} {xs:List (List α)} {l l':List Item} {M0:cb} {w0 w w':aG} {s:SV} {x y:List α} {i:Nat}
def bH (B:Nat) (e:TypeId) (ss:List SV) (xs:List (List α)):List Item:=List.zipWith (fun s x=>own B e s.v x) ss xs
def zS (ss:List SV) (xs:List (List α)):List Item:=List.zipWith (fun s x=>tv s.v x) ss xs
theorem pH (hs:ss[i]? =some s) (hx:xs[i]? =some x):(l++bH B e ss xs)[l.length+i]? =some (own B e s.v x):=by
 rw[oB aj,show l.length+i-l.length=i from by omega]
 unfold bH
 rw[aos,hs,hx]
theorem YR (hs:ss[i]? =some s):(l++bH B e ss xs).set (l.length+i) (own B e s.v y)=l++bH B e ss (xs.set i y):=by
 rw[an0 _ _ aj,show l.length+i-l.length=i from by omega]
 congr 1
 unfold bH
 apply ana
 intro j
 rw[anW,aos,aos,anW,List.length_zipWith]
 by_cases e:i=j
 ·subst e
  have hl:=(dU.1 hs).1
  by_cases hx:i<xs.length
  ·rw[amF rfl,amF rfl,amF aj,amF hx,hs]
  ·rw[amF rfl,amF rfl,amI aj,amI hx,hs]
 ·rw[amI e,amI e]
theorem Rj (h:ss.length=xs.length):bH B e (ss++[s]) (xs++[x])=bH B e ss xs++[own B e s.v x]:=by
 unfold bH
 rw[List.zipWith_append h];rfl
theorem HI.perm (H:HI M0 w0 w l) (hp:l'.Perm l):HI M0 w0 w l':=
 H.pick l' (fun it hit=>hp.mem_iff.1 hit) ((hp.filterMap _).nodup_iff.2 H.nodup)
theorem HI.aaP (H:HI M0 w0 w (own B e s.v x::(l++bH B e ss xs))) (h:ss.length=xs.length):HI M0 w0 w (l++bH B e (ss++[s]) (xs++[x])):=by
 rw[Rj h,←anb]
 exact H.perm<|List.perm_append_singleton _ _
theorem L8 {A B:Type} {f g:A→Option B}:∀{l:List A},(∀a∈l,f a=g a)→l.filterMap f=l.filterMap g
 |[],_=>rfl
 |a::l,h=>by rw[anq,anq,h a ano,L8 fun b hb=>h b (am6 _ hb)]
theorem L7 {A:Type}:∀t:List A,(List.range t.length).filterMap (fun i=>t[i]?)=t
 |[]=>rfl
 |a::t=>by
  rw[iB,List.range_succ_eq_map,anq,apE]
  have:((fun i=>(a::t)[i]?)∘Nat.succ)=fun i=>t[i]?:=by funext i;rfl
  rw[this,L7 t];rfl
theorem HI.aN {t:List Item} (H:HI M0 w0 w (l++t)) (is:List Nat) (hn:is.Nodup) (hb:is.all (fun i=>Nat.blt i l.length)=true) (he:is.filterMap (fun i=>l[i]?)=l'):HI M0 w0 w (l'++t):=by
 refine H.bZ (is++(List.range t.length).map (l.length+·)) ?_ ?_
 ·rw[aok]
  refine⟨hn,?_,?_⟩
  ·rw[List.nodup_iff_pairwise_ne,List.pairwise_map]
   exact List.Pairwise.imp (fun h=>by omega) aoR
  ·intro a ha b vk IZ
   subst IZ
   obtain⟨j, -,rfl⟩:=anp.1 vk
   have:=amK.1 hb _ ha
   have:l.length+j<l.length:=by simpa using this
   omega
 ·rw[aoN,←he]
  congr 1
  ·refine L8 fun i hi=>?_
   have:=amK.1 hb _ hi
   rw[oY (by simpa using this)]
  ·rw[apE]
   have:((fun i=>(l++t)[i]?)∘(l.length+·))=fun i=>t[i]?:=by
    funext i
    simp only[Function.comp]
    rw[oB aj,show l.length+i-l.length=i from by omega]
   rw[this]
   exact L7 t
theorem HI.GH:∀(ss:List SV) (xs:List (List α)) (l:List Item),HI M0 w0 w (l++bH B e ss xs)→HI M0 w0 w (l++zS ss xs)
 |[],xs,l,H=>H
 |s::ss,[],l,H=>H
 |s::ss,x::xs,l,H=>by
  have h1:(l++bH B e (s::ss) (x::xs))[l.length]? =some (own B e s.v x):=by rw[oB (amD _),anD];rfl
  have H1:=H.freeze l.length h1
  have h2:(l++bH B e (s::ss) (x::xs)).set l.length (tv s.v x)=(l++[tv s.v x])++bH B e ss xs:=by
   rw[an0 _ _ (amD _),anD,anb];rfl
  rw[h2] at H1
  have H2:=HI.GH ss xs _ H1
  rwa [anb] at H2
theorem Ev {M:cb}:∀{ss:List SV} {xs:List (List α)} {cs:List Value},ss.length=xs.length→(∀(i:Nat) (s:SV) (x:List α),ss[i]? =some s→xs[i]? =some x→RV M w s.v x)→bB M w cs ss→bB M w cs xs
 |[],[],cs,_,_,h=>h
 |s::ss,x::xs,cs,hl,hr,⟨c1,c2,h1,h2,h3⟩=>by
  refine⟨c1,c2,h1,⟨s.v,h2,RV.list.1 (hr 0 s x J J)⟩,Ev (by simpa using hl) (fun i s' x' hs hx=>hr (i+1) s' x' hs hx) h3⟩
 |[],_::_,_,h,_,_=>by cases h
 |_::_,[],_,h,_,_=>by cases h
theorem HI.deep {v:Value} (H:HI M0 w0 w (own B E v ss::(l++bH B e ss xs))) (hl:ss.length=xs.length):HI M0 w0 w (own B E v xs::l):=by
 have H1:HI M0 w0 w (own B E v ss::(l++zS ss xs)):=HI.GH ss xs (own B E v ss::l) H
 obtain⟨cs,h1,h2⟩:=H1.at_ 0 rfl
 have key:∀(i:Nat) (s:SV) (x:List α),ss[i]? =some s→xs[i]? =some x→RV (MS M0 (own B E v ss::(l++zS ss xs))) w s.v x:=by
  intro i s x hs hx
  refine H1.all (tv s.v x) (am6 _<|anP _ ?_)
  unfold zS
  exact dN (i:=i)<|by rw[aos,hs,hx]
 have H2:=H1.vL (ns:=own B E v xs) 0 rfl rfl rfl rfl (amD _) (amD _) (fun _ _ _=>rfl) (fun b hb=>⟨(H1.jq _ (ano) b hb).2,.inl hb⟩) (by
  refine⟨cs,?_,bB.lift (M:=MS M0 (own B E v ss::(l++zS ss xs))) (Up.less ?_) (Ev hl key h2)⟩
  ·rw[←hl];exact h1
  ·rintro b _ (hb|⟨it,hit,hb⟩)
   ·exact .inl hb
   ·rcases amV.1 hit with rfl|hit
    ·exact .inr ⟨_,ano,hb⟩
    ·exact .inr ⟨it,am6 _ hit,hb⟩)
 refine H2.pick _ (fun it hit=>?_) ?_
 ·rcases amV.1 hit with rfl|hit
  ·exact ano
  ·exact am6 _<|anV _ hit
 ·refine ao6 ?_ H2.nodup
  refine List.Sublist.filterMap _ ?_
  exact(List.sublist_append_left l _).cons_cons _
theorem HI.join (H:HI M0 w0 w l) (H':HI (MS M0 l) w w' l'):HI M0 w0 w' (l'++l):=by
 have hM:∀b,MS (MS M0 l) l' b↔MS M0 (l'++l) b:=by
  intro b
  constructor
  ·rintro((h|⟨it,hit,hb⟩)|⟨it,hit,hb⟩)
   ·exact .inl h
   ·exact .inr ⟨it,anP _ hit,hb⟩
   ·exact .inr ⟨it,anV _ hit,hb⟩
  ·rintro(h|⟨it,hit,hb⟩)
   ·exact .inl (.inl h)
   ·rcases am1.1 hit with hit|hit
    ·exact .inr ⟨it,hit,hb⟩
    ·exact .inl (.inr ⟨it,hit,hb⟩)
 refine⟨H.below.trans H'.below,H.m0,?_,?_,?_⟩
 ·intro it hit b hb
  rcases am1.1 hit with hit|hit
  ·exact⟨amP H.below.size (H'.jq it hit b hb).1,(H'.jq it hit b hb).2⟩
  ·exact⟨(H.jq it hit b hb).1,am8 (H.jq it hit b hb).2 H'.below.size⟩
 ·rw[aoN,aok]
  refine⟨H'.nodup,H.nodup,fun b hb c hc hbc=>?_⟩
  subst hbc
  obtain⟨i,hi,BI⟩:=am4.1 hb
  obtain⟨j,hj,wo⟩:=am4.1 hc
  have h1:=(H'.jq i hi b BI).1
  have h2:=(H.jq j hj b wo).2
  omega
 ·intro it hit
  rcases am1.1 hit with hit|hit
  ·exact it.lift (H'.all it hit) (Up.less fun b _ hb=>(hM b).2 hb) fun _ _=>rfl
  ·refine it.lift (H.all it hit) ⟨H'.below.size,fun c hc hMc=>⟨H'.below.block c hc,fun hb=>?_⟩⟩ fun b hb=>H'.below.block b (H.jq it hit b hb).2
   rcases (hM c).2 hb with hb|⟨i,hi,BI⟩
   ·exact hMc hb
   ·have:=(H'.jq i hi c BI).1;omega
theorem HI.weaken (H:HI M0 w0 w l) (hl:l'.map (·.jG)=l.map (·.jG)) (hh:∀(i:Nat) it ns,l[i]? =some it→l'[i]? =some ns→∀M,it.holds M w→ns.holds M w):HI M0 w0 w l':=by
 have hlen:l'.length=l.length:=by simpa using amz List.length hl
 have uC:∀(i:Nat) ns,l'[i]? =some ns→∃it,l[i]? =some it∧it.jG=ns.jG:=by
  intro i ns hi
  have h1:=amz (fun z=>z[i]?) hl
  simp only[amS,hi,anX] at h1
  cases pj:l[i]? with
  |none=>rw[pj] at h1;cases h1
  |some it=>rw[pj] at h1;exact⟨it,rfl,(amE h1).symm⟩
 have hMS:∀b,MS M0 l' b→MS M0 l b:=by
  rintro b (h|⟨ns,hit,hb⟩)
  ·exact .inl h
  ·obtain⟨i,hi⟩:=amT.1 hit
   obtain⟨it,h1,h2⟩:=uC i ns hi
   exact .inr ⟨it,dN h1,h2.trans hb⟩
 refine⟨H.below,H.m0,?_,?_,?_⟩
 ·intro ns hit b hb
  obtain⟨i,hi⟩:=amT.1 hit
  obtain⟨it,h1,h2⟩:=uC i ns hi
  exact H.jq it (dN h1) b<|h2.trans hb
 ·have:∀m:List Item,m.filterMap (·.jG)=(m.map (·.jG)).filterMap id:=by intro m;rw[apE];rfl
  rw[this,hl,←this];exact H.nodup
 ·intro ns hit
  obtain⟨i,hi⟩:=amT.1 hit
  obtain⟨it,h1,h2⟩:=uC i ns hi
  have:=hh i it ns h1 hi _<|H.all it (dN h1)
  exact ns.lift this (Up.less fun b _ hb=>hMS b hb) fun _ _=>rfl
theorem NV {β:Type} [GT β] {B B':Nat} {v:Value} {ys:List β} {M:cb} (hB:B'≤B) (h:(own B e v ys).holds M w):(own B' e v ys).holds M w:=by
 obtain⟨cs,h1,h2⟩:=h
 refine⟨cs,⟨h1.1,?_⟩,h2⟩
 rcases h1.2 with h3|⟨g,cap,cur,rfl,h3,h4⟩
 ·exact .inl h3
 ·exact .inr ⟨g,cap,cur,J,amP hB h3,h4⟩
def JZ (M:cb) (E e:TypeId) (w0:aG) (ss:List SV) (xs:List (List α)) (v:Value) (w:aG):Prop:=ss.length=xs.length∧HI M w0 w (own w0.heap.size E v ss::bH w0.heap.size e ss xs)
theorem HI.F8 {v:Value} (H:HI M0 w0 w l) (h:JZ (MS M0 l) E e w ss xs v w'):HI M0 w0 w' (own w0.heap.size E v ss::(l++bH w0.heap.size e ss xs)):=by
 have H1:=H.join h.2
 have H2:HI M0 w0 w' ((own w0.heap.size E v ss::bH w0.heap.size e ss xs)++l):=by
  refine H1.weaken ?_ ?_
  ·simp only[aoi,am_]
   congr 2
   unfold bH
   rw[List.map_zipWith,List.map_zipWith];rfl
  ·intro i it ns hi pJ M hh
   have hB:w0.heap.size≤w.heap.size:=H.below.size
   cases i with
   |zero=>
    simp only[aoU,amR,amO] at hi pJ
    subst hi;subst pJ;exact NV hB hh
   |succ i=>
    simp only[aoU,amY] at hi pJ
    have hlen:∀B,(bH B e ss xs).length=min ss.length xs.length:=by intro B;unfold bH;simp
    by_cases jK:i<min ss.length xs.length
    ·rw[oY (by rw[hlen];exact jK)] at hi pJ
     unfold bH at hi pJ
     rw[aos,eR aj,eR aj] at hi pJ
     simp only[amO] at hi pJ
     subst hi;subst pJ;exact NV hB hh
    ·rw[oB (by rw[hlen];omega),hlen] at hi pJ
     rw[hi] at pJ
     cases pJ;exact hh
 refine H2.perm ?_
 exact List.Perm.cons _ List.perm_append_comm
theorem uq (H:HI M0 w0 w (l++bH B e ss xs)) (hl:ss.length=xs.length) {i:Nat} (hi:i<ss.length):∃(a:Option Addr) (x:List α) (c:Nat),ss[i]? =some (⟨a,x.length,c⟩:SV)∧xs[i]? =some x:=by
 have hs:ss[i]? =some ss[i]:=eR hi
 have hx:xs[i]? =some (xs[i]'aj):=eR aj
 obtain⟨cs,h1,h2⟩:=H.at_ _ (pH (l:=l) (B:=B) (e:=e) hs hx)
 have hn:ss[i].n=(xs[i]'aj).length:=by
  rcases h1.2 with ⟨h3,h4⟩|⟨g,cap,cur,h3, -⟩
  ·rw[h4];unfold SV.v at h3;injection h3
  ·unfold SV.v at h3;injection h3
 refine⟨ss[i].a,xs[i]'aj,ss[i].c,?_,hx⟩
 rw[hs,←hn]
theorem HI.zR {M:cb} {it:Item} (H:HI M0 w0 w ((l++bH B e ss xs).set (l.length+i) (own B e s.v y))) (hs:ss[i]? =some s):HI M0 w0 w (l++bH B e ss (xs.set i y)):=by
 rw[YR hs] at H;exact H
theorem aaN (H:HI M0 w0 w (l++bH B e ss xs)) (hs:ss[i]? =some s) (hx:xs[i]? =some x):RV (fun _=>False) w s.v x:=
 zV (H.at_ _ (pH (l:=l) (B:=B) (e:=e) hs hx)) (fun _ _ h=>h.elim) (fun _ _ h=>h.elim)
end
section
variable {P:Program} {n:Nat} {ops:Array Oper} {f:aP} {w:aG} {K:aP→aG→Prop} {M:cb} {ad:Addr} {T:TypeId} {bytes:Nat} {z:Value} {x:Operand} {d:Nat} {ty:TypeId} {ps:String} {af:Array Edge}
theorem II {s:SV} (hA:hQ M w ad s) (F:ey P T 1 false bytes z) (ox:bJ n x=true) (hx:ev f x=.pointer (some ad)) (h:K (cx f d s.v) w):
  SO P n ops ⟨some d,.load T x,ty,ps,af,none⟩ f w K:=nr hA F ox hx fun v hv=>by rw[RV.sv.1 hv];exact h
end
end Go.Ew
namespace Go.Ew
open Go.RowKit
def nC {α:Type} [GT α] (B:Nat) (e:TypeId) (v:Value) (xs:List α):Item:=
 ⟨v.ownBlock,fun M w=>∃cs,bB M w cs xs∧((v=.slice none 0 0∧xs=[])∨∃g o c cur,v=.slice (some ⟨g,o,none⟩) xs.length c∧B≤g∧w.heap[g]? =some (.cells cur e (0,0))∧xs.length≤c∧c≤maxLen∧o+c*GT.size α≤cur.size∧(cur.toList.drop o).take (xs.length*GT.size α)=cs),fun {M M' w w'} h u hb=>by
  obtain⟨cs,h2,h1⟩:=h
  refine⟨cs,bB.lift u h2,?_⟩
  rcases h1 with h3|⟨g,o,c,cur,rfl,h4,h5,h6⟩
  ·exact .inl h3
  ·exact .inr ⟨g,o,c,cur,rfl,h4,(hb g rfl).trans h5,h6⟩⟩
theorem NW {α:Type} [GT α] {B:Nat} {e:TypeId} {v:Value} {xs:List α} {M:cb} {w:aG} (h:(own B e v xs).holds M w):(nC B e v xs).holds M w:=by
 obtain⟨cs,h1,h2⟩:=h
 refine⟨cs,h2,?_⟩
 rcases h1.2 with ⟨rfl,h3⟩|⟨g,cap,cur,rfl,h3,h4,h5,h6,h7,h8⟩
 ·exact .inl ⟨J,an3 h3⟩
 ·exact .inr ⟨g,0,cap,cur,J,h3,h4,h5,h6,by omega,by rw[ao'];exact h8⟩
section
variable {P:Program} {n:Nat} {ops:Array Oper} {f:aP} {w:aG} {K:aP→aG→Prop} {x y:Operand} {d:Nat} {ty T e:TypeId} {ps:String} {af:Array Edge} {v u:Value} {M M0:cb} {w0:aG} {l:List Item} {bytes:Nat} {z:Value} {B:Nat} {kk:IntKind} {agg:Bool} {α:Type} [GT α] {xs ys:List α}
theorem HI.toQ (H:HI M0 w0 w l) (i:Nat) (hi:l[i]? =some (own B e v xs)):HI M0 w0 w (l.set i (nC B e v xs)):=by
 have jK:=(dU.1 hi).1
 refine H.weaken ?_ ?_
 ·apply ana
  intro j
  rw[amS,amS]
  by_cases h:i=j
  ·subst h;rw[amX jK,hi];rfl
  ·rw[anh h]
 ·intro j it ns hj rp M hh
  by_cases h:i=j
  ·subst h
   rw[amX jK] at rp
   rw[hi] at hj
   cases hj;cases rp
   exact NW hh
  ·rw[anh h,hj] at rp;cases rp;exact hh
theorem iaQ {i:Int} (hO:(nC B e v xs).holds M w) (ox:bJ n x=true) (oy:bJ n y=true) (hx:ev f x=v) (hy:ev f y=.int kk i) (hi:0≤i∧i<xs.length) (hu:P.underlying T=some (.slice e)) (F:ey P e (GT.size α) agg bytes z)
  (h:∀ad xv,xs[i.toNat]? =some xv→hQ M w ad xv→K (cx f d (.pointer (some ad))) w):SO P n ops ⟨some d,.indexAddr T x y,ty,ps,af,none⟩ f w K:=by
 obtain⟨cs,h2,h1⟩:=hO
 rcases h1 with ⟨_,h3⟩|⟨g,o,c,cur,rfl,h3,h4,h5,h6,h7,h8⟩
 ·rw[h3] at hi;simp at hi;omega
 ·have eZ:i.toNat<xs.length:=by omega
  have lk:∀j,(⟨g,o,none⟩:Addr).add j=⟨g,o+j,none⟩:=fun j=>by unfold Addr.add;split<;>simp_all
  refine SO.value (v:=.pointer (some ⟨g,o+i.toNat*GT.size α,none⟩)) ?_<|h _ xs[i.toNat] (eR eZ) ?_
  ·have hb:0≤i∧i<(xs.length:Int):=by omega
   simp[execOp,aM ox,aM oy,hx,hy,Instr.indexAt,asIntOf,gK hu,hb,F.jm,lk]
  ·obtain⟨c',yN,Al⟩:=bB.at_ h2 i.toNat xs[i.toNat] (eR eZ)
   refine⟨c',yN,fun j u hu=>?_⟩
   have uR:=Al j u hu
   have aeJ:(⟨g,o+i.toNat*GT.size α,none⟩:Addr).add j=⟨g,o+i.toNat*GT.size α+j,none⟩:=by unfold Addr.add;split<;>simp_all
   rw[aeJ,cell_of_row w g _ cur e (0,0) h4]
   rw[←h8] at uR
   obtain⟨h9,Eo⟩:=dU.1 uR
   rw[anQ (by rw[iu] at h9;omega),ank,←apf] at uR
   rw[←uR,an1]
theorem slQ {lo:Int} {rm:Operand} (H:HI M0 w0 w l) (i:Nat) (hi:l[i]? =some (nC B e v xs)) (ox:bJ n x=true) (ol:bJ n rm=true) (hx:ev f x=v) (hl:ev f rm=.int kk lo) (hb:0≤lo∧lo≤xs.length) (hu:P.underlying T=some (.slice e)) (F:ey P e (GT.size α) agg bytes z)
  (h:∀a c,HI M0 w0 w (l.set i (nC B e (.slice a (xs.drop lo.toNat).length c) (xs.drop lo.toNat)))→K (cx f d (.slice a (xs.drop lo.toNat).length c)) w):
  SO P n ops ⟨some d,.slice T x (some rm) none none,ty,ps,af,none⟩ f w K:=by
 have hO:=H.at_ i hi
 have jK:=(dU.1 hi).1
 obtain⟨cs,h2,h1⟩:=hO
 have hlen:(xs.drop lo.toNat).length=xs.length-lo.toNat:=by simp
 obtain⟨ao,cc,rfl,hcc⟩:∃ao cc,v=.slice ao xs.length cc∧xs.length≤cc:=by
  rcases h1 with ⟨rfl,h3⟩|⟨g,o,c,cur,rfl,h3,h4,h5,h6⟩
  ·exact⟨none,0,by rw[h3];rfl,by rw[h3];exact amD _⟩
  ·exact⟨_,_,J,h5⟩
 refine SO.value (v:=.slice (if cc=lo.toNat then ao else ao.map (·.add (lo.toNat*GT.size α))) (xs.length-lo.toNat) (cc-lo.toNat)) (w':=w) ?_ ?_
 ·have xK:P.underlying T=some (.slice (P.elem T)):=by rw[hu];simp[Program.elem,hu]
  have uD:P.elem T=e:=by simp[Program.elem,hu]
  simp[execOp,aM ox,aM ol,hx,hl,Instr.sliceAt,gK hu]
  have:=run_slice_l (P:=P) (w:=w) T ao xs.length cc xK kk lo hb.1 aj
  rw[uD,F.jm] at this
  simp[this,sliced]
 ·rw[hlen] at h
  refine h _ _ ?_
  have hblk:∀(aa:Option Addr) (c1 c2 c3 c4:Nat) (f2:Addr→Addr),(∀q,(f2 q).block=q.block)→Value.ownBlock (.slice (aa.map f2) c1 c2)=Value.ownBlock (.slice aa c3 c4):=by
   intro aa c1 c2 c3 c4 f2 hf
   cases aa with
   |none=>rfl
   |some q=>show some _=some _;rw[hf]
  refine H.weaken ?_ ?_
  ·apply ana
   intro j
   rw[amS,amS]
   by_cases hj:i=j
   ·subst hj
    rw[amX jK,hi]
    show some (Value.ownBlock _)=some (Value.ownBlock _)
    split
    ·cases ao<;>rfl
    ·rw[hblk ao _ _ xs.length cc _ (fun q=>vD q _)]
   ·rw[anh hj]
  ·intro j it ns hj rp M' hh
   by_cases nu:i=j
   ·subst nu
    rw[amX jK] at rp
    rw[hi] at hj
    cases hj;cases rp
    obtain⟨ds,k2,k1⟩:=hh
    rcases k1 with ⟨k3,k4⟩|⟨g,o,c,cur,k3,k4,k5,k6,k7,k8,k9⟩
    ·have e1:lo.toNat=0:=by rw[k4] at hb;simp at hb;omega
     subst k4
     injection k3 with k3a k3b k3c
     subst k3a;subst k3c
     refine⟨[],by simp;rfl,.inl ⟨?_,by simp⟩⟩
     rw[e1];rfl
    ·injection k3 with k3a k3b k3c
     subst k3a;subst k3c
     have lk:∀j,(⟨g,o,none⟩:Addr).add j=⟨g,o+j,none⟩:=fun j=>by unfold Addr.add;split<;>simp_all
     refine⟨ds.drop (lo.toNat*GT.size α),?_,.inr ?_⟩
     ·have:∀(k:Nat) (xs:List α) (cs:List Value),k≤xs.length→bB M' w cs xs→bB M' w (cs.drop (k*GT.size α)) (xs.drop k):=by
       intro k
       induction k with
       |zero=>intro xs cs _ hc;simpa using hc
       |succ k ih=>
        intro xs cs hk hc
        cases xs with
        |nil=>simp at hk
        |cons q xs=>
         obtain⟨c1,c2,rfl,m1,m2⟩:=hc
         have:=ih xs c2 (by simpa using hk) m2
         rw[List.drop_succ_cons,show (k+1)*GT.size α=c1.length+k*GT.size α from by rw[GT.len m1,ant];omega,←anx,List.drop_left]
         exact this
      exact this _ _ _ aj k2
     ·by_cases rO:cc=lo.toNat
      ·rw[amF rO]
       have hz:xs.drop lo.toNat=[]:=aob aj
       refine⟨g,o,cc-lo.toNat,cur,by rw[hlen],k4,k5,by rw[hlen];omega,by omega,?_,?_⟩
       ·have:(cc-lo.toNat)*GT.size α≤cc*GT.size α:=anE _ aj
        omega
       ·rw[hz,←k9]
        rw[gj,ao3,aoA,aob]
        rw[iu]
        have:xs.length*GT.size α≤lo.toNat*GT.size α:=anE _ aj
        omega
      ·rw[amI rO]
       refine⟨g,o+lo.toNat*GT.size α,cc-lo.toNat,cur,by rw[hlen];simp[lk],k4,k5,by rw[hlen];omega,by omega,?_,?_⟩
       ·have:lo.toNat*GT.size α+(cc-lo.toNat)*GT.size α=cc*GT.size α:=by rw[←ant];congr 1;omega
        omega
       ·rw[←k9,hlen,apy,anx]
        congr 1
        rw[←Nat.sub_mul]
   ·rw[anh nu,hj] at rp;cases rp;exact hh
theorem apQ (H:HI M0 w0 w l) (i:Nat) (hi:l[i]? =some (nC B e v xs)) (hB:B=w0.heap.size) (ox:bJ n x=true) (oy:bJ n y=true) (hx:ev f x=v) (hy:ev f y=u)
  (hs:Src (MS M0 l) w u ys) (gD:0<ys.length) (hu:P.underlying T=some (.slice e)) (F:ey P e (GT.size α) agg bytes z) (hz:z.cells.size=GT.size α) (hl:(xs.length+ys.length)*bytes≤140737488355328) (pj:xs.length+ys.length≤9223372036854775807)
  (h:∀a c w',HI M0 w0 w' (l.set i (nC B e (.slice a (xs++ys).length c) (xs++ys)))→K (cx f d (.slice a (xs++ys).length c)) w'):
  SO P n ops ⟨some d,.call {callee:=.builtin .append,args:=#[x,y],argTypes:=#[T,T]},ty,ps,af,none⟩ f w K:=by
 subst hB
 obtain⟨cs,h2,h1⟩:=H.at_ i hi
 obtain⟨a0,c0,rfl,Fk⟩:=hs
 obtain⟨inf,sK,tZ,vi,CN⟩:=F.info
 have eZ:∀b,v.ownBlock=some b→w0.heap.size≤b∧b<w.heap.size:=H.jq _<|dN hi
 obtain⟨ad,rfl,ds,t',CO⟩:∃ad,a0=some ad∧∃cs,bB (MS M0 l) w cs ys∧∀j u,cs[j]? =some u→w.cell? (ad.add j)=some u:=by
  rcases Fk with h0|h0
  ·omega
  ·exact h0
 have rO:=bB.length h2
 have yM:=bB.length t'
 have OC:∀(v':Value) (w':aG) (B':Nat) (qs:List α) (M':cb) (es:List Value),w0.heap.size≤B'→w'.ownsRow B' e (GT.size α) v' qs.length es→bB M' w' es qs→(nC w0.heap.size e v' qs).holds M' w':=by
  intro v' w' B' qs M' es hB' ho hc
  refine NW ⟨es,⟨ho.1,?_⟩,hc⟩
  rcases ho.2 with h3|⟨g,cap,cur,rfl,h3,h4⟩
  ·exact .inl h3
  ·exact .inr ⟨g,cap,cur,J,amP hB' h3,h4⟩
 obtain⟨a',c',w',kO,rq,BM,aeE⟩:∃a' c' w',(Builtin.append_ #[T,T] ty #[v,.slice (some ad) ys.length c0]).run P w=.ok (.slice a' (xs.length+ys.length) c') w'∧w.grownBy w' v.ownBlock∧
   ((Value.slice a' (xs.length+ys.length) c').ownBlock=v.ownBlock∨∀b,(Value.slice a' (xs.length+ys.length) c').ownBlock=some b→w.heap.size≤b∧b<w'.heap.size)∧
   ∀M',Up (MS M0 l) w M' w'→(nC w0.heap.size e (.slice a' (xs++ys).length c') (xs++ys)).holds M' w':=by
  rcases h1 with ⟨rfl,rfl⟩|⟨g,o,c,cur,rfl,h3,h4,h5,h6,h7,h8⟩
  ·obtain⟨v',w',r1,r2,r3,_,r4⟩:=run_append_own_at (P:=P) w w0.heap.size T ty e inf z (GT.size α) bytes hu sK tZ vi CN hz GT.pos (.slice none 0 0) 0 [] (World.ownsRow_nil w _ e _) ad ys.length c0 ds yM CO (bB.AY t') (by simp only[maxLen];simp at pj;omega) (by simpa using hl) H.below.size
   obtain⟨a',c',rfl⟩:=vN r2
   refine⟨a',c',w',by simpa using r1,r3,?_,fun M' qJ=>?_⟩
   ·rcases r4 with hb|hb
    ·exact .inl (by simpa using hb)
    ·refine .inr fun b wh=>⟨?_,(r2.lt b<|by simpa using wh).2⟩
     simp only[gj,ann] at wh hb
     rw[hb] at wh;cases wh;exact amD _
   ·refine OC _ _ w0.heap.size _ M' ds (amD _) ?_ ?_
    ·simpa using r2
    ·simpa using bB.lift qJ t'
  ·by_cases P8:xs.length+ys.length≤c
   ·have Vq:o+xs.length*GT.size α+ds.length≤cur.size:=by
     have:(xs.length+ys.length)*GT.size α≤c*GT.size α:=anE _ P8
     rw[ant] at this
     omega
    have hf:=run_firstCells_some (P:=P) w inf.size ys.length ad ys.length c0 ds (by rw[vi];exact yM) CO
    rw[vi] at hf
    have qK:=run_storeCells_at P g (o+xs.length*GT.size α) e ds 0 cur w h4 (by simpa using Vq)<|bB.AY t'
    simp only[ani] at qK
    have lk:∀j,(⟨g,o,none⟩:Addr).add j=⟨g,o+j,none⟩:=fun j=>by unfold Addr.add;split<;>simp_all
    have kO:(Builtin.append_ #[T,T] ty #[.slice (some ⟨g,o,none⟩) xs.length c,.slice (some ad) ys.length c0]).run P w=.ok (.slice (some ⟨g,o,none⟩) (xs.length+ys.length) c) (w.setRow g (cur.toList.take (o+xs.length*GT.size α)++ds++cur.toList.drop (o+xs.length*GT.size α+ds.length)).toArray):=by
     simp[Builtin.append_,gK hu,sizeOf,typeInfo,sK,Builtin.lenOf,P8,hf,vi,lk,qK]
    refine⟨_,_,_,kO,⟨J,J,J,by simp,fun k _ hk=>setRow_other w g k _ (fun e=>hk<|by simp[Value.ownBlock,e])⟩,.inl rfl,fun M' qJ=>?_⟩
    refine⟨cs++ds,bB.append (bB.lift qJ h2) (bB.lift qJ t'),.inr ⟨g,o,c,_,J,h3,setRow_heap w g cur _ e _ h4,by rw[fN];exact P8,h6,?_,?_⟩⟩
    ·simp only[an9,fN,iu,amZ,ang]
     omega
    ·rw[fN,ant,←yM]
     have aci:cur.toList.length=cur.size:=by simp
     have e1:(cur.toList.take (o+xs.length*GT.size α)).length=o+xs.length*GT.size α:=by rw[iu];omega
     show List.take _ (List.drop o (cur.toList.take (o+xs.length*GT.size α)++ds++cur.toList.drop (o+xs.length*GT.size α+ds.length)))=_
     rw[anb,apu aj,apy,show o+xs.length*GT.size α-o=xs.length*GT.size α from by omega,h8]
     rw[←anb,apq (by rw[fN,rO])]
   ·have holds:∀j u,cs[j]? =some u→w.cell? ((⟨g,o,none⟩:Addr).add j)=some u:=by
     intro j u Xx
     have lk:(⟨g,o,none⟩:Addr).add j=⟨g,o+j,none⟩:=by unfold Addr.add;split<;>simp_all
     rw[lk,cell_of_row w g _ cur e (0,0) h4]
     rw[←h8] at Xx
     obtain⟨k1,k2⟩:=dU.1 Xx
     rw[anQ (by rw[iu] at k1;omega),ank] at Xx
     rw[←Xx,an1]
    obtain⟨v',w',r1,r2,r3⟩:=run_append_arg_grows (P:=P) w T ty e inf z (GT.size α) bytes hu sK tZ vi CN hz GT.pos ⟨g,o,none⟩ xs.length c cs rO holds ad ys.length c0 ds yM CO aj (by simp only[maxLen];omega) hl
    obtain⟨a',c',rfl⟩:=vN r2
    refine⟨a',c',w',r1,⟨r3.os,r3.tape,r3.output,r3.size,fun k hk _=>r3.block k hk (by simp)⟩,.inr fun b wh=>r2.lt b wh,fun M' qJ=>?_⟩
    refine OC _ _ w.heap.size _ M' (cs++ds) H.below.size (by rw[fN];exact r2)<|bB.append (bB.lift qJ h2)<|bB.lift qJ t'
 refine SO.value (v:=.slice a' (xs.length+ys.length) c') (w':=w') ?_ ?_
 ·simp[execOp,resolve,invoke,builtin,aM ox,aM oy,hx,hy,kO]
 ·have:=h a' c' w'
  rw[fN] at this
  refine this ?_
  have hblk:∀b,(nC w0.heap.size e (.slice a' (xs.length+ys.length) c') (xs++ys)).jG=some b→b<w'.heap.size∧((nC w0.heap.size e v xs).jG=some b∨w.heap.size≤b):=by
   intro b hb
   rcases BM with BM|BM
   ·have wq:v.ownBlock=some b:=BM.symm.trans hb
    exact⟨am8 (eZ b wq).2 rq.size,.inl wq⟩
   ·exact⟨(BM b hb).2,.inr (BM b hb).1⟩
  refine H.vL i hi rq.os rq.tape rq.output rq.size (sC _ kO) (fun c hc gD=>rq.block c hc<|fun e=>gD e.symm) hblk ?_
  have h9:=aeE (MS M0<|l.set i (nC w0.heap.size e (.slice a' (xs.length+ys.length) c')<|xs++ys)) ?_
  ·rw[fN] at h9;exact h9
  ·refine⟨rq.size,fun b hb hM=>⟨rq.block b hb (fun e=>hM<|.inr ⟨_,dN hi,e.symm⟩),?_⟩⟩
   rintro(CU|⟨it,hit,lZ⟩)
   ·exact hM<|.inl CU
   ·rcases anr hit with hit|rfl
    ·exact hM<|.inr ⟨it,hit,lZ⟩
    ·rcases (hblk b lZ).2 with h'|h'
     ·exact hM<|.inr ⟨_,dN hi,h'⟩
     ·omega
end
end Go.Ew
namespace Go.Ew
open Go.RowKit
section
variable {P:Program} {n:Nat} {ops:Array Oper} {f:aP} {w:aG} {K:aP→aG→Prop} {x y:Operand} {d:Nat} {ty T e:TypeId} {ps:String} {af:Array Edge} {v u:Value} {M M0:cb} {w0:aG} {l:List Item} {bytes:Nat} {z:Value} {B:Nat}
theorem cpO {xs ys:List bt} (H:HI M0 w0 w l) (i:Nat) (hi:l[i]? =some (own B e v xs)) (hB:B=w0.heap.size) (ox:bJ n x=true) (oy:bJ n y=true) (hx:ev f x=v) (hy:ev f y=u)
  (hs:Src (MS M0 l) w u ys) (hu:P.underlying T=some (.slice e)) (F:ey P e 1 false bytes z) (hl:ys.length=xs.length) (hp:0<xs.length)
  (h:∀w',HI M0 w0 w' (l.set i (own B e v ys))→K (cx f d (.int .i64 (ys.length:Int))) w'):
  SO P n ops ⟨some d,.call {callee:=.builtin .copy,args:=#[x,y],argTypes:=#[T,T]},ty,ps,af,none⟩ f w K:=by
 subst hB
 obtain⟨cs,h1,h2⟩:=H.at_ i hi
 obtain⟨a0,c0,rfl,Fk⟩:=hs
 obtain⟨inf,sK,tZ,vi,CN⟩:=F.info
 rcases h1.2 with ⟨rfl,h3⟩|⟨g',cap,cur,rfl,h3,h4,h5,h6,h7,h8⟩
 ·omega
 ·rcases Fk with h0|⟨ad,rfl,ds,t',CO⟩
  ·omega
  ·have yM:ds.length=ys.length:=by have:=bB.length t';simpa [GT.size] using this
   have oQ:cur.size=cap:=by rw[h7];simp[GT.size]
   have kO:=run_copy_row (P:=P) w T T ty e g' 0 xs.length cap ad ys.length c0 cur e ds hu (by rw[sK];simp[vi]) h4 (by rw[yM,hl];simp) CO aj<|bB.AY t'
   refine SO.value (v:=.int .i64 (ys.length:Int)) (w':=w.setRow g' (wr cur 0 ds)) ?_<|h _ ?_
   ·have Ae:(Builtin.copy_ #[T,T] ty #[.slice (some ⟨g',0,none⟩) xs.length cap,.slice (some ad) ys.length c0]).run P w=.ok (.int .i64 (ys.length:Int)) (w.setRow g' (wr cur 0 ds)):=by
     rw[kO,←yM];rfl
    simp[execOp,resolve,invoke,builtin,aM ox,aM oy,hx,hy,Ae]
   ·have CK:∀c,c<w.heap.size→(own w0.heap.size e (Value.slice (some ⟨g',0,none⟩) xs.length cap) xs).jG≠some c→(w.setRow g' (wr cur 0 ds)).heap[c]? =w.heap[c]?:=
     fun c hc gD=>setRow_other w g' c _ (fun e=>gD (by rw[e];rfl))
    have hblk:∀b,(own w0.heap.size e (Value.slice (some ⟨g',0,none⟩) xs.length cap) ys).jG=some b→b<(w.setRow g' (wr cur 0 ds)).heap.size∧((own w0.heap.size e (Value.slice (some ⟨g',0,none⟩) xs.length cap) xs).jG=some b∨w.heap.size≤b):=by
     intro b hb
     refine⟨?_,.inl hb⟩
     rw[size_setRow]
     exact(H.jq _ (dN hi) b hb).2
    refine H.vL i hi J J J (by simp) (amD _) CK hblk ?_
    refine⟨ds,⟨by simpa [GT.size] using yM,.inr ⟨g',cap,wr cur 0 ds,by rw[hl],h3,setRow_heap w g' cur _ e _ h4,by omega,h6,?_,?_⟩⟩,?_⟩
    ·simp only[wr,an9,fN,iu,amZ,ang]
     omega
    ·simp only[wr]
     rw[aoA,List.nil_append,ann,apq (by simpa [GT.size] using yM)]
    ·have qJ:Up (MS M0 l) w (MS M0 (l.set i (own w0.heap.size e (Value.slice (some ⟨g',0,none⟩) xs.length cap) ys))) (w.setRow g' (wr cur 0 ds)):=by
      refine⟨by simp,fun b hb hM=>⟨setRow_other w g' b _ (fun e=>hM<|.inr ⟨_,dN hi,by rw[e];rfl⟩),?_⟩⟩
      rintro(CU|⟨it,hit,lZ⟩)
      ·exact hM<|.inl CU
      ·rcases anr hit with hit|rfl
       ·exact hM<|.inr ⟨it,hit,lZ⟩
       ·exact hM<|.inr ⟨_,dN hi,lZ⟩
     exact bB.lift qJ t'
end
theorem Zo {α:Type} {ss:List SV} {xs:List (List α)} {i k L:Nat} {s s2:SV} {x x2:List α} (hs:ss[i]? =some s) (gN:ss[k]? =some s2) (hx:xs[i]? =some x) (jb:xs[k]? =some x2):L+i≠L+k∨(s.v=s2.v∧x2=x):=by
 by_cases h:i=k
 ·subst h
  right
  rw[hs] at gN;rw[hx] at jb
  cases gN;cases jb
  exact⟨J,J⟩
 ·left;omega
end Go.Ew
namespace Go.Ew
open Go.RowKit
def l6 (a:Option Addr) (c lo:Nat):Option Addr:=if c=lo then a else a.map (·.add (lo*1))
def FB (xs:aA) (k:Nat):aA:=xs.take k++((xs.take k).take (xs.length-k)++xs.drop (k+min k (xs.length-k)))
theorem FL (g j:Nat):(⟨g,0,none⟩:Addr).add j=⟨g,j,none⟩:=by unfold Addr.add;split<;>simp_all
theorem rk {M:cb} {w:aG}:∀(k:Nat) {xs:aA} {cs:List Value},bB M w cs xs→bB M w (cs.take k) (xs.take k)∧bB M w (cs.drop k) (xs.drop k)
 |0,xs,cs,h=>⟨by rw[aoA,aoA];rfl,by simpa using h⟩
 |k+1,[],cs,h=>by
  rw[show cs=[] from h]
  exact⟨J,J⟩
 |k+1,x::xs,cs,h=>by
  obtain⟨c1,c2,rfl,h2,h3⟩:=h
  obtain⟨i1,i2⟩:=rk k h3
  obtain⟨e,hx⟩:=h2
  subst e
  exact⟨⟨[.int .i64 x],c2.take k,J,⟨J,hx⟩,i1⟩,i2⟩
section
variable {P:Program} {n:Nat} {ops:Array Oper} {f:aP} {w:aG} {K:aP→aG→Prop} {x y:Operand} {d:Nat} {ty T e:TypeId} {ps:String} {af:Array Edge} {v u:Value} {M M0:cb} {w0:aG} {l:List Item} {bytes:Nat} {z:Value} {B:Nat} {kk:IntKind} {agg:Bool} {xs ys:aA} {a:Option Addr} {k c:Nat}
theorem Cq (hO:(own B e (.slice a k c) xs).holds M w):k=xs.length∧xs.length≤c:=by
 obtain⟨cs,h1,h2⟩:=hO
 rcases h1.2 with ⟨h3,h4⟩|⟨g,cap,cur,h3,h4,h5,h6,h7⟩
 ·cases h3;omega
 ·cases h3;exact⟨rfl,h6⟩
theorem K1 {α:Type} [GT α] {xs:List α} (hO:(own B e (.slice a k c) xs).holds M w):k=xs.length:=by
 obtain⟨cs,h1,h2⟩:=hO
 rcases h1.2 with ⟨h3,h4⟩|⟨g,cap,cur,h3,h4,h5,h6,h7⟩
 ·cases h3;omega
 ·cases h3;rfl
theorem aaC {lo:Int} {rm:Operand} (hO:(own B e (.slice a k c) xs).holds M w) (ox:bJ n x=true) (ol:bJ n rm=true) (hx:ev f x=.slice a k c) (hl:ev f rm=.int kk lo) (hb:0≤lo∧lo≤xs.length) (hu:P.underlying T=some (.slice e)) (F:ey P e 1 agg bytes z)
  (h:K (cx f d (.slice (l6 a c lo.toNat) (k-lo.toNat) (c-lo.toNat))) w):
  SO P n ops ⟨some d,.slice T x (some rm) none none,ty,ps,af,none⟩ f w K:=by
 obtain⟨hk,hc⟩:=Cq hO
 refine SO.value (v:=.slice (l6 a c lo.toNat) (k-lo.toNat) (c-lo.toNat)) (w':=w) ?_ h
 have xK:P.underlying T=some (.slice (P.elem T)):=by rw[hu];simp[Program.elem,hu]
 have uD:P.elem T=e:=by simp[Program.elem,hu]
 simp[execOp,aM ox,aM ol,hx,hl,Instr.sliceAt,gK hu]
 have:=run_slice_l (P:=P) (w:=w) T a k c xK kk lo hb.1 aj
 rw[uD,F.jm] at this
 simp[this,sliced,l6]
theorem aaD {hi:Int} {pe:Operand} (hO:(own B e (.slice a k c) xs).holds M w) (ox:bJ n x=true) (oh:bJ n pe=true) (hx:ev f x=.slice a k c) (hh:ev f pe=.int kk hi) (hb:0≤hi∧hi≤xs.length) (hu:P.underlying T=some (.slice e)) (F:ey P e 1 agg bytes z)
  (h:K (cx f d (.slice (l6 a c 0) hi.toNat c)) w):
  SO P n ops ⟨some d,.slice T x none (some pe) none,ty,ps,af,none⟩ f w K:=by
 obtain⟨hk,hc⟩:=Cq hO
 refine SO.value (v:=.slice (l6 a c 0) hi.toNat c) (w':=w) ?_ h
 have xK:P.underlying T=some (.slice (P.elem T)):=by rw[hu];simp[Program.elem,hu]
 have uD:P.elem T=e:=by simp[Program.elem,hu]
 simp[execOp,aM ox,aM oh,hx,hh,Instr.sliceAt,gK hu]
 have:=run_slice_h (P:=P) (w:=w) T a k c xK kk hi hb.1 aj
 rw[uD,F.jm] at this
 simp[this,sliced,l6]
theorem HI.KT (H:HI M0 w0 w l) (i:Nat) {g cap:Nat} {cur:Array Value} {cs ds:List Value} {o:Nat} (hi:l[i]? =some (own w0.heap.size e (.slice (some ⟨g,0,none⟩) xs.length cap) xs))
  (h3:w0.heap.size≤g) (h4:w.heap[g]? =some (.cells cur e (0,0))) (h5:xs.length≤cap) (h6:cap≤maxLen) (h7:cur.size=cap) (h8:cur.toList.take xs.length=cs)
  (hc:bB (MS M0 l) w cs xs) (hd:bB (MS M0 l) w ds ys) (ho:o+ys.length≤xs.length):
  HI M0 w0 (w.setRow g (cur.toList.take o++ds++cur.toList.drop (o+ds.length)).toArray) (l.set i (own w0.heap.size e (.slice (some ⟨g,0,none⟩) xs.length cap) (xs.take o++(ys++xs.drop (o+ys.length))))):=by
 have yM:ds.length=ys.length:=by have:=bB.length hd;simpa [GT.size] using this
 have rO:cs.length=xs.length:=by have:=bB.length hc;simpa [GT.size] using this
 have Gw:(xs.take o++(ys++xs.drop (o+ys.length))).length=xs.length:=by simp;omega
 have aci:cur.toList.length=cap:=by simpa using h7
 have CK:∀q,q<w.heap.size→(own w0.heap.size e (Value.slice (some ⟨g,0,none⟩) xs.length cap) xs).jG≠some q→(w.setRow g (cur.toList.take o++ds++cur.toList.drop (o+ds.length)).toArray).heap[q]? =w.heap[q]?:=
  fun q hq gD=>setRow_other w g q _ (fun e=>gD (by rw[e];rfl))
 refine H.vL i hi J J J (by simp) (amD _) CK ?_ ?_
 ·intro b hb
  refine⟨?_,.inl hb⟩
  rw[size_setRow]
  exact(H.jq _ (dN hi) b hb).2
 ·have qJ:Up (MS M0 l) w (MS M0 (l.set i (own w0.heap.size e (Value.slice (some ⟨g,0,none⟩) xs.length cap) (xs.take o++(ys++xs.drop (o+ys.length)))))) (w.setRow g (cur.toList.take o++ds++cur.toList.drop (o+ds.length)).toArray):=by
   refine⟨by simp,fun b hb hM=>⟨setRow_other w g b _ (fun e=>hM<|.inr ⟨_,dN hi,by rw[e];rfl⟩),?_⟩⟩
   rintro(CU|⟨it,hit,lZ⟩)
   ·exact hM<|.inl CU
   ·rcases anr hit with hit|rfl
    ·exact hM<|.inr ⟨it,hit,lZ⟩
    ·exact hM<|.inr ⟨_,dN hi,lZ⟩
  refine⟨cs.take o++(ds++cs.drop (o+ds.length)),⟨by simp[GT.size];omega,.inr ⟨g,cap,_,by rw[Gw],h3,setRow_heap w g cur _ e _ h4,by omega,h6,?_,?_⟩⟩,?_⟩
  ·simp only[an9,fN,iu,amZ,GT.size]
   omega
  ·rw[Gw]
   show (cur.toList.take o++ds++cur.toList.drop (o+ds.length)).take (xs.length*1)=_
   rw[←h8,aoJ,anb,aoQ,aoQ,iu,anF aj,an8,an8,apy,amL (by omega:ds.length≤xs.length-o),Nat.min_comm o xs.length,
    show xs.length-o-ds.length=xs.length-(o+ds.length) from by omega]
  ·have e9:xs.drop (o+ys.length)=xs.drop (o+ds.length):=by rw[yM]
   have q:=bB.lift qJ (rk (o+ds.length) hc).2
   exact bB.append (bB.lift qJ (rk o hc).1)<|bB.append (bB.lift qJ hd)<|(amz (fun r=>bB _ _ _ r) e9).mpr q
theorem aiS (H:HI M0 w0 w l) (i:Nat) (hi:l[i]? =some (own B e (.slice a k c) xs)) (hB:B=w0.heap.size) (ox:bJ n x=true) (oy:bJ n y=true) (hx:ev f x=.slice a k c) (hy:ev f y=u)
  (hs:Src (MS M0 l) w u ys) (hu:P.underlying T=some (.slice e)) (F:ey P e 1 agg bytes z) (hl:ys.length≤xs.length) (hp:0<ys.length)
  (h:∀w',HI M0 w0 w' (l.set i (own B e (.slice a k c) (ys++xs.drop ys.length)))→K (cx f d (.int .i64 (ys.length:Int))) w'):
  SO P n ops ⟨some d,.call {callee:=.builtin .copy,args:=#[x,y],argTypes:=#[T,T]},ty,ps,af,none⟩ f w K:=by
 subst hB
 obtain⟨cs,h1,h2⟩:=H.at_ i hi
 obtain⟨a0,c0,rfl,Fk⟩:=hs
 obtain⟨inf,sK,tZ,vi,CN⟩:=F.info
 rcases h1.2 with ⟨h0,h3⟩|⟨g',c1,cur,h0,h3,h4,h5,h6,h7,h8⟩
 ·omega
 ·cases h0
  rcases Fk with h0|⟨ad,rfl,ds,t',CO⟩
  ·omega
  ·have yM:ds.length=ys.length:=by have:=bB.length t';simpa [GT.size] using this
   have oQ:cur.size=c:=by rw[h7];simp[GT.size]
   have kO:=run_copy_row (P:=P) w T T ty e g' 0 xs.length c ad ys.length c0 cur e ds hu (by rw[sK];simp[vi]) h4 (by rw[yM];simp[anF hl]) CO aj<|bB.AY t'
   refine SO.value (v:=.int .i64 (ys.length:Int)) (w':=w.setRow g' (cur.toList.take 0++ds++cur.toList.drop (0+ds.length)).toArray) ?_<|h _ ?_
   ·have Ae:(Builtin.copy_ #[T,T] ty #[.slice (some ⟨g',0,none⟩) xs.length c,.slice (some ad) ys.length c0]).run P w=.ok (.int .i64 (ys.length:Int)) (w.setRow g' (cur.toList.take 0++ds++cur.toList.drop (0+ds.length)).toArray):=by
     rw[kO,←yM];rfl
    simp[execOp,resolve,invoke,builtin,aM ox,aM oy,hx,hy,Ae]
   ·rw[show ys++xs.drop ys.length=xs.take 0++(ys++xs.drop (0+ys.length)) from by simp]
    exact HI.KT (ys:=ys) (ds:=ds) (o:=0) H i hi h3 h4 h5 h6 oQ (by simpa [GT.size] using h8) h2 t' aj
theorem aiT (H:HI M0 w0 w l) (i:Nat) (hi:l[i]? =some (own B e (.slice a k c) xs)) (hB:B=w0.heap.size) (ox:bJ n x=true) (oy:bJ n y=true) {q:Nat} (hx:ev f x=.slice (l6 a c q) (k-q) (c-q)) (hy:ev f y=.slice (l6 a c 0) q c)
  (hu:P.underlying T=some (.slice e)) (F:ey P e 1 agg bytes z) (hq:0<q∧q<xs.length)
  (h:∀w',HI M0 w0 w' (l.set i (own B e (.slice a k c) (FB xs q)))→K (cx f d (.int .i64 ((min q (xs.length-q):Nat):Int))) w'):
  SO P n ops ⟨some d,.call {callee:=.builtin .copy,args:=#[x,y],argTypes:=#[T,T]},ty,ps,af,none⟩ f w K:=by
 subst hB
 obtain⟨cs,h1,h2⟩:=H.at_ i hi
 obtain⟨inf,sK,tZ,vi,CN⟩:=F.info
 rcases h1.2 with ⟨h0,h3⟩|⟨g',c1,cur,h0,h3,h4,h5,h6,h7,h8⟩
 ·omega
 ·cases h0
  have oQ:cur.size=c:=by rw[h7];simp[GT.size]
  have lk:∀j,(⟨g',0,none⟩:Addr).add j=⟨g',j,none⟩:=FL g'
  have SC:l6 (some ⟨g',0,none⟩) c q=some ⟨g',q,none⟩:=by unfold l6;rw[amI aj,aoJ];show some (Addr.add _ q)=_;rw[lk]
  have hcB:l6 (some ⟨g',0,none⟩) c 0=some ⟨g',0,none⟩:=by unfold l6;rw[amI aj];show some (Addr.add _<|0*1)=_;rw[lk]
  rw[SC] at hx;rw[hcB] at hy
  have rO:cs.length=xs.length:=by have:=bB.length h2;simpa [GT.size] using this
  have hd:bB (MS M0 l) w ((cs.take q).take (xs.length-q)) ((xs.take q).take (xs.length-q)):=(rk _ (rk q h2).1).1
  have sM:((cs.take q).take (xs.length-q)).length=min q (xs.length-q):=by simp;omega
  have kO:=run_copy_row (P:=P) w T T ty e g' q (xs.length-q) (c-q) ⟨g',0,none⟩ q c cur e ((cs.take q).take (xs.length-q)) hu (by rw[sK];simp[vi]) h4 (by rw[sM]) (by
   intro j v hv
   have wm:=(dU.1 hv).1
   rw[sM] at wm
   rw[anQ aj,anQ aj,←h8,anQ (by simp[GT.size];omega)] at hv
   rw[lk,cell_of_row w g' _ cur e (0,0) h4,←hv,an1]) (by rw[sM];omega) (bB.AY hd)
  refine SO.value (v:=.int .i64 ((min q (xs.length-q):Nat):Int)) (w':=w.setRow g' (cur.toList.take q++(cs.take q).take (xs.length-q)++cur.toList.drop (q+((cs.take q).take (xs.length-q)).length)).toArray) ?_<|h _ ?_
  ·have Ae:(Builtin.copy_ #[T,T] ty #[.slice (some ⟨g',q,none⟩) (xs.length-q) (c-q),.slice (some ⟨g',0,none⟩) q c]).run P w=.ok (.int .i64 ((min q (xs.length-q):Nat):Int)) (w.setRow g' (cur.toList.take q++(cs.take q).take (xs.length-q)++cur.toList.drop (q+((cs.take q).take (xs.length-q)).length)).toArray):=by
    rw[kO,sM];rfl
   simp[execOp,resolve,invoke,builtin,aM ox,aM oy,hx,hy,Ae]
  ·have:=HI.KT (ys:=(xs.take q).take (xs.length-q)) (o:=q) H i hi h3 h4 h5 h6 oQ (by simpa [GT.size] using h8) h2 hd<|by simp;omega
   rw[show ((xs.take q).take (xs.length-q)).length=min q (xs.length-q) from by simp;omega] at this
   exact this
end
end Go.Ew
namespace Go.Ew
open Go.RowKit
def FPH (P:Program) (g:FuncId) (C:List Value) (M:cb) (w:aG) (it:aA→Item) (r:List Item) (xs:aA) (p:Int→Bool):Prop:=
 cH P g∧∀w1 ys,HI M w w1 ([it ys]++r)→∀x,x∈xs→aL x→Calls P g ([Value.int .i64 x]++C).toArray w1 (cA fun u w2=>u=.bool (p x)∧Ext w1 w2)
theorem FPH.fp {P:Program} {g:FuncId} {C:List Value} {M M':cb} {w w1:aG} {it:aA→Item} {r:List Item} {xs ys:aA} {p:Int→Bool} (h:FPH P g C M w it r xs p) (H:HI M w w1 ([it ys]++r)):FP P g C M' w1 xs p:=
 ⟨h.1,fun w2 v x hx e hv=>by
  obtain⟨cs,⟨e1,hi⟩,e2⟩:=hv
  rw[e1] at e2
  cases e2
  exact h.2 w2 ys (H.ext e) x hx hi⟩
theorem Jo (v:Value):∀n,(Builtin.zeroCells #[v] n).toList=List.replicate n v:=by
 intro n
 unfold Builtin.zeroCells
 apply ana
 intro i
 simp only[Array.toList_map,amS,Array.toList_range,aom]
 by_cases h:i<n
 ·rw[anL (by simpa using h),amF h]
  simp[Nat.mod_one]
 ·rw[amQ (by simpa using h),amI h];rfl
section
variable {P:Program} {n:Nat} {ops:Array Oper} {f:aP} {w:aG} {K:aP→aG→Prop} {x y:Operand} {d:Nat} {ty T e:TypeId} {ps:String} {af:Array Edge} {v u:Value} {M M0:cb} {w0:aG} {l:List Item} {bytes:Nat} {B:Nat} {kk:IntKind} {agg:Bool} {xs ys:aA} {a:Option Addr} {k c:Nat}
theorem aem {hi:Int} {pe:Operand} (H:HI M0 w0 w l) (i:Nat) (pJ:l[i]? =some (own B e (.slice a k c) xs)) (ox:bJ n x=true) (oh:bJ n pe=true) (hx:ev f x=.slice a k c) (hh:ev f pe=.int kk hi) (hb:0≤hi∧hi≤xs.length) (hu:P.underlying T=some (.slice e)) (F:ey P e 1 agg bytes (.int .i64 0))
  (h:HI M0 w0 w (l.set i (own B e (.slice a (xs.take hi.toNat).length c) (xs.take hi.toNat)))→K (cx f d (.slice a (xs.take hi.toNat).length c)) w):
  SO P n ops ⟨some d,.slice T x none (some pe) none,ty,ps,af,none⟩ f w K:=by
 have hO:=H.at_ i pJ
 have jK:=(dU.1 pJ).1
 have hlen:(xs.take hi.toNat).length=hi.toNat:=by simp;omega
 have Fo:l6 a c 0=a:=by
  unfold l6
  split
  ·rfl
  ·obtain⟨cs,h1,h2⟩:=hO
   rcases h1.2 with ⟨h3,h4⟩|⟨g,cap,cur,h3,h4⟩
   ·cases h3;rfl
   ·cases h3
    show some (Addr.add _ (0*1))=_
    rw[FL]
 refine aaD hO ox oh hx hh hb hu F ?_
 rw[Fo]
 rw[hlen] at h
 refine h ?_
 refine H.weaken ?_ ?_
 ·apply ana
  intro j
  rw[amS,amS]
  by_cases hj:i=j
  ·subst hj;rw[amX jK,pJ];cases a<;>rfl
  ·rw[anh hj]
 ·intro j it ns hj rp M Sv
  by_cases po:i=j
  ·subst po
   rw[amX jK] at rp
   rw[pJ] at hj
   cases hj;cases rp
   obtain⟨cs,h1,h2⟩:=Sv
   have rO:=bB.length h2
   refine⟨cs.take hi.toNat,⟨by rw[hlen];simp only[GT.size] at rO ⊢;rw[iu];omega,?_⟩,(rk _ h2).1⟩
   rcases h1.2 with ⟨h3,h4⟩|⟨g,cap,cur,h3,h4,h5,h6,h7,h8,h9⟩
   ·cases h3
    refine .inl ⟨by rw[show hi.toNat=0 from by omega],by rw[hlen];omega⟩
   ·cases h3
    refine .inr ⟨g,c,cur,by rw[hlen],h4,h5,by omega,h7,h8,?_⟩
    rw[←h9,hlen,an8]
    congr 1
    simp only[GT.size];omega
  ·rw[anh po,hj] at rp;cases rp;exact Sv
theorem clO (H:HI M0 w0 w l) (i:Nat) (hi:l[i]? =some (own B e (.slice a k c) xs)) (hB:B=w0.heap.size) (ox:bJ n x=true) {q:Nat} (hx:ev f x=.slice (l6 a c q) (k-q) (c-q))
  (hu:P.underlying T=some (.slice e)) (F:ey P e 1 agg bytes (.int .i64 0)) (hq:q≤xs.length)
  (h:∀w',HI M0 w0 w' (l.set i (own B e (.slice a k c) (xs.take q++(List.replicate (xs.length-q) 0++[]))))→K f w'):
  SO P n ops ⟨none,.call {callee:=.builtin .clear,args:=#[x],argTypes:=#[T]},ty,ps,af,none⟩ f w K:=by
 subst hB
 have hO:=H.at_ i hi
 have jK:=(dU.1 hi).1
 obtain⟨hk,hc⟩:=Cq hO
 obtain⟨cs,h1,h2⟩:=hO
 by_cases nt:q=xs.length
 ·have hz:k-q=0:=by omega
  refine SO.value (d:=none) (v:=.tuple #[]) (w':=w) ?_<|h w ?_
  ·have Ae:(Builtin.clear_ #[T] ty #[.slice (l6 a c q) 0 (c-q)]).run P w=.ok (.tuple #[]) w:=by
    cases hca:l6 a c q<;>simp[Builtin.clear_,run_underlying hu]
   rw[hz] at hx
   simp[execOp,resolve,invoke,builtin,aM ox,hx,Ae]
  ·have e9:xs.take q++(List.replicate (xs.length-q) 0++[])=xs:=by rw[nt];simp
   rw[e9]
   have:l.set i (own w0.heap.size e (.slice a k c) xs)=l:=by
    apply ana
    intro j
    by_cases hj:i=j
    ·subst hj;rw[amX jK,hi]
    ·rw[anh hj]
   rw[this];exact H
 ·rcases h1.2 with ⟨h0,h3⟩|⟨g',c1,cur,h0,h3,h4,h5,h6,h7,h8⟩
  ·omega
  ·cases h0
   have oQ:cur.size=c:=by rw[h7];simp[GT.size]
   have SC:l6 (some ⟨g',0,none⟩) c q=some ⟨g',q,none⟩:=by unfold l6;rw[amI aj,aoJ];show some (Addr.add _ q)=_;rw[FL]
   rw[SC] at hx
   have hz:bB (MS M0 l) w (List.replicate (xs.length-q) (Value.int .i64 0)) (List.replicate (xs.length-q) (0:Int)):=by
    have:∀m,bB (MS M0 l) w (List.replicate m (Value.int .i64 0)) (List.replicate m (0:Int)):=by
     intro m
     induction m with
     |zero=>rfl
     |succ m ih=>exact⟨[.int .i64 0],List.replicate m (.int .i64 0),by rw[anv];rfl,⟨rfl,by unfold aL;omega⟩,ih⟩
    exact this _
   have qK:=run_storeCells_at P g' q e (List.replicate (xs.length-q)<|Value.int .i64 0) 0 cur w h4 (by rw[ot];omega)<|bB.AY hz
   refine SO.value (d:=none) (v:=.tuple #[]) (w':=w.setRow g' (cur.toList.take q++List.replicate (xs.length-q) (Value.int .i64 0)++cur.toList.drop (q+(List.replicate (xs.length-q)<|Value.int .i64 0).length)).toArray) ?_<|h _ ?_
   ·obtain⟨m,hm⟩:∃m,xs.length-q=m+1:=⟨xs.length-q-1,by omega⟩
    have Ae:(Builtin.clear_ #[T] ty #[.slice (some ⟨g',q,none⟩) (xs.length-q) (c-q)]).run P w=.ok (.tuple #[]) (w.setRow g' (cur.toList.take q++List.replicate (xs.length-q) (Value.int .i64 0)++cur.toList.drop (q+(List.replicate (xs.length-q) (Value.int .i64 0)).length)).toArray):=by
     have rP:(Builtin.zeroCells (Value.int .i64 0).cells (xs.length-q)).toList=List.replicate (xs.length-q) (Value.int .i64 0):=Jo _ _
     rw[ani] at qK
     rw[hm] at qK rP ⊢
     simp[Builtin.clear_,run_underlying hu,F.uk,rP,qK]
    simp[execOp,resolve,invoke,builtin,aM ox,hx,Ae]
   ·have:=HI.KT (ys:=List.replicate (xs.length-q) 0) (ds:=List.replicate (xs.length-q) (Value.int .i64 0)) (o:=q) H i hi h3 h4 h5 h6 oQ (by simpa [GT.size] using h8) h2 hz<|by rw[ot];omega
    have e8:xs.drop (q+(List.replicate (xs.length-q) (0:Int)).length)=[]:=by rw[ot];exact aob aj
    rw[e8] at this
    exact this
end
end Go.Ew
namespace Go.Ew
variable {i:Int}
def kh (i:Int):bt:=if 0≤i∧i≤63 then 1#64 <<< i.toNat else 0#64
theorem IA (h:aL i):((BitVec.ofInt 64 i).toNat:Int)=if 0≤i then i else i+18446744073709551616:=by
 rw[←zg,IntKind.wrap_u64];unfold aL at h;split<;>omega
theorem Z5 (h:aL i) (h1:63<(BitVec.ofInt 64 i).toNat):0#64=kh i:=by
 unfold kh;rw[amI];have:=IA h;unfold aL at h;split at this<;>omega
theorem Z4 (h:aL i) (h1:¬63<(BitVec.ofInt 64 i).toNat):1#64 <<< ((BitVec.ofInt 64 i).toNat:Int).toNat=kh i:=by
 have h2:=IA h
 unfold kh;unfold aL at h
 split at h2
 ·rw[amF aj];congr 1;omega
 ·omega
def xM (w:bt) (i:Int):Bool:=decide (0≤i)&&w.getLsbD i.toNat
theorem Z9 (w:bt) (k:Nat) (hk:k<64):(w &&& 1#64 <<< k=0#64)↔w.getLsbD k=false:=by
 constructor
 ·intro h
  have:=amz (·.getLsbD k) h
  simpa [hk] using this
 ·intro h
  apply aoE
  intro j hj
  simp only[aoI,ao9,BitVec.getLsbD_zero]
  by_cases IW:j=k
  ·subst IW;simp[h]
  ·by_cases eZ:j<k
   ·simp[eZ]
   ·have:j-k≠0:=by omega
    simp[this]
theorem Zu (w:bt) (i:Int):(!decide (w &&& kh i=0#64))=xM w i:=by
 unfold kh xM
 by_cases h:0≤i∧i≤63
 ·rw[amF h,amU]
  have:=Z9 w i.toNat aj
  simp[this,h.1]
 ·rw[amI h]
  by_cases h0:0≤i
  ·have:w.getLsbD i.toNat=false:=BitVec.getLsbD_of_ge w _ aj
   simp[this]
  ·simp[h0]
abbrev Row:=List bt
def fm (r:Row) (i:Int):Bool:=decide (0≤i)&&(r.getD (i.toNat/64) 0#64).getLsbD (i.toNat%64)
def jr (r:Row) (i:Int):Bool:=decide (0≤i∧i<64*(r.length:Int))
theorem Zr {r:Row} (h:0≤i):decide (i/64<(r.length:Int))=jr r i:=by
 unfold jr;congr 1;apply propext;omega
theorem abx {r:Row} (h:i<0):false=jr r i:=by
 unfold jr;simp;omega
theorem Zx {r:Row} (h:jr r i=true) {x:bt} (hx:r[(i/64).toNat]? =some x):xM x (i%64)=fm r i:=by
 unfold jr at h;simp only[amB] at h
 unfold xM fm
 have e1:(i/64).toNat=i.toNat/64:=by omega
 have e2:(i%64).toNat=i.toNat%64:=by omega
 rw[e1] at hx
 rw[e2,im,hx]
 simp[h.1,Int.emod_nonneg]
theorem xN {r:Row} (h:jr r i=false):false=fm r i:=by
 unfold jr at h;simp only[amN] at h
 unfold fm
 by_cases h0:0≤i
 ·rw[im,amQ aj];simp
 ·simp[h0]
def eo (r:Row) (i:Int):Row:=if jr r i then r.set (i.toNat/64) (r.getD (i.toNat/64) 0#64 ||| kh (i%64)) else r
theorem NJ {r:Row} (h:jr r i=true) {x:bt} (hx:r[(i/64).toNat]? =some x):r.set (i/64).toNat (x ||| kh (i%64))=eo r i:=by
 unfold eo;rw[amF h]
 unfold jr at h;simp only[amB] at h
 have e1:(i/64).toNat=i.toNat/64:=by omega
 rw[e1] at hx
 rw[e1,im,hx];rfl
theorem EV {r:Row} (h:jr r i=false):r=eo r i:=by
 unfold eo;rw[amI (by simp[h])]
end Go.Ew
namespace Go.Ew
def VZ (x:Nat):Nat→Nat
 |0=>0
 |k+1=>VZ x k+(x.testBit k).toNat
def Aq (x:bt):Nat:=VZ x.toNat 64
def rep (m:Nat):Nat→Nat
 |0=>0
 |n+1=>m+256*rep m n
def s1 (n x:Nat):Nat:=(x/2 &&& rep 0x55 n)+(x &&& rep 0x55 n)
def s2 (n x:Nat):Nat:=(x/4 &&& rep 0x33 n)+(x &&& rep 0x33 n)
def s3 (n x:Nat):Nat:=(x/16+x) &&& rep 0x0f n
def JX (a:Nat):Nat:=(a/2 &&& 0x55)+(a &&& 0x55)
def JW (a:Nat):Nat:=(a/4 &&& 0x33)+(a &&& 0x33)
theorem b3:∀a<256,JW (JX a)<69∧JW (JX a)%16<5∧JW (JX a)%16+JW (JX a)/16=VZ a 8:=by decide +kernel
theorem d1 {a b:Nat} (h:a<256):(a+256*b)/256=b:=by omega
theorem d2 {a b c:Nat} (h:a<256) (h':b<256):(a+256*(b+256*c))/65536=c:=by omega
end Go.Ew
namespace Go.Ew
variable {r:Row}
def C6 (r:Row):Nat:=(r.map Aq).sum
def aer (x y:bt):Bool:=decide (x &&& ~~~y=0#64)
def aeg (a b:Row) (i:Nat):Bool:=aer (a.getD i 0#64) (b.getD i 0#64)
def aef (a b:Row) (k:Nat):Bool:=(List.range k).all (aeg a b)
def Kt (a b:Row):Bool:=aef a b a.length
theorem wY {k:Nat} {x:bt} (h:r[((k:Nat):Int).toNat]? =some x):r.getD k 0#64=x:=by
 rw[dM] at h;rw[im,h];rfl
theorem sr {k:Nat} (h:r.length≤k):r.getD k 0#64=0#64:=by
 rw[im,amQ h];rfl
def words (n:Int):Nat:=((max n 0+63)/64).toNat
def eb (n:Int):Row:=List.replicate (words n) 0#64
theorem F9 (x:bt) (i j:Nat) (hi:i<64) (hj:j<64):(x ||| kh (i:Int)).getLsbD j=(x.getLsbD j||decide (j=i)):=by
 unfold kh
 rw[amF aj,BitVec.getLsbD_or,ao9,dM]
 congr 1
 by_cases h:j=i
 ·subst h;simp[hi]
 ·by_cases h2:j<i
  ·simp[h,h2]
  ·have:j-i≠0:=by omega
   simp[h,h2,this,hj]
theorem kF (r:Row) (i:Int):(eo r i).length=r.length:=by unfold eo;split<;>simp
theorem On (r:Row) (i j:Int):jr (eo r i) j=jr r j:=by unfold jr;rw[kF]
theorem KE {i:Int} (h:jr r i=true) (k:Nat) (hk:k<r.length):(eo r i).getD k 0#64=if k=i.toNat/64 then r.getD k 0#64 ||| kh ((i.toNat%64:Nat):Int) else r.getD k 0#64:=by
 unfold eo;rw[amF h]
 unfold jr at h;simp only[amB] at h
 have e:i%64=((i.toNat%64:Nat):Int):=by omega
 simp only[im]
 by_cases Ai:k=i.toNat/64
 ·subst Ai
  rw[amX hk,amF rfl,e];rfl
 ·rw[anh (fun e=>Ai e.symm),amI Ai]
theorem Jv {i:Int}:fm (eo r i) i=jr r i:=by
 by_cases h:jr r i=true
 ·have h':=h
  unfold jr at h';simp only[amB] at h'
  have hm:i.toNat%64<64:=Nat.mod_lt _ au
  rw[h];unfold fm
  rw[KE h _ aj,amF rfl,F9 _ _ _ hm hm]
  simp[h'.1]
 ·have h2:jr (eo r i) i=false:=by rw[On];simpa using h
  rw[←xN h2];simpa using h
theorem Qg {r:Row} {i:Int} (h:fm r i=true):jr r i=true:=by
 cases h1:jr r i with
 |true=>rfl
 |false=>rw[←xN h1] at h;cases h
end Go.Ew
namespace Go.Ew
variable {n i j:Int} {x:Row} {m:Nat}
abbrev Rows:=List (List bt)
def Cr (n k:Int):Bool:=decide (k<0)||decide (n≤k)
def kA (n:Int) (l:aA):Bool:=!l.any (Cr n)
theorem jg {a b:Int}:kA n [a,b]=true↔(0≤a∧a<n)∧(0≤b∧b<n):=by
 unfold kA Cr
 simp
theorem j7 {a b:Int}:kA n [a,b]=false↔¬((0≤a∧a<n)∧(0≤b∧b<n)):=by
 rw[←jg];simp
def rowAt (rs:Rows) (i:Int):Row:=rs.getD i.toNat []
theorem si {rs:Rows} (h:rs[i.toNat]? =some x):rowAt rs i=x:=by unfold rowAt;rw[im,h];rfl
def rz (rs:Rows) (p:Int×Int):Rows:=rs.set p.1.toNat (eo (rowAt rs p.1) p.2)
theorem M3 (rs:Rows) (p:Int×Int):(rz rs p).length=rs.length:=by unfold rz;simp
theorem Hn {rs:Rows} (h:rs[i.toNat]? =some x):rs.set i.toNat (eo x j)=rz rs (i,j):=by unfold rz;rw[si h]
def Cu (n:Int):Bool:=decide (0≤n)&&decide (n≤4096)
theorem sE:Cu n=true↔0≤n∧n≤4096:=by unfold Cu;simp
theorem zZ:Cu n=false↔¬(0≤n∧n≤4096):=by rw[←sE];simp
def vR (n:Int):Rows:=List.replicate n.toNat (eb n)
def oD (n:Int):Int:=if Cu n then n else 0
def iJ (n:Int):Rows:=if Cu n then vR n else []
def r6 (n:Int):Int:=if Cu n then 0 else 1
theorem xD (h:Cu n=true):oD n=n∧iJ n=vR n∧r6 n=0:=by simp[oD,iJ,r6,h]
theorem wU (h:Cu n=false):oD n=0∧iJ n=[]∧r6 n=1:=by simp[oD,iJ,r6,h]
theorem pY (n:Int):(vR n).length=n.toNat:=by unfold vR;simp
def vz {α:Type} (m k:Nat) (a b:α):List α:=List.replicate k a++List.replicate (m-k) b
theorem Nk {α:Type} (m:Nat) (a b:α):List.replicate m b=vz m 0 a b:=by simp[vz]
theorem QB {α:Type} {k:Nat} {a b:α} (h:k<m):(vz m k a b).set k a=vz m (k+1) a b:=by
 unfold vz
 obtain⟨q,hq⟩:∃q,m-k=q+1:=⟨m-k-1,by omega⟩
 rw[hq,an0 _ _ (by simp),show m-(k+1)=q from by omega,ot,anD,anv,aoH,List.replicate_succ',anb]
 rfl
theorem QC {α:Type} {k:Nat} {a b:α} (h:k=m):vz m k a b=List.replicate m a:=by subst h;simp[vz]
def foldM (n:Int) (ps:List (Int×Int)):Rows:=ps.foldl rz (vR n)
theorem wx:∀(ps:List (Int×Int)) (rs:Rows),(ps.foldl rz rs).length=rs.length
 |[],_=>rfl
 |p::ps,rs=>by rw[ao1,wx ps,M3]
theorem CX (n:Int) (ps:List (Int×Int)):(foldM n ps).length=n.toNat:=by unfold foldM;rw[wx,pY]
theorem Qx {ps:List (Int×Int)} {j:Nat} {p:Int×Int} (h:ps[((j:Nat):Int).toNat]? =some p):foldM n (ps.take (j+1))=rz (foldM n (ps.take j)) p:=by
 unfold foldM;rw[nG h,aov];rfl
theorem ME {α:Type} {l:List α} {q:α→Bool} {j:Nat} {x:α} (h:l[((j:Nat):Int).toNat]? =some x) (h1:(l.take j).all q=true) (h2:q x=true):(l.take (j+1)).all q=true:=by
 rw[nG h,List.all_append,h1];simp[h2]
theorem TS {α:Type} {l:List α} {q:α→Bool} {i:Nat} {x:α} (h:l[i]? =some x) (h2:q x=false):l.all q=false:=by
 rw[List.all_eq_false];exact⟨x,dN h,by simp[h2]⟩
theorem Rg {rs:Rows} {p:Int×Int} (h:∀x∈rs,x.length=m):∀x∈rz rs p,x.length=m:=by
 intro x hx
 unfold rz at hx
 by_cases hi:p.1.toNat<rs.length
 ·rcases anr hx with hx|rfl
  ·exact h x hx
  ·rw[kF]
   unfold rowAt
   rw[im,eR hi]
   exact h _<|aoS hi
 ·rw[List.set_eq_of_length_le aj] at hx
  exact h x hx
theorem yP {m:Nat}:∀(ps:List (Int×Int)) (rs:Rows),(∀x∈rs,x.length=m)→∀x∈ps.foldl rz rs,x.length=m
 |[],_,h=>h
 |p::ps,rs,h=>by rw[ao1];exact yP ps _ (Rg h)
theorem pX (n:Int):(eb n).length=words n:=by unfold eb;simp
theorem SY {ps:List (Int×Int)} {i:Nat} (h:(foldM n ps)[i]? =some x):x.length=words n:=
 yP ps (vR n) (by
  intro x hx
  unfold vR at hx
  rw[List.eq_of_mem_replicate hx,pX]) x (dN h)
theorem EO (h:n≤4096):words n≤64:=by unfold words;omega
def ik (n:Int) (i j:Int):Int:=if kA n [i,j] then n else 0
def j5 (n:Int) (rs:Rows) (i j:Int):Rows:=if kA n [i,j] then rz rs (i,j) else []
def lB (n:Int) (i j:Int):Int:=if kA n [i,j] then 0 else 1
def eL (n:Int) (rs:Rows) (i j:Int):Bool:=kA n [i,j]&&fm (rowAt rs i) j
theorem pU {rs:Rows} (h:kA n [i,j]=true):ik n i j=n∧j5 n rs i j=rz rs (i,j)∧lB n i j=0:=by simp[ik,j5,lB,h]
theorem oH {rs:Rows} (h:kA n [i,j]=false):ik n i j=0∧j5 n rs i j=[]∧lB n i j=1:=by simp[ik,j5,lB,h]
theorem nq {α:Type} {l:List α} {i:Nat} {x y:α} (h:l[i]? =some x) (e:l[i]? =some y):x=y:=amE (h.symm.trans e)
theorem aby:kA n [i,j]=(decide (0≤i)&&decide (i<n)&&decide (0≤j)&&decide (j<n)):=by
 rw[amU,jg];simp[and_assoc]
end Go.Ew
namespace Go.Ew
variable {r:Row} {i:Int}
theorem Lw (h0:0≤i) (h:i<64*(r.length:Int)):jr r i=true:=by unfold jr;simp[h0,h]
theorem Oo (h:¬(0≤i∧i<64*(r.length:Int))):jr r i=false:=by unfold jr;simp;omega
theorem Zw (h:¬(0≤i∧i<64*(r.length:Int))):false=fm r i:=xN (Oo h)
theorem YN (h:¬(0≤i∧i<64*(r.length:Int))):r=eo r i:=EV (Oo h)
end Go.Ew
namespace Go.Ew
open Go.RowKit Go.WideShapes Go.ChangeShapes
def xm:List Nat:=[0,1,56,2,57,49,28,3,61,58,42,50,38,29,17,4,62,47,59,36,45,43,51,22,53,39,33,30,24,18,12,5,63,55,48,27,60,41,37,16,46,35,44,21,52,32,23,11,54,26,40,15,34,20,31,10,25,14,19,9,13,8,7,6]
def fW (g:Nat) (w:aG):Prop:=∀i,i<64→w.cell? ⟨g,i,none⟩=some (.int .u8 ((xm.getD i 0:Nat):Int))
theorem fW.ext {g:Nat} {w w':aG} (h:fW g w) (e:Ext w w'):fW g w':=by
 intro i hi
 have h1:=h i hi
 rw[Below.cell e.toBelow (p:=⟨g,i,none⟩) (pQ h1)]
 exact h1
def vM (i:Nat):BitVec 8:=BitVec.ofNat 8 (xm.getD i 0)
theorem aav:∀i<64,xm.getD i 0<64:=by decide
theorem Kq {i:Nat} (h:i<64):((vM i).toNat:Int)=((xm.getD i 0:Nat):Int):=by
 have:=aav i h
 unfold vM
 rw[BitVec.toNat_ofNat]
 omega
theorem fW.at_ {g:Nat} {w:aG} {M:cb} (h:fW g w) {i:Nat} (hi:i<64):hQ M w ⟨g,i,none⟩ (vM i):=by
 refine⟨[U8 (vM i)],J,fun j v hv=>?_⟩
 cases j with
 |zero=>
  simp at hv;subst hv
  rw[show (⟨g,i,none⟩:Addr).add 0=⟨g,i,none⟩ from rfl,h i hi,U8,Kq hi]
 |succ j=>simp at hv
theorem ag9 {g:Nat} {w0 w:aG} {M:cb} (h:fW g w0) (e:Ext w0 w) {i:Nat} {ad:Addr} (ha:(⟨g,0,none⟩:Addr).add (i*1)=ad) (hi:i<64):hQ M w ad (vM i):=by
 have:ad=⟨g,i,none⟩:=by
  rw[←ha,aoJ]
  unfold Addr.add
  split
  ·rename_i h;rw[h]
  ·simp
 rw[this]
 exact(h.ext e).at_ hi
theorem MY {P:Program} {g:Nat} {t e:TypeId} {name:String} {D:DataW Unit} {W:aG} (hg:P.globalNamed name=some g) (ht:(P.globals[g]?).map (·.type)=some t)
  (hu:P.underlying t=some (.array 64 e)) (he:P.underlying e=some (.int .u8)) (hc:P.cellsOf e=1) (hD:D=.agg (xm.map fun k=>.lit (.int .u8 ((k:Nat):Int)))) (h:laidMetH P [(name,D)] W)
  (hp:laidMetH P [(name,D)] W↔laidMet P [(name,D)] W):fW g W:=by
 rw[hp] at h
 obtain⟨ps,⟨g0,t0,X_,f0,p0,q0,hg0,ht0,iC,LU,_⟩,_⟩:=h
 obtain rfl:=amE (hg.symm.trans hg0)
 obtain rfl:=amE (ht.symm.trans ht0)
 obtain⟨xs,m,rfl,hx,hlen,hn,xK⟩:=DataW.trod_array hu LU
 intro i hi
 have h1:=xK i hi
 rw[hc,aoJ,eR (by omega:i<xs.length)] at h1
 obtain⟨k,e1,e2,_⟩:=DataW.trod_int he h1
 simp only[anm] at hx
 have h2:(DataW.agg (xm.map fun k=>DataW.lit (Lit.int .u8 ((k:Nat):Int))):DataW Unit)=.agg (xs.map (·.1)):=by rw[←hD];exact hx.1
 injection h2 with h3
 have h4:=amz (fun l=>l[i]?) h3
 have hti:i<xm.length:=by simpa [xm] using hi
 simp only[amS,eR hti,eR (by omega:i<xs.length),anX,e2,amO] at h4
 injection h4 with h5
 injection h5 with h6 h7
 have h8:xm.getD i 0=xm[i]:=by rw[im,eR hti];rfl
 rw[h8,h7]
 have:=World.var?_cell hg0 iC i
 have Al:X_[i]? =some (.int .u8 k):=by
  have:(X_.toList.drop i).head?=some (.int .u8 k):=by
   have h9:((X_.toList.drop i).take 1).head?=some (.int .u8 k):=by rw[e1];rfl
   cases hq:X_.toList.drop i with
   |nil=>rw[hq] at h9;simp at h9
   |cons a b=>rw[hq] at h9;simpa using h9
  rw[List.head?_drop] at this
  simpa using this
 rw[Al] at this
 simpa using this
end Go.Ew
namespace Go.Ew
variable {x:bt}
def oF (x:bt):List Nat:=(List.range 64).filter fun k=>x.getLsbD k
def fG (x:bt):Nat:=(oF x).headD 64
theorem vy {p:Nat→Bool}:∀(n:Nat),(∃k<n,p k=true)→∃k,k<n∧p k=true∧(∀j,j<k→p j=false)∧∃l,(List.range n).filter p=k::l∧l=(List.range n).filter (fun i=>p i&&!decide (i=k))
 |0,⟨k,h,_⟩=>by omega
 |n+1,h=>by
  by_cases h1:∃k<n,p k=true
  ·obtain⟨k,hk,hp,hl,l,e1,e2⟩:=vy n h1
   refine⟨k,by omega,hp,hl,l++[n].filter p,?_,?_⟩
   ·rw[aoa,anH,e1];rfl
   ·rw[aoa,anH,←e2]
    congr 1
    have:¬n=k:=by omega
    simp[apj,this]
  ·obtain⟨k,hk,hp⟩:=h
   have yJ:k=n:=by
    apply anl
    intro gD
    exact h1 ⟨k,by omega,hp⟩
   subst yJ
   have Gv:∀j,j<k→p j=false:=by
    intro j hj
    cases hb:p j with
    |false=>rfl
    |true=>exact absurd ⟨j,hj,hb⟩ h1
   have hf:(List.range k).filter p=[]:=by
    rw[anJ]
    intro j hj
    rw[amH] at hj
    simp[Gv j hj]
   have LO:(List.range k).filter (fun i=>p i&&!decide (i=k))=[]:=by
    rw[anJ]
    intro j hj
    rw[amH] at hj
    simp[Gv j hj]
   refine⟨k,by omega,hp,Gv,[],?_,?_⟩
   ·rw[aoa,anH,hf];simp[hp]
   ·rw[aoa,anH,LO];simp
theorem TD {x:bt} (h:x≠0#64):∃k<64,x.getLsbD k=true:=by
 apply anl
 intro hn
 apply h
 apply aoE
 intro i hi
 rw[BitVec.getLsbD_zero]
 cases hb:x.getLsbD i with
 |false=>rfl
 |true=>exact absurd ⟨i,hi,hb⟩ hn
theorem least (h:x≠0#64):∃l,fG x<64∧x.getLsbD (fG x)=true∧(∀j,j<fG x→x.getLsbD j=false)∧oF x=fG x::l∧l=(List.range 64).filter (fun i=>x.getLsbD i&&!decide (i=fG x)):=by
 obtain⟨k,hk,hp,hl,l,e1,e2⟩:=vy 64 (TD h)
 have hf:fG x=k:=by unfold fG oF;rw[e1];rfl
 rw[hf]
 exact⟨l,hk,hp,hl,e1,e2⟩
theorem Jc {k:Nat} (hp:x.getLsbD k=true) (hl:∀j,j<k→x.getLsbD j=false) (i:Nat):(∃j,j<i∧x.getLsbD j=true)↔k<i:=by
 constructor
 ·rintro⟨j,hj,h⟩
  rcases apn k i with h1|h1
  ·exact h1
  ·rw[hl j aj] at h;cases h
 ·intro h;exact⟨k,h,hp⟩
theorem R2 (h:x≠0#64):x &&& -x=1#64 <<< fG x:=by
 obtain⟨l,hk,hp,hl, -, -⟩:=least h
 apply aoE
 intro i hi
 rw[aoI,BitVec.getLsbD_neg,ao9]
 simp only[Jc hp hl i]
 by_cases h1:i=fG x
 ·subst h1;simp[hp,hk]
 ·by_cases h2:i<fG x
  ·simp[hl i h2,h2]
  ·have h3:fG x<i:=by omega
   have h4:i-fG x≠0:=by omega
   cases hx:x.getLsbD i<;>simp[h2,h3,h4,hi]
theorem clear (h:x≠0#64):oF x=fG x::oF (x &&& (x-1#64)):=by
 obtain⟨l,hk,hp,hl,e1,e2⟩:=least h
 rw[e1,e2]
 congr 1
 unfold oF
 apply aoM
 intro i hi
 rw[amH] at hi
 have e:x-1#64= ~~~(-x):=by
  rw[BitVec.not_neg,BitVec.sub_eq_add_neg]
 rw[aoI,e,BitVec.getLsbD_not,BitVec.getLsbD_neg]
 simp only[Jc hp hl i]
 by_cases h1:i=fG x
 ·subst h1;simp[hp,hk]
 ·by_cases h2:i<fG x
  ·simp[hl i h2]
  ·have h3:fG x<i:=by omega
   cases hx:x.getLsbD i<;>simp[h1,h3,hi]
theorem TA:∀k<64,((1#64 <<< k*285870213051353865#64) >>> 58).toNat<64∧xm.getD ((1#64 <<< k*285870213051353865#64) >>> 58).toNat 0=k:=by decide +kernel
theorem EL (h:x≠0#64):(((x &&& -x)*285870213051353865#64) >>> 58).toNat<64:=by
 obtain⟨l,hk, -⟩:=least h
 rw[R2 h];exact(TA _ hk).1
theorem T7 (h:x≠0#64):((vM (((x &&& -x)*285870213051353865#64) >>> 58).toNat).toNat:Int)=((fG x:Nat):Int):=by
 obtain⟨l,hk, -⟩:=least h
 rw[Kq (EL h),R2 h,(TA _ hk).2]
theorem Gh:oF 0#64=[]:=by
 unfold oF
 rw[anJ]
 intro i _
 simp
theorem Ep:fG 0#64=64:=by unfold fG;rw[Gh];rfl
theorem yQ (x:bt):fG x≤64:=by
 by_cases h:x=0#64
 ·subst h;rw[Ep];exact amD _
 ·obtain⟨l,hk, -⟩:=least h;omega
end Go.Ew
namespace Go.Ew
def qh (j:Nat) (x:bt):aA:=(oF x).map fun k=>(j:Int)*64+((k:Nat):Int)
def rL (r:Row) (j:Nat):aA:=(List.range j).flatMap fun i=>qh i (r.getD i 0#64)
def de (r:Row):aA:=rL r r.length
theorem P0 (j:Nat):qh j 0#64=[]:=by unfold qh;rw[Gh];rfl
theorem P1 {j:Nat} {x:bt} (h:x≠0#64):qh j x=((j:Int)*64+((fG x:Nat):Int))::qh j (x &&& (x-1#64)):=by
 unfold qh;rw[clear h];rfl
theorem Lk (x:bt):(oF x).length≤64:=by
 unfold oF
 exact amP (anB _ _)<|by simp
theorem CC (j:Nat) (x:bt):(qh j x).length≤64:=by unfold qh;rw[ane];exact Lk x
theorem zj (r:Row) (j:Nat):rL r (j+1)=rL r j++qh j (r.getD j 0#64):=by
 unfold rL;rw[aoa,aon];simp
theorem vS (r:Row):∀j,(rL r j).length≤64*j
 |0=>by simp[rL]
 |j+1=>by
  have:=vS r j
  have:=CC j<|r.getD j 0#64
  rw[zj,fN];omega
theorem QH {x:bt} (h:x≠0#64):(oF (x &&& (x-1#64))).length<(oF x).length:=by
 rw[clear h];simp
theorem mT (r:Row):(de r).length≤64*r.length:=vS r _
end Go.Ew
namespace Go.Ew
variable {m j:Nat} {a b z:Row}
def tl (a b:Row) (i:Nat):bt:=a.getD i 0#64 ||| b.getD i 0#64
def jJ (a b:Row):Row:=(List.range (max a.length b.length)).map (tl a b)
theorem RP (a b:Row) (i:Nat):tl a b i=tl b a i:=BitVec.or_comm _ _
theorem K4 (a b:Row):jJ a b=jJ b a:=by
 unfold jJ
 rw[Nat.max_comm]
 exact anK fun i _=>RP a b i
theorem AX (a b:Row):(jJ a b).length=max a.length b.length:=by unfold jJ;simp
def qa (m:Nat) (a b z:Row) (j:Nat):Row:=(List.range m).map fun i=>if i<j then tl a b i else z.getD i 0#64
theorem zi (m:Nat) (a b z:Row) (j:Nat):(qa m a b z j).length=m:=by unfold qa;simp
theorem Cs (a b z:Row):z=qa z.length a b z 0:=by
 apply aoc
 ·rw[zi]
 ·intro i h1 h2
  unfold qa
  simp[im,h1]
theorem AW {x:bt} (h:(qa m a b z j)[((j:Nat):Int).toNat]? =some x):x=z.getD j 0#64:=by
 rw[dM] at h
 obtain⟨h1,h2⟩:=dU.1 h
 rw[←h2]
 unfold qa
 simp
theorem E8 {v:bt} (hv:v=tl a b j):(qa m a b z j).set j v=qa m a b z (j+1):=by
 apply aoc
 ·simp[zi]
 ·intro i h1 h2
  have hm:i<m:=by rw[zi] at h2;exact h2
  rw[api]
  unfold qa
  simp only[List.getElem_map,ao5]
  by_cases Gy:j=i
  ·subst Gy;simp[hv]
  ·have:(i<j+1)↔(i<j):=by omega
   simp[Gy,this]
theorem xA (hm:m=max a.length b.length) (h:∀i,j≤i→i<m→z.getD i 0#64=tl a b i):qa m a b z j=jJ a b:=by
 unfold qa jJ
 subst hm
 apply anK
 intro i hi
 rw[amH] at hi
 split
 ·rfl
 ·exact h i aj hi
theorem yw {i:Nat} (h:b.length≤i):a.getD i 0#64=tl a b i:=by
 unfold tl;rw[sr h,BitVec.or_zero]
def JF (r:Row) (n:Nat):aA:=((List.range n).filter fun k=>fm r ((k:Nat):Int)).map fun k=>((k:Nat):Int)
theorem nI (m k:Nat):List.range (m+k)=List.range m++(List.range k).map (fun i=>m+i):=by
 apply aoc
 ·simp
 ·intro i h1 h2
  simp only[ao5]
  by_cases h:i<m
  ·rw[List.getElem_append_left (by simpa using h)];simp
  ·rw[List.getElem_append_right (by simpa using h)];simp;omega
theorem vm (r:Row) (j k:Nat) (hk:k<64):fm r (((64*j+k:Nat):Nat):Int)=(r.getD j 0#64).getLsbD k:=by
 unfold fm
 rw[dM,show (64*j+k)/64=j from by omega,show (64*j+k)%64=k from by omega]
 simp only[Bool.and_eq_right_iff_imp,amB]
 intro _;omega
theorem Gj (r:Row):∀j,JF r (64*j)=rL r j
 |0=>rfl
 |j+1=>by
  rw[zj,←Gj r j,show 64*(j+1)=64*j+64 from by omega]
  unfold JF qh oF
  rw[nI,anH,aoi]
  congr 1
  rw[List.filter_map,List.map_map]
  have e:(List.range 64).filter ((fun k=>fm r ((k:Nat):Int))∘fun i=>64*j+i)=(List.range 64).filter fun k=>(r.getD j 0#64).getLsbD k:=by
   apply aoM
   intro k hk
   rw[amH] at hk
   exact vm r j k hk
  rw[e]
  apply anK
  intro k _
  show ((64*j+k:Nat):Int)=(j:Int)*64+((k:Nat):Int)
  omega
theorem R3 (r:Row):JF r (64*r.length)=de r:=Gj r r.length
theorem RY {x:bt} {i:Int}:i∈qh j x↔∃k<64,x.getLsbD k=true∧i=(j:Int)*64+((k:Nat):Int):=by
 unfold qh oF
 simp only[anp,amW,amH]
 constructor
 ·rintro⟨k,⟨h1,h2⟩,rfl⟩;exact⟨k,h1,h2,rfl⟩
 ·rintro⟨k,h1,h2,rfl⟩;exact⟨k,⟨h1,h2⟩,rfl⟩
theorem vc {r:Row} {i:Int}:i∈de r↔fm r i=true:=by
 unfold de rL
 simp only[apP,amH,RY]
 constructor
 ·rintro⟨j,hj,k,hk,hx,rfl⟩
  have:=vm r j k hk
  rw[show (j:Int)*64+((k:Nat):Int)=((64*j+k:Nat):Int) from by omega,this];exact hx
 ·intro h
  have hi:=Qg h
  unfold jr at hi
  simp only[amB] at hi
  have hw:=vm r (i.toNat/64) (i.toNat%64) aj
  rw[show (((64*(i.toNat/64)+i.toNat%64:Nat):Nat):Int)=i from by omega,h] at hw
  exact⟨i.toNat/64,by omega,i.toNat%64,by omega,hw.symm,by omega⟩
end Go.Ew
namespace Go.Ew
theorem uF (r:Row) {i:Int} (h:i<0):fm r i=false:=(Zw aj).symm
theorem uG (r:Row) (n:Nat):fm r ((n:Nat):Int)=(r.getD (n/64) 0#64).getLsbD (n%64):=by
 unfold fm;rw[dM];simp
theorem CR {r:Row} {i k:Int}:fm (eo r i) k=(fm r k||(decide (k=i)&&jr r i)):=by
 cases h:jr r i with
 |false=>rw[←EV h];simp
 |true=>
  by_cases hk:k=i
  ·subst hk;rw[Jv,h];simp
  ·simp only[hk,decide_false,apz,an7]
   by_cases cK:k<0
   ·rw[uF _ cK,uF _ cK]
   ·obtain⟨n,rfl⟩:∃n:Nat,k=((n:Nat):Int):=⟨k.toNat,by omega⟩
    have h':=h
    unfold jr at h';simp only[amB] at h'
    rw[uG,uG]
    by_cases hw:n/64<r.length
    ·rw[KE h _ hw]
     split
     ·rename_i e
      rw[F9 _ _ _ aj aj]
      have:¬n%64=i.toNat%64:=by omega
      simp[this]
     ·rfl
    ·rw[sr (by rw[kF];omega),sr aj]
theorem YS {a b:Row} (hl:a.length=b.length) (h:∀n:Nat,fm a ((n:Nat):Int)=fm b ((n:Nat):Int)):a=b:=by
 apply aoc hl
 intro j h1 h2
 apply aoE
 intro k hk
 have e1:=vm a j k hk
 have e2:=vm b j k hk
 rw[h,e2,im,im,eR h1,eR h2] at e1
 simpa using e1.symm
theorem wu:∀(l:aA) (r:Row),(l.foldl eo r).length=r.length
 |[],_=>rfl
 |i::l,r=>by rw[ao1,wu l,kF]
theorem An:∀(l:aA) (r:Row) (k:Int),fm (l.foldl eo r) k=(fm r k||(l.any fun i=>decide (k=i)&&jr r i))
 |[],r,k=>by simp
 |i::l,r,k=>by
  rw[ao1,An l,CR]
  simp only[On,List.any_cons,Bool.or_assoc]
theorem E' (n k:Int):fm (eb n) k=false:=by
 by_cases hk:k<0
 ·exact uF _ hk
 ·obtain⟨m,rfl⟩:∃m:Nat,k=((m:Nat):Int):=⟨k.toNat,by omega⟩
  rw[uG]
  unfold eb
  rw[im]
  by_cases h:m/64<words n
  ·simp[aom,h]
  ·simp[aom,h]
theorem Zv (a b:Row) (i:Int):fm (jJ a b) i=(fm a i||fm b i):=by
 by_cases hk:i<0
 ·rw[uF _ hk,uF _ hk,uF _ hk];rfl
 ·obtain⟨n,rfl⟩:∃n:Nat,i=((n:Nat):Int):=⟨i.toNat,by omega⟩
  rw[uG,uG,uG]
  by_cases h:n/64<max a.length b.length
  ·have:(jJ a b).getD (n/64) 0#64=tl a b (n/64):=by
    rw[im,eR (by rw[AX];exact h)]
    unfold jJ
    simp
   rw[this,tl,BitVec.getLsbD_or]
  ·rw[sr (by rw[AX];omega),sr aj,sr aj];simp
end Go.Ew
namespace Go.Ew
open Go.RowKit
variable {t T kt:TypeId} {k:IntKind} {a:Int} {w:aG} {r:Nat}
theorem At.s1 {α β:Type} [GT α] [GT β] {M:cb} {w:aG} {ad:Addr} {x:α×β} (h:At M w ad x):At M w (ad.add (GT.size α)) x.2:=h.snd
theorem At.s2 {α β γ:Type} [GT α] [GT β] [GT γ] {M:cb} {w:aG} {ad:Addr} {x:α×β×γ} (h:At M w ad x):At M w (ad.add (GT.size α+GT.size β)) x.2.2:=by have h_:=h.s1.snd;rwa [add_add] at h_
theorem At.s3 {α β γ δ:Type} [GT α] [GT β] [GT γ] [GT δ] {M:cb} {w:aG} {ad:Addr} {x:α×β×γ×δ} (h:At M w ad x):At M w (ad.add (GT.size α+GT.size β+GT.size γ)) x.2.2.2:=by have h_:=h.s2.snd;rwa [add_add] at h_
theorem At.s4 {α β γ δ ε:Type} [GT α] [GT β] [GT γ] [GT δ] [GT ε] {M:cb} {w:aG} {ad:Addr} {x:α×β×γ×δ×ε} (h:At M w ad x):At M w (ad.add (GT.size α+GT.size β+GT.size γ+GT.size δ)) x.2.2.2.2:=by have h_:=h.s3.snd;rwa [add_add] at h_
theorem At.s5 {α β γ δ ε ζ:Type} [GT α] [GT β] [GT γ] [GT δ] [GT ε] [GT ζ] {M:cb} {w:aG} {ad:Addr} {x:α×β×γ×δ×ε×ζ} (h:At M w ad x):At M w (ad.add (GT.size α+GT.size β+GT.size γ+GT.size δ+GT.size ε)) x.2.2.2.2.2:=by have h_:=h.s4.snd;rwa [add_add] at h_
theorem At.s6 {α β γ δ ε ζ η:Type} [GT α] [GT β] [GT γ] [GT δ] [GT ε] [GT ζ] [GT η] {M:cb} {w:aG} {ad:Addr} {x:α×β×γ×δ×ε×ζ×η} (h:At M w ad x):At M w (ad.add (GT.size α+GT.size β+GT.size γ+GT.size δ+GT.size ε+GT.size ζ)) x.2.2.2.2.2.2:=by have h_:=h.s5.snd;rwa [add_add] at h_
theorem hQ.s1 {α β:Type} [GT α] [GT β] {M:cb} {w:aG} {ad:Addr} {x:α×β} (h:hQ M w ad x):hQ M w (ad.add (GT.size α)) x.2:=h.snd
theorem hQ.s2 {α β γ:Type} [GT α] [GT β] [GT γ] {M:cb} {w:aG} {ad:Addr} {x:α×β×γ} (h:hQ M w ad x):hQ M w (ad.add (GT.size α+GT.size β)) x.2.2:=by have h_:=h.s1.snd;rwa [add_add] at h_
theorem hQ.s3 {α β γ δ:Type} [GT α] [GT β] [GT γ] [GT δ] {M:cb} {w:aG} {ad:Addr} {x:α×β×γ×δ} (h:hQ M w ad x):hQ M w (ad.add (GT.size α+GT.size β+GT.size γ)) x.2.2.2:=by have h_:=h.s2.snd;rwa [add_add] at h_
theorem hQ.s4 {α β γ δ ε:Type} [GT α] [GT β] [GT γ] [GT δ] [GT ε] {M:cb} {w:aG} {ad:Addr} {x:α×β×γ×δ×ε} (h:hQ M w ad x):hQ M w (ad.add (GT.size α+GT.size β+GT.size γ+GT.size δ)) x.2.2.2.2:=by have h_:=h.s3.snd;rwa [add_add] at h_
theorem hQ.s5 {α β γ δ ε ζ:Type} [GT α] [GT β] [GT γ] [GT δ] [GT ε] [GT ζ] {M:cb} {w:aG} {ad:Addr} {x:α×β×γ×δ×ε×ζ} (h:hQ M w ad x):hQ M w (ad.add (GT.size α+GT.size β+GT.size γ+GT.size δ+GT.size ε)) x.2.2.2.2.2:=by have h_:=h.s4.snd;rwa [add_add] at h_
theorem hQ.s6 {α β γ δ ε ζ η:Type} [GT α] [GT β] [GT γ] [GT δ] [GT ε] [GT ζ] [GT η] {M:cb} {w:aG} {ad:Addr} {x:α×β×γ×δ×ε×ζ×η} (h:hQ M w ad x):hQ M w (ad.add (GT.size α+GT.size β+GT.size γ+GT.size δ+GT.size ε+GT.size ζ)) x.2.2.2.2.2.2:=by have h_:=h.s5.snd;rwa [add_add] at h_
section
variable {P:Program}
def Ih (P:Program) (t:TypeId) (v u:Value) (r:Bool):Prop:=(∀w,(isAgg t).run P w=.ok false w)∧∀d w,(Op.equalIn (d+1) t v u).run P w=.ok r w
theorem A0 {d:TypeDesc} (h:P.underlying t=some d) (hd:(match d with| .struct _| .array _ _=>false|_=>true)=true) (w:aG):(isAgg t).run P w=.ok false w:=by
 cases d<;>first|(cases hd;done)|simp[isAgg,underlying,h]
theorem PU {kk:IntKind} {b:Int} (h:P.underlying t=some (.int k)):Ih P t (.int kk a) (.int kk b) (decide (a=b)):=
 ⟨A0 h rfl,fun d w=>by rw[run_equalIn_int w d t kk k a b h];congr 1⟩
theorem aew {a b:Bool} (h:P.underlying t=some .bool):Ih P t (.bool a) (.bool b) (decide (a=b)):=
 ⟨A0 h rfl,fun d w=>by rw[run_equalIn_bool' w d t a b h];congr 1⟩
theorem aev {a b:bA} (h:P.underlying t=some .string):Ih P t (.string a) (.string b) (decide (a=b)):=
 ⟨A0 h rfl,fun d w=>by
  have e:(a.toList==b.toList)=decide (a=b):=by
   rw[←beq_toListBytes,amU]
   rcases a with ⟨x⟩
   rcases b with ⟨y⟩
   show (x==y)=true↔_
   simp
  rw[run_equalIn_string w d t a b h,e]⟩
theorem mD {cs:Array Value} {off:Nat} {v:Value} (h:∀w,(isAgg t).run P w=.ok false w) (hc:cs[off]? =some v) (w:aG):(part t cs off).run P w=.ok v w:=by
 simp[part,h w,hc]
def mU (P:Program) (t:TypeId):Option Nat:=match P.underlying t with|some (.int _)=>some 0|some .bool=>some 1|some .string=>some 2|_=>none
def Qz (P:Program) (T:TypeId):List (Option (Nat×Nat)):=(P.fieldsOf T).toList.map fun f=>if f.name= "_" then none else (mU P f.type).map fun k=>(f.offset,k)
def BU (xs ys:Array Value):List (Option (Nat×Nat))→List Bool→Prop
 |[],[]=>True
 |some (o,0)::ks,r::rs=>(∃kk a b,xs[o]? =some (.int kk a)∧ys[o]? =some (.int kk b)∧r=decide (a=b))∧BU xs ys ks rs
 |some (o,1)::ks,r::rs=>(∃a b,xs[o]? =some (.bool a)∧ys[o]? =some (.bool b)∧r=decide (a=b))∧BU xs ys ks rs
 |some (o,2)::ks,r::rs=>(∃a b,xs[o]? =some (.string a)∧ys[o]? =some (.string b)∧r=decide (a=b))∧BU xs ys ks rs
 |_,_=>False
theorem Gl (h:mU P t=some 0):∃k,P.underlying t=some (.int k):=by
 unfold mU at h;split at h<;>simp_all
theorem PT (h:mU P t=some 1):P.underlying t=some .bool:=by
 unfold mU at h;split at h<;>simp_all
theorem PS (h:mU P t=some 2):P.underlying t=some .string:=by
 unfold mU at h;split at h<;>simp_all
theorem S_ {xs ys:Array Value}:∀{fs:List Field} {rs:List Bool} (d:Nat) (w:aG),BU xs ys (fs.map fun f=>if f.name= "_" then none else (mU P f.type).map fun k=>(f.offset,k)) rs→(Op.eqFields (d+1) xs ys fs).run P w=.ok (rs.all id) w
 |[],[],d,w,_=>by simp[Op.eqFields]
 |[],_::_,d,w,h=>by simp[BU] at h
 |f::fs,rs,d,w,h=>by
  rw[am_] at h
  by_cases hn:f.name= "_"
  ·rw[amF hn] at h;cases rs<;>simp[BU] at h
  ·rw[amI hn] at h
   have key:∀(a b:Value) (r:Bool) (WY:List Bool),Ih P f.type a b r→xs[f.offset]? =some a→ys[f.offset]? =some b→
     BU xs ys (fs.map fun f=>if f.name= "_" then none else (mU P f.type).map fun k=>(f.offset,k)) WY→(Op.eqFields (d+1) xs ys (f::fs)).run P w=.ok ((r::WY).all id) w:=by
    intro a b r WY hl ha hb ht
    have ih:=S_ d w ht
    simp only[Op.eqFields,aoZ,hn,not_false_eq_true,aod,Sem.run_bind,mD hl.1 ha w,mD hl.1 hb w,hl.2 d w,Result.andThen_ok]
    cases r
    ·simp
    ·simp[ih]
   cases hk:mU P f.type with
   |none=>rw[hk] at h;cases rs<;>simp[BU] at h
   |some k=>
    rw[hk,anX] at h
    cases rs with
    |nil=>simp[BU] at h
    |cons r WY=>
     match k,hk,h with
     |0,hk,⟨⟨kk,a,b,ha,hb,hr⟩,ht⟩=>
      obtain⟨q,hq⟩:=Gl hk
      rw[hr];exact key _ _ _ _ (PU hq) ha hb ht
     |1,hk,⟨⟨a,b,ha,hb,hr⟩,ht⟩=>rw[hr];exact key _ _ _ _ (aew (PT hk)) ha hb ht
     |2,hk,⟨⟨a,b,ha,hb,hr⟩,ht⟩=>rw[hr];exact key _ _ _ _ (aev (PS hk)) ha hb ht
     |(n+3),hk,h=>simp[BU] at h
structure Jg (P:Program) (T:TypeId) (ks:List (Option (Nat×Nat))):Prop where
 u:P.underlying T=some (.struct (P.fieldsOf T))
 s:P.stoodInHeld T=false
 g:P.eqGuardType P.depth T=false
 k:Qz P T=ks
theorem Jg.eq {ks:List (Option (Nat×Nat))} (F:Jg P T ks) {xs ys:Array Value} {rs:List Bool} (h:BU xs ys ks rs) (d:Nat) (w:aG):(Op.equalIn (d+2) T (.agg xs) (.agg ys)).run P w=.ok (rs.all id) w:=by
 rw[run_equalIn_agg w (d+1) T xs ys F.u F.s]
 exact S_ d w<|by rw[←F.k] at h;exact h
structure T6 (P:Program) (T:TypeId):Prop where
 h:∃e k i,P.underlying T=some (.array 2 e)∧P.underlying e=some (.int k)∧P.info? e=some i∧P.cellsOf e=1
 g:P.eqGuardType P.depth T=false
theorem arF {e:TypeId} (h1:P.underlying T=some (.array 2 e)) (h2:P.underlying e=some (.int k)) (h3:(P.info? e).isSome=true) (h4:P.cellsOf e=1) (g:P.eqGuardType P.depth T=false):T6 P T:=by
 obtain⟨i,hi⟩:=am0.1 h3
 exact⟨⟨e,k,i,h1,h2,hi,h4⟩,g⟩
theorem T6.eq (F:T6 P T) {k1 k2:IntKind} {b c d:Int} (m:Nat) (w:aG):(Op.equalIn (m+2) T (.agg #[.int k1 a,.int k2 b]) (.agg #[.int k1 c,.int k2 d])).run P w=.ok (decide (a=c)&&decide (b=d)) w:=by
 obtain⟨e,k,i,h1,h2,h3,h4⟩:=F.h
 have l1:Ih P e (.int k1 a) (.int k1 c) (decide (a=c)):=PU h2
 have l2:Ih P e (.int k2 b) (.int k2 d) (decide (b=d)):=PU h2
 have p1:(part e #[.int k1 a,.int k2 b] 0).run P w=.ok (.int k1 a) w:=mD l1.1 J w
 have p2:(part e #[.int k1 c,.int k2 d] 0).run P w=.ok (.int k1 c) w:=mD l1.1 J w
 have p3:(part e #[.int k1 a,.int k2 b] 1).run P w=.ok (.int k2 b) w:=mD l1.1 J w
 have p4:(part e #[.int k1 c,.int k2 d] 1).run P w=.ok (.int k2 d) w:=mD l1.1 J w
 rw[run_equalIn_array w (m+1) _ _ h1 h3,h4,show List.range 2=[0,1] from rfl]
 simp only[Op.eqItems,Sem.run_bind,Sem.run_ite,Sem.run_pure,aoJ,p1,p2,p3,p4,l1.2 m w,l2.2 m w,Result.andThen_ok]
 by_cases e1:a=c<;>by_cases e2:b=d<;>simp[e1,e2]
section
variable {n:Nat} {ops:Array Oper} {f:aP} {w:aG} {K:aP→aG→Prop} {x y c:Operand} {d:Nat} {ty T T2:TypeId} {ps:String} {af:Array Edge}
theorem eqG {ks:List (Option (Nat×Nat))} {xs ys:Array Value} {rs:List Bool} {q:Bool} (F:Jg P T ks) (ox:bJ n x=true) (oy:bJ n y=true) (hx:ev f x=.agg xs) (hy:ev f y=.agg ys) (hk:BU xs ys ks rs) (hq:rs.all id=q)
  (h:K (cx f d (.bool q)) w):SO P n ops ⟨some d,.binOp .eql T x y T2,ty,ps,af,none⟩ f w K:=
 gA ox oy hx hy (run_eqGuard_agg w .eql T x y xs ys F.g) (by rw[run_eql_struct,F.eq hk 9998 w,hq];rfl) h
end
abbrev K2 (p:Int×Int):Value:=.agg #[.int .i64 p.1,.int .i64 p.2]
abbrev KV:=List ((Int×Int)×Int)
structure Dg (P:Program) (kt:TypeId):Prop where
 u:∃d,P.underlying kt=some d
 eq:∀a b w,(Op.equal kt (K2 a) (K2 b)).run P w=.ok (decide (a=b)) w
 BT:∀e a w,(Instr.checkKey e 10000 kt (K2 a)).run P w=.ok () w
theorem KY (a b:Int×Int):(decide (a.1=b.1)&&decide (a.2=b.2))=decide (a=b):=by
 rw[amU];simp[apL]
theorem Bm {kk:IntKind} (h:P.underlying t=some (.int k)) (e:Bool) (m:Nat) (w:aG):(Instr.checkKey e (m+1) t (.int kk a)).run P w=.ok () w:=by
 simp[Instr.checkKey,underlying,h]
theorem afl (h:Qz P T=[some (0,0),some (1,0)]):∃f g,(P.fieldsOf T).toList=[f,g]∧f.name≠ "_"∧g.name≠ "_"∧f.offset=0∧g.offset=1∧(∃k,P.underlying f.type=some (.int k))∧∃k,P.underlying g.type=some (.int k):=by
 unfold Qz at h
 rcases hl:(P.fieldsOf T).toList with _|⟨f,_|⟨g,_|⟨q,r⟩⟩⟩
 ·rw[hl] at h;simp at h
 ·rw[hl] at h;simp at h
 ·rw[hl] at h
  simp only[am_,List.map_nil,anI,and_true] at h
  obtain⟨h1,h2⟩:=h
  have side:∀(q:Field) (o:Nat),(if q.name= "_" then none else (mU P q.type).map fun k=>(q.offset,k))=some (o,0)→q.name≠ "_"∧q.offset=o∧∃k,P.underlying q.type=some (.int k):=by
   intro q o hq
   split at hq
   ·cases hq
   ·rename_i hn
    obtain⟨k,hk,he⟩:=am2.1 hq
    simp only[anm] at he
    obtain⟨rfl,rfl⟩:=he
    exact⟨hn,J,Gl hk⟩
  obtain⟨a1,a2,a3⟩:=side f 0 h1
  obtain⟨b1,b2,b3⟩:=side g 1 h2
  exact⟨f,g,J,a1,b1,a2,b2,a3,b3⟩
 ·rw[hl] at h;simp at h
theorem zm (F:Jg P kt [some (0,0),some (1,0)]):Dg P kt where
 u:=⟨_,F.u⟩
 eq a b w:=by
  have h:=F.eq (xs:=#[.int .i64 a.1,.int .i64 a.2]) (ys:=#[.int .i64 b.1,.int .i64 b.2]) (rs:=[decide (a.1=b.1),decide (a.2=b.2)]) ⟨⟨_,_,_,J,J,J⟩,⟨_,_,_,J,J,J⟩,trivial⟩ 9998 w
  rw[show Op.equal kt (K2 a) (K2 b)=Op.equalIn (9998+2) kt (K2 a) (K2 b) from rfl,h,←KY]
  simp
 BT e a w:=by
  obtain⟨f,g,hl,h1,h2,h3,h4,⟨k1,h5⟩,⟨k2,h6⟩⟩:=afl F.k
  have p1:(part f.type #[.int .i64 a.1,.int .i64 a.2] 0).run P w=.ok (.int .i64 a.1) w:=mD (A0 h5 J) J w
  have p2:(part g.type #[.int .i64 a.1,.int .i64 a.2] 1).run P w=.ok (.int .i64 a.2) w:=mD (A0 h6 J) J w
  have c1:=Bm (P:=P) (kk:=.i64) (a:=a.1) h5 e 9998 w
  have c2:=Bm (P:=P) (kk:=.i64) (a:=a.2) h6 e 9998 w
  show (Instr.checkKey e (9999+1) kt (.agg #[.int .i64 a.1,.int .i64 a.2])).run P w=_
  rw[show (9999:Nat)=9998+1 from rfl]
  generalize 9998=q at c1 c2 ⊢
  unfold Instr.checkKey
  simp only[Sem.run_bind,run_underlying F.u,Result.andThen_ok]
  rw[←Array.forIn_toList,hl]
  simp only[List.forIn_cons,List.forIn_nil,aoZ,h1,h2,h3,h4,not_false_eq_true,aod,Sem.run_bind,p1,p2,Result.andThen_ok,Sem.run_pure,c1,c2]
theorem PV (F:T6 P kt):Dg P kt where
 u:=by obtain⟨e,k,i,h1,_⟩:=F.h;exact⟨_,h1⟩
 eq a b w:=by rw[show Op.equal kt (K2 a) (K2 b)=Op.equalIn (9998+2) kt (K2 a) (K2 b) from rfl,F.eq 9998 w,KY]
 BT e a w:=by
  obtain⟨t,k,i,h1,h2,h3,h4⟩:=F.h
  have p1:(part t #[.int .i64 a.1,.int .i64 a.2] 0).run P w=.ok (.int .i64 a.1) w:=mD (A0 h2 J) J w
  have p2:(part t #[.int .i64 a.1,.int .i64 a.2] 1).run P w=.ok (.int .i64 a.2) w:=mD (A0 h2 J) J w
  have c1:=Bm (P:=P) (kk:=.i64) (a:=a.1) h2 e 9998 w
  have c2:=Bm (P:=P) (kk:=.i64) (a:=a.2) h2 e 9998 w
  show (Instr.checkKey e (9999+1) kt (.agg #[.int .i64 a.1,.int .i64 a.2])).run P w=_
  have hs:(sizeOf t).run P w=.ok 1 w:=by rw[run_sizeOf w h3,h4]
  rw[show (9999:Nat)=9998+1 from rfl]
  generalize 9998=q at c1 c2 ⊢
  unfold Instr.checkKey
  simp only[Sem.run_bind,run_underlying h1,Result.andThen_ok,Std.Legacy.Range.forIn_eq_forIn_range',Std.Legacy.Range.size,apm,Nat.add_one_sub_one,Nat.div_one]
  rw[show List.range' 0 2=[0,1] from rfl]
  simp only[List.forIn_cons,List.forIn_nil,Sem.run_bind,hs,p1,p2,ao3,Nat.one_mul,Result.andThen_ok,Sem.run_pure,c1,c2]
theorem get_map {es:Array MapEntry} {clock:Nat} (hb:w.heap[r]? =some (.map es clock)):(getObj r).run P w=.ok (.map es clock) w:=by
 simp[getObj,Sem.run,hb]
theorem Dx {es:Array MapEntry} {clock:Nat} (o:Obj) (hb:w.heap[r]? =some (.map es clock)):(setObj r o).run P w=.ok () {w with heap:=w.heap.setIfInBounds r o}:=by
 simp[setObj,Sem.run,hb]
theorem AL {o o':Obj} (hb:w.heap[r]? =some o):(w.heap.setIfInBounds r o')[r]? =some o'∧∀r',r'≠r→(w.heap.setIfInBounds r o')[r']? =w.heap[r']?:=by
 have eZ:r<w.heap.size:=(am7.1 hb).1
 exact⟨by simp[eZ],fun r' gD=>by simp[Ne.symm gD]⟩
def getM:KV→Int×Int→Option Int
 |[],_=>none
 |x::xs,k=>if k=x.1 then some x.2 else getM xs k
def jn:KV→Int×Int→Int→KV
 |[],k,v=>[(k,v)]
 |x::xs,k,v=>if k=x.1 then (k,v)::xs else x::jn xs k v
theorem VD (m:KV) (k k':Int×Int) (v:Int):getM (jn m k v) k'=if k'=k then some v else getM m k':=by
 induction m with
 |nil=>simp[jn,getM]
 |cons x xs ih=>
  unfold jn
  by_cases h:k=x.1
  ·subst h
   simp only[aod,getM]
   by_cases h':k'=x.1<;>simp[h']
  ·rw[amI h]
   simp only[getM,ih]
   by_cases h':k'=x.1
   ·rw[amF h',amF h',amI (by rw[h'];exact fun e=>h e.symm)]
   ·rw[amI h',amI h']
def pz:KV→Int×Int→Nat→Option (Nat×Value)
 |[],_,_=>none
 |x::xs,k,i=>if k=x.1 then some (i,.int .i64 x.2) else pz xs k (i+1)
theorem I4:∀(m:KV) (k:Int×Int) (i:Nat),(pz m k i).map (·.2)=(getM m k).map fun v=>Value.int .i64 v
 |[],_,_=>rfl
 |x::xs,k,i=>by
  unfold pz getM
  split
  ·rfl
  ·exact I4 xs k<|i+1
def ko (es:List MapEntry) (m:KV):Prop:=es.map (fun e=>(e.key,e.val))=m.map fun x=>(K2 x.1,Value.int .i64 x.2)
theorem O2 {kt:TypeId} (F:Dg P kt) (k:Int×Int) (w:aG):∀(m:KV) (es:List MapEntry) (i:Nat),ko es m→(Instr.findAsking kt (K2 k) es i).run P w=.ok (pz m k i) w
 |[],es,i,h=>by
  have:es=[]:=by simpa [ko] using h
  subst this;simp[Instr.findAsking,pz]
 |x::xs,es,i,h=>by
  match es,h with
  |e::es,h=>
   simp only[ko,am_,anI,anm] at h
   obtain⟨⟨h1,h2⟩,h3⟩:=h
   have ih:=O2 F k w xs es (i+1) h3
   by_cases hk:k=x.1
   ·simp[Instr.findAsking,pz,h1,h2,F.eq,hk]
   ·simp[Instr.findAsking,pz,h1,h2,F.eq,hk,ih]
  |[],h=>simp[ko] at h
theorem Es (d:TypeDesc) (cs:Array Value) (e:MapEntry) (es:List MapEntry) (i:Nat):Instr.findNow d (.agg cs) (e::es) i=none:=by
 have:Instr.sameNow d (.agg cs) e.key=none:=by
  cases d<;>cases e.key<;>rfl
 simp[Instr.findNow,this]
theorem Ma {kt:TypeId} (F:Dg P kt) (k:Int×Int) (w:aG) {m:KV} {es:List MapEntry} (h:ko es m):(Instr.findKey kt (K2 k) es).run P w=.ok (pz m k 0) w:=by
 obtain⟨d,hd⟩:=F.u
 cases es with
 |nil=>
  have:m=[]:=by simpa [ko] using h.symm
  subst this
  simp[Instr.findKey,run_underlying hd,Result.andThen,Instr.findNow,pz]
 |cons e es=>
  have h0:Instr.findNow d (K2 k) (e::es) 0=none:=Es d _ e es 0
  simp[Instr.findKey,run_underlying hd,Result.andThen,h0,O2 F k w m _ 0 h]
theorem GS:∀(m:KV) (es:List MapEntry) (k:Int×Int) (i j:Nat) (v:Value),ko es m→pz m k i=some (j,v)→∃q e,j=i+q∧es[q]? =some e∧e.key=K2 k∧∀(c:Nat) (u:Int),ko (es.modify q fun e=>{e with key:=K2 k,val:=.int .i64 u}) (jn m k u)
 |[],_,_,_,_,_,_,h=>by cases h
 |x::xs,es,k,i,j,v,hr,h=>by
  match es,hr with
  |[],hr=>simp[ko] at hr
  |e::es,hr=>
   simp only[ko,am_,anI,anm] at hr
   obtain⟨⟨h1,h2⟩,h3⟩:=hr
   unfold pz at h
   split at h
   ·rename_i hk
    simp only[amO,anm] at h
    refine⟨0,e,h.1.symm,J,by rw[h1,hk],fun c u=>?_⟩
    unfold jn
    rw[amF hk]
    simp[ko,h3]
   ·rename_i hk
    obtain⟨q,e',IN,nt,Ei,Eh⟩:=GS xs es k (i+1) j v h3 h
    refine⟨q+1,e',by omega,by simpa using nt,Ei,fun c u=>?_⟩
    have:=Eh c u
    unfold jn
    rw[amI hk]
    simp only[ko,List.modify_succ_cons,am_,anI,anm]
    exact⟨⟨h1,h2⟩,this⟩
theorem GU:∀(m:KV) (es:List MapEntry) (k:Int×Int) (i:Nat),ko es m→pz m k i=none→∀(c:Nat) (u:Int),ko (es++[⟨K2 k,.int .i64 u,c⟩]) (jn m k u)
 |[],es,k,_,hr,_,c,u=>by
  have:es=[]:=by simpa [ko] using hr
  subst this;simp[ko,jn]
 |x::xs,es,k,i,hr,h,c,u=>by
  match es,hr with
  |[],hr=>simp[ko] at hr
  |e::es,hr=>
   simp only[ko,am_,anI,anm] at hr
   obtain⟨⟨h1,h2⟩,h3⟩:=hr
   unfold pz at h
   split at h
   ·cases h
   ·rename_i hk
    have:=GU xs es k (i+1) h3 h c u
    unfold jn
    rw[amI hk]
    simp only[ko,aoU,am_,anI,anm]
    exact⟨⟨h1,h2⟩,this⟩
def cj (b:Nat) (m:KV):Item:=
 ⟨some b,fun _ w=>∃es clock,w.heap[b]? =some (.map es clock)∧ko es.toList m∧∀x∈m,aL x.2,fun h _ hb=>by
  obtain⟨es,c,h1,h2⟩:=h
  exact⟨es,c,(hb b rfl).trans h1,h2⟩⟩
theorem ZA {m:KV} (h:∀x∈m,aL x.2) {k:Int×Int} {v:Int} (hv:getM m k=some v):aL v:=by
 induction m with
 |nil=>cases hv
 |cons x xs ih=>
  unfold getM at hv
  split at hv
  ·cases hv;exact h x (by simp)
  ·exact ih (fun y hy=>h y<|by simp[hy]) hv
theorem NP {m:KV} (h:∀x∈m,aL x.2) (k:Int×Int) {v:Int} (hv:aL v):∀x∈jn m k v,aL x.2:=by
 induction m with
 |nil=>intro x hx;simp[jn] at hx;subst hx;exact hv
 |cons y ys ih=>
  intro x hx
  unfold jn at hx
  split at hx
  ·rcases amV.1 hx with rfl|hx
   ·exact hv
   ·exact h x<|by simp[hx]
  ·rcases amV.1 hx with rfl|hx
   ·exact h x<|by simp
   ·exact ih (fun z hz=>h z<|by simp[hz]) x hx
structure Ig (P:Program) (T:TypeId):Prop where
 h:∃kt et,P.underlying T=some (.map kt et)∧Dg P kt∧∀w,(zeroValue et).run P w=.ok (.int .i64 0) w
theorem U4 {et:TypeId} {k b:Nat} {a:Bool} (h:P.underlying T=some (.map kt et)) (K:Dg P kt) (F:ey P et k a b (.int .i64 0)):Ig P T:=⟨kt,et,h,K,F.uk⟩
section
variable {n:Nat} {ops:Array Oper} {f:aP} {w:aG} {K:aP→aG→Prop} {x y c:Operand} {d:Nat} {ty T T2:TypeId} {ps:String} {af:Array Edge} {M0:cb} {w0:aG} {l:List Item} {m:KV} {b:Nat}
theorem mm (H:HI M0 w0 w l) (h:∀b w',Ext w w'→HI M0 w0 w' (cj b []::l)→K (cx f d (.map (some b))) w'):SO P n ops ⟨some d,.makeMap T none,ty,ps,af,none⟩ f w K:=
 SO.value (v:=.map (some w.heap.size)) (w':=w.alloc (.map #[] 0)) (by simp[execOp,run_makeMap]) (h _ _ (Ext.alloc w _)
  (H.new (Ext.alloc w _) w.heap.size rfl (amD _) (by simp) ⟨#[],0,heap_alloc_new w _,rfl,fun _ h=>(by cases h)⟩))
theorem W8 {k:Int×Int} (F:Ig P T) (H:HI M0 w0 w l) (i:Nat) (hi:l[i]? =some (cj b m)) (ox:bJ n x=true) (oy:bJ n y=true) (hx:ev f x=.map (some b)) (hy:ev f y=K2 k)
  (h:aL ((getM m k).getD 0)→K (cx f d (.tuple #[.int .i64 ((getM m k).getD 0),.bool (getM m k).isSome])) w):SO P n ops ⟨some d,.lookup T x y true,ty,ps,af,none⟩ f w K:=by
 obtain⟨kt,et,h1,h2,h3⟩:=F.h
 obtain⟨es,clock,g1,g2,g3⟩:=H.at_ i hi
 have hI:aL ((getM m k).getD 0):=by
  cases hg:getM m k with
  |none=>unfold aL;simp
  |some v=>exact ZA g3 hg
 refine SO.value (v:=.tuple #[.int .i64 ((getM m k).getD 0),.bool (getM m k).isSome]) (w':=w) ?_<|h hI
 have hf:=I4 m k 0
 have hr:=Ma h2 k w g2
 simp only[execOp,aM ox,aM oy,hx,hy,Instr.lookup,Sem.run_bind,run_underlying h1,get_map g1,h2.BT,hr,Result.andThen_ok,Sem.run_pure]
 cases hq:pz m k 0 with
 |none=>
  have hg:getM m k=none:=by rw[hq] at hf;simpa using hf.symm
  simp[hq,hg,h3 w]
 |some p=>
  obtain⟨j,v⟩:=p
  rw[hq] at hf
  cases hg:getM m k with
  |none=>rw[hg] at hf;cases hf
  |some u=>
   rw[hg] at hf
   simp only[anX,amO] at hf
   subst hf
   simp
theorem W4 {dd:Option Nat} {k:Int×Int} {v:Int} (F:Ig P T) (H:HI M0 w0 w l) (i:Nat) (hi:l[i]? =some (cj b m)) (ox:bJ n x=true) (oy:bJ n y=true) (oc:bJ n c=true) (hx:ev f x=.map (some b)) (hy:ev f y=K2 k) (hc:ev f c=.int .i64 v) (hv:aL v)
  (h:∀w',HI M0 w0 w' (l.set i (cj b (jn m k v)))→K (dh f dd undef) w'):SO P n ops ⟨dd,.mapUpdate T x y c,ty,ps,af,none⟩ f w K:=by
 obtain⟨kt,et,h1,h2,h3⟩:=F.h
 obtain⟨es,clock,g1,g2,g3⟩:=H.at_ i hi
 have hr:=Ma h2 k w g2
 have eZ:b<w.heap.size:=(am7.1 g1).1
 have fin:∀(o:Obj),(∀M w',w'.heap[b]? =some o→(cj b (jn m k v)).holds M w')→
   HI M0 w0 {w with heap:=w.heap.setIfInBounds b o} (l.set i (cj b (jn m k v))):=by
  intro o ho
  refine H.vL i hi J J J (by simp) (amD _) (fun q hq gD=>?_) (fun q hq=>?_)<|ho _ _ (AL g1).1
  ·exact(AL g1).2 q fun e=>gD (by rw[e];rfl)
  ·cases hq
   exact⟨by simpa using eZ,.inl rfl⟩
 cases hq:pz m k 0 with
 |none=>
  refine SO.skip (w':={w with heap:=w.heap.setIfInBounds b (.map (es.push ⟨K2 k,.int .i64 v,clock⟩) (clock+1))}) ?_ (h _<|fin _ ?_)
  ·simp[execOp,aM ox,aM oy,aM oc,hx,hy,hc,Instr.mapUpdate,run_underlying h1,get_map g1,h2.BT,hr,hq,Dx _ g1]
  ·intro M w' hw
   exact⟨_,_,hw,by rw[Array.toList_push];exact GU m es.toList k 0 g2 hq clock v,NP g3 k hv⟩
 |some p=>
  obtain⟨j,u⟩:=p
  obtain⟨q,e,IN,nt,Ei,Eh⟩:=GS m es.toList k 0 j u g2 hq
  obtain rfl:j=q:=by omega
  have he:es[j]? =some e:=by simpa using nt
  have hsb:(Instr.keyThatStays e.key (K2 k)).run P w=.ok (K2 k) w:=by
   rw[Ei];simp[Instr.keyThatStays,Instr.sameBits]
  refine SO.skip (w':={w with heap:=w.heap.setIfInBounds b (.map (es.modify j fun e=>{e with key:=K2 k,val:=.int .i64 v}) clock)}) ?_ (h _<|fin _ ?_)
  ·simp[execOp,aM ox,aM oy,aM oc,hx,hy,hc,Instr.mapUpdate,run_underlying h1,get_map g1,h2.BT,hr,hq,he,hsb,Dx _ g1]
  ·intro M w' hw
   exact⟨_,_,hw,by rw[Array.toList_modify];exact Eh clock v,NP g3 k hv⟩
end
end
end Go.Ew
namespace Go.Ew
end Go.Ew
namespace Go.Ew
variable {s:bA} {j i k:Nat} {c:UInt8} {v val:Int} {m:KV}
abbrev jS:=Bool×bA×Int
abbrev aO:=Int×Int×Bool×Int×Int
abbrev dR:=List (List jS)
def u6 (c:UInt8):Bool:=!(decide (((c.toNat:Nat):Int)<97))&&!(decide ((122:Int)<((c.toNat:Nat):Int)))
def kJ (s:bA):Bool:=s.data.toList.all u6&&decide (1≤s.size)&&decide (s.size≤8)
theorem DX (h:s[((j:Nat):Int).toNat]? =some c):s.data.toList[((j:Nat):Int).toNat]? =some c:=by
 rw[dM] at h ⊢
 rw[an1]
 have hj:j<s.size:=by
  refine anl fun hn=>?_
  rw[getElem?_neg s j hn] at h;cases h
 rw[getElem?_pos s j hj] at h
 rw[Array.getElem?_eq_getElem hj]
 exact h
theorem Ob (h:s[((j:Nat):Int).toNat]? =some c) (h1:u6 c=false):false=kJ s:=by
 unfold kJ;rw[TS (DX h) h1];rfl
theorem Le (h:(s.data.toList.take j).all u6=true) (hj:s.size≤j):s.data.toList.all u6=true:=by
 rwa [amL (by rw[ang];exact hj)] at h
theorem aa2 (h:decide (((c.toNat:Nat):Int)<97)=true):u6 c=false:=by unfold u6;rw[h];rfl
theorem aa3 (h:decide ((122:Int)<((c.toNat:Nat):Int))=true):u6 c=false:=by unfold u6;rw[h];simp
theorem Y4 (h:decide (((c.toNat:Nat):Int)<97)=false) (h1:decide ((122:Int)<((c.toNat:Nat):Int))=false):u6 c=true:=by unfold u6;rw[h,h1];rfl
theorem vq {α:Type} {h:List (List α)} {x:List α} (hx:h[((j:Nat):Int).toNat]? =some x):(h.take (j+1)).flatten=(h.take j).flatten++x:=by
 rw[nG hx];simp
theorem uJ {α:Type} {h:List (List α)} {x:List α} (hx:h[((j:Nat):Int).toNat]? =some x):((h.take j).flatten).length+x.length≤h.flatten.length:=by
 have h1:h.flatten=(h.take (j+1)).flatten++(h.drop (j+1)).flatten:=by rw[←aoY,anZ]
 rw[h1,vq hx];simp
def kZ (o:jS):Bool:=kJ o.2.1
def iN (h:dR):Bool:=h.flatten.all kZ&&decide (h.flatten.length≤4096)
theorem Uo {h:dR} {x:jS} (hx:h.flatten[i]? =some x) (h1:kJ x.2.1=false):false=iN h:=by
 unfold iN;rw[TS hx h1];rfl
theorem Rp {h:dR} (hs:(h.flatten.take j).all kZ=true) (hj:h.flatten.length≤j):decide ((h.flatten.length:Int)≤4096)=iN h:=by
 unfold iN;rw[mO hj] at hs;rw[hs,anz,anT];omega
def Gq (s:bA) (t:bA):Bool:=decide (t=s)
def gE (l:List bA) (s:bA):Int:=eO (Gq s) l
def HZ (vs:List bA) (s:bA):List bA:=if gE vs s<0 then vs++[s] else vs
def La (vs:List bA) (s:bA):Int:=if gE vs s<0 then (vs.length:Int) else gE vs s
abbrev za:=List bA×List aO
def uP (i:Nat) (st:za) (x:jS×Nat):za:=(HZ st.1 x.1.2.1,st.2++[(((i:Nat):Int),((x.2:Nat):Int),x.1.1,La st.1 x.1.2.1,x.1.2.2)])
def jI (i:Nat) (st:za) (ops:List jS) (k:Nat):za:=((ops.take k).zipIdx).foldl (uP i) st
def KG (i:Nat) (st:za) (ops:List jS):za:=jI i st ops ops.length
def iy (h:dR) (j:Nat):za:=((h.take j).zipIdx).foldl (fun st x=>KG x.2 st x.1) ([],[])
theorem AB {α:Type} {l:List α} {x:α} (hx:l[((k:Nat):Int).toNat]? =some x):(l.take (k+1)).zipIdx=(l.take k).zipIdx++[(x,k)]:=by
 have hk:k<l.length:=by rw[dM] at hx;exact(dU.1 hx).1
 rw[nG hx,List.zipIdx_append]
 simp;omega
theorem AI (i:Nat) (st:za) (ops:List jS):jI i st ops 0=st:=rfl
theorem xl {st:za} {ops:List jS} {x:jS} (hx:ops[((k:Nat):Int).toNat]? =some x):jI i st ops (k+1)=uP i (jI i st ops k) (x,k):=by
 unfold jI;rw[AB hx,aov];rfl
theorem yY {h:dR} {x:List jS} (hx:h[((j:Nat):Int).toNat]? =some x):iy h (j+1)=KG j (iy h j) x:=by
 unfold iy;rw[AB hx,aov];rfl
theorem fw {α:Type} {h:List (List α)} {x:List α} (hx:h[((j:Nat):Int).toNat]? =some x):h.getD j []=x:=by
 rw[dM] at hx;rw[im,hx];rfl
theorem Br {h:dR} (hj:j<h.length) (hk:(h.getD j []).length≤k):jI j (iy h j) (h.getD j []) k=iy h (j+1):=by
 have hx:h[((j:Nat):Int).toNat]? =some h[j]:=by rw[dM];exact eR hj
 rw[yY hx,fw hx] at *
 unfold KG jI
 rw[amL hk,anA]
theorem Hl (i:Nat) (st:za) (ops:List jS):∀k,k≤ops.length→(jI i st ops k).2.length=st.2.length+k∧(jI i st ops k).1.length≤st.1.length+k
 |0,_=>by rw[AI];omega
 |k+1,h=>by
  have ih:=Hl i st ops k aj
  have hx:ops[((k:Nat):Int).toNat]? =some ops[k]:=by rw[dM];exact eR aj
  rw[xl hx]
  have e1:(uP i (jI i st ops k) (ops[k],k)).2.length=(jI i st ops k).2.length+1:=by unfold uP;simp
  have e2:(uP i (jI i st ops k) (ops[k],k)).1.length≤(jI i st ops k).1.length+1:=by unfold uP HZ;simp only;split<;>simp
  omega
theorem Bq (h:dR):∀j,j≤h.length→(iy h j).2.length=((h.take j).flatten).length∧(iy h j).1.length≤((h.take j).flatten).length
 |0,_=>by simp[iy]
 |j+1,hj=>by
  have ih:=Bq h j aj
  have hx:h[((j:Nat):Int).toNat]? =some h[j]:=by rw[dM];exact eR aj
  rw[yY hx,vq hx,fN]
  have:=Hl j (iy h j) h[j] h[j].length<|amD _
  unfold KG
  omega
theorem pW {h:dR} {x:List jS} (hx:h[((j:Nat):Int).toNat]? =some x) (hk:k<x.length):
  (jI j (iy h j) x k).2.length+1≤h.flatten.length∧(jI j (iy h j) x k).1.length+1≤h.flatten.length:=by
 have hj:j<h.length:=by rw[dM] at hx;exact(dU.1 hx).1
 have h1:=Bq h j aj
 have h2:=Hl j (iy h j) x k aj
 have h3:=uJ hx
 omega
def DU (h:dR):List bA:=(iy h h.length).1
def wN (h:dR):List aO:=(iy h h.length).2
theorem I5 (h:dR):(wN h).length=h.flatten.length:=by
 have:=(Bq h h.length<|amD _).1
 rwa [anA] at this
def l7 (h:dR):List bA:=if iN h then DU h else []
def cX (h:dR):List aO:=if iN h then wN h else []
def ly (h:dR):Int:=if iN h then 0 else 1
theorem r5 {h:dR} (hr:iN h=true):l7 h=DU h∧cX h=wN h∧ly h=0:=by unfold l7 cX ly;simp[hr]
theorem xC {h:dR} (hr:iN h=false):l7 h=[]∧cX h=[]∧ly h=1:=by unfold l7 cX ly;simp[hr]
theorem N4 (h:dR):(cX h).length≤h.flatten.length:=by
 unfold cX;split
 ·rw[I5];exact amD _
 ·simp
theorem xo {st:za} {ops:List jS} {x:jS} (hx:ops[((k:Nat):Int).toNat]? =some x) (hf:gE (jI i st ops k).1 x.2.1<0):
  (jI i st ops k).1++[x.2.1]=(jI i st ops (k+1)).1∧(jI i st ops k).2++[(((i:Nat):Int),((k:Nat):Int),x.1,((jI i st ops k).1.length:Int),x.2.2)]=(jI i st ops (k+1)).2:=by
 rw[xl hx];unfold uP HZ La;rw[amF hf,amF hf];exact⟨rfl,rfl⟩
theorem xn {st:za} {ops:List jS} {x:jS} (hx:ops[((k:Nat):Int).toNat]? =some x) (hf:¬gE (jI i st ops k).1 x.2.1<0):
  (jI i st ops k).1=(jI i st ops (k+1)).1∧(jI i st ops k).2++[(((i:Nat):Int),((k:Nat):Int),x.1,gE (jI i st ops k).1 x.2.1,x.2.2)]=(jI i st ops (k+1)).2:=by
 rw[xl hx];unfold uP HZ La;rw[amI hf,amI hf];exact⟨rfl,rfl⟩
def lK (v val:Int) (x:aO):Bool:=x.2.2.1&&decide (x.2.2.2.1=v)&&decide (x.2.2.2.2=val)
def gx (aE:List aO) (v val:Int):Int:=eO (lK v val) aE
def vY (aE:List aO) (j:Nat) (x:aO):Bool:=x.2.2.1&&(decide (x.2.2.2.2=0)||decide (max (gx aE x.2.2.2.1 x.2.2.2.2) 0<((j:Nat):Int)))
def nj (aE:List aO) (j:Nat):Bool:=(aE[j]?).any (vY aE j)
def C1 (aE:List aO):Option Nat:=(List.range aE.length).find? (nj aE)
def da (aE:List aO):Int×Int×Int:=match C1 aE with
 |none=>(0,0,0)
 |some j=>match aE[j]? with
  |none=>(0,0,0)
  |some x=>if x.2.2.2.2=0 then (((j:Nat):Int),((j:Nat):Int),5) else (max (gx aE x.2.2.2.1 x.2.2.2.2) 0,((j:Nat):Int),4)
theorem ZH {aE:List aO} (h:∀k,k<j→nj aE k=false) (hj:aE.length≤j):C1 aE=none:=by
 unfold C1;rw[an5]
 intro k hk
 rw[amH] at hk
 rw[h k aj];simp
theorem OG {aE:List aO} (h:∀k,k<j→nj aE k=false) (hj:j<aE.length) (hb:nj aE j=true):C1 aE=some j:=by
 unfold C1
 rw[aoK]
 refine⟨hb,List.range j,(List.range<|aE.length-j-1).map (fun i=>j+1+i),?_,fun a ha=>by rw[h a (amH.1 ha)];rfl⟩
 have:aE.length=j+(1+(aE.length-j-1)):=by omega
 rw[this,nI,nI]
 simp[apf]
theorem G3 {aE:List aO} {x:aO} (hx:aE[((j:Nat):Int).toNat]? =some x):nj aE j=vY aE j x:=by
 rw[dM] at hx;unfold nj;rw[hx];rfl
theorem Bp {aE:List aO} {x:aO} (h:∀k,k<j→nj aE k=false) (hx:aE[((j:Nat):Int).toNat]? =some x) (hb:vY aE j x=false):∀k,k<j+1→nj aE k=false:=by
 intro k hk
 rcases aog.1 hk with h1|rfl
 ·exact h k h1
 ·rw[G3 hx];exact hb
theorem wZ {aE:List aO} (h:∀k,k<j→nj aE k=false) (hj:aE.length≤j):da aE=(0,0,0):=by
 unfold da;rw[ZH h hj]
theorem uN {aE:List aO} {x:aO} (h:∀k,k<j→nj aE k=false) (hx:aE[((j:Nat):Int).toNat]? =some x) (hw:x.2.2.1=true) (h0:x.2.2.2.2=0):da aE=(((j:Nat):Int),((j:Nat):Int),5):=by
 have hj:j<aE.length:=by rw[dM] at hx;exact(dU.1 hx).1
 have hb:nj aE j=true:=by rw[G3 hx];unfold vY;simp[hw,h0]
 unfold da;rw[OG h hj hb]
 rw[dM] at hx
 simp only[hx,h0,aod]
theorem sR {aE:List aO} {j:Nat} {x:aO} (h:∀k,k<j→nj aE k=false) (hx:aE[((j:Nat):Int).toNat]? =some x) (hw:x.2.2.1=true) (h0:¬x.2.2.2.2=0)
  (h1:max (gx aE x.2.2.2.1 x.2.2.2.2) 0<((j:Nat):Int)):da aE=(max (gx aE x.2.2.2.1 x.2.2.2.2) 0,((j:Nat):Int),4):=by
 have hj:j<aE.length:=by rw[dM] at hx;exact(dU.1 hx).1
 have hb:nj aE j=true:=by rw[G3 hx];unfold vY;simp[hw,h1]
 unfold da;rw[OG h hj hb]
 rw[dM] at hx
 simp only[hx,h0,anu]
theorem Mt {aE:List aO} {x:aO} (hw:x.2.2.1=false):vY aE j x=false:=by unfold vY;rw[hw];rfl
theorem Mu {aE:List aO} {x:aO} (h0:¬x.2.2.2.2=0) (h1:¬max (gx aE x.2.2.2.1 x.2.2.2.2) 0<((j:Nat):Int)):vY aE j x=false:=by
 unfold vY;rw[amJ h0,amJ h1];simp
theorem QW {aE:List aO} {x:aO} (hx:aE[((j:Nat):Int).toNat]? =some x) (h1:x.2.2.1=true) (h2:decide (x.2.2.2.1=v)=true) (h3:decide (x.2.2.2.2=val)=true) (hs:(aE.take j).any (lK v val)=false):((j:Nat):Int)=gx aE v val:=
 uA hx hs (by unfold lK;rw[h1,h2,h3];rfl)
theorem Nt {aE:List aO} (hs:(aE.take j).any (lK v val)=false) (h:aE.length≤j):(-1:Int)=gx aE v val:=vg hs h
theorem Zq {x:aO} (h:x.2.2.1=false):lK v val x=false:=by unfold lK;rw[h];rfl
theorem Oi {x:aO} (h:decide (x.2.2.2.1=v)=false):lK v val x=false:=by unfold lK;rw[h];simp
theorem Oh {x:aO} (h:decide (x.2.2.2.2=val)=false):lK v val x=false:=by unfold lK;rw[h];simp
def tO (aE:List aO) (j:Nat) (m:KV):Prop:=∀p:Int×Int,getM m p=((aE.take j).findIdx? (lK p.1 p.2)).map fun i=>((i:Nat):Int)
theorem GP (aE:List aO):tO aE 0 []:=by intro p;simp[getM]
theorem CD {aE:List aO} {p:aO→Bool} (h:(aE.take j).findIdx? p=some i):eO p aE=((i:Nat):Int):=by
 unfold eO
 have:aE.findIdx? p=some i:=by
  conv=>lhs;rw[←anZ j aE]
  rw[aps,h];rfl
 rw[this]
theorem IL {aE:List aO} {p:aO→Bool} {x:aO} (hx:aE[((j:Nat):Int).toNat]? =some x) (hp:p x=true) (h:(aE.take j).findIdx? p=none):eO p aE=((j:Nat):Int):=by
 refine(uA hx ?_ hp).symm
 rw[aoy] at h
 rw[aol]
 intro y hy;rw[h y hy];simp
theorem I2 {aE:List aO} {p:aO→Bool} {x:aO} (hx:aE[((j:Nat):Int).toNat]? =some x):
  (aE.take (j+1)).findIdx? p=((aE.take j).findIdx? p).or (if p x then some j else none):=by
 have hj:j<aE.length:=by rw[dM] at hx;exact(dU.1 hx).1
 rw[nG hx,aps,iu,anF aj]
 congr 1
 cases hp:p x<;>simp[List.findIdx?_cons,hp]
theorem Er {aE:List aO} {x:aO} (h:tO aE j m) (hx:aE[((j:Nat):Int).toNat]? =some x) (hw:x.2.2.1=false):tO aE (j+1) m:=by
 intro p
 rw[h p,I2 hx,show lK p.1 p.2 x=false from by unfold lK;rw[hw];rfl]
 simp
theorem GM {aE:List aO} {x:aO} (h:tO aE j m) (hx:aE[((j:Nat):Int).toNat]? =some x) (hw:x.2.2.1=true) (hn:getM m (x.2.2.2.1,x.2.2.2.2)=none):tO aE (j+1) (jn m (x.2.2.2.1,x.2.2.2.2) ((j:Nat):Int)):=by
 intro p
 rw[VD,I2 hx]
 by_cases e:p=(x.2.2.2.1,x.2.2.2.2)
 ·subst e
  rw[h] at hn
  have LI:(aE.take j).findIdx? (lK x.2.2.2.1 x.2.2.2.2)=none:=by simpa using hn
  rw[amF rfl]
  simp only[LI,show lK x.2.2.2.1 x.2.2.2.2 x=true from by unfold lK;simp[hw]]
  simp
 ·rw[amI e,h p,show lK p.1 p.2 x=false from by
   unfold lK;rw[hw]
   simp only[anz,apl,amN]
   by_cases e1:x.2.2.2.1=p.1
   ·exact .inr fun e2=>e (by rw[apL];exact⟨e1.symm,e2.symm⟩)
   ·exact .inl e1]
  simp
theorem AM {aE:List aO} {j:Nat} {m:KV} {x:aO} (h:tO aE j m) (hx:aE[((j:Nat):Int).toNat]? =some x) (hs:(getM m (x.2.2.2.1,x.2.2.2.2)).isSome=true):
  (getM m (x.2.2.2.1,x.2.2.2.2)).getD 0=max (gx aE x.2.2.2.1 x.2.2.2.2) 0∧max (gx aE x.2.2.2.1 x.2.2.2.2) 0<((j:Nat):Int):=by
 rw[h] at hs ⊢
 cases hf:(aE.take j).findIdx? (lK x.2.2.2.1 x.2.2.2.2) with
 |none=>simp[hf] at hs
 |some i=>
  have hi:i<j:=by
   have:=(am3.1 hf).1
   rw[iu] at this;omega
  have:=CD hf
  unfold gx
  rw[this]
  simp only[hf,anX,aph]
  omega
theorem NK {aE:List aO} {x:aO} (h:tO aE j m) (hx:aE[((j:Nat):Int).toNat]? =some x) (hw:x.2.2.1=true) (hs:(getM m (x.2.2.2.1,x.2.2.2.2)).isSome=false):
  getM m (x.2.2.2.1,x.2.2.2.2)=none∧gx aE x.2.2.2.1 x.2.2.2.2=((j:Nat):Int):=by
 have h0:getM m (x.2.2.2.1,x.2.2.2.2)=none:=by simpa using hs
 refine⟨h0,?_⟩
 rw[h] at h0
 have h1:(aE.take j).findIdx? (lK x.2.2.2.1 x.2.2.2.2)=none:=by simpa using h0
 exact IL hx (by unfold lK;simp[hw]) h1
end Go.Ew
namespace Go.Ew
open Go.RowKit
section
variable {P:Program} {n:Nat} {ops:Array Oper} {f:aP} {w:aG} {K:aP→aG→Prop} {x y:Operand} {d:Nat} {ty T T2 e:TypeId} {ps:String} {af:Array Edge} {M:cb} {B:Nat} {a:Option Addr} {k c:Nat} {s t:Int}
theorem w8 {i:Int} (h0:0≤i) (h1:i≤255):IntKind.u8.wrap i=i∧(((BitVec.ofInt 8 i).toNat:Nat):Int)=i:=by
 constructor
 ·unfold IntKind.wrap
  simp[IntKind.bits,IntKind.signed]
  omega
 ·rw[aop]
  show ((i%256).toNat:Int)=i
  omega
end
end Go.Ew
namespace Go.Ew
open Go.RowKit
section
variable {P:Program} {n:Nat} {ops:Array Oper} {f:aP} {w:aG} {K:aP→aG→Prop} {x:Operand} {d:Nat} {ty:TypeId} {ps:String} {af:Array Edge} {a:Addr}
theorem nc (ox:bJ n x=true) (hx:ev f x=.pointer (some a)) (h:K (cx f d (.pointer (some a))) w):SO P n ops ⟨some d,.nilCheck x,ty,ps,af,none⟩ f w K:=
 SO.value (v:=.pointer (some a)) (w':=w) (by simp[execOp,aM ox,hx]) h
theorem mf0 {f:aP}:([]:List Operand).map (ev f)=[]:=rfl
theorem W9 {f:aP} {x:Operand} {v:Value} {L:List Operand} {V:List Value} (h:ev f x=v) (t:L.map (ev f)=V):(x::L).map (ev f)=v::V:=by rw[am_,h,t]
theorem mf2 {fn:Fn} {C:List Operand} {V:List Value} (oc:F' n C=true) (hC:C.map (ev f)=V) (h:K (cx f d (.func fn #[] V.toArray)) w):SO P n ops ⟨some d,.makeFunc fn #[] C.toArray,ty,ps,af,none⟩ f w K:=by
 refine mf oc ?_
 rw[hC];exact h
end
theorem Mk {α0 α1 α2 α3 α4 α5 α6 α7 α8 α9 β:Type} (f:α0→α1→α2→α3→α4→α5→α6→α7→α8→α9→β) {x0 y0:α0} {x1 y1:α1} {x2 y2:α2} {x3 y3:α3} {x4 y4:α4} {x5 y5:α5} {x6 y6:α6} {x7 y7:α7} {x8 y8:α8} {x9 y9:α9} (h0:x0=y0) (h1:x1=y1) (h2:x2=y2) (h3:x3=y3) (h4:x4=y4) (h5:x5=y5) (h6:x6=y6) (h7:x7=y7) (h8:x8=y8) (h9:x9=y9):f x0 x1 x2 x3 x4 x5 x6 x7 x8 x9=f y0 y1 y2 y3 y4 y5 y6 y7 y8 y9:=by
 subst h0;subst h1;subst h2;subst h3;subst h4;subst h5;subst h6;subst h7;subst h8;subst h9;rfl
end Go.Ew
namespace Go.Ew
open Go.RowKit
theorem u7 {α:Type} {p:α→Bool} {l:List α} (h:l.Nodup):(l.filter p).Nodup:=ao6 List.filter_sublist h
def oE (l:dw) (cn:Nat→Option Nat) (L:Nat→Bool) (j:Nat):Bool:=(Nat.ble l.length j||L j)&&(match cn j with|none=>true|some i=>!L i)
def EW (l:dw) (cn:Nat→Option Nat) (aE:Nat→Value→List Item) (m:Nat) (L:Nat→Bool) (V:Nat→Value):List Item:=((List.range m).filter (oE l cn L)).flatMap fun j=>aE j (V j)
def waits (T:List Nat) (i j:Nat):Bool:=Nat.testBit (T.getD i 0) j
def E4 (T:List Nat) (o:Oper):Nat→Nat
 |0=>0
 |j+1=>bif kU o j then E4 T o j ||| (2^j ||| T.getD j 0) else E4 T o j
def W0 (l:dw) (T:List Nat):Bool:=(List.range l.length).all fun i=>match l[i]? with|some o=>Nat.beq (T.getD i 0) (E4 T o i)|none=>true
theorem E3 {T:List Nat} {o:Oper} {m:Nat}:∀i,Nat.testBit (E4 T o i) m=true→∃j,j<i∧kU o j=true∧(m=j∨waits T j m=true)
 |0,h=>by simp[E4] at h
 |i+1,h=>by
  unfold E4 at h
  cases ho:kU o i with
  |false=>
   rw[ho] at h
   obtain⟨j,h1,h2⟩:=E3 i h
   exact⟨j,by omega,h2⟩
  |true=>
   rw[ho] at h
   have h:Nat.testBit (E4 T o i ||| (2^i ||| T.getD i 0)) m=true:=h
   rw[Nat.testBit_or,Nat.testBit_or,amM,amM,Nat.testBit_two_pow] at h
   rcases h with h|h|h
   ·obtain⟨j,h1,h2⟩:=E3 i h
    exact⟨j,by omega,h2⟩
   ·exact⟨i,by omega,ho,.inl (am' h).symm⟩
   ·exact⟨i,by omega,ho,.inr h⟩
theorem AE {l:dw} {T:List Nat} (hT:W0 l T=true) {L:Nat→Bool} (hC:∀j o,L j=true→l[j]? =some o→∀q,kU o q=true→L q=true) (hL:∀j,L j=true→j<l.length):
  ∀(n i:Nat) (o:Oper),i≤n→l[i]? =some o→(∀j,kU o j=true→L j=true)→∀m,waits T i m=true→L m=true
 |n,i,o,sJ,ho,hd,m,hm=>by
  have jK:=(dU.1 ho).1
  have h1:=amK.1 hT i<|amH.2 jK
  rw[ho] at h1
  have h1:=anO h1
  unfold waits at hm
  rw[h1] at hm
  obtain⟨j,hj,Xs,Aj⟩:=E3 i hm
  have xP:=hd j Xs
  rcases Aj with rfl|Aj
  ·exact xP
  ·have wm:=hL j xP
   have qO:l[j]? =some l[j]:=eR wm
   cases n with
   |zero=>omega
   |succ n=>exact AE hT hC hL n j l[j] aj qO (hC j l[j] xP qO) m Aj
def PL (l:dw) (cn:Nat→Option Nat) (T:List Nat) (m i:Nat) (o:Oper) (D:List Nat):Bool:=
 nodupB D&&D.all (fun j=>Nat.blt j m&&(Nat.ble l.length j||waits T i j)&&(match cn j with|none=>true|some c=>Nat.beq c i||(Nat.blt c l.length&&waits T c i)))&&(List.range m).all (fun j=>match cn j with|none=>true|some c=>!Nat.beq c i||D.contains j)
def Gp (cn:Nat→Option Nat) (i:Nat) (D:List Nat):List Nat:=D.filter fun j=>match cn j with|none=>true|some c=>!Nat.beq c i
def W1 (n:Nat) (l:dw) (cn:Nat→Option Nat) (T:List Nat) (m:Nat) (Ds:List (List Nat)):Bool:=
 W0 l T&&ri 0 l&&nodupB (jf l.length l)&&(jf l.length l).all (fun d=>Nat.blt d n)&&Nat.ble l.length m&&(List.range l.length).all fun i=>match l[i]? with|some o=>PL l cn T m i o (Ds.getD i [])|none=>true
section
variable {P:Program} {n:Nat} {l:dw} {cn:Nat→Option Nat} {aE:Nat→Value→List Item} {m:Nat} {T:List Nat} {Ds:List (List Nat)} {Φ:Nat→Value→Prop} {f0:aP} {M0:cb} {w0:aG} {base:List Item}
def GStep (P:Program) (n:Nat) (l:dw) (cn:Nat→Option Nat) (T:List Nat) (aE:Nat→Value→List Item) (Φ:Nat→Value→Prop) (f0:aP) (M0:cb) (w0:aG) (base:List Item) (i:Nat) (o:Oper) (D:List Nat):Prop:=
 ∀(f:aP) (w:aG) (V:Nat→Value) (r:List Item),(∀t,(jf l.length l).contains t=false→f t=f0 t)→(∀j x,l[j]? =some x→x.dst.isSome=true→waits T i j=true→f (iT l j)=V j∧Φ j (V j))→(∀j x,l[j]? =some x→x.dst.isSome=true→(j=i∨waits T j i=true)→f (iT l j)=f0 (iT l j))→
  HI M0 w0 w (base++(D.flatMap (fun j=>aE j (V j))++r))→SO P n l.toArray o f w (fun f' w'=>∃v,f'=dh f o.dst v∧Φ i v∧HI M0 w0 w' (base++(((Gp cn i D).flatMap fun j=>aE j (V j))++(aE i v++r))))
def yk (P:Program) (n:Nat) (l:dw) (cn:Nat→Option Nat) (T:List Nat) (aE:Nat→Value→List Item) (Φ:Nat→Value→Prop) (f0:aP) (M0:cb) (w0:aG) (base:List Item) (Ds:List (List Nat)):Nat→dw→Prop
 |_,[]=>True
 |i,o::r=>GStep P n l cn T aE Φ f0 M0 w0 base i o (Ds.getD i [])∧yk P n l cn T aE Φ f0 M0 w0 base Ds (i+1) r
theorem yk.at_:∀(r:dw) (i:Nat),yk P n l cn T aE Φ f0 M0 w0 base Ds i r→∀j o,r[j]? =some o→GStep P n l cn T aE Φ f0 M0 w0 base (i+j) o (Ds.getD (i+j) [])
 |[],_,_,j,o,h=>by simp at h
 |x::r,i,h,0,o,hj=>by
  simp only[amR,amO] at hj
  subst hj
  exact h.1
 |x::r,i,h,j+1,o,hj=>by
  simp only[amY] at hj
  have:=yk.at_ r (i+1) h.2 j o hj
  rwa [show i+1+j=i+(j+1) from by omega] at this
def JG (l:dw) (cn:Nat→Option Nat) (aE:Nat→Value→List Item) (m:Nat) (Φ:Nat→Value→Prop) (f0:aP) (M0:cb) (w0:aG) (base:List Item) (L:Nat→Bool) (f:aP) (w:aG):Prop:=
 ∃V:Nat→Value,(∀t,(jf l.length l).contains t=false→f t=f0 t)∧(∀j x,l[j]? =some x→x.dst.isSome=true→f (iT l j)=if L j=true then V j else f0 (iT l j))∧(∀j,j<l.length→L j=true→Φ j (V j))∧(∀j o,L j=true→l[j]? =some o→∀q,kU o q=true→L q=true)∧HI M0 w0 w (base++EW l cn aE m L V)
theorem drg {id:Nat} {Q:Exit→Act→aG→Prop} {f:aP} {w:aG} (cn:Nat→Option Nat) (T:List Nat) (aE:Nat→Value→List Item) (m:Nat) (Ds:List (List Nat)) (Φ:Nat→Value→Prop) (base:List Item) (V0:Nat→Value) (hm:P.follows .mixedOrders=true) (rN:W1 n l cn T m Ds=true)
  (hH:HI M0 w0 w (base++((List.range m).filter (fun j=>Nat.ble l.length j)).flatMap fun j=>aE j (V0 j))) (l9:∀j i,cn j=some i→i<l.length)
  (hS:yk P n l cn T aE Φ f M0 w0 base Ds 0 l)
  (vV:∀(f':aP) (w':aG) (V:Nat→Value),(∀t,(jf l.length l).contains t=false→f' t=f t)→(∀j x,l[j]? =some x→x.dst.isSome=true→f' (iT l j)=V j∧Φ j (V j))→HI M0 w0 w' (base++((List.range m).filter (fun j=>(cn j).isNone)).flatMap fun j=>aE j (V j))→Q .normal (cw n f') w'):
  WC P n (.region id l.toArray true) Q f w:=by
 simp only[W1,eW] at rN
 obtain⟨⟨⟨⟨⟨acB,hE⟩,hN⟩,hn⟩,hlm⟩,hU⟩:=rN
 have hlm:l.length≤m:=anN hlm
 have abI:∀V,EW l cn aE m (fun _=>false) V=((List.range m).filter (fun j=>Nat.ble l.length j)).flatMap fun j=>aE j (V j):=by
  intro V
  unfold EW
  congr 1
  refine aoM fun j hj=>?_
  unfold oE
  cases cn j<;>simp
 refine drj (JG l cn aE m Φ f M0 w0 base) hm hE ⟨V0,fun _ _=>rfl,fun j x _ _=>(by simp),fun j _ h=>(by cases h),fun j o h=>(by cases h),?_⟩ ?_ ?_
 ·rw[abI]
  exact hH.ext (Ext.drew w)
 ·rintro L f' w' i o qj ub acE XC ⟨V,hs,hv,hφ,hC,hH⟩
  have jK:=(dU.1 qj).1
  have Xi:∀j,waits T i j=true→L j=true:=fun j hj=>AE acB hC acE i i o (amD _) qj XC j hj
  have Vh:∀c oc,L c=true→l[c]? =some oc→∀j,waits T c j=true→L j=true:=fun c oc SI Sm j hj=>AE acB hC acE c c oc (amD _) Sm (hC c oc SI Sm) j hj
  have qK:=yk.at_ l 0 hS i o qj
  simp only[ann] at qK
  have hu:=amK.1 hU i<|amH.2 jK
  rw[qj] at hu
  simp only[PL,eW] at hu
  obtain⟨⟨SK,hDu⟩,hDc⟩:=hu
  have SK:=oO _ SK
  generalize hD:Ds.getD i []=D at qK SK hDu hDc
  have XP:∀j∈D,j<m∧oE l cn L j=true:=by
   intro j hj
   have:=amK.1 hDu j hj
   simp only[eW,amM,aoG] at this
   obtain⟨⟨h1,h2⟩,h3⟩:=this
   refine⟨h1,?_⟩
   unfold oE
   rw[eW,amM]
   refine⟨h2.imp (fun h=>h) (Xi j),?_⟩
   revert h3
   cases Oy:cn j with
   |none=>intro _;rfl
   |some c=>
    intro h3
    simp only[amM] at h3
    show (!L c)=true
    rcases h3 with h3|h3
    ·rw[anO h3,ub];rfl
    ·cases SI:L c with
     |false=>rfl
     |true=>
      exfalso
      simp only[eW,aoG] at h3
      have:=Vh c l[c] SI (eR h3.1) i h3.2
      rw[ub] at this;cases this
  have hiD:i∉D:=by
   intro hi
   have:=(XP i hi).2
   unfold oE at this
   rw[ub,show Nat.ble l.length i=false from by
    cases hb:Nat.ble l.length i with
    |false=>rfl
    |true=>have:=anN hb;omega] at this
   simp at this
  
  have aeD:((List.range m).filter (oE l cn L)).Perm (D++((List.range m).filter fun j=>oE l cn L j&&!D.contains j)):=by
   refine(List.perm_ext_iff_of_nodup (u7 aoR) ?_).2 fun j=>?_
   ·rw[aok]
    refine⟨SK,u7 aoR,fun a ha b hb IZ=>?_⟩
    subst IZ
    have:=(amW.1 hb).2
    simp[ha] at this
   ·simp only[amW,amH,am1,eW,anM,aoT,amN]
    constructor
    ·rintro⟨h1,h2⟩
     by_cases hj:j∈D
     ·exact .inl hj
     ·exact .inr ⟨h1,h2,hj⟩
    ·rintro(h|⟨h1,h2, -⟩)
     ·exact XP j h
     ·exact⟨h1,h2⟩
  have hH2:HI M0 w0 w' (base++(D.flatMap (fun j=>aE j (V j))++((List.range m).filter fun j=>oE l cn L j&&!D.contains j).flatMap fun j=>aE j (V j))):=by
   refine hH.perm ?_
   unfold EW
   rw[←aon]
   exact List.Perm.append_left _<|aeD.symm.flatMap_right _
  refine(qK f' w' V _ hs (fun j x yK Gz Xs=>?_) (fun j x yK Gz nu=>?_) hH2).mono fun f2 w2 hK=>?_
  ·have:=hv j x yK Gz
   rw[amF (Xi j Xs)] at this
   exact⟨this,hφ j (dU.1 yK).1 (Xi j Xs)⟩
  ·have:=hv j x yK Gz
   have xP:L j=false:=by
    rcases nu with rfl|nu
    ·exact ub
    ·cases xP:L j with
     |false=>rfl
     |true=>have:=Vh j x xP yK i nu;rw[ub] at this;cases this
   rw[xP] at this
   simpa using this
  ·obtain⟨v,rfl,aho,hH3⟩:=hK
   refine⟨fun j=>if j=i then v else V j,fun t ht=>?_,fun j x yK Gz=>?_,fun j hj xP=>?_,fun j oj xP qO q hq=>?_,?_⟩
   ·cases vj:o.dst with
    |none=>exact hs t ht
    |some di=>
     have gD:t≠di:=by
      rintro rfl
      have:=qG (k:=l.length) qj jK vj
      rw[←anj,ht] at this
      cases this
     rw[show dh f' (some di) v=cx f' di v from rfl,jA f' v gD]
     exact hs t ht
   ·dsimp only
    by_cases nu:j=i
    ·subst nu
     rw[qj] at yK;cases yK
     obtain⟨di,vj⟩:=am0.1 Gz
     rw[amF (by simp),amF rfl,OK qj vj,vj]
     exact iP f' di v
    ·have h1:=hv j x yK Gz
     obtain⟨dj,El⟩:=am0.1 Gz
     have h2:dh f' o.dst v (iT l j)=f' (iT l j):=by
      cases vj:o.dst with
      |none=>rfl
      |some di=>
       rw[OK yK El]
       exact jA f' v<|adf hN qj yK vj El<|fun e=>nu e.symm
     rw[h2,h1];simp[nu]
   ·dsimp only at xP ⊢
    by_cases nu:j=i
    ·subst nu;rw[amF rfl];exact aho
    ·rw[amI nu]
     rw[amJ nu,an7] at xP
     exact hφ j hj xP
   ·dsimp only at xP ⊢
    by_cases nu:j=i
    ·subst nu
     rw[qj] at qO;cases qO
     rw[XC q hq];rfl
    ·rw[amJ nu,an7] at xP
     rw[hC j oj xP qO q hq];rfl
   ·refine hH3.perm ?_
    have En:∀j,oE l cn (fun k=>L k||decide (k=i)) j=true↔(j=i∨(oE l cn L j=true∧∀c,cn j=some c→c≠i)):=by
     intro j
     unfold oE
     simp only[eW,amM,amB]
     constructor
     ·rintro⟨h1,h2⟩
      by_cases nu:j=i
      ·exact .inl nu
      ·refine .inr ⟨⟨h1.imp (fun h=>h) fun h=>h.resolve_right nu,?_⟩,?_⟩
       ·revert h2
        cases cn j with
        |none=>intro _;rfl
        |some c=>intro h2;simp at h2 ⊢;exact h2.1
       ·intro c hc
        rw[hc] at h2
        simp at h2
        exact h2.2
     ·rintro(rfl|⟨⟨h1,h2⟩,h3⟩)
      ·refine⟨.inr (.inr rfl),?_⟩
       cases Oy:cn j with
       |none=>rfl
       |some c=>
        have rO:=l9 j c Oy
        have Sm:l[c]? =some l[c]:=eR rO
        have Xl:=amK.1 hU c<|amH.2 rO
        rw[Sm] at Xl
        simp only[PL,eW] at Xl
        have sJ:=amK.1 Xl.2 j<|amH.2 aj
        rw[Oy] at sJ
        have sJ:j∈Ds.getD c []:=by
         have hb:Nat.beq c c=true:=Nat.beq_refl c
         simp only[hb,aoW,aot,aoT,amB] at sJ
         exact sJ
        have El:=amK.1 Xl.1.2 j sJ
        simp only[eW,amM] at El
        have vh:waits T c j=true:=by
         rcases El.1.2 with h|h
         ·have:=anN h;omega
         ·exact h
        have ahW:c≠j:=by
         rintro rfl
         have:=Xi c vh
         rw[ub] at this;cases this
        show (!(L c||decide (c=j)))=true
        rw[amJ ahW,an7]
        cases SI:L c with
        |false=>rfl
        |true=>have:=Vh c l[c] SI Sm j vh;rw[ub] at this;cases this
      ·refine⟨h1.imp (fun h=>h) .inl,?_⟩
       revert h2 h3
       cases cn j with
       |none=>intro _ _;rfl
       |some c=>
        intro h3 h2
        simp at h2 ⊢
        exact⟨h2,h3 c rfl⟩
    have Sl:((List.range m).filter (oE l cn fun k=>L k||decide (k=i))).Perm (Gp cn i D++([i]++((List.range m).filter fun j=>oE l cn L j&&!D.contains j))):=by
     refine(List.perm_ext_iff_of_nodup (u7 aoR) ?_).2 fun j=>?_
     ·rw[aok]
      refine⟨u7 SK,?_,fun a ha b hb IZ=>?_⟩
      ·rw[List.singleton_append,anG]
       refine⟨fun hi=>?_,u7 aoR⟩
       have:=(amW.1 hi).2
       simp only[eW] at this
       have h1:=this.1
       unfold oE at h1
       rw[ub,show Nat.ble l.length i=false from by
        cases hb:Nat.ble l.length i with
        |false=>rfl
        |true=>have:=anN hb;omega] at h1
       simp at h1
      ·subst IZ
       have haD:=(amW.1 ha).1
       rcases amV.1 hb with rfl|hb
       ·exact hiD haD
       ·have:=(amW.1 hb).2
        simp[haD] at this
     ·rw[amW,En,amH,am1,am1,anS,amW]
      unfold Gp
      rw[amW,amH]
      simp only[eW,anM,aoT,amN]
      have ou:(match cn j with|none=>true|some c=>!Nat.beq c i)=true↔∀c,cn j=some c→c≠i:=by
       cases Oy:cn j with
       |none=>simp
       |some c=>
        simp only[anM,amO]
        constructor
        ·rintro h d rfl rfl
         rw[Nat.beq_refl] at h;cases h
        ·intro h
         cases hb:Nat.beq c i with
         |false=>rfl
         |true=>exact absurd (anO hb) (h c rfl)
      rw[ou]
      constructor
      ·rintro⟨h1,h2|⟨h2,h3⟩⟩
       ·exact .inr (.inl h2)
       ·by_cases hjD:j∈D
        ·exact .inl ⟨hjD,h3⟩
        ·exact .inr (.inr ⟨h1,h2,hjD⟩)
      ·rintro(⟨h1,h2⟩|rfl|⟨h1,h2,h3⟩)
       ·exact⟨(XP j h1).1,.inr ⟨(XP j h1).2,h2⟩⟩
       ·exact⟨by omega,.inl rfl⟩
       ·refine⟨h1,.inr ⟨h2,fun c hc hci=>?_⟩⟩
        subst hci
        have sJ:=amK.1 hDc j<|amH.2 h1
        rw[hc] at sJ
        have hb:Nat.beq c c=true:=Nat.beq_refl c
        simp only[hb,aoW,aot,aoT,amB] at sJ
        exact h3 sJ
    refine List.Perm.append_left _ ?_
    unfold EW
    refine(Sl.flatMap_right _).trans ?_
    rw[aon,aon,List.flatMap_singleton]
    dsimp only
    rw[amF rfl]
    have SB:∀A:List Nat,i∉A→A.flatMap (fun j=>aE j (if j=i then v else V j))=A.flatMap fun j=>aE j (V j):=by
     intro A hA
     induction A with
     |nil=>rfl
     |cons a A ihA=>
      rw[an',an',ihA fun h=>hA (am6 _ h),amI fun (e:a=i)=>hA (e▸ano)]
    rw[SB (Gp cn i D) (fun h=>hiD (amW.1 h).1),SB]
    intro hi
    have:=(amW.1 hi).2
    simp only[eW] at this
    have h1:=this.1
    unfold oE at h1
    rw[ub,show Nat.ble l.length i=false from by
     cases hb:Nat.ble l.length i with
     |false=>rfl
     |true=>have:=anN hb;omega] at h1
    simp at h1
 ·rintro f' w' ⟨V,hs,hv,hφ, -,hH⟩
  refine vV f' w' V hs (fun j x yK Gz=>?_) ?_
  ·have wm:=(dU.1 yK).1
   have:=hv j x yK Gz
   rw[amF (amC wm)] at this
   exact⟨this,hφ j wm (amC wm)⟩
  ·have:EW l cn aE m (fun k=>decide (k<l.length)) V=((List.range m).filter (fun j=>(cn j).isNone)).flatMap fun j=>aE j (V j):=by
    unfold EW
    congr 1
    refine aoM fun j hj=>?_
    unfold oE
    have h1:(Nat.ble l.length j||decide (j<l.length))=true:=by
     rw[amM,amB]
     by_cases h:j<l.length
     ·exact .inr h
     ·exact .inl (Nat.ble_eq_true_of_le aj)
    rw[h1,anz]
    cases Oy:cn j with
    |none=>rfl
    |some c=>
     have:=l9 j c Oy
     simp[this]
   rw[←this];exact hH
end
def vP:Value→Addr
 | .pointer (some a)=>a
 |_=>⟨0,0,none⟩
theorem aeI {GY:List (Option Nat)} {N:Nat} (h:GY.all (fun c=>match c with|none=>true|some i=>Nat.blt i N)=true):∀j i,GY.getD j none=some i→i<N:=by
 intro j i hj
 rw[im] at hj
 cases hc:GY[j]? with
 |none=>rw[hc] at hj;cases hj
 |some c=>
  rw[hc] at hj
  have hj:c=some i:=hj
  subst hj
  have:=amK.1 h _<|dN hc
  simpa using this
theorem VR {P:Program} {n:Nat} {l:dw} {id:Nat} {Q:Exit→Act→aG→Prop} {f:aP} {w:aG} {M0:cb} {w0:aG} (GY:List (Option Nat)) (T:List Nat) (A9:List (Value→List Item)) (Ds:List (List Nat)) (ΦL:List (Value→Prop)) (base:List Item)
  (hm:P.follows .mixedOrders=true) (rN:W1 n l (fun j=>GY.getD j none) T A9.length Ds=true) (hc:GY.all (fun c=>match c with|none=>true|some i=>Nat.blt i l.length)=true)
  (hH:HI M0 w0 w (base++((A9.drop l.length).flatMap fun g=>g undef)))
  (hS:yk P n l (fun j=>GY.getD j none) T (fun j=>A9.getD j (fun _=>[])) (fun j=>ΦL.getD j (fun _=>True)) f M0 w0 base Ds 0 l)
  (vV:∀(f':aP) (w':aG) (V:Nat→Value),(∀t,(jf l.length l).contains t=false→f' t=f t)→(∀j x,l[j]? =some x→x.dst.isSome=true→f' (iT l j)=V j∧(ΦL.getD j (fun _=>True)) (V j))→HI M0 w0 w' (base++((List.range A9.length).filter (fun j=>(GY.getD j none).isNone)).flatMap fun j=>(A9.getD j (fun _=>[])) (V j))→Q .normal (cw n f') w'):
  WC P n (.region id l.toArray true) Q f w:=by
 have hlm:l.length≤A9.length:=by
  simp only[W1,eW] at rN
  exact anN rN.1.2
 refine drg (fun j=>GY.getD j none) T (fun j=>A9.getD j<|fun _=>[]) A9.length Ds (fun j=>ΦL.getD j<|fun _=>True) base (fun _=>undef) hm rN ?_ (aeI hc) hS vV
 have key:∀(L:List (Value→List Item)) (k s:Nat),((List.range' s L.length).filter (fun j=>Nat.ble k j)).flatMap (fun j=>((List.replicate s (fun _=>[]))++L).getD j (fun _=>[]) undef)=(L.drop (k-s)).flatMap fun g=>g undef:=by
  intro L
  induction L with
  |nil=>intro k s;simp
  |cons g L ih=>
   intro k s
   have ahx:List.replicate s (fun _:Value=>([]:List Item))++g::L=(List.replicate s (fun _:Value=>([]:List Item))++[g])++L:=by simp
   have uC:∀j∈List.range' (s+1) L.length,(List.replicate s (fun _:Value=>([]:List Item))++g::L).getD j (fun _=>[]) undef=(List.replicate (s+1) (fun _:Value=>([]:List Item))++L).getD j (fun _=>[]) undef:=by
    intro j hj
    have hj:=(List.mem_range'_1.1 hj).1
    rw[im,im,ahx,oB (by simp;omega),oB (by simp;omega)]
    simp
   have Xz:∀A:List Nat,(∀j∈A,j∈List.range' (s+1) L.length)→A.flatMap (fun j=>(List.replicate s (fun _:Value=>([]:List Item))++g::L).getD j (fun _=>[]) undef)=A.flatMap fun j=>(List.replicate (s+1) (fun _:Value=>([]:List Item))++L).getD j (fun _=>[]) undef:=by
    intro A hA
    induction A with
    |nil=>rfl
    |cons a A ihA=>rw[an',an',ihA fun j hj=>hA j (am6 _ hj),uC a (hA a ano)]
   rw[iB,List.range'_succ,apj]
   by_cases hk:Nat.ble k s=true
   ·have IV:=anN hk
    rw[amF hk,an',Xz _ fun j hj=>(amW.1 hj).1,ih k (s+1),show k-s=0 from by omega,show k-(s+1)=0 from by omega,ao',ao',an']
    congr 1
    rw[im,oB (by simp)]
    simp
   ·have IV:¬k≤s:=fun h=>hk<|Nat.ble_eq_true_of_le h
    rw[amI hk,Xz _ fun j hj=>(amW.1 hj).1,ih k (s+1),show k-s=(k-(s+1))+1 from by omega,List.drop_succ_cons]
 have:=key A9 l.length 0
 rw[List.replicate_zero,List.nil_append,apm,←List.range_eq_range'] at this
 rw[this]
 exact hH
theorem aaY {α:Type} [GT α] {B:Nat} {e:TypeId} {v:Value} {xs:List α} {M:cb} {w:aG} {g j:Nat} {x:α} (h:(own B e v xs).holds M w) (hv:v.ownBlock=some g) (hx:xs[j]? =some x):hQ M w ⟨g,j*GT.size α,none⟩ x:=by
 obtain⟨cs,h1,h2⟩:=h
 rcases h1.2 with ⟨rfl,h3⟩|⟨g',cap,cur,rfl,h3,h4,h5,h6,h7,h8⟩
 ·cases hv
 ·obtain rfl:g'=g:=amE hv
  have lk:(⟨g',0,none⟩:Addr).add (j*GT.size α)=⟨g',j*GT.size α,none⟩:=by unfold Addr.add;split<;>simp_all
  obtain⟨c,yN,Al⟩:=bB.at_ h2 j x hx
  refine⟨c,yN,fun i u hu=>?_⟩
  have uR:=h1.cells (g:=g') J (j*GT.size α+i) u<|Al i u hu
  rwa [←add_add,lk] at uR
theorem kf {α:Type} [GT α] {B:Nat} {e:TypeId} {v:Value} {xs:List α} {M:cb} {w:aG} (h:(own B e v xs).holds M w):xs.length≤9223372036854775807:=by
 obtain⟨cs,h1,h2⟩:=h
 rcases h1.2 with ⟨rfl,h3⟩|⟨g',cap,cur,rfl,h3,h4,h5,h6,h7,h8⟩
 ·omega
 ·have:maxLen=9223372036854775807:=rfl
  omega
end Go.Ew
namespace Go.Ew
open Go.RowKit
def afq (m k:Nat):Bool:=Nat.beq (Nat.land 1 (Nat.shiftRight m k)) 1
def mask (T:List Nat) (j:Nat) (V:Nat→Value) (k:Nat):Value:=bif (Nat.beq k j||afq (T.getD j 0) k) then V k else undef
section
variable {P:Program} {n:Nat} {l:dw} {cn:Nat→Option Nat} {aE:Nat→(Nat→Value)→List Item} {m:Nat} {T:List Nat} {Ds:List (List Nat)} {Φ:Nat→Value→Prop} {f0:aP} {M0:cb} {w0:aG} {base:List Item}
def T3 (P:Program) (n:Nat) (l:dw) (cn:Nat→Option Nat) (T:List Nat) (aE:Nat→(Nat→Value)→List Item) (Φ:Nat→Value→Prop) (f0:aP) (M0:cb) (w0:aG) (base:List Item) (i:Nat) (o:Oper) (D:List Nat):Prop:=
 ∀(f:aP) (w:aG) (V:Nat→Value) (r:List Item),(∀t,(jf l.length l).contains t=false→f t=f0 t)→(∀j x,l[j]? =some x→x.dst.isSome=true→waits T i j=true→f (iT l j)=V j∧Φ j (V j))→(∀j x,l[j]? =some x→x.dst.isSome=true→(j=i∨waits T j i=true)→f (iT l j)=f0 (iT l j))→
  HI M0 w0 w (base++(D.flatMap (fun j=>aE j (mask T j V))++r))→SO P n l.toArray o f w (fun f' w'=>∃v,f'=dh f o.dst v∧Φ i v∧HI M0 w0 w' (base++(((Gp cn i D).flatMap fun j=>aE j (mask T j V))++(aE i (mask T i (fun k=>if k=i then v else V k))++r))))
def DY (P:Program) (n:Nat) (l:dw) (cn:Nat→Option Nat) (T:List Nat) (aE:Nat→(Nat→Value)→List Item) (Φ:Nat→Value→Prop) (f0:aP) (M0:cb) (w0:aG) (base:List Item) (Ds:List (List Nat)):Nat→dw→Prop
 |_,[]=>True
 |i,o::r=>T3 P n l cn T aE Φ f0 M0 w0 base i o (Ds.getD i [])∧DY P n l cn T aE Φ f0 M0 w0 base Ds (i+1) r
theorem DY.at_:∀(r:dw) (i:Nat),DY P n l cn T aE Φ f0 M0 w0 base Ds i r→∀j o,r[j]? =some o→T3 P n l cn T aE Φ f0 M0 w0 base (i+j) o (Ds.getD (i+j) [])
 |[],_,_,j,o,h=>by simp at h
 |x::r,i,h,0,o,hj=>by
  simp only[amR,amO] at hj
  subst hj
  exact h.1
 |x::r,i,h,j+1,o,hj=>by
  simp only[amY] at hj
  have:=DY.at_ r (i+1) h.2 j o hj
  rwa [show i+1+j=i+(j+1) from by omega] at this
end
end Go.Ew
namespace Go.Ew
open Go.RowKit
variable {v:Value}
section
variable {P:Program} {n:Nat} {ops:Array Oper} {f:aP} {w:aG} {K:aP→aG→Prop} {x y:Operand} {d:Nat} {ty T e:TypeId} {ps:String} {af:Array Edge} {M0:cb} {w0:aG} {l:List Item} {bytes:Nat} {z:Value} {agg:Bool} {kk:IntKind}
theorem Lg {fn:Fn} (ox:bJ n x=true) (hx:ev f x=v) (h:K (cx f d (.func fn #[v] #[])) w):SO P n ops ⟨some d,.makeFunc fn #[x] #[],ty,ps,af,none⟩ f w K:=
 SO.value (v:=.func fn #[v] #[]) (by simp[execOp,Instr.makeFunc,aM ox,hx]) h
theorem Ml {fx:Operand} {g:FuncId} {b:Value} {L:List Operand} {vs:List Value} {MC:Array TypeId} {R:Value→aG→Prop} (G:cH P g)
  (ofx:bJ n fx=true) (ol:F' n L=true) (hfx:ev f fx=.func (.func g) #[b] #[]) (hL:L.map (ev f)=vs)
  (hc:Calls P g (b::vs).toArray w (cA R)) (h:∀v w',R v w'→K (cx f d v) w'):
  SO P n ops ⟨some d,.call {callee:=.value fx,args:=L.toArray,argTypes:=MC},ty,ps,af,none⟩ f w K:=by
 obtain⟨fn,c,hf,hb,hn⟩:=G
 subst hL
 exact SO.enter (g:=g) (args:=(b::L.map (ev f)).toArray) (w':=w) (by
  simp only[execOp,resolve,aoC,yR ol,aM ofx,hfx]
  simp[Deferred.ofValue,invoke,xZ hf hb hn]) (hc.mono fun e w' hr=>by
   obtain⟨v,rfl,hv⟩:=hr
   exact⟨v,rfl,h v w' hv⟩)
theorem bsB {len:Nat} {L:List (Nat×Operand)} {V:List (Nat×Value)} {cells:Array Value} (H:HI M0 w0 w l) (ol:F' n (L.map (·.2))=true) (hL:(L.map fun p=>(p.1,ev f p.2))=V)
  (hb:∀w,(Instr.buildSlice T len V.toArray).run P w=.ok (.slice (some ⟨w.heap.size,0,none⟩) len len) (w.alloc (.cells cells e)))
  (h:∀g w',Ext w w'→HI M0 w0 w' (box g cells e::l)→K (cx f d (.slice (some ⟨g,0,none⟩) len len)) w'):
  SO P n ops ⟨some d,.buildSlice T len L.toArray,ty,ps,af,none⟩ f w K:=by
 subst hL
 refine SO.value (v:=.slice (some ⟨w.heap.size,0,none⟩) len len) (w':=w.alloc (.cells cells e)) ?_<|h _ _ (Ext.alloc w _) ?_
 ·have he:(L.map fun p=>(p.1,(cw n f).eval p.2))=L.map fun p=>(p.1,ev f p.2):=by
   apply anK
   intro p hp
   rw[aM (amK.1 ol p.2 (anp.2 ⟨p,hp,rfl⟩))]
  simp only[execOp,aoC]
  have:=hb w
  rw[←he] at this
  simp[this]
 ·exact H.new (Ext.alloc w _) w.heap.size J (amD _) (by simp)<|heap_alloc_new w _
theorem NT {α:Type} [GT α] {B:Nat} {a:Option Addr} {k c:Nat} {xs:List α} {M:cb} (hO:(own B e (.slice a k c) xs).holds M w) (h:a.isNone=true):xs=[]:=by
 obtain⟨cs,h1,h2⟩:=hO
 rcases h1.2 with ⟨h3,h4⟩|⟨g,cap,cur,h3,h4⟩
 ·exact anC.1 h4
 ·cases h3;cases h
theorem Lx {g len c:Nat} {i:Int} (ox:bJ n x=true) (oy:bJ n y=true) (hx:ev f x=.slice (some ⟨g,0,none⟩) len c) (hy:ev f y=.int kk i) (k:Nat) (hi:i=((k:Nat):Int)) (hl:k<len) (hu:P.underlying T=some (.slice e)) (F:ey P e 1 agg bytes z)
  (h:K (cx f d (.pointer (some ⟨g,k,none⟩))) w):SO P n ops ⟨some d,.indexAddr T x y,ty,ps,af,none⟩ f w K:=by
 have lk:(⟨g,0,none⟩:Addr).add (k*1)=⟨g,k,none⟩:=by unfold Addr.add;split<;>simp_all
 refine SO.value (v:=.pointer (some ⟨g,k,none⟩)) ?_ h
 subst hi
 have hb:(0:Int)≤((k:Nat):Int)∧((k:Nat):Int)<(len:Int):=by omega
 simp only[execOp,aM ox,aM oy,hx,hy]
 simp[Instr.indexAt,asIntOf,gK hu,hb,F.jm]
 rw[amF hl,show (⟨g,0,none⟩:Addr).add k=⟨g,k,none⟩ by rw[←lk,aoJ]]
end
theorem bj.anyM {α:Type} [GT α] [Flat α] {M M':cb} {e:TypeId} {w w':aG} {v:Value} {xs:List α} (h:bj M e w xs v w'):bj M' e w xs v w':=by
 obtain⟨hx,hb,cs,h1,h2⟩:=h
 exact⟨hx,hb,cs,h1,bB.flat h2⟩
theorem Um {w:aG} {B B':Nat} {e:TypeId} {sz n:Nat} {cs:List Value} (h:w.ownsRow B e sz v n cs) (hB:B'≤B):w.ownsRow B' e sz v n cs:=by
 refine⟨h.1,?_⟩
 rcases h.2 with h2|⟨g,cap,cur,h1,h2,h3⟩
 ·exact .inl h2
 ·exact .inr ⟨g,cap,cur,h1,amP hB h2,h3⟩
theorem Ul {w w':aG} {B:Nat} {e:TypeId} {sz n:Nat} {cs:List Value} (h:w.ownsRow B e sz v n cs) (hb:∀b,v.ownBlock=some b→w'.heap[b]? =w.heap[b]?):w'.ownsRow B e sz v n cs:=by
 refine⟨h.1,?_⟩
 rcases h.2 with h2|⟨g,cap,cur,h1,h2,h3,h4⟩
 ·exact .inl h2
 ·exact .inr ⟨g,cap,cur,h1,h2,by rw[hb g (by rw[h1];rfl)];exact h3,h4⟩
theorem bj.base {α:Type} [GT α] {M:cb} {e:TypeId} {w w' w0:aG} {v:Value} {xs:List α} (h:bj M e w xs v w') (x:Ext w0 w):bj M e w0 xs v w':=by
 obtain⟨hx,hb,cs,h1,h2⟩:=h
 exact⟨x.trans hx,hb,cs,Um h1 x.size,h2⟩
theorem bj.Lr {α:Type} [GT α] [Flat α] {M:cb} {e:TypeId} {w w' w0:aG} {v:Value} {xs:List α} (h:bj M e w0 xs v w) (x:Ext w w'):bj M e w0 xs v w':=by
 obtain⟨hx,hb,cs,h1,h2⟩:=h
 exact⟨hx.trans x,fun b vk=>am8 (hb b vk) x.size,cs,Ul h1 fun b vk=>x.block b (hb b vk),bB.flat h2⟩
theorem bj.rvN {α:Type} [GT α] [Flat α] {M:cb} {e:TypeId} {w w' w0:aG} {v:Value} {xs:List α} (h:bj M e w xs v w') (x:Ext w0 w):RV (fun b=>b<w0.heap.size) w' v xs:=by
 obtain⟨hx,hb,cs,h1,h2⟩:=h
 have:bj (fun b=>b<w.heap.size) e w xs v w':=⟨hx,hb,cs,h1,bB.flat h2⟩
 exact(this.rv fun b hb=>hb).lift (Up.less fun b _ hb=>am8 hb x.size)
theorem KH {α:Type} [GT α] {M0:cb} {w0 zM w:aG} {l:List Item} {v:Value} {xs:List α} (h:RV (fun b=>b<w0.heap.size) w v xs) (H:HI M0 zM w0 l):RV (MS M0 l) w v xs:=h.lift (Up.less fun b _ hb=>H.mb b hb)
theorem aaG {α:Type} [GT α] {M0:cb} {w0 zM w:aG} {l:List Item} {v:Value} {xs:List α} (h:RV (fun b=>b<w0.heap.size) w v xs) (H:HI M0 zM w0 l):RV (fun b=>b<zM.heap.size) w v xs:=h.lift (Up.less fun b _ hb=>am8 hb H.below.size)
end Go.Ew
namespace Go.Ew
variable {aE:List aO}
theorem VL (aE:List aO):(C1 aE=none∧(∀k,nj aE k=false))∨∃j,j<aE.length∧C1 aE=some j∧nj aE j=true∧∀k,k<j→nj aE k=false:=by
 unfold C1
 cases h:(List.range aE.length).find? (nj aE) with
 |none=>
  left
  refine⟨J,fun k=>?_⟩
  rw[an5] at h
  by_cases hk:k<aE.length
  ·simpa using h k (amH.2 hk)
  ·unfold nj;rw[amQ aj];rfl
 |some j=>
  right
  rw[aoK] at h
  obtain⟨hb,as,bs,he,ha⟩:=h
  have hj:j<aE.length:=by
   have:j∈List.range aE.length:=by rw[he];simp
   exact amH.1 this
  have hlen:as.length=j:=by
   have h1:(List.range aE.length)[as.length]? =some j:=by rw[he];simp
   have h2:as.length<aE.length:=by
    have:=amz List.length he
    simp at this;omega
   rw[anL h2] at h1
   exact amE h1
  refine⟨j,hj,J,hb,fun k hk=>?_⟩
  have h1:(List.range aE.length)[k]? =as[k]?:=by rw[he,oY aj]
  rw[anL aj,eR aj] at h1
  have:=ha as[k]<|aoS _
  rw[←amE h1] at this
  simpa using this
theorem Tp (h:(da aE).2.2=0):C1 aE=none∧∀k,nj aE k=false:=by
 rcases VL aE with h1|⟨j,hj,hf,hb,hl⟩
 ·exact h1
 ·exfalso
  unfold da at h
  rw[hf] at h
  simp only[eR hj] at h
  split at h<;>simp at h
theorem OS (h:(da aE).2.2=0):(da aE).1=0∧(da aE).2.1=0:=by
 unfold da;rw[(Tp h).1];exact⟨rfl,rfl⟩
theorem Ns {aE:List aO} {j:Nat} {x:aO} (hx:aE[((j:Nat):Int).toNat]? =some x) (hw:x.2.2.1=true):0≤gx aE x.2.2.2.1 x.2.2.2.2∧gx aE x.2.2.2.1 x.2.2.2.2≤((j:Nat):Int):=by
 have hp:lK x.2.2.2.1 x.2.2.2.2 x=true:=by unfold lK;simp[hw]
 cases hf:(aE.take j).findIdx? (lK x.2.2.2.1 x.2.2.2.2) with
 |none=>have:=IL hx hp hf;unfold gx;rw[this];omega
 |some i=>
  have:=CD hf
  have hi:=(am3.1 hf).1
  rw[iu] at hi
  unfold gx;rw[this];omega
theorem V3 (h:(da aE).2.2=0) {j:Nat} {x:aO} (hx:aE[((j:Nat):Int).toNat]? =some x) (hw:x.2.2.1=true):x.2.2.2.2≠0∧gx aE x.2.2.2.1 x.2.2.2.2=((j:Nat):Int):=by
 have hb:=(Tp h).2 j
 rw[G3 hx] at hb
 unfold vY at hb
 rw[hw,anz,aoz,amN,amN] at hb
 have:=Ns hx hw
 omega
theorem O9 {aE:List aO} {v val:Int} (h:0≤gx aE v val):∃x,aE[(gx aE v val).toNat]? =some x∧lK v val x=true:=by
 unfold gx eO at h ⊢
 cases hf:aE.findIdx? (lK v val) with
 |none=>rw[hf] at h;simp at h
 |some i=>
  obtain⟨hi,hp, -⟩:=am3.1 hf
  exact⟨aE[i],by simp[hi],hp⟩
theorem Oj {v val:Int} {x:aO}:lK v val x=true↔x.2.2.1=true∧x.2.2.2.1=v∧x.2.2.2.2=val:=by unfold lK;simp[and_assoc]
end Go.Ew
namespace Go.Ew
variable {aE:List aO} {j:Nat} {x:aO} {m:KV}
def vn (aE:List aO) (x:aO):Int:=if x.2.2.1 then -3 else if x.2.2.2.2=0 then -1 else if 0≤gx aE x.2.2.2.1 x.2.2.2.2 then max (gx aE x.2.2.2.1 x.2.2.2.2) 0 else -2
def jP (aE:List aO):aA:=aE.map (vn aE)
def uQ (aE:List aO) (j:Nat):KV:=((aE.take j).zipIdx).foldl (fun m x=>if x.1.2.2.1 then jn m (x.1.2.2.2.1,x.1.2.2.2.2) ((x.2:Nat):Int) else m) []
def xS (m:KV) (x:aO):Int:=if x.2.2.1 then -3 else if x.2.2.2.2=0 then -1 else if (getM m (x.2.2.2.1,x.2.2.2.2)).isSome then (getM m (x.2.2.2.1,x.2.2.2.2)).getD 0 else -2
def gM (aE:List aO):aA:=aE.map (xS (uQ aE aE.length))
theorem zl (hx:aE[((j:Nat):Int).toNat]? =some x) (hw:x.2.2.1=true):jn (uQ aE j) (x.2.2.2.1,x.2.2.2.2) ((j:Nat):Int)=uQ aE (j+1):=by
 unfold uQ;rw[AB hx,aov];simp[hw]
theorem A7 (hx:aE[((j:Nat):Int).toNat]? =some x) (hw:x.2.2.1=false):uQ aE j=uQ aE (j+1):=by
 unfold uQ;rw[AB hx,aov];simp[hw]
def CW (m:KV) (aE:List aO) (j:Nat):aA:=(aE.take j).map (xS m)++List.replicate (aE.length-j) 0
theorem SX (m:KV) (aE:List aO):List.replicate aE.length 0=CW m aE 0:=by unfold CW;simp
theorem jT {v:Int} (hx:aE[((j:Nat):Int).toNat]? =some x) (hv:v=xS m x):(CW m aE j).set j v=CW m aE (j+1):=by
 have hj:j<aE.length:=by rw[dM] at hx;exact(dU.1 hx).1
 unfold CW
 have h1:aE.length-j=(aE.length-(j+1))+1:=by omega
 rw[nG hx,aoi,h1,anv,an0 _ _ (by simp;omega)]
 have h2:j-((aE.take j).map (xS m)).length=0:=by simp;omega
 rw[h2,aoH,hv]
 simp
theorem VI (h:aE.length≤j):CW m aE j=aE.map (xS m):=by
 unfold CW;rw[amL h,show aE.length-j=0 from by omega];simp
theorem JO (hw:x.2.2.1=true):(-3:Int)=xS m x:=by unfold xS;simp[hw]
theorem JR (hw:x.2.2.1=false) (h0:x.2.2.2.2=0):(-1:Int)=xS m x:=by unfold xS;simp[hw,h0]
theorem JP (hw:x.2.2.1=false) (h0:¬x.2.2.2.2=0) (hs:(getM m (x.2.2.2.1,x.2.2.2.2)).isSome=true):(getM m (x.2.2.2.1,x.2.2.2.2)).getD 0=xS m x:=by unfold xS;simp[hw,h0,hs]
theorem JQ (hw:x.2.2.1=false) (h0:¬x.2.2.2.2=0) (hs:(getM m (x.2.2.2.1,x.2.2.2.2)).isSome=false):(-2:Int)=xS m x:=by unfold xS;simp only[hw,h0,hs];rfl
theorem JS (hw:x.2.2.1=true):(-3:Int)=vn aE x:=by unfold vn;simp[hw]
theorem JV (hw:x.2.2.1=false) (h0:x.2.2.2.2=0):(-1:Int)=vn aE x:=by unfold vn;simp[hw,h0]
theorem JT (hw:x.2.2.1=false) (h0:¬x.2.2.2.2=0) (hs:decide (0≤gx aE x.2.2.2.1 x.2.2.2.2)=true):max (gx aE x.2.2.2.1 x.2.2.2.2) 0=vn aE x:=by unfold vn;simp only[hw,h0,am' hs];rfl
theorem JU (hw:x.2.2.1=false) (h0:¬x.2.2.2.2=0) (hs:decide (0≤gx aE x.2.2.2.1 x.2.2.2.2)=false):(-2:Int)=vn aE x:=by unfold vn;simp only[hw,h0,amG hs];rfl
theorem iG {v:Int} (hx:aE[((j:Nat):Int).toNat]? =some x) (hv:v=vn aE x):(aE.take j).map (vn aE)++[v]=(aE.take (j+1)).map (vn aE):=by
 rw[nG hx,aoi,hv];rfl
theorem Gm {aE:List aO} (h:(da aE).2.2=0):∀j,j≤aE.length→tO aE j (uQ aE j)
 |0,_=>GP aE
 |j+1,hj=>by
  have ih:=Gm h j aj
  have hx:aE[((j:Nat):Int).toNat]? =some aE[j]:=by rw[dM];exact eR aj
  cases hw:(aE[j]).2.2.1 with
  |false=>rw[←A7 hx hw];exact Er ih hx hw
  |true=>
   rw[←zl hx hw]
   refine GM ih hx hw ?_
   rw[ih]
   have hg:=(V3 h hx hw).2
   cases hf:(aE.take j).findIdx? (lK (aE[j]).2.2.2.1 (aE[j]).2.2.2.2) with
   |none=>simp[hf]
   |some i=>
    exfalso
    have h1:=CD hf
    have h2:=(am3.1 hf).1
    rw[iu] at h2
    unfold gx at hg
    omega
theorem ac1 {aE:List aO} (h:(da aE).2.2=0) (x:aO):xS (uQ aE aE.length) x=vn aE x:=by
 have hF:=Gm h aE.length (amD _) (x.2.2.2.1,x.2.2.2.2)
 rw[anA] at hF
 unfold xS vn gx eO
 rw[hF]
 dsimp only
 cases hf:aE.findIdx? (lK x.2.2.2.1 x.2.2.2.2) with
 |none=>simp
 |some i=>simp
theorem HH (h:(da aE).2.2=0):gM aE=jP aE:=by
 unfold gM jP
 exact anK fun x _=>ac1 h x
end Go.Ew
namespace Go.Ew
theorem SR (aE:List aO):(gM aE).length=aE.length:=by unfold gM;simp
theorem M_ {aE:List aO} {x:aO} {t:Int} (ht:t=vn aE x):(x.2.2.1==decide (t= -3))=true∧(t= -1→x.2.2.2.2=0)∧ -3≤t∧t<(aE.length:Int)∧
  (0≤t→∃y,aE[t.toNat]? =some y∧y.2.2.1=true∧y.2.2.2.1=x.2.2.2.1∧y.2.2.2.2=x.2.2.2.2∧x.2.2.2.2≠0)∧
  (t= -2→∀y∈aE,y.2.2.1=true→y.2.2.2.1=x.2.2.2.1→y.2.2.2.2≠x.2.2.2.2):=by
 have hr:=wJ (p:=lK x.2.2.2.1 x.2.2.2.2) (r:=aE)
 have eZ:0≤gx aE x.2.2.2.1 x.2.2.2.2→gx aE x.2.2.2.1 x.2.2.2.2<(aE.length:Int):=by
  intro h0
  obtain⟨y,hy, -⟩:=O9 h0
  have:=(dU.1 hy).1
  omega
 subst ht
 unfold vn
 by_cases hw:x.2.2.1=true
 ·simp only[hw,aod]
  refine⟨by simp,fun h=>aj,by omega,by omega,fun h=>aj,fun h=>aj⟩
 ·have Sc:x.2.2.1=false:=by simpa using hw
  simp only[Sc,apF,anu]
  by_cases h0:x.2.2.2.2=0
  ·simp only[h0,aod]
   refine⟨by simp,fun _=>(by first|trivial|rfl),by omega,by omega,fun h=>aj,fun h=>aj⟩
  ·simp only[h0,anu]
   by_cases hp:0≤gx aE x.2.2.2.1 x.2.2.2.2
   ·simp only[hp,aod]
    have hl:=eZ hp
    obtain⟨y,hy,hyp⟩:=O9 hp
    obtain⟨y1,y2,y3⟩:=Oj.1 hyp
    have e:max (gx aE x.2.2.2.1 x.2.2.2.2) 0=gx aE x.2.2.2.1 x.2.2.2.2:=by omega
    rw[e]
    refine⟨?_,fun h=>aj,by omega,hl,fun _=>⟨y,hy,y1,y2,y3,h0⟩,fun h=>aj⟩
    rw[amJ aj];rfl
   ·simp only[hp,anu]
    refine⟨J,fun h=>aj,by omega,by omega,fun h=>aj,fun _ y hy hyw hyv hyn=>?_⟩
    apply hp
    unfold gx eO
    cases hf:aE.findIdx? (lK x.2.2.2.1 x.2.2.2.2) with
    |none=>
     rw[aoy] at hf
     have:=hf y hy
     rw[Oj.2 ⟨hyw,hyv,hyn⟩] at this
     cases this
    |some i=>simp
end Go.Ew
namespace Go.Ew
variable {n:Nat} {i j:Int} {p:gU}
def gV (n:Nat) (p:Nat→Bool):Row:=(((List.range n).filter p).map fun k=>((k:Nat):Int)).foldl eo (eb ((n:Nat):Int))
theorem qt (n:Nat):words ((n:Nat):Int)=(n+63)/64:=by unfold words;omega
theorem jC (n:Nat) (p:Nat→Bool):(gV n p).length=words ((n:Nat):Int):=by unfold gV;rw[wu,pX]
theorem Ve (h0:0≤i) (h:i<((n:Nat):Int)):jr (eb ((n:Nat):Int)) i=true:=Lw h0 (by rw[pX,qt];omega)
theorem iQ (n:Nat) (p:Nat→Bool) (i:Int):fm (gV n p) i=(decide (0≤i)&&decide (i<((n:Nat):Int))&&p i.toNat):=by
 unfold gV
 rw[An,E',aot,amU]
 simp only[anc,anp,amW,amH,eW,amB]
 constructor
 ·rintro⟨z,⟨k,⟨hk,hp⟩,rfl⟩,rfl, -⟩
  exact⟨⟨by omega,by omega⟩,by simpa using hp⟩
 ·rintro⟨⟨h0,h1⟩,hp⟩
  exact⟨i,⟨i.toNat,⟨by omega,hp⟩,by omega⟩,J,Ve h0 h1⟩
theorem zP {r:Row} {p:Nat→Bool} (hl:r.length=words ((n:Nat):Int)) (h:∀k:Nat,fm r ((k:Nat):Int)=(decide (k<n)&&p k)):r=gV n p:=by
 refine YS (by rw[hl,jC]) fun k=>?_
 rw[h,iQ]
 simp
theorem kH {p q:Nat→Bool} (h:∀k,k<n→p k=q k):gV n p=gV n q:=
 zP (jC n p) fun k=>by
  rw[iQ]
  by_cases hk:k<n
  ·simp[hk,h k hk]
  ·simp[hk]
theorem Cw (n:Nat):eb ((n:Nat):Int)=gV n fun _=>false:=zP (pX _) fun k=>by rw[E'];simp
theorem uW {p:Nat→Bool} (h0:0≤j) (h1:j<((n:Nat):Int)):eo (gV n p) j=gV n fun k=>p k||decide (k=j.toNat):=by
 refine zP (by rw[kF,jC]) fun k=>?_
 rw[CR,iQ]
 have sJ:jr (gV n p) j=true:=Lw h0<|by rw[jC,qt];omega
 rw[sJ,apg,amU]
 simp only[amM,eW,amB,dM]
 constructor
 ·rintro(⟨⟨h2,h3⟩,h4⟩|h2)
  ·exact⟨by omega,.inl h4⟩
  ·exact⟨by omega,.inr aj⟩
 ·rintro⟨h2,h3|h3⟩
  ·exact .inl ⟨⟨by omega,by omega⟩,h3⟩
  ·exact .inr aj
def cJ (n:Nat) (p:gU):Rows:=(List.range n).map fun i=>gV n (p i)
theorem lY (n:Nat) (p:gU):(cJ n p).length=n:=by unfold cJ;simp
theorem mK {n:Nat} {p:gU} {i:Nat} {x:Row} (h:(cJ n p)[i]? =some x):i<n∧x=gV n (p i):=by
 unfold cJ at h
 rw[amS] at h
 cases hr:(List.range n)[i]? with
 |none=>rw[hr] at h;cases h
 |some k=>
  rw[hr] at h
  obtain⟨h1,h2⟩:=dU.1 hr
  simp at h1 h2
  subst h2
  exact⟨h1,(amE h).symm⟩
theorem sl {i:Nat} (h:i<n):(cJ n p)[i]? =some (gV n (p i)):=by
 unfold cJ;rw[amS,anL h];rfl
theorem Cx {rs:Rows} (hl:rs.length=n) (h:∀i,i<n→rs[i]? =some (gV n (p i))):rs=cJ n p:=by
 apply ana
 intro i
 by_cases hi:i<n
 ·rw[h i hi,sl hi]
 ·rw[amQ aj,amQ (by rw[lY];omega)]
theorem dJ {q:gU} (h:∀i j,i<n→j<n→p i j=q i j):cJ n p=cJ n q:=
 Cx (lY n p) fun i hi=>by rw[sl hi,kH fun j hj=>h i j hi hj]
theorem yC (n:Nat):vR ((n:Nat):Int)=cJ n fun _ _=>false:=by
 refine Cx (by rw[pY];simp) fun i hi=>?_
 unfold vR
 rw[aom,amF (by simpa using hi),Cw]
theorem xE {i:Nat} {q:Nat→Bool}:(cJ n p).set i (gV n q)=cJ n fun a b=>if a=i then q b else p a b:=by
 refine Cx (by rw[amA,lY]) fun k hk=>?_
 rw[anW]
 by_cases e:i=k
 ·subst e
  rw[amF rfl,amF (by rw[lY];exact hk)]
  congr 1
  exact kH fun j _=>by simp
 ·rw[amI e,sl hk]
  congr 1
  exact kH fun j _=>by rw[amI fun e2=>e e2.symm]
theorem tc (h0:0≤i) (h:i<((n:Nat):Int)):rowAt (cJ n p) i=gV n (p i.toNat):=si (sl aj)
theorem Ca (hi:kA ((n:Nat):Int) [i,j]=true):rz (cJ n p) (i,j)=cJ n fun a b=>p a b||(decide (a=i.toNat)&&decide (b=j.toNat)):=by
 obtain⟨⟨h1,h2⟩,h3,h4⟩:=jg.1 hi
 unfold rz
 dsimp only
 rw[tc h1 h2,uW h3 h4,xE]
 refine dJ fun a b ha hb=>?_
 by_cases e:a=i.toNat
 ·subst e;simp
 ·simp[e]
theorem IY {n:Nat} {p:gU} {i j:Int}:eL ((n:Nat):Int) (cJ n p) i j=(kA ((n:Nat):Int) [i,j]&&p i.toNat j.toNat):=by
 unfold eL
 cases h:kA ((n:Nat):Int) [i,j] with
 |false=>rfl
 |true=>
  obtain⟨⟨h1,h2⟩,h3,h4⟩:=jg.1 h
  rw[tc h1 h2,iQ,amC h3,amC h4];rfl
theorem Pm (hi:kA ((n:Nat):Int) [i,j]=true):j5 ((n:Nat):Int) (cJ n p) i j=cJ n fun a b=>p a b||(decide (a=i.toNat)&&decide (b=j.toNat)):=by
 rw[(pU hi).2.1,Ca hi]
theorem Zs {i j:Nat}:kA ((n:Nat):Int) [((i:Nat):Int),((j:Nat):Int)]=(decide (i<n)&&decide (j<n)):=by
 rw[aby,amU]
 simp only[eW,amB]
 omega
theorem uH {i j:Nat} (hi:i<n) (hj:j<n):eL ((n:Nat):Int) (cJ n p) ((i:Nat):Int) ((j:Nat):Int)=p i j:=by
 rw[IY,Zs];simp[hi,hj]
theorem R1:∀x∈cJ n p,x.length=words ((n:Nat):Int):=by
 intro x hx
 obtain⟨i,hi⟩:=amT.1 hx
 rw[(mK hi).2,jC]
theorem A3 (h:n≤4096):∀x∈cJ n p,x.length≤1000000000:=by
 intro x hx
 rw[R1 x hx,qt];omega
end Go.Ew
namespace Go.Ew
variable {aE:List aO} {i t:Int} {x:aO}
abbrev A_:aO:=(0,0,false,0,0)
def ku (aE:List aO) (i:Nat):Int:=(aE.getD i A_).1
def lh (aE:List aO) (i:Nat):Int:=(aE.getD i A_).2.1
theorem IJ (h:aE[i.toNat]? =some x):aE.getD i.toNat A_=x:=by rw[im,h];rfl
theorem gJ (h:aE[i.toNat]? =some x):ku aE i.toNat=x.1:=by unfold ku;rw[IJ h]
theorem Hr (h:aE[i.toNat]? =some x):lh aE i.toNat=x.2.1:=by unfold lh;rw[IJ h]
structure hG (aE:List aO):Prop where
 first:0<aE.length→lh aE 0=0
 next:∀i,i+1<aE.length→(ku aE (i+1)=ku aE i∧lh aE (i+1)=lh aE i+1)∨(ku aE i<ku aE (i+1)∧lh aE (i+1)=0)
section
variable {aE:List aO} (o:hG aE)
include o
theorem hG.le:∀(d i:Nat),i+d<aE.length→ku aE i≤ku aE (i+d)
 |0,i,h=>aof _
 |d+1,i,h=>by
  have h1:=hG.le d i aj
  have h2:=o.next (i+d) aj
  rw[show i+(d+1)=i+d+1 from rfl];omega
theorem hG.mono {i j:Nat} (Gy:i≤j) (h:j<aE.length):ku aE i≤ku aE j:=by
 have:=o.le (j-i) i aj
 rwa [show i+(j-i)=j from by omega] at this
theorem hG.place:∀(d i:Nat),i+d<aE.length→ku aE i=ku aE (i+d)→lh aE (i+d)=lh aE i+((d:Nat):Int)
 |0,i,h,_=>by simp
 |d+1,i,h,hs=>by
  have h1:=o.mono (i:=i) (j:=i+d) aj aj
  have h2:=o.mono (i:=i+d) (j:=i+(d+1)) aj h
  have h3:=o.next (i+d) aj
  have e:i+(d+1)=i+d+1:=rfl
  rw[e] at hs h2 ⊢
  have ih:=hG.place d i aj aj
  omega
theorem hG.z7:∀i,i<aE.length→0≤lh aE i
 |0,h=>by rw[o.first h];exact aof _
 |i+1,h=>by
  have:=hG.z7 i aj
  have:=o.next i h
  omega
theorem hG.back:∀i,i<aE.length→lh aE i≤((i:Nat):Int)∧∀k,((i:Nat):Int)-lh aE i≤((k:Nat):Int)→k≤i→ku aE k=ku aE i
 |0,h=>by
  rw[o.first h]
  exact⟨by omega,fun k _ hk=>by rw[show k=0 from by omega]⟩
 |i+1,h=>by
  obtain⟨h1,h2⟩:=hG.back i aj
  have h0:=o.z7 (i+1) h
  rcases o.next i h with ⟨hs,hp⟩|⟨hs,hp⟩
  ·refine⟨by omega,fun k hk Ah=>?_⟩
   by_cases e:k=i+1
   ·rw[e]
   ·rw[hs];exact h2 k aj aj
  ·refine⟨by omega,fun k hk Ah=>?_⟩
   rw[show k=i+1 from by omega]
theorem hG.ahead {i j:Nat} (hi:i<aE.length) (hj:j<aE.length) (hs:ku aE i=ku aE j):(lh aE i<lh aE j↔i<j):=by
 rcases Nat.le_total i j with h|h
 ·have:=o.place (j-i) i aj<|by rw[show i+(j-i)=j from by omega];exact hs
  rw[show i+(j-i)=j from by omega] at this
  omega
 ·have:=o.place (i-j) j aj<|by rw[show j+(i-j)=i from by omega];exact hs.symm
  rw[show j+(i-j)=i from by omega] at this
  omega
end
theorem UK (o:hG aE) (h0:aE.length=0→x.2.1=0) (h:∀n,aE.length=n+1→(x.1=ku aE n∧x.2.1=lh aE n+1)∨(ku aE n<x.1∧x.2.1=0)):hG (aE++[x]):=by
 have hold:∀i,i<aE.length→(aE++[x]).getD i A_=aE.getD i A_:=by
  intro i hi
  rw[im,im,oY hi]
 have Fm:(aE++[x]).getD aE.length A_=x:=by
  rw[im,oB (amD _)];simp
 refine⟨fun hl=>?_,fun i hi=>?_⟩
 ·by_cases e:aE.length=0
  ·have:=Fm
   rw[e] at this
   unfold lh;rw[this];exact h0 e
  ·have:=o.first aj
   unfold lh at this ⊢
   rw[hold 0 aj];exact this
 ·rw[fN,aor] at hi
  by_cases e:i+1<aE.length
  ·have:=o.next i e
   unfold ku lh at this ⊢
   rw[hold i aj,hold (i+1) e];exact this
  ·have e2:aE.length=i+1:=by omega
   have:=h i e2
   unfold ku lh at this ⊢
   rw[hold i aj,←e2,Fm]
   rcases this with ⟨a,b⟩|⟨a,b⟩
   ·exact .inl ⟨a,b⟩
   ·exact .inr ⟨a,b⟩
def MU (aE:List aO) (j:Nat):Prop:=∀x∈aE,x.1<((j:Nat):Int)
theorem U9 {n:Nat} (h:aE.length=n+1):aE.getD n A_∈aE:=by
 rw[im,eR aj]
 exact aoS _
theorem Ny {j:Nat} {st:za} {ops:List jS} (o:hG st.2) (hb:MU st.2 j):∀k,k≤ops.length→
  hG (jI j st ops k).2∧MU (jI j st ops k).2 (j+1)∧(0<k→∃n,(jI j st ops k).2.length=n+1∧ku (jI j st ops k).2 n=((j:Nat):Int)∧lh (jI j st ops k).2 n=((k:Nat):Int)-1)
 |0,_=>by
  rw[AI]
  exact⟨o,fun x hx=>by have:=hb x hx;omega,fun h=>aj⟩
 |k+1,hk=>by
  obtain⟨ho,BN,Xu⟩:=Ny (ops:=ops) o hb k aj
  have hx:ops[((k:Nat):Int).toNat]? =some ops[k]:=by rw[dM];exact eR aj
  rw[xl hx]
  unfold uP
  dsimp only
  refine⟨UK ho (fun h0=>?_) (fun n hn=>?_),?_,fun _=>⟨(jI j st ops k).2.length,by simp,?_,?_⟩⟩
  ·show ((k:Nat):Int)=0
   by_cases cK:0<k
   ·obtain⟨n,h1, -⟩:=Xu cK
    omega
   ·omega
  ·show (((j:Nat):Int)=_∧((k:Nat):Int)=_)∨(_<((j:Nat):Int)∧((k:Nat):Int)=0)
   by_cases cK:0<k
   ·obtain⟨n',h1,h2,h3⟩:=Xu cK
    obtain rfl:n=n':=by omega
    exact .inl ⟨h2.symm,by rw[h3];omega⟩
   ·right
    have cK:k=0:=by omega
    subst cK
    rw[AI] at hn ⊢
    exact⟨hb _ (U9 hn),J⟩
  ·intro x hxm
   rcases am1.1 hxm with h|h
   ·exact BN x h
   ·rw[anS] at h
    subst h
    show ((j:Nat):Int)<_
    omega
  ·unfold ku
   rw[im,oB (amD _)];simp
  ·unfold lh
   rw[im,oB (amD _)]
   simp
theorem MF (h:dR):∀j,j≤h.length→hG (iy h j).2∧MU (iy h j).2 j
 |0,_=>⟨⟨fun h=>(by simp[iy] at h),fun i hi=>(by simp[iy] at hi)⟩,fun x hx=>(by simp[iy] at hx)⟩
 |j+1,hj=>by
  obtain⟨ho,hb⟩:=MF h j aj
  have hx:h[((j:Nat):Int).toNat]? =some h[j]:=by rw[dM];exact eR aj
  rw[yY hx]
  have:=Ny (ops:=h[j]) ho hb _<|amD _
  exact⟨this.1,this.2.1⟩
theorem S7 (h:dR):hG (wN h):=(MF h h.length (amD _)).1
theorem N3 (h:dR):hG (cX h):=by
 unfold cX;split
 ·exact S7 h
 ·exact⟨fun h=>(by simp at h),fun i hi=>(by simp at hi)⟩
def G7 (aE:List aO) (i j:Nat):Bool:=decide (i<j)&&decide (j<aE.length)&&decide (ku aE i=ku aE j)
def oN (aE:List aO):Rows:=cJ aE.length (G7 aE)
def zh (aE:List aO) (t:Int):Rows:=cJ aE.length fun a b=>decide (t<((a:Nat):Int))&&G7 aE a b
theorem PF (aE:List aO) (t:Int) (h:(aE.length:Int)-2=t):vR (aE.length:Int)=zh aE t:=by
 rw[yC]
 refine dJ fun a b ha hb=>?_
 unfold G7
 rw[amU]
 simp only[eW,amB,apF,false_iff]
 omega
theorem Uw (h:t<0):zh aE t=oN aE:=by
 refine dJ fun a b ha hb=>?_
 rw[amC aj];rfl
theorem kT (h0:0≤t) (h1:t+1<(aE.length:Int)) (hs:ku aE t.toNat=ku aE (t+1).toNat) {x:Row} (hx:(zh aE t)[(t+1).toNat]? =some x):
  (zh aE t).set t.toNat (eo x (t+1))=zh aE (t-1):=by
 unfold zh at *
 obtain⟨h2,rfl⟩:=mK hx
 rw[uW aj h1,xE]
 refine dJ fun a b ha hb=>?_
 have e:(t+1).toNat=t.toNat+1:=by omega
 rw[e] at hs ⊢
 by_cases ea:a=t.toNat
 ·subst ea
  rw[amF rfl]
  unfold G7
  rw[amU]
  simp only[eW,amM,amB]
  constructor
  ·rintro(⟨_,⟨h3,h4⟩,h5⟩|h3)
   ·exact⟨by omega,⟨by omega,h4⟩,by rw[hs,h5]⟩
   ·subst h3;exact⟨by omega,⟨by omega,by omega⟩,hs⟩
  ·rintro⟨_,⟨h3,h4⟩,h5⟩
   by_cases e2:b=t.toNat+1
   ·exact .inr e2
   ·exact .inl ⟨by omega,⟨by omega,h4⟩,by rw[←hs,h5]⟩
 ·rw[amI ea,show decide (t<((a:Nat):Int))=decide (t-1<((a:Nat):Int)) from by rw[anT];omega]
theorem F7 (o:hG aE) (h0:0≤t) (h1:t+1<(aE.length:Int)) (hs:¬ku aE t.toNat=ku aE (t+1).toNat):zh aE t=zh aE (t-1):=by
 refine dJ fun a b ha hb=>?_
 have e:(t+1).toNat=t.toNat+1:=by omega
 rw[e] at hs
 by_cases ea:a=t.toNat
 ·subst ea
  rw[amJ aj,apz]
  symm
  unfold G7
  rw[apl]
  right
  rw[apl]
  by_cases wq:t.toNat<b
  ·right
   rw[amN]
   intro he
   have g1:=o.mono (i:=t.toNat) (j:=t.toNat+1) aj aj
   have g2:=o.mono (i:=t.toNat+1) (j:=b) aj aj
   omega
  ·left
   rw[amJ aj];rfl
 ·rw[show decide (t<((a:Nat):Int))=decide (t-1<((a:Nat):Int)) from by rw[anT];omega]
def cF (aE:List aO) (t:Int):aA:=if 0≤t∧t<(aE.length:Int) then (List.range ((lh aE t.toNat).toNat+1)).map fun q=>(t-lh aE t.toNat)+((q:Nat):Int) else []
def u3 (f:Int) (q:Nat):aA:=(List.range q).map fun k=>f+((k:Nat):Int)
theorem Nb (f:Int) (q:Nat):u3 f q++[f+((q:Nat):Int)]=u3 f (q+1):=by unfold u3;rw[aoa,aoi];rfl
theorem PI (f:Int) (q:Nat):(u3 f q).length=q:=by unfold u3;simp
theorem E7 (h:¬(0≤t∧t<(aE.length:Int))):([]:aA)=cF aE t:=by unfold cF;rw[amI h]
theorem RE {q:Nat} (h0:0≤t) (h:t<(aE.length:Int)) (hx:aE[t.toNat]? =some x) (hp:0≤x.2.1) (hq:((q:Nat):Int)=x.2.1+1):u3 (t-x.2.1) q=cF aE t:=by
 unfold cF u3
 rw[amF ⟨h0,h⟩,Hr hx,show x.2.1.toNat+1=q from by omega]
theorem YX (aE:List aO):(oN aE).length=aE.length:=lY _ _
theorem Uv {i:Nat} {x:Row} (h:(zh aE t)[i]? =some x):x.length=words ((aE.length:Nat):Int):=by rw[(mK h).2,jC]
theorem MW {n:Nat} (h:n≤4096):words ((n:Nat):Int)≤64:=by rw[qt];omega
end Go.Ew
namespace Go.Ew
variable {rs:Rows} {j n i:Nat} {p:gU} {x:Row}
def Dz (n:Int) (r:Row):Bool:=decide (((r.length:Nat):Int)=((words n:Nat):Int))&&(List.range (64*r.length)).all fun k=>decide (((k:Nat):Int)<n)||!fm r ((k:Nat):Int)
def bI (n:Int) (rs:Rows):Bool:=Cu n&&decide (((rs.length:Nat):Int)=n)&&rs.all (Dz n)
theorem Rn {n:Int} {r:Row} {j:Int} (hl:((r.length:Nat):Int)=((words n:Nat):Int)) (h:∀k:Int,n≤k→k<j→fm r k=false) (hj:64*((r.length:Nat):Int)≤j):Dz n r=true:=by
 unfold Dz
 rw[amC hl,anz,amK]
 intro k hk
 have:=amH.1 hk
 by_cases hn:((k:Nat):Int)<n
 ·rw[amC hn];rfl
 ·rw[h _ aj aj];simp
theorem Pw {n:Int} (h0:0≤n) (h1:n≤4096) (h2:((rs.length:Nat):Int)=n) (hs:(rs.take j).all (Dz n)=true) (hj:rs.length≤j):true=bI n rs:=by
 unfold bI;rw[mO hj] at hs;rw[sE.2 ⟨h0,h1⟩,amC h2,hs];rfl
theorem lC (h:n≤4096):bI ((n:Nat):Int) (cJ n p)=true:=by
 refine(Pw (j:=(cJ n p).length) aj aj (by rw[lY]) ?_<|amD _).symm
 rw[anA,amK]
 intro x hx
 obtain⟨i,hi⟩:=amT.1 hx
 obtain⟨h1,rfl⟩:=mK hi
 refine Rn (j:=64*(((gV n<|p i).length:Nat):Int)) (by rw[jC]) (fun k hk Ai=>?_)<|aof _
 rw[iQ,amJ (show ¬k<((n:Nat):Int) from by omega)];simp
def cW (n:Int) (rs:Rows):Option Nat:=(List.range n.toNat).find? fun i=>eL n rs ((i:Nat):Int) ((i:Nat):Int)
theorem VJ {p:Nat→Bool} (hj:j<n) (hp:p j=true) (hl:∀k,k<j→p k=false):(List.range n).find? p=some j:=by
 rw[aoK]
 refine⟨hp,List.range j,(List.range<|n-j-1).map (fun i=>j+1+i),?_,fun a ha=>by rw[hl a (amH.1 ha)];rfl⟩
 have:n=j+(1+(n-j-1)):=by omega
 conv=>lhs;rw[this]
 rw[nI,nI]
 simp[apf]
theorem S3 {p:Nat→Bool} (hj:n≤j) (hl:∀k,k<j→p k=false):(List.range n).find? p=none:=by
 rw[an5]
 intro k hk
 rw[hl k (by have:=amH.1 hk;omega)];simp
theorem Li {n:Int} (hj:((j:Nat):Int)<n) (hp:eL n rs ((j:Nat):Int) ((j:Nat):Int)=true) (hl:∀k,k<j→eL n rs ((k:Nat):Int) ((k:Nat):Int)=false):cW n rs=some j:=VJ aj hp hl
theorem IE {n:Int} (hj:n≤((j:Nat):Int)) (hl:∀k,k<j→eL n rs ((k:Nat):Int) ((k:Nat):Int)=false):cW n rs=none:=S3 aj hl
theorem QK {p:Nat→Bool} (hl:∀k,k<j→p k=false) (h:p j=false):∀k,k<j+1→p k=false:=by
 intro k hk
 rcases aog.1 hk with h1|rfl
 ·exact hl k h1
 ·exact h
def yo (rs:Rows) (i:Nat):List (Int×Int):=(de (rowAt rs ((i:Nat):Int))).map fun j=>(((i:Nat):Int),j)
def lj (rs:Rows) (i:Nat):List (Int×Int):=(List.range i).flatMap (yo rs)
def iO (n:Int) (rs:Rows):List (Int×Int):=lj rs n.toNat
theorem Cp (rs:Rows) (i:Nat):lj rs (i+1)=lj rs i++yo rs i:=by unfold lj;rw[aoa,aon];simp
theorem Gi (n:Nat) (q:Nat→Bool):de (gV n q)=((List.range n).filter q).map fun k=>((k:Nat):Int):=by
 rw[←R3]
 unfold JF
 congr 1
 have hl:=jC n q
 rw[qt] at hl
 have e:64*(gV n q).length=n+(64*(gV n q).length-n):=by omega
 rw[e,nI,anH]
 have e2:((List.range (64*(gV n q).length-n)).map fun i=>n+i).filter (fun k=>fm (gV n q) ((k:Nat):Int))=[]:=by
  rw[anJ]
  intro k hk
  obtain⟨i, -,rfl⟩:=anp.1 hk
  rw[iQ,amJ (show ¬(((n+i:Nat):Nat):Int)<((n:Nat):Int) from by omega)];simp
 rw[e2,anR]
 apply aoM
 intro k hk
 have:=amH.1 hk
 rw[iQ]
 simp[this]
theorem AS (h:i<n):yo (cJ n p) i=((List.range n).filter (p i)).map fun j=>(((i:Nat):Int),((j:Nat):Int)):=by
 unfold yo
 rw[tc aj aj,dM,Gi,List.map_map];rfl
theorem yD {z:Int×Int}:z∈iO ((n:Nat):Int) (cJ n p)↔∃a b,a<n∧b<n∧p a b=true∧z=(((a:Nat):Int),((b:Nat):Int)):=by
 unfold iO lj
 rw[apP]
 constructor
 ·rintro⟨a,ha,hz⟩
  have ha:=amH.1 ha
  rw[dM] at ha
  rw[AS ha] at hz
  obtain⟨b,hb,rfl⟩:=anp.1 hz
  rw[amW,amH] at hb
  exact⟨a,b,ha,hb.1,hb.2,J⟩
 ·rintro⟨a,b,ha,hb,hp,rfl⟩
  refine⟨a,amH.2 (by simpa using ha),?_⟩
  rw[AS ha]
  exact anp.2 ⟨b,amW.2 ⟨amH.2 hb,hp⟩,J⟩
def KP (n:Nat) (p:gU):Nat:=((List.range n).map fun a=>((List.range n).filter (p a)).length).sum
theorem RH:(iO ((n:Nat):Int) (cJ n p)).length=KP n p:=by
 unfold iO lj KP
 rw[List.length_flatMap,dM]
 congr 1
 apply anK
 intro a ha
 rw[AS (amH.1 ha),ane]
theorem Nc {n:Nat} {p:gU}:(iO ((n:Nat):Int) (cJ n p)).length≤n*n:=by
 rw[RH];unfold KP
 have:∀l:List Nat,(l.map fun a=>((List.range n).filter (p a)).length).sum≤l.length*n:=by
  intro l
  induction l with
  |nil=>simp
  |cons a l ih=>
   have h1:=anB (p a)<|List.range n
   rw[aoL] at h1
   simp only[am_,List.sum_cons,iB,ant,Nat.one_mul];omega
 have h:=this<|List.range n
 rwa [aoL] at h
theorem Rk {rs:Rows} (hr:∀x∈rs,x.length≤64) (i:Nat):(yo rs i).length≤4096:=by
 unfold yo
 rw[ane]
 have h1:=mT<|rowAt rs ((i:Nat):Int)
 have:(rowAt rs ((i:Nat):Int)).length≤64:=by
  unfold rowAt
  rw[im]
  cases h:rs[((i:Nat):Int).toNat]? with
  |none=>simp
  |some x=>exact hr x (dN h)
 omega
theorem Ec {rs:Rows} (hr:∀x∈rs,x.length≤64):∀i,(lj rs i).length≤4096*i
 |0=>by simp[lj]
 |i+1=>by
  have:=Ec hr i
  have:=Rk hr i
  rw[Cp,fN];omega
theorem Uk (hx:rs[((i:Nat):Int).toNat]? =some x):yo rs i=(de x).map fun j=>(((i:Nat):Int),j):=by unfold yo;rw[si hx]
theorem RJ {q:Nat} {y:Int} (hy:(de x)[((q:Nat):Int).toNat]? =some y):(lj rs i++((de x).take q).map fun j=>(((i:Nat):Int),j))++[(((i:Nat):Int),y)]=lj rs i++((de x).take (q+1)).map fun j=>(((i:Nat):Int),j):=by
 rw[nG hy,aoi,anb];rfl
theorem UI {q:Nat} (hx:rs[((i:Nat):Int).toNat]? =some x) (hq:(de x).length≤q):(lj rs i++((de x).take q).map fun j=>(((i:Nat):Int),j))=lj rs (i+1):=by
 rw[mO hq,Cp,Uk hx]
theorem RI {n:Int} (h:n≤((i:Nat):Int)) (hi:((i:Nat):Int)≤n∨i=0):lj rs i=iO n rs:=by
 unfold iO;rw[show n.toNat=i from by omega]
theorem RF {aE:List aO} (o:hG aE) {t:Int} (h0:0≤t) (h:t<(aE.length:Int)):(((cF aE t).length:Nat):Int)=lh aE t.toNat+1:=by
 have:=o.z7 t.toNat aj
 unfold cF;rw[amF ⟨h0,h⟩];simp;omega
theorem YY {aE:List aO} (o:hG aE) {t:Int} (h0:0≤t) (h:t<(aE.length:Int)) {q:Nat} {x:Int} (hx:(cF aE t)[q]? =some x):0≤x∧x≤t∧x<(aE.length:Int)∧ku aE x.toNat=ku aE t.toNat∧lh aE x.toNat=((q:Nat):Int)∧x=t-lh aE t.toNat+((q:Nat):Int):=by
 obtain⟨b1,b2⟩:=o.back t.toNat aj
 have b0:=o.z7 t.toNat aj
 unfold cF at hx
 rw[amF ⟨h0,h⟩,amS] at hx
 cases hr:(List.range ((lh aE t.toNat).toNat+1))[q]? with
 |none=>rw[hr] at hx;cases hx
 |some k=>
  rw[hr] at hx
  obtain⟨h1,h2⟩:=dU.1 hr
  simp only[aoL] at h1
  rw[ao5] at h2
  subst h2
  have hx:(t-lh aE t.toNat)+((q:Nat):Int)=x:=amE hx
  have hs:=b2 x.toNat aj aj
  refine⟨by omega,by omega,by omega,hs,?_,hx.symm⟩
  have:=o.place (t.toNat-x.toNat) x.toNat aj<|by rw[show x.toNat+(t.toNat-x.toNat)=t.toNat from by omega];exact hs
  rw[show x.toNat+(t.toNat-x.toNat)=t.toNat from by omega] at this
  omega
theorem Zf (h:n≤4096):∀x∈cJ n p,x.length≤64:=by
 intro x hx
 obtain⟨i,hi⟩:=apr hx
 obtain⟨-,rfl⟩:=mK hi
 have h1:=jC n<|p i
 have:=EO (n:=((n:Nat):Int)) aj
 omega
end Go.Ew
namespace Go.Ew
variable {n:Nat}
theorem Un {r:Row} (h:Dz ((n:Nat):Int) r=true):r=gV n fun k=>fm r ((k:Nat):Int):=by
 unfold Dz at h
 rw[eW,amB,amK] at h
 refine zP aj fun k=>?_
 by_cases hk:k<n
 ·simp[hk]
 ·rw[amJ hk,apz]
  by_cases h2:k<64*r.length
  ·have:=h.2 k<|amH.2 h2
   rw[amJ (show ¬((k:Nat):Int)<((n:Nat):Int) from by omega),aot] at this
   simpa using this
  ·exact(xN<|by unfold jr;exact amJ aj).symm
theorem lW {n:Int} {rs:Rows} (h:bI n rs=true):∃(m:Nat) (p:gU),n=((m:Nat):Int)∧m≤4096∧rs=cJ m p:=by
 unfold bI at h
 rw[eW,eW,amB,amK] at h
 obtain⟨⟨h1,h2⟩,h3⟩:=h
 have h1:=sE.1 h1
 refine⟨n.toNat,fun i j=>fm (rs.getD i []) ((j:Nat):Int),by omega,by omega,Cx aj fun i hi=>?_⟩
 have hx:rs[i]? =some rs[i]:=eR aj
 have e:rs.getD i []=rs[i]:=by rw[im,hx];rfl
 rw[hx,e]
 have:=Un (n:=n.toNat) (r:=rs[i])<|by rw[show ((n.toNat:Nat):Int)=n from by omega];exact h3 _ (aoS _)
 rw[←this]
theorem bR {n:Int} {rs:Rows} (h:bI n rs=true):((rs.length:Nat):Int)=n∧(∀x∈rs,x.length≤1000000000)∧n≤4096∧0≤n∧∀x∈rs,x.length≤64:=by
 obtain⟨m,p,rfl,hm,rfl⟩:=lW h
 exact⟨by rw[lY],A3 hm,by omega,by omega,Zf hm⟩
def vO (a b:Rows) (n:Nat):Rows:=(List.range n).map fun i=>jJ (rowAt a ((i:Nat):Int)) (rowAt b ((i:Nat):Int))
theorem K3 (a b:Rows) (n:Nat):(vO a b n).length=n:=by unfold vO;simp
theorem RN (a b:Rows) (n:Nat):vO a b (n+1)=vO a b n++[jJ (rowAt a ((n:Nat):Int)) (rowAt b ((n:Nat):Int))]:=by unfold vO;rw[aoa,aoi];rfl
def tk (an bn:Int):Int:=if an=bn then an else 0
def lX (an:Int) (ar:Rows) (bn:Int) (br:Rows):Rows:=if an=bn then vO ar br an.toNat else []
def xB (an bn:Int):Int:=if an=bn then 0 else 1
theorem K5 {an bn:Int} {ar br:Rows} (h:¬an=bn):tk an bn=0∧lX an ar bn br=[]∧xB an bn=1:=by unfold tk lX xB;simp[h]
theorem zW {an bn:Int} {ar br:Rows} (h:an=bn):tk an bn=an∧lX an ar bn br=vO ar br an.toNat∧xB an bn=0:=by unfold tk lX xB;simp[h]
def u5 (a b:Rows) (n j:Nat):Rows:=vO a b j++List.replicate (n-j) []
theorem Nh (a b:Rows) (n:Nat):List.replicate n []=u5 a b n 0:=by unfold u5 vO;simp
theorem PJ {a b:Rows} {j:Nat} {x y:Row} (hj:j<n) (hx:a[((j:Nat):Int).toNat]? =some x) (hy:b[((j:Nat):Int).toNat]? =some y):(u5 a b n j).set j (jJ x y)=u5 a b n (j+1):=by
 unfold u5
 rw[RN,si hx,si hy]
 have hl:=K3 a b j
 rw[an0 _ _ aj,hl,anD,show n-j=n-(j+1)+1 from by omega,anv,aoH]
 simp
theorem PK {a b:Rows} {j:Nat} (hj:n≤j) (h:j≤n):u5 a b n j=vO a b n:=by
 obtain rfl:n=j:=by omega
 unfold u5;simp
theorem Hv (p q:Nat→Bool):jJ (gV n p) (gV n q)=gV n fun k=>p k||q k:=by
 refine zP (by rw[AX,jC,jC];omega) fun k=>?_
 rw[Zv,iQ,iQ]
 by_cases hk:k<n<;>simp[hk]
theorem RO (p q:gU):vO (cJ n p) (cJ n q) n=cJ n fun a b=>p a b||q a b:=by
 refine Cx (K3 _ _ _) fun i hi=>?_
 unfold vO
 rw[amS,anL hi]
 simp only[anX]
 rw[tc aj aj,tc aj aj,dM,Hv]
theorem RG {p:gU} {z:Int×Int} {q:Nat} (h:(iO ((n:Nat):Int) (cJ n p))[q]? =some z):0≤z.1∧z.1<((n:Nat):Int)∧0≤z.2∧z.2<((n:Nat):Int)∧p z.1.toNat z.2.toNat=true:=by
 obtain⟨a,b,ha,hb,hp,rfl⟩:=yD.1 (dN h)
 exact⟨by omega,by omega,by omega,by omega,by simpa using hp⟩
end Go.Ew
namespace Go.Ew
theorem kS {n:Int} {rs:Rows} (h:bI n rs=true):0≤n:=(bR h).2.2.2.1
section
variable {n:Int} {rs:Rows} {i j:Int} (h:bI n rs=true) (hi:kA n [i,j]=true)
include h hi
theorem Rf:bI (ik n i j) (j5 n rs i j)=true:=by
 obtain⟨m,p,rfl,hm,rfl⟩:=lW h
 rw[(pU (rs:=cJ m p) hi).1,Pm hi]
 exact lC hm
end
theorem M5 {n:Int} {rs:Rows} (h:bI n rs=true):(iO n rs).length≤16777216:=by
 obtain⟨m,p,rfl,hm,rfl⟩:=lW h
 have h1:=Nc (n:=m) (p:=p)
 have h2:m*m≤4096*4096:=Nat.mul_le_mul hm hm
 omega
end Go.Ew
namespace Go.Ew
variable {l:List Item} {i j q:Nat} {a b xs:Row} {n:Int}
theorem R8 {B e:Nat} {iv fv:Value} (hj:l[j]? =some (own B e fv b)) (hi:i<l.length) (gD:i≠j∨(iv=fv∧b=a)) (Ef:xs.length=a.length) (Ly:xs=qa a.length a b a q) (hq:q≤b.length) (hlen:b.length≤a.length):
  ∃ys:Row,(l.set i (own B e iv xs))[j]? =some (own B e fv ys)∧ys.length=b.length∧∀x,ys[((q:Nat):Int).toNat]? =some x→b.getD q 0#64=x:=by
 by_cases h:i=j
 ·subst h
  rcases gD with h|⟨rfl,rfl⟩
  ·exact absurd J h
  ·refine⟨xs,by rw[amX hi],Ef,fun x hx=>?_⟩
   rw[Ly] at hx
   exact(AW hx).symm
 ·exact⟨b,by rw[anh h,hj],J,fun x hx=>wY hx⟩
theorem R7 {x y:bt} (hs:xs=qa a.length a b a q) (hx:b.getD q 0#64=x) (hy:xs[((q:Nat):Int).toNat]? =some y):xs.set ((q:Nat):Int).toNat (y ||| x)=qa a.length a b a (q+1):=by
 subst hs
 have e1:=AW hy
 rw[dM]
 exact E8<|by rw[e1];unfold tl;rw[hx]
theorem Vc (hs:xs=qa a.length a b a q) (hlen:b.length≤a.length) (hq:b.length≤q):xs=jJ a b:=by
 rw[hs]
 refine xA aj<|fun i h1 h2=>?_
 unfold tl
 rw[sr (show b.length≤i by omega)];simp
theorem KD {it:Item} (hi:i<l.length):(l.set i it)[i]? =some it:=amX hi
theorem set_set {l:List Item} {i:Nat} {x y:Item}:(l.set i x).set i y=l.set i y:=List.set_set ..
theorem YM {x:Item} (h:l[i]? =some x):l.set i x=l:=by
 apply ana
 intro m
 rw[anW]
 split
 ·rename_i e
  subst e
  split
  ·exact h.symm
  ·rename_i hl
   rw[amQ aj]
 ·rfl
def AK (z:Int×Int):Int×Int:=(z.2,z.1)
def gL (n:Int) (rs:Rows):Rows:=foldM n ((iO n rs).map AK)
theorem Pv {rs:Rows} (h:bI n rs=true) {z:Int×Int} (hz:(iO n rs)[q]? =some z):0≤z.1∧z.1<n∧0≤z.2∧z.2<n:=by
 obtain⟨m,p,rfl,hm,rfl⟩:=lW h
 obtain⟨h1,h2,h3,h4, -⟩:=RG hz
 exact⟨h1,h2,h3,h4⟩
theorem xi {ps:List (Int×Int)} {x:Row} (h:(foldM n ps)[i]? =some x) {k:Int} (h0:0≤k) (h1:k<n):0≤k/64∧k/64<((x.length:Nat):Int)∧(k/64).toNat<x.length∧jr x k=true:=by
 have hr:=SY h
 have hw:x.length=(n.toNat+63)/64:=by rw[hr,←qt,show ((n.toNat:Nat):Int)=n from by omega]
 refine⟨by omega,by omega,by omega,Lw h0 aj⟩
theorem Q4 {l:List (Int×Int)} {z:Int×Int} {xs:Rows} {x:Row} {u:bt} (hs:xs=foldM n ((l.map AK).take j)) (hz:l[((j:Nat):Int).toNat]? =some z) (hx:xs[z.2.toNat]? =some x) (hu:x[(z.1/64).toNat]? =some u) (h0:0≤z.1) (h1:z.1<n):
  xs.set z.2.toNat (x.set (z.1/64).toNat (u ||| kh (z.1%64)))=foldM n ((l.map AK).take (j+1)):=by
 have hr:=(xi (hs▸hx) h0 h1).2.2.2
 rw[Qx (p:=(z.2,z.1)) (by rw[amS,hz];rfl),←hs,NJ hr hu]
 exact Hn hx
theorem Ua {rs xs:Rows} (hs:xs=foldM n (((iO n rs).map AK).take j)) (hj:(iO n rs).length≤j):xs=gL n rs:=by
 rw[hs,mO (by rw[ane];exact hj)];rfl
theorem Q3 (n:Int) (l:List (Int×Int)):List.replicate n.toNat (eb n)=foldM n ((l.map AK).take 0):=rfl
theorem B4 (n:Int) (rs:Rows):(gL n rs).length=n.toNat:=CX _ _
end Go.Ew
namespace Go.Ew
variable {m:Nat} {p:gU}
theorem GI {m:Nat}:∀(l:List (Int×Int)) (p:gU),(∀z∈l,kA ((m:Nat):Int) [z.1,z.2]=true)→l.foldl rz (cJ m p)=cJ m fun a b=>p a b||l.any fun z=>decide (a=z.1.toNat)&&decide (b=z.2.toNat)
 |[],p,_=>by
  show cJ m p=_
  exact dJ fun a b _ _=>by simp
 |z::l,p,h=>by
  rw[ao1,show z=(z.1,z.2) from rfl,Ca (h z ano),GI l _ fun y hy=>h y (am6 _ hy)]
  exact dJ fun a b _ _=>by simp[Bool.or_assoc]
theorem Qy {l:List (Int×Int)} (h:∀z∈l,kA ((m:Nat):Int) [z.1,z.2]=true):foldM ((m:Nat):Int) l=cJ m fun a b=>l.any fun z=>decide (a=z.1.toNat)&&decide (b=z.2.toNat):=by
 unfold foldM
 rw[yC,GI l _ h]
 exact dJ fun a b _ _=>by simp
theorem UH:∀z∈iO ((m:Nat):Int) (cJ m p),kA ((m:Nat):Int) [z.1,z.2]=true:=by
 intro z hz
 obtain⟨a,b,ha,hb, -,rfl⟩:=yD.1 hz
 exact jg.2 ⟨⟨by omega,by omega⟩,by omega,by omega⟩
theorem TQ {a b:Nat} (ha:a<m) (hb:b<m):((iO ((m:Nat):Int) (cJ m p)).any fun z=>decide (a=z.1.toNat)&&decide (b=z.2.toNat))=p a b:=by
 rw[amU,anc]
 constructor
 ·rintro⟨z,hz,h⟩
  obtain⟨c,d,hc,hd,hp,rfl⟩:=yD.1 hz
  simp only[dM,eW,amB] at h
  rw[h.1,h.2];exact hp
 ·intro hp
  exact⟨_,yD.2 ⟨a,b,ha,hb,hp,J⟩,by simp⟩
theorem Ij:gL ((m:Nat):Int) (cJ m p)=cJ m fun a b=>p b a:=by
 unfold gL
 rw[Qy]
 ·refine dJ fun a b ha hb=>?_
  rw[List.any_map,←TQ (p:=p) hb ha]
  congr 1
  funext z
  simp only[Function.comp,AK]
  exact Bool.and_comm _ _
 ·intro z hz
  obtain⟨y,hy,rfl⟩:=anp.1 hz
  have:=jg.1<|UH y hy
  exact jg.2 ⟨this.2,this.1⟩
section
variable {n:Int} {rs:Rows} (h:bI n rs=true)
include h
theorem FX:bI n (gL n rs)=true:=by
 obtain⟨m,p,rfl,hm,rfl⟩:=lW h
 rw[Ij];exact lC hm
end
end Go.Ew
namespace Go.Ew
variable {n:Int} {mr xs:Rows} {i j k:Nat} {x y:Row} {p:gU}
theorem nH (h:bI n mr=true) (hx:mr[i]? =some x):x.length=words n:=by
 obtain⟨m,p,rfl,hm,rfl⟩:=lW h
 rw[(mK hx).2,jC]
theorem NU (h:bI n mr=true) (hs:xs=mr.take j++List.replicate (n.toNat-j) (eb n)) (hj:j<mr.length) (hx:xs[((j:Nat):Int).toNat]? =some x):x=eb n:=by
 rw[dM,hs,oB (by rw[iu];omega),iu,anF aj,anD] at hx
 have:=dN hx
 exact(List.mem_replicate.1 this).2
theorem Y0 (h:bI n mr=true) (hs:xs=mr.take j++List.replicate (n.toNat-j) (eb n)) (hy:mr[((j:Nat):Int).toNat]? =some y) (hx:xs[((j:Nat):Int).toNat]? =some x):y.length=x.length:=by
 have hj:=(dU.1 hy).1
 rw[NU h hs (by simpa using hj) hx,pX,nH h hy]
theorem YZ (h:bI n mr=true) (hs:xs=mr.take j++List.replicate (n.toNat-j) (eb n)) (hy:mr[((j:Nat):Int).toNat]? =some y) (hx:xs[((j:Nat):Int).toNat]? =some x):0<x.length:=by
 have hj:=(dU.1 hy).1
 have hl:=(bR h).1
 rw[NU h hs (by simpa using hj) hx,pX]
 have h0:1≤n:=by rw[dM] at hj;omega
 unfold words;omega
theorem UJ (h:bI n mr=true) (hs:xs=mr.take j++List.replicate (n.toNat-j) (eb n)) (hy:mr[((j:Nat):Int).toNat]? =some y):xs.set ((j:Nat):Int).toNat y=mr.take (j+1)++List.replicate (n.toNat-(j+1)) (eb n):=by
 have hj:=(dU.1 hy).1
 have hl:=(bR h).1
 rw[nG hy]
 rw[dM] at hj ⊢
 have eZ:(mr.take j).length=j:=by rw[iu];omega
 rw[hs,an0 _ _ aj,eZ,anD,show n.toNat-j=n.toNat-(j+1)+1 from by omega,anv,aoH]
 simp
theorem Y1 (h:bI n mr=true) (hs:xs=mr.take j++List.replicate (n.toNat-j) (eb n)) (hj:mr.length≤j):xs=mr:=by
 have hl:=(bR h).1
 rw[hs,mO hj,show n.toNat-j=0 from by omega];simp
def gi (rs:Rows) (i j:Nat):Bool:=fm (rs.getD i []) ((j:Nat):Int)
theorem Ce {rs:Rows} (h:bI n rs=true):rs=cJ n.toNat (gi rs):=by
 obtain⟨m,p,rfl,hm,rfl⟩:=lW h
 rw[dM]
 refine dJ fun i j hi hj=>?_
 unfold gi
 rw[im,sl hi]
 show p i j=fm (gV m (p i)) _
 rw[iQ];simp[hj]
def wM (p:gU):Nat→gU
 |0,a,b=>p a b
 |k+1,a,b=>wM p k a b||(wM p k a k&&wM p k k b)
def wR (p:gU) (k i a b:Nat):Bool:=if a<i then wM p (k+1) a b else wM p k a b
theorem YB (p:gU) (k b:Nat):wM p (k+1) k b=wM p k k b:=by
 show (wM p k k b||(wM p k k k&&wM p k k b))=wM p k k b
 cases wM p k k b<;>simp
theorem Yz (p:gU) (n k:Nat):cJ n (wM p k)=cJ n (wR p k 0):=dJ fun a b _ _=>by unfold wR;simp
theorem aam (p:gU) {n:Nat} (h:n≤i):cJ n (wR p k i)=cJ n (wM p (k+1)):=dJ fun a b ha _=>by unfold wR;rw[amF aj]
theorem QZ {n:Nat} (hx:(cJ n (wR p k i))[i]? =some x):x=gV n (wM p k i):=by
 rw[(mK hx).2]
 exact kH fun b _=>by unfold wR;rw[amI aj]
theorem YA {n:Nat} (hy:(cJ n (wR p k i))[k]? =some y):y=gV n (wM p k k):=by
 rw[(mK hy).2]
 exact kH fun b _=>by
  unfold wR;split
  ·exact YB p k b
  ·rfl
theorem aal {n:Nat} (hs:xs=cJ n (wR p k i)) (hx:xs[i]? =some x) (hy:xs[k]? =some y) (hk:k<n) (h:fm x ((k:Nat):Int)=true):xs.set i (jJ x y)=cJ n (wR p k (i+1)):=by
 subst hs
 rw[QZ hx] at h ⊢
 rw[YA hy,Hv,xE]
 rw[iQ] at h
 have tx:wM p k i k=true:=by simpa [hk] using h
 refine dJ fun a b _ _=>?_
 by_cases e:a=i
 ·subst e
  rw[amF rfl]
  unfold wR
  rw[amF aj]
  show _=(wM p k a b||(wM p k a k&&wM p k k b))
  rw[tx,anz]
 ·rw[amI e]
  unfold wR
  by_cases h2:a<i
  ·rw[amF h2,amF aj]
  ·rw[amI h2,amI aj]
theorem aeb {n:Nat} (hs:xs=cJ n (wR p k i)) (hx:xs[i]? =some x) (hk:k<n) (h:fm x ((k:Nat):Int)=false):xs=cJ n (wR p k (i+1)):=by
 subst hs
 rw[QZ hx,iQ] at h
 have tx:wM p k i k=false:=by simpa [hk] using h
 refine dJ fun a b _ _=>?_
 unfold wR
 by_cases h2:a<i
 ·rw[amF h2,amF aj]
 ·by_cases e:a=i
  ·subst e
   rw[amI h2,amF aj]
   show _=(wM p k a b||(wM p k a k&&wM p k k b))
   rw[tx];simp
  ·rw[amI h2,amI aj]
def fk (n:Int) (rs:Rows):Rows:=cJ n.toNat (wM (gi rs) n.toNat)
theorem Kf {n q:Nat} (hx:(cJ n (wR p k i))[q]? =some x):x.length=words ((n:Nat):Int):=by rw[(mK hx).2,jC]
end Go.Ew
namespace Go.Ew
variable {p:gU} {a b n:Nat}
inductive TC (n:Nat) (p:gU):Nat→cb
 |one {a b:Nat}:a<n→b<n→p a b=true→TC n p a b
 |cons {a b c:Nat}:a<n→b<n→p a b=true→TC n p b c→TC n p a c
section
variable {n:Nat} {p q:gU} {a b c:Nat}
theorem TC.lt (h:TC n p a b):a<n∧b<n:=by
 induction h with
 |one h1 h2 _=>exact⟨h1,h2⟩
 |cons h1 _ _ _ ih=>exact⟨h1,ih.2⟩
theorem TC.trans (h:TC n p a b) (k:TC n p b c):TC n p a c:=by
 induction h with
 |one h1 h2 h3=>exact .cons h1 h2 h3 k
 |cons h1 h2 h3 _ ih=>exact .cons h1 h2 h3 (ih k)
theorem TC.mono (h:TC n p a b) (Gu:∀x y,x<n→y<n→p x y=true→q x y=true):TC n q a b:=by
 induction h with
 |one h1 h2 h3=>exact .one h1 h2 (Gu _ _ h1 h2 h3)
 |cons h1 h2 h3 _ ih=>exact .cons h1 h2 (Gu _ _ h1 h2 h3) ih
theorem TC.least {R:Nat→cb} (h:TC n p a b) (h1:∀x y,x<n→y<n→p x y=true→R x y) (h2:∀x y z,x<n→y<n→z<n→R x y→R y z→R x z):R a b:=by
 induction h with
 |one k1 k2 k3=>exact h1 _ _ k1 k2 k3
 |cons k1 k2 k3 k4 ih=>exact h2 _ _ _ k1 k2 k4.lt.2 (h1 _ _ k1 k2 k3) ih
theorem TC.last (h:TC n p a c):p a c=true∨∃b,TC n p a b∧p b c=true:=by
 induction h with
 |one _ _ h3=>exact .inl h3
 |cons h1 h2 h3 _ ih=>
  rcases ih with h|⟨b,h4,h5⟩
  ·exact .inr ⟨_,.one h1 h2 h3,h⟩
  ·exact .inr ⟨b,.cons h1 h2 h3 h4,h5⟩
end
theorem AF {n:Nat} {p:gU}:∀k,k≤n→∀a b,a<n→b<n→wM p k a b=true→TC n p a b
 |0,_,a,b,ha,hb,h=>.one ha hb h
 |k+1,hk,a,b,ha,hb,h=>by
  have h:(wM p k a b||(wM p k a k&&wM p k k b))=true:=h
  rw[amM,eW] at h
  rcases h with h|⟨h1,h2⟩
  ·exact AF k aj a b ha hb h
  ·exact(AF k aj a k ha aj h1).trans (AF k aj k b aj hb h2)
theorem Nw {k:Nat}:wM p (k+1) a b=true↔wM p k a b=true∨(wM p k a k=true∧wM p k k b=true):=by
 show (wM p k a b||(wM p k a k&&wM p k k b))=true↔_
 rw[amM,eW]
theorem O' {p:gU} {a b:Nat}:∀k,p a b=true→wM p k a b=true
 |0,h=>h
 |k+1,h=>Nw.2 (.inl (O' k h))
theorem B1 {p:gU}:∀k a b c,c<k→wM p k a c=true→wM p k c b=true→wM p k a b=true
 |0,_,_,_,h,_,_=>absurd h (aoq _)
 |k+1,a,b,c,h,h1,h2=>by
  have ih:=fun a b c=>B1 (p:=p) k a b c
  rw[Nw] at h1 h2 ⊢
  by_cases hc:c<k
  ·rcases h1 with h1|⟨h1,h3⟩
   ·rcases h2 with h2|⟨h2,h4⟩
    ·exact .inl (ih _ _ _ hc h1 h2)
    ·exact .inr ⟨ih _ _ _ hc h1 h2,h4⟩
   ·rcases h2 with h2|⟨h2,h4⟩
    ·exact .inr ⟨h1,ih _ _ _ hc h3 h2⟩
    ·exact .inr ⟨h1,h4⟩
  ·have:c=k:=by omega
   subst this
   have e1:wM p c a c=true:=by
    rcases h1 with h1|⟨h1,_⟩<;>exact h1
   have e2:wM p c c b=true:=by
    rcases h2 with h2|⟨_,h2⟩<;>exact h2
   exact .inr ⟨e1,e2⟩
def cl (n:Nat) (p:gU) (a b:Nat):Bool:=wM p n a b
theorem qW (ha:a<n) (hb:b<n):cl n p a b=true↔TC n p a b:=
 ⟨AF n (amD _) a b ha hb,fun h=>h.least (R:=fun x y=>cl n p x y=true) (fun x y _ _ hp=>O' n hp) fun x y z _ hy _ h1 h2=>B1 n x z y hy h1 h2⟩
theorem FF {q:gU} (h:∀a b,a<n→b<n→p a b=q a b) (ha:a<n) (hb:b<n):cl n p a b=cl n q a b:=by
 rw[amU,qW ha hb,qW ha hb]
 exact⟨fun k=>k.mono fun x y hx hy hp=>by rw[←h x y hx hy];exact hp,fun k=>k.mono fun x y hx hy hp=>by rw[h x y hx hy];exact hp⟩
theorem xY (h:p a b=true):cl n p a b=true:=O' n h
theorem Bl {c:Nat} (hb:b<n) (h1:cl n p a b=true) (h2:cl n p b c=true):cl n p a c=true:=B1 n a c b hb h1 h2
theorem jD (ha:a<n) (hb:b<n):gi (cJ n p) a b=p a b:=by
 unfold gi
 rw[im,sl ha]
 show fm (gV n (p a)) _=_
 rw[iQ];simp[hb]
theorem Eu:fk ((n:Nat):Int) (cJ n p)=cJ n (cl n p):=by
 unfold fk
 rw[dM]
 exact dJ fun a b ha hb=>FF (fun x y hx hy=>jD hx hy) ha hb
theorem oV {n:Int} {rs:Rows} (h:bI n rs=true):bI n (fk n rs)=true:=by
 obtain⟨m,p,rfl,hm,rfl⟩:=lW h
 rw[Eu];exact lC hm
def Bv (p:gU) (i j a b:Nat):Bool:=p a b||((decide (a=i)||p a i)&&(decide (b=j)||p j b))
theorem Bu {i j:Nat}:Bv p i j a b=true↔p a b=true∨((a=i∨p a i=true)∧(b=j∨p j b=true)):=by
 unfold Bv;simp
theorem TT (h:∀i j k,i<n→j<n→k<n→p i j=true→p j k=true→p i k=true) {i j:Nat} (hi:i<n) (hj:j<n) (ha:a<n) (hb:b<n):
  cl n (fun x y=>p x y||(decide (x=i)&&decide (y=j))) a b=Bv p i j a b:=by
 rw[amU,qW ha hb]
 constructor
 ·intro k
  refine k.least (R:=fun x y=>Bv p i j x y=true) (fun x y hx hy hp=>?_) fun x y z hx hy hz h1 h2=>?_
  ·simp only[amM,eW,amB] at hp
   exact Bu.2<|hp.imp id fun ⟨h1,h2⟩=>⟨.inl h1,.inl h2⟩
  ·rw[Bu] at h1 h2 ⊢
   rcases h1 with h1|⟨h1,h3⟩
   ·rcases h2 with h2|⟨h2,h4⟩
    ·exact .inl (h _ _ _ hx hy hz h1 h2)
    ·refine .inr ⟨.inr ?_,h4⟩
     rcases h2 with rfl|h2
     ·exact h1
     ·exact h _ _ _ hx hy hi h1 h2
   ·rcases h2 with h2|⟨h2,h4⟩
    ·refine .inr ⟨h1,.inr ?_⟩
     rcases h3 with rfl|h3
     ·exact h2
     ·exact h _ _ _ hj hy hz h3 h2
    ·exact .inr ⟨h1,h4⟩
 ·intro k
  have up:∀x y,x<n→y<n→p x y=true→TC n (fun x y=>p x y||(decide (x=i)&&decide (y=j))) x y:=fun x y hx hy hp=>.one hx hy (by simp[hp])
  rcases Bu.1 k with k|⟨h1,h2⟩
  ·exact up _ _ ha hb k
  ·have m:TC n (fun x y=>p x y||(decide (x=i)&&decide (y=j))) i j:=.one hi hj (by simp)
   have m2:TC n (fun x y=>p x y||(decide (x=i)&&decide (y=j))) a j:=by
    rcases h1 with rfl|h1
    ·exact m
    ·exact(up _ _ ha hi h1).trans m
   rcases h2 with rfl|h2
   ·exact m2
   ·exact m2.trans (up _ _ hj hb h2)
def gY (n:Int) (rs:Rows) (i j:Int):Rows:=if kA n [i,j] then (if eL n rs i j then rs else cJ n.toNat (Bv (gi rs) i.toNat j.toNat)) else []
theorem QO {i j:Int} (hi:kA ((n:Nat):Int) [i,j]=true) (h:∀i j k,i<n→j<n→k<n→p i j=true→p j k=true→p i k=true):
  gY ((n:Nat):Int) (cJ n p) i j=cJ n (cl n fun a b=>p a b||(decide (a=i.toNat)&&decide (b=j.toNat))):=by
 have hr:=jg.1 hi
 unfold gY
 rw[amF hi,IY,hi,anz,dM]
 split
 ·rename_i hp
  refine dJ fun a b ha hb=>?_
  rw[TT h aj aj ha hb,amU,Bu]
  refine⟨.inl,fun k=>?_⟩
  rcases k with k|⟨h1,h2⟩
  ·exact k
  ·have m2:p a j.toNat=true:=by
    rcases h1 with rfl|h1
    ·exact hp
    ·exact h _ _ _ ha aj aj h1 hp
   rcases h2 with rfl|h2
   ·exact m2
   ·exact h _ _ _ ha aj hb m2 h2
 ·refine dJ fun a b ha hb=>?_
  rw[TT h aj aj ha hb]
  unfold Bv
  rw[jD ha hb,jD ha aj,jD aj hb]
theorem Nr {n:Int} {rs:Rows} {i j:Int} (h:bI n rs=true):bI (ik n i j) (gY n rs i j)=true:=by
 unfold ik gY
 split
 ·split
  ·exact h
  ·obtain⟨m,p,rfl,hm,rfl⟩:=lW h
   rw[dM];exact lC hm
 ·rfl
def rC (l:List Nat):aA:=l.map fun k=>((k:Nat):Int)
def wb (n:Nat) (f:Nat→Bool):aA:=rC ((List.range n).filter f)
theorem wW {f:Nat→Bool} {z:Int}:z∈wb n f↔∃k,k<n∧f k=true∧z=((k:Nat):Int):=by
 unfold wb rC
 simp only[anp,amW,amH]
 constructor
 ·rintro⟨k,⟨h1,h2⟩,rfl⟩;exact⟨k,h1,h2,rfl⟩
 ·rintro⟨k,h1,h2,rfl⟩;exact⟨k,⟨h1,h2⟩,rfl⟩
theorem Oe (n:Nat) (f:Nat→Bool):(wb n f).length≤n:=by
 unfold wb rC
 rw[ane]
 have:=anB f<|List.range n
 simpa using this
theorem yE (n:Nat) (f:Nat→Bool):de (gV n f)=wb n f:=Gi n f
end Go.Ew
