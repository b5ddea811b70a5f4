/- Engine, part P: function values that are handed in; blocks that are only read; small words on lists. -/
import Derived.Test.YtefcbihikknlkaaGreatDoorWwnA
import Derived.WalkKit
import Derived.ProofKit
import Derived.OpenShut
import Derived.ReadAgain
import Derived.ChangeStays
import Derived.Below
import Derived.ChangeSame
import Derived.ArgAppend
import Derived.Laws.CopyRow
import Derived.LaidMore
import Derived.Stop.Joined
import Derived.Laws.StructEq
import Derived.ChangeKeysEq
import Derived.MapKept
import Derived.Laws.BytesArg
set_option linter.unusedVariables false
set_option linter.unusedSimpArgs false
set_option linter.unusedSectionVars false
namespace Go.Ew
open Go.RowKit
variable {k:Nat}
def ro (b:Nat) (cs:Array Value) (t:TypeId):Item:=⟨none,fun M w=>w.heap[b]? =some (.cells cs t (0,0))∧¬M b,fun h u _=>by
 have hb:b<_:=(amy.1 h.1).1
 have:=u.2 b hb h.2
 exact⟨this.1.trans h.1,this.2⟩⟩
section
variable {P:Program} {n:Nat} {ops:Array Oper} {f:aP} {w w0 w':aI} {K:aP→aI→Prop} {M0:bT} {l:List Item}
variable {d:Nat} {T ty e:TypeId} {ps:String} {af:Array Edge} {x y:Operand} {v:Value}
theorem Vf {bb off:Nat} {cs:Array Value} {t:TypeId} {k bytes:Nat} {agg:Bool} {z:Value} (H:HI M0 w0 w l) (i:Nat) (hi:l[i]? =some (ro bb cs t)) (F:fA P T k agg bytes z) (ox:cC n x=true) (hx:ev f x=.pointer (some ⟨bb,off,none⟩))
  (hk:agg=false→k=1) (hl:((cs.toList.drop off).take k).length=k) (h:K (cS f d (pW agg ((cs.toList.drop off).take k))) w):SO P n ops ⟨some d,.load T x,ty,ps,af,none⟩ f w K:=by
 have hb:w.heap[bb]? =some (.cells cs t (0,0)):=(H.at_ i hi).1
 refine SO.value (v:=pW agg ((cs.toList.drop off).take k)) ?_ h
 have hc:∀j u,((cs.toList.drop off).take k)[j]? =some u→w.cell? ((⟨bb,off,none⟩:Addr).add j)=some u:=by
  intro j u hu
  rw[show (⟨bb,off,none⟩:Addr).add j=⟨bb,off+j,none⟩ from by unfold Addr.add;split<;>simp_all,cell_of_row w bb (off+j) cs t (0,0) hb]
  have hj:j<k:=by
   have:=(eW.1 hu).1
   omega
  rw[amh,alE hj,amI] at hu
  simpa using hu
 simp[execOp,bA ox,hx,Instr.loadAt,Instr.sureAddr,pe F hk hl hc]
theorem lr {bb off:Nat} {cs:Array Value} {t:TypeId} {bytes:Nat} {z:Value} (H:HI M0 w0 w l) (i:Nat) (hi:l[i]? =some (ro bb cs t)) (F:fA P T 1 false bytes z) (ox:cC n x=true) (hx:ev f x=.pointer (some ⟨bb,off,none⟩))
  (hl:((cs.toList.drop off).take 1).length=1) (h:K (cS f d (pW false ((cs.toList.drop off).take 1))) w):SO P n ops ⟨some d,.load T x,ty,ps,af,none⟩ f w K:=Vf H i hi F ox hx (fun _=>rfl) hl h
end
def FP {α:Type} [GT α] (P:Program) (g:FuncId) (C:List Value) (M:bT) (w:aI) (xs:List α) (p:α→Bool):Prop:=
 dq P g∧∀w1 v x,x∈xs→Ext w w1→RV M w1 v x→Calls P g ([v]++C).toArray w1 (cZ fun u w2=>u=.bool (p x)∧Ext w1 w2)
theorem FP.sub {α:Type} [GT α] {P:Program} {g:FuncId} {C:List Value} {M M':bT} {w w':aI} {xs:List α} {p:α→Bool} (h:FP P g C M w xs p) (e:Ext w w') (hM:∀b,M b→M' b):FP P g C M' w' xs p:=
 ⟨h.1,fun w1 v x hx e' hv=>h.2 w1 v x hx (e.trans e') (hv.lift (Up.less fun b _ hb=>hM b hb))⟩
theorem Si {M0:bT} {l:List Item}:∀b,M0 b→MS M0 l b:=fun _ h=>.inl h
theorem nV {α:Type} {r:List α} {x:α} (h:r[((k:Nat):Int).toNat]? =some x):r.take (k+1)=r.take k++[x]:=by
 rw[dC] at h
 rw[amY,h];rfl
theorem k0 {α:Type} {r:List α} (h:r.length≤k):r.take k=r:=alU h
theorem kF {α:Type} {r:List α} {x:α} {p:α→Bool} (h:r[((k:Nat):Int).toNat]? =some x) (h1:(r.take k).any p=false) (h2:p x=false):(r.take (k+1)).any p=false:=by
 rw[nV h];simp[h1,h2]
def gx {α:Type} (p:α→Bool) (r:List α):Int:=match r.findIdx? p with|some i=>i|none=> -1
theorem pY {α:Type} {r:List α} {x:α} {p:α→Bool} (h:r[((k:Nat):Int).toNat]? =some x) (h1:(r.take k).any p=false) (h2:p x=true):(k:Int)=gx p r:=by
 rw[dC] at h
 obtain⟨hk,hx⟩:=eW.1 h
 have:r.findIdx? p=some k:=by
  rw[amz]
  refine⟨hk,by rw[hx];exact h2,fun j hj=>?_⟩
  have hm:r[j]∈r.take k:=by
   rw[List.mem_take_iff_getElem]
   exact⟨j,by omega,J⟩
  have:=amF.1 h1 _ hm
  simpa using this
 simp[gx,this]
theorem rW {α:Type} {r:List α} {p:α→Bool} (h1:(r.take k).any p=false) (h2:r.length≤k):(-1:Int)=gx p r:=by
 rw[k0 h2] at h1
 have:r.findIdx? p=none:=by
  rw[anF]
  intro x hx
  simpa using amF.1 h1 x hx
 simp[gx,this]
theorem rC {α:Type} {p:α→Bool} {r:List α}:decide ((0:Int)≤gx p r)=r.any p:=by
 unfold gx
 cases h:r.findIdx? p with
 |none=>
  rw[anF] at h
  have:r.any p=false:=amF.2<|by intro x hx;simp[h x hx]
  simp[this]
 |some i=>
  rw[amz] at h
  obtain⟨hi,hp,_⟩:=h
  have:r.any p=true:=amp.2 ⟨_,ant hi,hp⟩
  simp[this]
theorem u7 {α:Type} {p:α→Bool} {r:List α}: -1≤gx p r∧gx p r≤r.length:=by
 unfold gx
 cases h:r.findIdx? p with
 |none=>simp only[];omega
 |some i=>
  rw[amz] at h
  obtain⟨hi,_⟩:=h
  simp only[];omega
theorem bN {α:Type} [GT α] {M:bT} {w:aI} {a:Option Addr} {n c:Nat} {xs:List α} (h:RV M w (.slice a n c) xs):xs.length≤9223372036854775807:=by
 obtain⟨a',m,c',e,h2,h3,h4, -⟩:=RV.list.1 h
 injection e with e1 e2 e3
 unfold maxLen at h4
 omega
def bm {α:Type} [GT α] (M:bT) (e:TypeId) (w0:aI) (xs:List α) (v:Value) (w:aI):Prop:=
 Ext w0 w∧(∀b,v.ownBlock=some b→b<w.heap.size)∧(own w0.heap.size e v xs).holds (fun b=>M b∨v.ownBlock=some b) w
section
variable {M0:bT} {w0 w w':aI} {l:List Item} {α:Type} [GT α] {v:Value} {xs:List α} {e:TypeId}
theorem HI.ic (H:HI M0 w0 w l) (h:bm (MS M0 l) e w xs v w'):HI M0 w0 w' (own w0.heap.size e v xs::l):=by
 obtain⟨hx,hb,cs,h1,h2⟩:=h
 have xP:∀(B:Nat),B≤w.heap.size→w'.ownsRow B e (GT.size α) v xs.length cs:=by
  intro B hB
  refine⟨h1.1,?_⟩
  rcases h1.2 with h3|⟨g,cap,cur,rfl,h3,h4⟩
  ·exact .inl h3
  ·exact .inr ⟨g,cap,cur,J,Nat.le_trans hB h3,h4⟩
 have uc:∀b,v.ownBlock=some b→w.heap.size≤b:=fun b uP=>(h1.lt b uP).1
 cases hv:v.ownBlock with
 |none=>
  refine(H.ext hx).put hv ⟨cs,xP _ H.below.size,cb.lift (Up.less ?_) h2⟩
  intro b Bg hM
  exact .inl hM
 |some b=>
  refine H.new hx b hv (uc b hv) (hb b hv) ⟨cs,xP _ H.below.size,cb.lift (Up.less ?_) h2⟩
  rintro c hc (hM|⟨it,hit,Z6⟩)
  ·exact .inl (.inl hM)
  ·rcases alQ.1 hit with rfl|hit
   ·exact .inr Z6
   ·exact .inl (.inr ⟨it,hit,Z6⟩)
theorem HI.cB (H:HI M0 w0 w l) (i:Nat) (hi:l[i]? =some (own w0.heap.size e v xs)):bm M0 e w0 xs v w:=by
 obtain⟨cs,h1,h2⟩:=H.at_ i hi
 refine⟨H.below,fun b hb=>(u4 H hi b hb).2,cs,h1,cb.lift (Up.less ?_) h2⟩
 rintro b _ (hM|hb)
 ·exact .inl hM
 ·exact .inr ⟨_,eh hi,hb⟩
theorem gQ {M:bT} (h:Ext w0 w):bm M e w0 ([]:List α) (.slice none 0 0) w:=⟨h,fun b hb=>(by cases hb),[],World.ownsRow_nil w _ e _,rfl⟩
theorem bm.rv {M:bT} (h:bm M e w xs v w') (hM:∀b,M b→b<w.heap.size):RV M w' v xs:=by
 obtain⟨_,hb,ho⟩:=h
 refine yf ho (fun b _ Af=>.inl Af)<|fun b uP hMb=>?_
 obtain⟨cs,h1,_⟩:=ho
 have:=(h1.lt b uP).1
 have:=hM b hMb
 omega
end
section
variable {α:Type} {β:Type} {γ:Type} {δ:Type} {ε:Type} {ζ:Type} {V:Type} {a a':α} {b b':β} {c c':γ} {d d':δ} {e e':ε} {z z':ζ}
theorem fu (f:α→V) (h1:a=a'):f a=f a':=by rw[h1]
theorem sd (f:α→β→V) (h1:a=a') (h2:b=b'):f a b=f a' b':=by rw[h1,h2]
theorem wE (f:α→β→γ→V) (h1:a=a') (h2:b=b') (h3:c=c'):f a b c=f a' b' c':=by rw[h1,h2,h3]
theorem RR (f:α→β→γ→δ→V) (h1:a=a') (h2:b=b') (h3:c=c') (h4:d=d'):f a b c d=f a' b' c' d':=by rw[h1,h2,h3,h4]
theorem cg6 (f:α→β→γ→δ→ε→ζ→V) (h1:a=a') (h2:b=b') (h3:c=c') (h4:d=d') (h5:e=e') (h6:z=z'):f a b c d e z=f a' b' c' d' e' z':=by rw[h1,h2,h3,h4,h5,h6]
end
theorem gY {α:Type} [GT α] {M0:bT} {l:List Item} {it:Item} {w:aI} {v:Value} {x:α} (hn:it.jN=none) (h:RV (MS M0 (it::l)) w v x):RV (MS M0 l) w v x:=by rwa [bp hn] at h
end Go.Ew
namespace Go.Ew
open Go.RowKit Go.WideShapes Go.ChangeShapes
abbrev CK:Nat→Prop:=fun _=>False
def adG (P:Program) (t:TypeId) (α:Type) [GT α]:Prop:=
 P.cellsOf t=GT.size α∧∀{H:Type} (enc:TypeId×Value→H) (W:aI) (n:Nat) (cs:List Value) (x:DataW H×List MemPlace),
  DataW.trod enc P W 0 (fun _=>true) true n t cs=some x→∃y:α,GT.rep CK W cs y
section
variable {P:Program} {t e:TypeId}
theorem RU {W:aI} {a:Addr} {n:Nat} {cs:List Value} (h:W.cells? 0 a n=some cs):∀j v,cs[j]? =some v→W.cell? (a.add j)=some v:=by
 intro j v hv
 simp only[World.cells?,anu,ana] at h
 have hl:=mapM_some_length h
 have hj:j<cs.length:=(eW.1 hv).1
 rw[amZ] at hl
 have:=mapM_some_get h j j<|by rw[anK ai]
 rw[this,hv]
theorem CI {α:Type} {Q:Nat→α→Prop}:∀n:Nat,(∀i,i<n→∃y,Q i y)→∃l:List α,l.length=n∧∀(i:Nat) (y:α),l[i]? =some y→Q i y
 |0,_=>⟨[],rfl,fun i y h=>by simp at h⟩
 |n+1,h=>by
  obtain⟨l,hl,hq⟩:=CI n fun i hi=>h i ai
  obtain⟨y,hy⟩:=h n ai
  refine⟨l++[y],by simp[hl],fun i z hz=>?_⟩
  by_cases hi:i<l.length
  ·rw[y9 hi] at hz;exact hq i z hz
  ·rw[nQ ai] at hz
   have Ad:i-l.length=0:=by
    have:=(eW.1 hz).1
    simp at this;omega
   rw[Ad] at hz
   simp at hz
   subst hz
   rw[show i=n from by omega]
   exact hy
section
variable {H:Type} {enc:TypeId×Value→H} {W:aI} {base:Nat} {v:Value} {d:DataW H} {ps:List MemPlace}
theorem Wz {k:IntKind} (ht:P.underlying t=some (.int k)) (hv:Value.okWide P W .any base t v) (h:DataW.Trod enc P W 0 (fun _=>true) true t v d ps):∃n:Int,v=.int k n∧(Lit.int k n).wf=true:=by
 obtain⟨n,h⟩:=h
 obtain⟨m,rfl⟩:=okWide_int ht hv
 obtain⟨m',e, -,hw⟩:=DataW.trod_int ht h
 simp[Value.cells] at e
 subst e
 exact⟨m,J,hw⟩
theorem Ym (ht:P.underlying t=some (.int .u8)) (hv:Value.okWide P W .any base t v) (h:DataW.Trod enc P W 0 (fun _=>true) true t v d ps):∃x:BitVec 8,v=U8 x:=by
 obtain⟨n,rfl,hw⟩:=Wz ht hv h
 have hb:=bounds_u8 hw
 refine⟨BitVec.ofNat 8 n.toNat,?_⟩
 have:((BitVec.ofNat 8 n.toNat).toNat:Int)=n:=by rw[aoj];omega
 rw[U8,this]
theorem Nh {α:Type} [GT α] {fs:Array Field} (ht:P.underlying t=some (.struct fs)) (ha:GT.agg α=true) (O:adG P t α) (hv:Value.okWide P W .any base t v) (h:DataW.Trod enc P W 0 (fun _=>true) true t v d ps):∃y:α,RV CK W v y:=by
 obtain⟨cs,rfl, -⟩:=okWide_struct ht hv
 obtain⟨n,h⟩:=h
 obtain⟨y,hy⟩:=O.2 enc W n _ _ h
 exact⟨y,_,hy,by rw[ha];simp[pW,Value.cells]⟩
theorem Cj {W':aI} {T:TypeId→Prop} (K:Kids P T) (hz:∀t e,T t→P.underlying t=some (.slice e)→0<P.cellsOf e) (e:Ext W W') {sp:Nat→Bool}:
  ∀{ts:List TypeId} {vs:List Value} {ds:List (DataW H)} {ps:List MemPlace},(∀t∈ts,T t)→DataW.TrodAll enc P W 0 (fun _=>true) true ts vs ds ps→(∀p∈ps,sp p.block=true)→DataW.TrodAll enc P W' 0 sp true ts vs ds ps
 |[],[],[],_,_,h,_=>h
 |t::_,v::_,_::_,_,hT,⟨p,q,⟨n,h1⟩,h2,hp⟩,hs=>by
  refine⟨p,q,⟨n,?_⟩,Cj K hz e (fun t ht=>hT t<|alQ.2<|Or.inr ht) h2 (fun x hx=>hs x<|by rw[hp];exact am0 _ hx),hp⟩
  have hr:=DataW.trod_respare K hz n _ _ _ (hT _<|alQ.2<|Or.inl J) h1 (spare':=sp)<|fun x hx=>hs x<|by rw[hp];exact amM _ hx
  exact DataW.trod_carry n _ _ _ hr fun x hx=>Below.same e.toBelow (DataW.trod_lt n _ _ _ h1 x hx)
 |[],[],_::_,_,_,h,_=>h.elim
 |[],_::_,_,_,_,h,_=>h.elim
 |_::_,[],_,_,_,h,_=>h.elim
 |_::_,_::_,[],_,_,h,_=>h.elim
theorem QL {f:Func} {s:ChangeSpec} {apart fresh handsOn again:Bool} {W W':aI} {args:Array Value} {ds gs:List (DataW H)} {before:List MemPlace} {tb:TypeId}
  (K:Kids P (·<P.types.size)) (hz:∀t e,t<P.types.size→P.underlying t=some (.slice e)→0<P.cellsOf e) (hts:∀t∈f.params.toList,t<P.types.size)
  (Vm:s.vars=[]) (hW:DataW.Whole enc P f.params.toList s.vars apart W args.toList ds gs before) (e:Ext W W') (hrt:f.resultTypes=#[tb]) (hu:P.underlying tb=some .bool)
  (h1:(s.fn H (ds++gs)).results=[.lit (.bool true)]) (h2:(s.fn H (ds++gs)).args=ds) (h3:(s.fn H (ds++gs)).vars=[]):
  s.post enc P f apart fresh handsOn again W args (.bool true) W':=by
 have dx:∀p∈before,p.block<W.heap.size:=fun p hp=>hW.lt p hp
 have hW2:=hW
 obtain⟨p,q,hA,hV,xo,hfz,kN⟩:=hW2
 rw[Vm] at hV
 have hq:gs=[]∧q=[]:=by
  cases gs with
  |nil=>exact⟨rfl,hV⟩
  |cons _ _=>exact hV.elim
 obtain⟨rfl,rfl⟩:=hq
 rw[amA] at xo
 subst xo
 have hold:∀x∈before,(fun b=>decide (b<W.heap.size)) x.block=true:=fun x hx=>by simpa using dx x hx
 have ZJ:∀(b:Nat) (sp:Nat→Bool) (hd:Bool),DataW.TrodAll enc P W' b sp hd f.resultTypes.toList ((Value.bool true).resultList f.resultTypes.size) (s.fn H (ds++[])).results []:=by
  intro b sp hd
  rw[h1,hrt]
  exact trodAll_mk1<|shut_bool hu _
 have OE:∀sp:Nat→Bool,(∀x∈before,sp x.block=true)→DataW.TrodAll enc P W' 0 sp true f.params.toList args.toList (s.fn H (ds++[])).args before:=by
  intro sp hsp
  rw[h2]
  exact Cj K hz e hts hA hsp
 have hvs:∀sp:Nat→Bool,DataW.TrodVars enc P W' sp s.vars (s.fn H (ds++[])).vars []:=by
  intro sp
  rw[h3,Vm]
  rfl
 refine⟨ds,[],before,[],before,[],hW,ZJ _ _ _,OE _ hold,hvs _,World.keptBut_mono (fun x hx=>⟨hx,.inr (.inl hx)⟩) (e.frame (·∈before)),fun _=>?_⟩
 refine⟨ok_one (by rw[hrt]) rfl (okWide_bool_mk hu _),(s.fn H<|ds++[]).results++(s.fn H<|ds++[]).args,(s.fn H<|ds++[]).vars,([]++before)++[],⟨[]++before,[],trodAll_append (OE _<|fun _ _=>rfl) (ZJ _ _ _),hvs _,J,?_,?_⟩,?_⟩
 ·intro b off hp
  have iw:MemPlace.cell b off∈before:=by simpa using hp
  rw[Below.frozen e.toBelow (dx _ iw)]
  exact hfz b off iw
 ·intro ha
  simpa using kN ha
 ·intro x hx _
  simpa using hx
end
end
end Go.Ew
namespace Go.Ew
open Go.RowKit
def NO (Φ:List (Nat→Nat→Value→aI→Prop)) (i lo hi:Nat):Value→aI→Prop:=Φ.getD i (fun _ _ _ _=>True) lo hi
structure Sx (P:Program) (n:Nat) (l:de) (k:Nat) (Φ:List (Nat→Nat→Value→aI→Prop)) (f0:aP) (w0:aI) (i:Nat) (o:Oper):Prop where
 go:∀f w,(∀t,(fW k l).contains t=false→f t=f0 t)→Ext w0 w→(∀j,jS o j=true→Nat.blt j k=true→∃lo hi,w0.heap.size≤lo∧hi≤w.heap.size∧NO Φ j lo hi (f (eP l j)) w)→
  SO P n l.toArray o f w (fun f' w'=>∃v,f'=df f o.dst v∧Ext w w'∧NO Φ i w.heap.size w'.heap.size v w')
 mono:∀lo hi v w w',Ext w w'→NO Φ i lo hi v w→NO Φ i lo hi v w'
def vn (P:Program) (n:Nat) (l:de) (k:Nat) (Φ:List (Nat→Nat→Value→aI→Prop)) (f0:aP) (w0:aI):Nat→de→Prop
 |_,[]=>True
 |i,o::r=>(Nat.blt i k=true→Sx P n l k Φ f0 w0 i o)∧vn P n l k Φ f0 w0 (i+1) r
section
variable {P:Program} {n:Nat} {l:de} {k:Nat} {Φ:List (Nat→Nat→Value→aI→Prop)} {f0:aP} {w0:aI}
theorem vn.at_:∀(r:de) (i:Nat),vn P n l k Φ f0 w0 i r→∀j o,r[j]? =some o→Nat.blt (i+j) k=true→Sx P n l k Φ f0 w0 (i+j) o
 |[],_,_,j,o,h,_=>by simp at h
 |x::r,i,h,0,o,hj,hk=>by
  simp only[alX,al2] at hj
  subst hj
  exact h.1 hk
 |x::r,i,h,j+1,o,hj,hk=>by
  simp only[al7] at hj
  have:=vn.at_ r (i+1) h.2 j o hj<|by rw[show i+1+j=i+(j+1) from by omega];exact hk
  rwa [show i+1+j=i+(j+1) from by omega] at this
theorem vn.rest {i:Nat} (h:Nat.ble k i=true):∀r,vn P n l k Φ f0 w0 i r:=by
 intro r
 induction r generalizing i with
 |nil=>exact trivial
 |cons o r ih=>
  simp only[aon] at h
  exact⟨fun hk=>by simp only[ano] at hk;omega,ih (by simp only[aon];omega)⟩
section
variable {M0:bT} {Gf w w':aI} {l:List Item} {v:Value} {z:Value} {T:TypeId} {lo hi:Nat}
def O6 (b:Nat) (cs:Array Value) (t:TypeId) (lo hi:Nat) (w:aI):Prop:=lo≤b∧b<hi∧w.heap[b]? =some (.cells cs t (0,0))
theorem O6.ext {b:Nat} {cs:Array Value} {t:TypeId} (h:O6 b cs t lo hi w) (e:Ext w w'):O6 b cs t lo hi w':=
 ⟨h.1,h.2.1,(e.block b (amy.1 h.2.2).1).trans h.2.2⟩
theorem HI.laid {b:Nat} {cs:Array Value} {t:TypeId} (H:HI M0 Gf w l) (x:Ext w w') (hb:w.heap.size≤b) (h:w'.heap[b]? =some (.cells cs t (0,0))):HI M0 Gf w' (box b cs t::l):=
 H.new x b rfl hb (amy.1 h).1 h
end
section
variable {x:Operand} {v:Value} {ops:Array Oper} {f:aP} {w:aI} {K:aP→aI→Prop} {d:Nat} {ty T:TypeId} {ps:String} {af:Array Edge} {bytes size:Nat} {agg:Bool} {z:Value}
end
end
end Go.Ew
namespace Go.Ew
open Go.RowKit
variable {i:Nat}
inductive Kd where
 |v
 |n
 |s (a j:Nat)
def Jb:Kd→Option Nat
 | .s a _=>some a
 |_=>none
def kf (Ks:List Kd) (i:Nat):Kd:=Ks.getD i .v
def E9 (Φ:List (Value→Prop)) (i:Nat):Value→Prop:=Φ.getD i (fun _=>True)
def sQ (Z:List (Array Value×TypeId)) (i:Nat):Array Value×TypeId:=Z.getD i (#[],0)
def YP (n:Nat) (l:de) (Ks:List Kd):Bool:=
 nZ 0 l&&nodupB (fW l.length l)&&(fW l.length l).all (fun d=>Nat.blt d n)&&nodupB (Ks.filterMap Jb)&&Nat.beq Ks.length l.length
def Wa (P:Program) (n:Nat) (l:de) (Ks:List Kd) (Φ:List (Value→Prop)) (Z:List (Array Value×TypeId)) (f0:aP) (w0:aI) (i:Nat) (o:Oper):Prop:=
 match kf Ks i with
 | .v=>o.dst.isSome=true∧∀f w,(∀t,(fW l.length l).contains t=false→f t=f0 t)→Ext w0 w→(∀j,jS o j=true→(∃x,l[j]? =some x∧x.dst.isSome=true)→E9 Φ j (f (eP l j)))→
   SO P n l.toArray o f w (fun f' w'=>∃v,f'=df f o.dst v∧w'=w∧E9 Φ i v)
 | .n=>o.dst.isSome=true∧∀f w,(∀t,(fW l.length l).contains t=false→f t=f0 t)→Ext w0 w→(∀j,jS o j=true→(∃x,l[j]? =some x∧x.dst.isSome=true)→E9 Φ j (f (eP l j)))→
   SO P n l.toArray o f w (fun f' w'=>f'=df f o.dst (.pointer (some ⟨w.heap.size,0,none⟩))∧w'=w.alloc (.cells (sQ Z i).1 (sQ Z i).2)∧E9 Φ i (.pointer (some ⟨w.heap.size,0,none⟩)))
 | .s a j=>o.dst=none∧jS o a=true∧jS o j=true∧(∃x,l[a]? =some x∧x.dst.isSome=true)∧(∃x,l[j]? =some x∧x.dst.isSome=true)∧(match kf Ks a with| .n=>True|_=>False)∧(∀v,E9 Φ j v→v.cells.size=(sQ Z a).1.size)∧
   ∀f w b cur,Ext w0 w→f (eP l a)=.pointer (some ⟨b,0,none⟩)→w.heap[b]? =some (.cells cur (sQ Z a).2 (0,0))→cur.size=(sQ Z a).1.size→E9 Φ j (f (eP l j))→
   SO P n l.toArray o f w (fun f' w'=>f'=f∧w'=w.setRow b (f (eP l j)).cells)
def ER (P:Program) (n:Nat) (l:de) (Ks:List Kd) (Φ:List (Value→Prop)) (Z:List (Array Value×TypeId)) (f0:aP) (w0:aI):Nat→de→Prop
 |_,[]=>True
 |i,o::r=>Wa P n l Ks Φ Z f0 w0 i o∧ER P n l Ks Φ Z f0 w0 (i+1) r
section
variable {P:Program} {n:Nat} {l:de} {Ks:List Kd} {Φ:List (Value→Prop)} {Z:List (Array Value×TypeId)} {f0:aP} {w0:aI}
theorem ER.at_:∀(r:de) (i:Nat),ER P n l Ks Φ Z f0 w0 i r→∀j o,r[j]? =some o→Wa P n l Ks Φ Z f0 w0 (i+j) o
 |[],_,_,j,o,h=>by simp at h
 |x::r,i,h,0,o,hj=>by
  simp only[alX,al2] at hj
  subst hj
  exact h.1
 |x::r,i,h,j+1,o,hj=>by
  simp only[al7] at hj
  have:=ER.at_ r (i+1) h.2 j o hj
  rwa [show i+1+j=i+(j+1) from by omega] at this
def K1 (l:de) (Ks:List Kd) (Z:List (Array Value×TypeId)) (L:Nat→Bool) (f:aP) (i:Nat) (cur:Array Value):Prop:=
 cur.size=(sQ Z i).1.size∧(∀s j,Ks[s]? =some (.s i j)→L s=true→cur=(f (eP l j)).cells)∧((∀s j,Ks[s]? =some (.s i j)→L s=false)→cur=(sQ Z i).1)
theorem Kj (hN:nodupB (fW l.length l)=true) {j:Nat} {oi oj:Oper} (hi:l[i]? =some oi) (hj:l[j]? =some oj) {di dj:Nat} (jY:oi.dst=some di) (nO:oj.dst=some dj) (ff:i≠j):dj≠di:=by
 rintro rfl
 have kN:=ky _ hN
 unfold fW at kN
 rw[amT] at kN
 exact ff<|gj (·.dst) l kN i j oi oj hi hj (by simp[jY])<|by simp[jY,nO]
theorem vk {o:Oper} (hi:l[i]? =some o) {d:Nat} (hd:o.dst=some d):eP l i=d:=by unfold eP;rw[hi];simp[hd]
theorem once {s s' a j j':Nat} (h:nodupB (Ks.filterMap Jb)=true) (h1:Ks[s]? =some (.s a j)) (h2:Ks[s']? =some (.s a j')):s=s':=
 gj Jb Ks (ky _ h) s s' _ _ h1 h2 rfl rfl
theorem Zn {s a j:Nat} (h:kf Ks s=.s a j):Ks[s]? =some (.s a j):=by
 unfold kf at h
 rw[eH] at h
 cases hk:Ks[s]? with
 |none=>rw[hk] at h;cases h
 |some x=>rw[hk] at h;simp at h;rw[h]
theorem LI {ops:Array Oper} {f:aP} {w:aI} {x y:Operand} {ty T:TypeId} {ps:String} {af:Array Edge} {bytes size:Nat} {agg:Bool} {z v:Value} {b:Nat} {cur:Array Value} {tt:TypeId}
  (F:fA P T size agg bytes z) (ox:cC n x=true) (oy:cC n y=true) (hx:ev f x=.pointer (some ⟨b,0,none⟩)) (hy:ev f y=v) (hb:w.heap[b]? =some (.cells cur tt (0,0))) (hs:v.cells.size=size) (hc:cur.size=size) (h1:v.cells.toList.all Value.oneCell'=true):
  SO P n ops ⟨none,.store T x y,ty,ps,af,none⟩ f w (fun f' w'=>f'=f∧w'=w.setRow b v.cells):=by
 refine SO.skip (w':=w.setRow b v.cells) ?_ ⟨J,J⟩
 have e:wr cur 0 v.cells.toList=v.cells:=by
  unfold wr
  have:cur.toList.drop (0+v.cells.toList.length)=[]:=by
   rw[List.drop_eq_nil_iff];simp;omega
  rw[this];simp
 have:=vB F (v:=v) (o:=0) hb hs (by simp;omega)<|fun u hu=>alK.1 h1 u hu
 rw[e] at this
 simp[execOp,bA ox,bA oy,hx,hy,Instr.storeAt,Instr.sureAddr,this]
end
theorem MU {P:Program} {n:Nat} {ops:Array Oper} {f:aP} {w:aI} {d:Nat} {ty T:TypeId} {ps:String} {af:Array Edge} {bytes size:Nat} {agg:Bool} {z:Value} {K:aP→aI→Prop}
  (F:fA P T size agg bytes z) (h:K (cS f d (.pointer (some ⟨w.heap.size,0,none⟩))) (w.alloc (.cells z.cells T))):SO P n ops ⟨some d,.alloc T,ty,ps,af,none⟩ f w K:=
 SO.value (v:=.pointer (some ⟨w.heap.size,0,none⟩)) (w':=w.alloc (.cells z.cells T)) (by simp[execOp,Instr.alloc,F.zr,u5]) h
theorem K1.zero {l:de} {Ks:List Kd} {Z:List (Array Value×TypeId)} {f:aP} {cur:Array Value} (h:K1 l Ks Z (fun _=>true) f i cur) (hn:(Ks.filterMap Jb).contains i=false):cur=(sQ Z i).1:=by
 refine h.2.2 fun s j hs=>?_
 exfalso
 have:i∈Ks.filterMap Jb:=al4.2 ⟨_,eh hs,J⟩
 rw[←amg,hn] at this
 cases this
section
variable {P:Program} {n:Nat} {ops:Array Oper} {f:aP} {w ws:aI} {K:aP→aI→Prop} {x y:Operand} {d:Nat} {ty T e:TypeId} {ps:String} {af:Array Edge} {v:Value} {M:bT} {kk:IntKind} {bytes:Nat} {z:Value} {ad:Addr} {size:Nat} {agg:Bool}
theorem Zk {α:Type} [GT α] {xv:α} (hA:gq M ws ad xv) (E:Ext ws w) (F:fA P T (GT.size α) (GT.agg α) bytes z) (ox:cC n x=true) (hx:ev f x=.pointer (some ad))
  (h:∀v,RV M ws v xv→K (cS f d v) w):SO P n ops ⟨some d,.load T x,ty,ps,af,none⟩ f w K:=by
 obtain⟨cs,h1,h2⟩:=hA
 have h3:∀j v,cs[j]? =some v→w.cell? (ad.add j)=some v:=fun j v hv=>by
  have h4:=h2 j v hv
  have dx:(ad.add j).block<ws.heap.size:=nk h4
  exact(World.cell?_of_block<|E.block _ dx).trans h4
 exact SO.value (v:=pW (GT.agg α) cs) (by
  simp[execOp,bA ox,hx,Instr.loadAt,Instr.sureAddr,pe F GT.single (GT.len h1) h3]) (h _ ⟨cs,h1,rfl⟩)
theorem iax {α:Type} [GT α] {xs:List α} {i:Int} (hR:RV M ws v xs) (ox:cC n x=true) (oy:cC n y=true) (hx:ev f x=v) (hy:ev f y=.int kk i) (hi:0≤i∧i<xs.length) (hu:P.underlying T=some (.slice e)) (F:fA P e (GT.size α) agg bytes z)
  (h:∀ad xv,xs[i.toNat]? =some xv→At M ws ad xv→K (cS f d (.pointer (some ad))) w):SO P n ops ⟨some d,.indexAddr T x y,ty,ps,af,none⟩ f w K:=by
 obtain⟨a,m,c,rfl,h1,h2,h3,h4⟩:=RV.list.1 hR
 rcases h4 with h4|⟨ad,rfl,hs⟩
 ·omega
 ·have dx:i.toNat<xs.length:=by omega
  refine SO.value (v:=.pointer (some<|ad.add<|i.toNat*GT.size α)) ?_<|h _ xs[i.toNat] (dW dx)<|hs _ _<|dW dx
  have hb:0≤i∧i<(m:Int):=by omega
  simp[execOp,bA ox,bA oy,hx,hy,Instr.indexAt,asIntOf,jz hu,hb,F.lU]
end
end Go.Ew
namespace Go.Ew
open Go.RowKit
def yx (k:Kd):Prop:=match k with| .n=>True|_=>False
def qP (Φ:List ((bT)→Value→aI→Prop)) (i:Nat):(bT)→Value→aI→Prop:=Φ.getD i (fun _ _ _=>True)
def BQ (N N':bT) (w w':aI):Prop:=w.heap.size≤w'.heap.size∧(∀c,c<w.heap.size→¬N c→w'.heap[c]? =w.heap[c]?)∧∀c,c<w.heap.size→N' c→N c
def Wb (P:Program) (n:Nat) (l:de) (Ks:List Kd) (Φ:List ((bT)→Value→aI→Prop)) (Z:List (Array Value×TypeId)) (f0:aP) (w0:aI) (i:Nat) (o:Oper):Prop:=
 (∀N N' v w w',BQ N N' w w'→qP Φ i N v w→qP Φ i N' v w')∧
 match kf Ks i with
 | .v=>o.dst.isSome=true∧∀f w N,(∀t,(fW l.length l).contains t=false→f t=f0 t)→Ext w0 w→(∀c,N c→w0.heap.size≤c∧c<w.heap.size)→(∀j,jS o j=true→(∃x,l[j]? =some x∧x.dst.isSome=true)→qP Φ j N (f (eP l j)) w)→
   SO P n l.toArray o f w (fun f' w'=>∃v,f'=df f o.dst v∧Ext w w'∧qP Φ i N v w')
 | .n=>o.dst.isSome=true∧(∀N v w,qP Φ i N v w)∧∀f w N,(∀t,(fW l.length l).contains t=false→f t=f0 t)→Ext w0 w→(∀c,N c→w0.heap.size≤c∧c<w.heap.size)→(∀j,jS o j=true→(∃x,l[j]? =some x∧x.dst.isSome=true)→qP Φ j N (f (eP l j)) w)→
   SO P n l.toArray o f w (fun f' w'=>f'=df f o.dst (.pointer (some ⟨w.heap.size,0,none⟩))∧w'=w.alloc (.cells (sQ Z i).1 (sQ Z i).2))
 | .s a j=>o.dst=none∧jS o a=true∧jS o j=true∧(∃x,l[a]? =some x∧x.dst.isSome=true)∧(∃x,l[j]? =some x∧x.dst.isSome=true)∧a≠j∧(match kf Ks a with| .n=>True|_=>False)∧(∀N v w,qP Φ j N v w→v.cells.size=(sQ Z a).1.size)∧
   ∀f w N b cur,Ext w0 w→f (eP l a)=.pointer (some ⟨b,0,none⟩)→w.heap[b]? =some (.cells cur (sQ Z a).2 (0,0))→cur.size=(sQ Z a).1.size→qP Φ j N (f (eP l j)) w→
   SO P n l.toArray o f w (fun f' w'=>f'=f∧w'=w.setRow b (f (eP l j)).cells)
def qk (P:Program) (n:Nat) (l:de) (Ks:List Kd) (Φ:List ((bT)→Value→aI→Prop)) (Z:List (Array Value×TypeId)) (f0:aP) (w0:aI):Nat→de→Prop
 |_,[]=>True
 |i,o::r=>Wb P n l Ks Φ Z f0 w0 i o∧qk P n l Ks Φ Z f0 w0 (i+1) r
section
variable {P:Program} {n:Nat} {l:de} {Ks:List Kd} {Φ:List ((bT)→Value→aI→Prop)} {Z:List (Array Value×TypeId)} {f0:aP} {w0:aI}
theorem qk.at_:∀(r:de) (i:Nat),qk P n l Ks Φ Z f0 w0 i r→∀j o,r[j]? =some o→Wb P n l Ks Φ Z f0 w0 (i+j) o
 |[],_,_,j,o,h=>by simp at h
 |x::r,i,h,0,o,hj=>by
  simp only[alX,al2] at hj
  subst hj
  exact h.1
 |x::r,i,h,j+1,o,hj=>by
  simp only[al7] at hj
  have:=qk.at_ r (i+1) h.2 j o hj
  rwa [show i+1+j=i+(j+1) from by omega] at this
def NB (l:de) (Ks:List Kd) (L:Nat→Bool) (B:Nat→Nat) (c:Nat):Prop:=∃i,i<l.length∧L i=true∧yx (kf Ks i)∧c=B i
def JN (n:Nat) (l:de) (Ks:List Kd) (Φ:List ((bT)→Value→aI→Prop)) (Z:List (Array Value×TypeId)) (f0:aP) (w0:aI) (listed:Array Bool) (a:Act) (w:aI):Prop:=
 ∃(f:aP) (B:Nat→Nat),a=bY n f∧(∀t,(fW l.length l).contains t=false→f t=f0 t)∧Ext w0 w∧(∀i,i<l.length→listed.getD i false=true→(∃x,l[i]? =some x∧x.dst.isSome=true)→qP Φ i (NB l Ks (fun s=>listed.getD s false) B) (f (eP l i)) w)∧
  (∀i,i<l.length→listed.getD i false=true→yx (kf Ks i)→f (eP l i)=.pointer (some ⟨B i,0,none⟩)∧w0.heap.size≤B i∧B i<w.heap.size∧∃cur,w.heap[B i]? =some (.cells cur (sQ Z i).2 (0,0))∧K1 l Ks Z (fun s=>listed.getD s false) f i cur)∧
  (∀i j,i<l.length→j<l.length→i≠j→listed.getD i false=true→listed.getD j false=true→yx (kf Ks i)→yx (kf Ks j)→B i≠B j)∧
  ∀i o,listed.getD i false=true→l[i]? =some o→∀j,jS o j=true→listed.getD j false=true
theorem Wq {Q:Exit→Act→aI→Prop} (jl:YP n l Ks=true) (hS:qk P n l Ks Φ Z f0 w0 0 l)
  (lX:∀(f:aP) (w:aI) (B:Nat→Nat),(∀t,(fW l.length l).contains t=false→f t=f0 t)→Ext w0 w→(∀i x,l[i]? =some x→x.dst.isSome=true→qP Φ i (NB l Ks (fun _=>true) B) (f (eP l i)) w)→
   (∀i,i<l.length→yx (kf Ks i)→f (eP l i)=.pointer (some ⟨B i,0,none⟩)∧w0.heap.size≤B i∧B i<w.heap.size∧∃cur,w.heap[B i]? =some (.cells cur (sQ Z i).2 (0,0))∧K1 l Ks Z (fun _=>true) f i cur)→
   (∀i j,i<l.length→j<l.length→i≠j→yx (kf Ks i)→yx (kf Ks j)→B i≠B j)→Q .normal (bY n f) w):
  ∀(d:Nat) (listed:Array Bool) (a:Act) (w:aI),listed.size=l.length→(listed.toList.filter (fun b=>!b)).length=d→
   JN n l Ks Φ Z f0 w0 listed a w→wpAny P .any l.toArray Q d listed a w:=by
 simp only[YP,cA,Nat.beq_eq_true_eq] at jl
 obtain⟨⟨⟨⟨hE,hN⟩,hn⟩,hO⟩,hKl⟩:=jl
 intro d
 induction d with
 |zero=>
  intro listed a w nM hd hJ
  have iZ:∀i,i<l.length→listed.getD i false=true:=by
   intro i hi
   have h0:=amK hd
   rw[amb] at h0
   have pC:i<listed.size:=by omega
   have:=h0 listed[i]<|by simp
   simp at this
   simp[Array.getD,pC,this]
  refine⟨?_,?_⟩
  ·apply aoC.2
   intro i hi
   obtain⟨h0,o,ho, -⟩:=mem_ready.1 hi
   have ib:l[i]? =some o:=by simpa using ho
   have iP:i<l.length:=(eW.1 ib).1
   rw[show listed.getD i true=listed.getD i false from lg ai _ _,iZ i iP] at h0
   cases h0
  ·obtain⟨f,B,rfl,hf,hx,hφ,hB,uT,hC⟩:=hJ
   have hlen:∀{i x},l[i]? =some x→i<l.length:=fun hi=>(eW.1 hi).1
   have hNB:NB l Ks (fun s=>listed.getD s false) B=NB l Ks (fun _=>true) B:=by
    funext c
    apply propext
    exact⟨fun ⟨i,h1,h2,h3⟩=>⟨i,h1,J,h3⟩,fun ⟨i,h1,h2,h3⟩=>⟨i,h1,iZ i h1,h3⟩⟩
   refine lX f w B hf hx (fun i x hi ri=>?_) (fun i hi hk=>?_)<|fun i j hi hj ff=>uT i j hi hj ff (iZ i hi)<|iZ j hj
   ·rw[←hNB]
    exact hφ i (hlen hi) (iZ i<|hlen hi) ⟨x,hi,ri⟩
   ·obtain⟨h1,h2,h3,cur,h4,h5,h6,h7⟩:=hB i hi (iZ i hi) hk
    refine⟨h1,h2,h3,cur,h4,h5,fun s j hs _=>h6 s j hs (iZ s ?_),fun p_=>h7 fun s j hs=>?_⟩
    ·have h9:=(eW.1 hs).1
     have h8:=amP hKl
     omega
    ·have:=p_ s j hs;cases this
 |succ d ih=>
  intro listed a w nM hd hJ
  obtain⟨i0,Ad⟩:∃i,i<l.length∧listed.getD i false=false:=by
   apply amu
   intro p_
   have:listed.toList.filter (fun b=>!b)=[]:=by
    rw[amb]
    intro b hb
    obtain⟨i,hi,rfl⟩:=anp.1 hb
    simp only[amX] at hi
    cases qc:listed.toList[i] with
    |true=>simp
    |false=>
     exfalso
     refine p_ ⟨i,by omega,?_⟩
     simp only[anH] at qc
     simp[Array.getD,hi,qc]
   rw[this] at hd;cases hd
  obtain⟨m,yF,yE⟩:=exists_least (p:=fun i=>i<l.length∧listed.getD i false=false) ⟨i0,Ad⟩
  have qx:m<l.length:=by omega
  have iq:l[m]? =some l[m]:=dW qx
  have uR:m∈Region.ready .any l.toArray listed:=by
   rw[mem_ready]
   refine⟨?_,l[m],by simp,fun e he hb=>?_⟩
   ·rw[show listed.getD m true=listed.getD m false from lg ai _ _];exact yF.2
   ·have dx:=qq l 0 hE m l[m] iq e he hb
    cases qc:listed.getD e.on false with
    |true=>rfl
    |false=>
     have:=yE e.on ⟨by omega,qc⟩
     omega
  refine⟨fun h0=>(by rw[h0] at uR;cases uR),fun i hi=>?_⟩
  obtain⟨h0,o,ho,oX⟩:=mem_ready.1 hi
  have ib:l[i]? =some o:=by simpa using ho
  have iP:i<l.length:=(eW.1 ib).1
  have sW:listed.getD i false=false:=by
   rw[show listed.getD i false=listed.getD i true from lg ai _ _];exact h0
  obtain⟨f,B,rfl,hf,hx,hφ,hB,uT,hC⟩:=hJ
  have me:=qk.at_ l 0 hS i o ib
  simp only[ama] at me
  have OC:∀j x,l[j]? =some x→∀N N' v w w',BQ N N' w w'→qP Φ j N v w→qP Φ j N' v w':=by
   intro j x hj
   have:=(qk.at_ l 0 hS j x hj).1
   simpa only[ama] using this
  have sF:∀j,jS o j=true→listed.getD j false=true:=by
   intro j hj
   obtain⟨e,he,hb,nN⟩:=pg.1 hj
   subst nN
   exact oX e he hb
  have dx:∀j,listed.getD j false=true→j<l.length:=by
   intro j hj
   refine amu fun hn=>?_
   rw[show listed.getD j false=false from by simp[Array.getD];omega] at hj
   cases hj
  have ud:((listed.setIfInBounds i true).toList.filter (fun b=>!b)).length=d:=by
   have wa:i<listed.size:=by omega
   have rD:listed.toList[i]? =some false:=by
    rw[dW (by simpa using wa)]
    simp only[Array.getD,wa,aoI] at sW
    simpa [amd] using sW
   have key:∀(L:List Bool) (i:Nat),L[i]? =some false→((L.set i true).filter (fun b=>!b)).length+1=(L.filter (fun b=>!b)).length:=by
    intro L
    induction L with
    |nil=>intro i h;simp at h
    |cons b L Jd=>
     intro i h
     cases i with
     |zero=>simp at h;subst h;simp
     |succ i=>
      simp at h
      have:=Jd i h
      cases b<;>simp at this ⊢<;>omega
   have:=key listed.toList i rD
   rw[anD]
   omega
  have Ms:∀j oj,(listed.setIfInBounds i true).getD j false=true→l[j]? =some oj→∀q,jS oj q=true→(listed.setIfInBounds i true).getD q false=true:=by
   intro j oj hj iF q hq
   have j7:listed.getD q false=true:=by
    by_cases fS:i=j
    ·subst fS
     rw[ib] at iF
     cases iF
     exact sF q hq
    ·rw[getD_set_ne false fS] at hj
     exact hC j oj hj iF q hq
   by_cases l3:i=q
   ·subst l3;rw[sW] at j7;cases j7
   ·rw[getD_set_ne false l3];exact j7
  have pZ:∀j,(listed.setIfInBounds i true).getD j false=true→j≠i→listed.getD j false=true:=by
   intro j hj ff
   rwa [getD_set_ne false (fun e=>ff e.symm)] at hj
  have Vx:∀j,listed.getD j false=true→(listed.setIfInBounds i true).getD j false=true:=by
   intro j hj
   by_cases fS:i=j
   ·subst fS;rw[sW] at hj;cases hj
   ·rw[getD_set_ne false fS];exact hj
  have aao:∀c,NB l Ks (fun s=>listed.getD s false) B c→w0.heap.size≤c∧c<w.heap.size:=by
   rintro c ⟨j,h1,h2,h3,rfl⟩
   obtain⟨-,h4,h5, -⟩:=hB j h1 h2 h3
   exact⟨h4,h5⟩
  
  have giv:∀(v:Value) (w':aI) (jY:o.dst.isSome=true),Ext w w'→(qP Φ i (NB l Ks (fun s=>listed.getD s false) B) v w'∧¬yx (kf Ks i)∨∀N v w,qP Φ i N v w)→(∀s j,kf Ks i≠.s s j)→
    (yx (kf Ks i)→v=.pointer (some ⟨w.heap.size,0,none⟩)∧w'.heap.size=w.heap.size+1∧w'.heap[w.heap.size]? =some (.cells (sQ Z i).1 (sQ Z i).2 (0,0)))→
    JN n l Ks Φ Z f0 w0 (listed.setIfInBounds i true) (bY n (df f o.dst v)) w':=by
   intro v w' jY yy hv hns zK
   obtain⟨di,jY⟩:=alN.1 jY
   have hDi:=vk ib jY
   have HB:df f o.dst v (eP l i)=v:=by rw[hDi,jY];exact ij f di v
   have TP:∀j oj,l[j]? =some oj→oj.dst.isSome=true→j≠i→df f o.dst v (eP l j)=f (eP l j):=by
    intro j oj iF nO ff
    obtain⟨dj,nO⟩:=alN.1 nO
    rw[vk iF nO,jY]
    exact ik f v<|Kj hN ib iF jY nO<|fun e=>ff e.symm
   have Df:∀s a j,Ks[s]? =some (.s a j)→listed.getD s false=true→df f o.dst v (eP l j)=f (eP l j):=by
    intro s a j hs Ej
    have Mg:=dx s Ej
    have Jq:l[s]? =some l[s]:=dW Mg
    have jG:=qk.at_ l 0 hS s l[s] Jq
    simp only[ama] at jG
    have hk:kf Ks s=.s a j:=by unfold kf;rw[eH,hs];rfl
    have jG:=jG.2
    rw[hk] at jG
    obtain⟨-, -,iF, -,⟨x,Ji,Vk⟩, -⟩:=jG
    have Cx:=hC s l[s] Ej Jq j iF
    refine TP j x Ji Vk ?_
    rintro rfl
    rw[sW] at Cx;cases Cx
   have hKN:BQ (NB l Ks (fun s=>listed.getD s false) B) (NB l Ks (fun s=>(listed.setIfInBounds i true).getD s false) (fun j=>if j=i then w.heap.size else B j)) w w':=by
    refine⟨yy.size,fun c hc _=>yy.block c hc,?_⟩
    rintro c hc ⟨j,h1,h2,h3,h4⟩
    dsimp only at h4
    by_cases fS:j=i
    ·rw[alE fS] at h4;omega
    ·rw[alG fS] at h4
     exact⟨j,h1,pZ j h2 fS,h3,h4⟩
   refine⟨df f o.dst v,fun j=>if j=i then w.heap.size else B j,J,fun t ht=>?_,hx.trans yy,fun j hj Cx nO=>?_,fun j hj Cx Mm=>?_,fun p q hp hq xo Vt GS Ml A'=>?_,Ms⟩
   ·have ff:t≠di:=by
     rintro rfl
     have:=mq (k:=l.length) ib iP jY
     rw[←amg,ht] at this
     cases this
    rw[jY,show df f (some di) v=cS f di v from rfl,ik f v ff]
    exact hf t ht
   ·by_cases fS:j=i
    ·subst fS
     rw[HB]
     rcases hv with ⟨hv,hnn⟩|hv
     ·refine OC j o ib _ _ _ _ _ ⟨alL _,fun _ _ _=>rfl,?_⟩ hv
      rintro c hc ⟨q,h1,h2,h3,h4⟩
      dsimp only at h4
      by_cases QZ:q=j
      ·subst QZ;exact absurd h3 hnn
      ·rw[alG QZ] at h4
       exact⟨q,h1,pZ q h2 QZ,h3,h4⟩
     ·exact hv _ _ _
    ·obtain⟨x,Ji,Vk⟩:=nO
     rw[TP j x Ji Vk fS]
     exact OC j x Ji _ _ _ _ _ hKN<|hφ j hj (pZ j Cx fS) ⟨x,Ji,Vk⟩
   ·by_cases fS:j=i
    ·subst fS
     obtain⟨n1,n2,n4⟩:=zK Mm
     rw[HB]
     dsimp only
     rw[alE rfl]
     refine⟨n1,hx.size,by omega,_,n4,J,fun s q hs Ej=>?_,fun _=>rfl⟩
     exfalso
     have QX:s≠j:=by
      rintro rfl
      have:kf Ks s=.s s q:=by unfold kf;rw[eH,hs];rfl
      exact hns _ _ this
     have Ju:=pZ s Ej QX
     have Mg:=dx s Ju
     have Jq:l[s]? =some l[s]:=dW Mg
     have jG:=qk.at_ l 0 hS s l[s] Jq
     simp only[ama] at jG
     have hk:kf Ks s=.s j q:=by unfold kf;rw[eH,hs];rfl
     have jG:=jG.2
     rw[hk] at jG
     have:=hC s l[s] Ju Jq j jG.2.1
     rw[sW] at this;cases this
    ·have afv:=pZ j Cx fS
     obtain⟨b1,b2,b3,cur,b4,b5,b6,b7⟩:=hB j hj afv Mm
     have iF:l[j]? =some l[j]:=dW hj
     have jG:=qk.at_ l 0 hS j l[j] iF
     simp only[ama] at jG
     have nO:(l[j]).dst.isSome=true:=by
      have jG:=jG.2
      revert Mm jG
      cases kf Ks j<;>intro Mm jG
      ·exact Mm.elim
      ·exact jG.1
      ·exact Mm.elim
     rw[TP j l[j] iF nO fS]
     dsimp only
     rw[alG fS]
     refine⟨b1,b2,ams b3 yy.size,cur,by rw[yy.block _ b3];exact b4,b5,fun s q hs Ej=>?_,fun p_=>b7 fun s q hs=>?_⟩
     ·have QX:s≠i:=by
       rintro rfl
       have:kf Ks s=.s j q:=by unfold kf;rw[eH,hs];rfl
       exact hns _ _ this
      have Ju:=pZ s Ej QX
      rw[Df s j q hs Ju]
      exact b6 s q hs Ju
     ·have this:(listed.setIfInBounds i true).getD s false=false:=p_ s q hs
      show listed.getD s false=false
      cases hc:listed.getD s false with
      |false=>rfl
      |true=>rw[Vx s hc] at this;cases this
   ·have hold:∀c,c<l.length→c≠i→(listed.setIfInBounds i true).getD c false=true→yx (kf Ks c)→B c<w.heap.size:=by
     intro c hc Q_ hl hk
     exact(hB c hc (pZ c hl Q_) hk).2.2.1
    by_cases ea:p=i
    ·have eb:q≠i:=fun e=>xo<|ea.trans e.symm
     have q1:=hold q hq eb GS A'
     simp only[alE ea,alG eb]
     omega
    ·have p1:=hold p hp ea Vt Ml
     by_cases eb:q=i
     ·simp only[alG ea,alE eb]
      omega
     ·simp only[alG ea,alG eb]
      exact uT p q hp hq xo (pZ p Vt ea) (pZ q GS eb) Ml A'
  have xw:∀j,jS o j=true→(∃x,l[j]? =some x∧x.dst.isSome=true)→qP Φ j (NB l Ks (fun s=>listed.getD s false) B) (f (eP l j)) w:=fun j hj hd=>hφ j (dx j<|sF j hj) (sF j hj) hd
  have HB:(listed.setIfInBounds i true).getD i false=true:=by
   have wa:i<listed.size:=by omega
   simp[Array.getD,wa]
  have me:=me.2
  cases hk:kf Ks i with
  |v=>
   rw[hk] at me
   obtain⟨sU,GW⟩:=me
   refine oH ho (GW f w _ hf hx aao xw) fun f' w' hK=>?_
   obtain⟨v,rfl,yy,hv⟩:=hK
   exact ih _ _ _ (by simp[nM]) ud<|giv v _ sU yy (.inl ⟨hv,fun hn=>by rw[hk] at hn;exact hn⟩) (by intro s j e;rw[hk] at e;cases e)<|fun hn=>by rw[hk] at hn;exact hn.elim
  |n=>
   rw[hk] at me
   obtain⟨sU,FO,GW⟩:=me
   refine oH ho (GW f w _ hf hx aao xw) fun f' w' hK=>?_
   obtain⟨rfl,rfl⟩:=hK
   exact ih _ _ _ (by simp[nM]) ud<|giv _ _ sU (Ext.alloc w _) (.inr FO) (by intro s j e;rw[hk] at e;cases e)<|fun _=>⟨J,by simp,heap_alloc_new w _⟩
  |s a j=>
   rw[hk] at me
   obtain⟨yL,Vq,iF,⟨xa,hxa,akb⟩,⟨xj,Ji,afh⟩,haj,Z4,afj,GW⟩:=me
   have GZ:=dx a<|sF a Vq
   obtain⟨b1,b2,b3,cur,b4,b5,b6,b7⟩:=hB a GZ (sF a Vq) Z4
   have kj3:=hφ j (dx j<|sF j iF) (sF j iF) ⟨xj,Ji,afh⟩
   refine oH ho (GW f w _ (B a) cur hx b1 b4 b5 kj3) fun f' w' hK=>?_
   obtain⟨rfl,rfl⟩:=hK
   have Ek:=Zn hk
   have hKN:BQ (NB l Ks (fun s=>listed.getD s false) B) (NB l Ks (fun s=>(listed.setIfInBounds i true).getD s false) B) w (w.setRow (B a) (f' (eP l j)).cells):=by
    refine⟨by simp,fun c hc ZZ=>setRow_other w (B a) c _ fun e=>ZZ ⟨a,GZ,sF a Vq,Z4,e⟩,?_⟩
    rintro c hc ⟨q,h1,h2,h3,h4⟩
    have l3:q≠i:=by rintro rfl;rw[hk] at h3;exact h3
    exact⟨q,h1,pZ q h2 l3,h3,h4⟩
   refine ih _ _ _ (by simp[nM]) ud ⟨f',B,J,hf,⟨⟨hx.os,hx.tape,hx.output,by simpa using hx.size,fun c hc=>?_⟩,hx.drawn⟩,fun q hq GS hdq=>?_,fun q hq GS A'=>?_,fun p q hp hq xo Vt GS Ml A'=>?_,Ms⟩
   ·rw[setRow_other w (B a) c _ ai];exact hx.block c hc
   ·have l3:q≠i:=by
     rintro rfl
     obtain⟨x,cw,dR⟩:=hdq
     rw[ib] at cw
     cases cw
     rw[yL] at dR;cases dR
    obtain⟨x,cw,dR⟩:=hdq
    exact OC q x cw _ _ _ _ _ hKN<|hφ q hq (pZ q GS l3) ⟨x,cw,dR⟩
   ·have l3:q≠i:=by rintro rfl;rw[hk] at A';exact A'
    have Z3:=pZ q GS l3
    obtain⟨c1,c2,c3,agv,c4,c5,c6,c7⟩:=hB q hq Z3 A'
    by_cases ZN:q=a
    ·subst ZN
     refine⟨c1,c2,by simpa using c3,_,setRow_heap w (B q) cur _ _ _ b4,afj _ _ _ kj3,fun s q' hs Ej=>?_,fun p_=>?_⟩
     ·have:=once hO hs Ek
      subst this
      rw[Ek] at hs
      cases hs
      rfl
     ·have this:(listed.setIfInBounds i true).getD i false=false:=p_ i j Ek
      rw[HB] at this;cases this
    ·have hbb:B q≠B a:=uT q a hq GZ ZN Z3 (sF a Vq) A' Z4
     refine⟨c1,c2,by simpa using c3,agv,by rw[setRow_other w (B a) (B q) _ hbb];exact c4,c5,fun s q' hs Ej=>?_,fun p_=>c7 fun s q' hs=>?_⟩
     ·have QX:s≠i:=by rintro rfl;rw[Ek] at hs;cases hs;exact ZN rfl
      exact c6 s q' hs<|pZ s Ej QX
     ·have this:(listed.setIfInBounds i true).getD s false=false:=p_ s q' hs
      show listed.getD s false=false
      cases hc:listed.getD s false with
      |false=>rfl
      |true=>rw[Vx s hc] at this;cases this
   ·have Jn:p≠i:=by rintro rfl;rw[hk] at Ml;exact Ml
    have l3:q≠i:=by rintro rfl;rw[hk] at A';exact A'
    exact uT p q hp hq xo (pZ p Vt Jn) (pZ q GS l3) Ml A'
theorem VZ {id:Nat} {Q:Exit→Act→aI→Prop} {f:aP} {w:aI} (Ks:List Kd) (Φ:List ((bT)→Value→aI→Prop)) (Z:List (Array Value×TypeId)) (hm:P.follows .mixedOrders=true) (jl:YP n l Ks=true)
  (hS:qk P n l Ks Φ Z f w 0 l)
  (lX:∀(f':aP) (w':aI) (B:Nat→Nat),(∀t,(fW l.length l).contains t=false→f' t=f t)→Ext w w'→(∀i x,l[i]? =some x→x.dst.isSome=true→qP Φ i (NB l Ks (fun _=>true) B) (f' (eP l i)) w')→
   (∀i,i<l.length→yx (kf Ks i)→f' (eP l i)=.pointer (some ⟨B i,0,none⟩)∧w.heap.size≤B i∧B i<w'.heap.size∧∃cur,w'.heap[B i]? =some (.cells cur (sQ Z i).2 (0,0))∧K1 l Ks Z (fun _=>true) f' i cur)→
   (∀i j,i<l.length→j<l.length→i≠j→yx (kf Ks i)→yx (kf Ks j)→B i≠B j)→Q .normal (bY n f') w'):
  WC P n (.region id l.toArray true) Q f w:=by
 refine wp_region_any hm ?_
 have h3:∀i,(Array.replicate l.length false).getD i false=false:=by
  intro i
  simp only[Array.getD];split<;>simp
 have h:=Wq (P:=P) (w0:=w) (f0:=f) (Q:=Q) jl hS lX l.length (Array.replicate l.length false) (bY n f) w.drew (by simp) (by simp) ⟨f,fun _=>0,rfl,fun _ _=>rfl,Ext.drew w,fun i hi h=>(by
  rw[h3] at h;cases h),fun i hi h=>(by rw[h3] at h;cases h),fun i j _ _ _ h=>(by rw[h3] at h;cases h),fun i o h _ _ _=>(by
  rw[h3] at h;cases h)⟩
 simpa using h
end
section
variable {α:Type} [GT α] {M N N':bT} {w0 w w':aI} {v:Value} {x:α}
theorem la (h:RV (MN M N) w v x) (k:BQ N N' w w'):RV (MN M N') w' v x:=
 h.lift ⟨k.1,fun c hc hn=>⟨k.2.1 c hc fun h1=>hn (.inr h1),by
  rintro(h1|h1)
  ·exact hn<|.inl h1
  ·exact hn (.inr (k.2.2 c hc h1))⟩⟩
end
end Go.Ew
namespace Go.Ew
open Go.RowKit
def FP2 {α β:Type} [GT α] [GT β] (P:Program) (g:FuncId) (C:List Value) (M:bT) (w:aI) (xs:List α) (ys:List β) (q:α→β→Bool):Prop:=
 dq P g∧∀w1 v x u y,x∈xs→y∈ys→Ext w w1→RV M w1 v x→RV M w1 u y→Calls P g ([v,u]++C).toArray w1 (cZ fun r w2=>r=.bool (q x y)∧Ext w1 w2)
theorem FP2.sub {α β:Type} [GT α] [GT β] {P:Program} {g:FuncId} {C:List Value} {M M':bT} {w w':aI} {xs:List α} {ys:List β} {q:α→β→Bool} (h:FP2 P g C M w xs ys q) (e:Ext w w') (hM:∀b,M b→M' b):FP2 P g C M' w' xs ys q:=
 ⟨h.1,fun w1 v x u y hx hy e' hv hu=>h.2 w1 v x u y hx hy (e.trans e') (hv.lift (Up.less fun b _ hb=>hM b hb)) (hu.lift (Up.less fun b _ hb=>hM b hb))⟩
end Go.Ew
namespace Go.Ew
open Go.RowKit
structure SV where
 a:Option Addr
 n:Nat
 c:Nat
def SV.v (s:SV):Value:=.slice s.a s.n s.c
instance gSV:GT SV where
 size:=1
 agg:=false
 rep _ _ cs s:=cs=[s.v]
 len h:=by rw[h];rfl
 one h:=by rw[h];simp[Value.oneCell',SV.v]
 single _:=rfl
 pos:=by decide
 lift h _:=h
theorem RV.sv {M:bT} {w:aI} {v:Value} {s:SV}:RV M w v s↔v=s.v:=by
 constructor
 ·rintro⟨cs,rfl,rfl⟩;rfl
 ·rintro rfl;exact⟨_,rfl,rfl⟩
section
variable {α:Type} [GT α] {B:Nat} {e E:TypeId} {ss:List SV} {xs:List (List α)} {l l':List Item} {M0:bT} {w0 w w':aI} {s:SV} {x y:List α} {i:Nat}
def ck (B:Nat) (e:TypeId) (ss:List SV) (xs:List (List α)):List Item:=List.zipWith (fun s x=>own B e s.v x) ss xs
def x9 (ss:List SV) (xs:List (List α)):List Item:=List.zipWith (fun s x=>xl s.v x) ss xs
theorem tR (hs:ss[i]? =some s) (hx:xs[i]? =some x):(l++ck B e ss xs)[l.length+i]? =some (own B e s.v x):=by
 rw[nQ ai,show l.length+i-l.length=i from by omega]
 unfold ck
 rw[anw,hs,hx]
theorem WK (hs:ss[i]? =some s):(l++ck B e ss xs).set (l.length+i) (own B e s.v y)=l++ck B e ss (xs.set i y):=by
 rw[anl _ _ ai,show l.length+i-l.length=i from by omega]
 congr 1
 unfold ck
 apply am'
 intro j
 rw[anq,anw,anw,anq,List.length_zipWith]
 by_cases e:i=j
 ·subst e
  have hl:=(eW.1 hs).1
  by_cases hx:i<xs.length
  ·rw[alE rfl,alE rfl,alE ai,alE hx,hs]
  ·rw[alE rfl,alE rfl,alG ai,alG hx,hs]
 ·rw[alG e,alG e]
theorem PI (h:ss.length=xs.length):ck B e (ss++[s]) (xs++[x])=ck B e ss xs++[own B e s.v x]:=by
 unfold ck
 rw[List.zipWith_append h];rfl
theorem HI.perm (H:HI M0 w0 w l) (hp:l'.Perm l):HI M0 w0 w l':=
 H.pick l' (fun it hit=>hp.mem_iff.1 hit) ((hp.filterMap _).nodup_iff.2 H.nodup)
theorem HI.Yv (H:HI M0 w0 w (own B e s.v x::(l++ck B e ss xs))) (h:ss.length=xs.length):HI M0 w0 w (l++ck B e (ss++[s]) (xs++[x])):=by
 rw[PI h,←alY]
 exact H.perm<|List.perm_append_singleton _ _
theorem J_ {A B:Type} {f g:A→Option B}:∀{l:List A},(∀a∈l,f a=g a)→l.filterMap f=l.filterMap g
 |[],_=>rfl
 |a::l,h=>by rw[ame,ame,h a al5,J_ fun b hb=>h b (alV _ hb)]
theorem JZ {A:Type}:∀t:List A,(List.range t.length).filterMap (fun i=>t[i]?)=t
 |[]=>rfl
 |a::t=>by
  rw[jv,List.range_succ_eq_map,ame,aoO]
  have:((fun i=>(a::t)[i]?)∘Nat.succ)=fun i=>t[i]?:=by funext i;rfl
  rw[this,JZ t];rfl
theorem HI.ba {t:List Item} (H:HI M0 w0 w (l++t)) (is:List Nat) (hn:is.Nodup) (hb:is.all (fun i=>Nat.blt i l.length)=true) (he:is.filterMap (fun i=>l[i]?)=l'):HI M0 w0 w (l'++t):=by
 refine H.c_ (is++(List.range t.length).map (l.length+·)) ?_ ?_
 ·rw[ang]
  refine⟨hn,?_,?_⟩
  ·rw[List.nodup_iff_pairwise_ne,List.pairwise_map]
   exact List.Pairwise.imp (fun h=>by omega) anb
  ·intro a ha b Af mK
   subst mK
   obtain⟨j, -,rfl⟩:=amx.1 Af
   have:=alK.1 hb _ ha
   have:l.length+j<l.length:=by simpa using this
   omega
 ·rw[am1,←he]
  congr 1
  ·refine J_ fun i hi=>?_
   have:=alK.1 hb _ hi
   rw[y9 (by simpa using this)]
  ·rw[aoO]
   have:((fun i=>(l++t)[i]?)∘(l.length+·))=fun i=>t[i]?:=by
    funext i
    simp only[Function.comp]
    rw[nQ ai,show l.length+i-l.length=i from by omega]
   rw[this]
   exact JZ t
theorem HI.Ey:∀(ss:List SV) (xs:List (List α)) (l:List Item),HI M0 w0 w (l++ck B e ss xs)→HI M0 w0 w (l++x9 ss xs)
 |[],xs,l,H=>H
 |s::ss,[],l,H=>H
 |s::ss,x::xs,l,H=>by
  have h1:(l++ck B e (s::ss) (x::xs))[l.length]? =some (own B e s.v x):=by rw[nQ (alL _),amN];rfl
  have H1:=H.freeze l.length h1
  have h2:(l++ck B e (s::ss) (x::xs)).set l.length (xl s.v x)=(l++[xl s.v x])++ck B e ss xs:=by
   rw[anl _ _ (alL _),amN,alY];rfl
  rw[h2] at H1
  have H2:=HI.Ey ss xs _ H1
  rwa [alY] at H2
theorem CH {M:bT}:∀{ss:List SV} {xs:List (List α)} {cs:List Value},ss.length=xs.length→(∀(i:Nat) (s:SV) (x:List α),ss[i]? =some s→xs[i]? =some x→RV M w s.v x)→cb M w cs ss→cb M w cs xs
 |[],[],cs,_,_,h=>h
 |s::ss,x::xs,cs,hl,hr,⟨c1,c2,h1,h2,h3⟩=>by
  refine⟨c1,c2,h1,⟨s.v,h2,RV.list.1 (hr 0 s x J J)⟩,CH (by simpa using hl) (fun i s' x' hs hx=>hr (i+1) s' x' hs hx) h3⟩
 |[],_::_,_,h,_,_=>by cases h
 |_::_,[],_,h,_,_=>by cases h
theorem HI.deep {v:Value} (H:HI M0 w0 w (own B E v ss::(l++ck B e ss xs))) (hl:ss.length=xs.length):HI M0 w0 w (own B E v xs::l):=by
 have H1:HI M0 w0 w (own B E v ss::(l++x9 ss xs)):=HI.Ey ss xs (own B E v ss::l) H
 obtain⟨cs,h1,h2⟩:=H1.at_ 0 rfl
 have key:∀(i:Nat) (s:SV) (x:List α),ss[i]? =some s→xs[i]? =some x→RV (MS M0 (own B E v ss::(l++x9 ss xs))) w s.v x:=by
  intro i s x hs hx
  refine H1.all (xl s.v x) (alV _<|am0 _ ?_)
  unfold x9
  exact eh (i:=i)<|by rw[anw,hs,hx]
 have H2:=H1.Ax (np:=own B E v xs) 0 rfl rfl rfl rfl (alL _) (alL _) (fun _ _ _=>rfl) (fun b hb=>⟨(H1.js _ (al5) b hb).2,.inl hb⟩) (by
  refine⟨cs,?_,cb.lift (M:=MS M0 (own B E v ss::(l++x9 ss xs))) (Up.less ?_) (CH hl key h2)⟩
  ·rw[←hl];exact h1
  ·rintro b _ (hb|⟨it,hit,hb⟩)
   ·exact .inl hb
   ·rcases alQ.1 hit with rfl|hit
    ·exact .inr ⟨_,al5,hb⟩
    ·exact .inr ⟨it,alV _ hit,hb⟩)
 refine H2.pick _ (fun it hit=>?_) ?_
 ·rcases alQ.1 hit with rfl|hit
  ·exact al5
  ·exact alV _<|amM _ hit
 ·refine aoh ?_ H2.nodup
  refine List.Sublist.filterMap _ ?_
  exact(List.sublist_append_left l _).cons_cons _
theorem HI.join (H:HI M0 w0 w l) (H':HI (MS M0 l) w w' l'):HI M0 w0 w' (l'++l):=by
 have hM:∀b,MS (MS M0 l) l' b↔MS M0 (l'++l) b:=by
  intro b
  constructor
  ·rintro((h|⟨it,hit,hb⟩)|⟨it,hit,hb⟩)
   ·exact .inl h
   ·exact .inr ⟨it,am0 _ hit,hb⟩
   ·exact .inr ⟨it,amM _ hit,hb⟩
  ·rintro(h|⟨it,hit,hb⟩)
   ·exact .inl (.inl h)
   ·rcases alR.1 hit with hit|hit
    ·exact .inr ⟨it,hit,hb⟩
    ·exact .inl (.inr ⟨it,hit,hb⟩)
 refine⟨H.below.trans H'.below,H.m0,?_,?_,?_⟩
 ·intro it hit b hb
  rcases alR.1 hit with hit|hit
  ·exact⟨Nat.le_trans H.below.size (H'.js it hit b hb).1,(H'.js it hit b hb).2⟩
  ·exact⟨(H.js it hit b hb).1,ams (H.js it hit b hb).2 H'.below.size⟩
 ·rw[am1,ang]
  refine⟨H'.nodup,H.nodup,fun b hb c hc hbc=>?_⟩
  subst hbc
  obtain⟨i,hi,Ac⟩:=al4.1 hb
  obtain⟨j,hj,uS⟩:=al4.1 hc
  have h1:=(H'.js i hi b Ac).1
  have h2:=(H.js j hj b uS).2
  omega
 ·intro it hit
  rcases alR.1 hit with hit|hit
  ·exact it.lift (H'.all it hit) (Up.less fun b _ hb=>(hM b).2 hb) fun _ _=>rfl
  ·refine it.lift (H.all it hit) ⟨H'.below.size,fun c hc hMc=>⟨H'.below.block c hc,fun hb=>?_⟩⟩ fun b hb=>H'.below.block b (H.js it hit b hb).2
   rcases (hM c).2 hb with hb|⟨i,hi,Ac⟩
   ·exact hMc hb
   ·have:=(H'.js i hi c Ac).1;omega
theorem HI.weaken (H:HI M0 w0 w l) (hl:l'.map (·.jN)=l.map (·.jN)) (hh:∀(i:Nat) it np,l[i]? =some it→l'[i]? =some np→∀M,it.holds M w→np.holds M w):HI M0 w0 w l':=by
 have hlen:l'.length=l.length:=by simpa using alB List.length hl
 have rD:∀(i:Nat) np,l'[i]? =some np→∃it,l[i]? =some it∧it.jN=np.jN:=by
  intro i np hi
  have h1:=alB (fun z=>z[i]?) hl
  simp only[amc,hi,amq] at h1
  cases pA:l[i]? with
  |none=>rw[pA] at h1;cases h1
  |some it=>rw[pA] at h1;exact⟨it,rfl,(alD h1).symm⟩
 have hMS:∀b,MS M0 l' b→MS M0 l b:=by
  rintro b (h|⟨np,hit,hb⟩)
  ·exact .inl h
  ·obtain⟨i,hi⟩:=amt.1 hit
   obtain⟨it,h1,h2⟩:=rD i np hi
   exact .inr ⟨it,eh h1,h2.trans hb⟩
 refine⟨H.below,H.m0,?_,?_,?_⟩
 ·intro np hit b hb
  obtain⟨i,hi⟩:=amt.1 hit
  obtain⟨it,h1,h2⟩:=rD i np hi
  exact H.js it (eh h1) b<|h2.trans hb
 ·have:∀m:List Item,m.filterMap (·.jN)=(m.map (·.jN)).filterMap id:=by intro m;rw[aoO];rfl
  rw[this,hl,←this];exact H.nodup
 ·intro np hit
  obtain⟨i,hi⟩:=amt.1 hit
  obtain⟨it,h1,h2⟩:=rD i np hi
  have:=hh i it np h1 hi _<|H.all it (eh h1)
  exact np.lift this (Up.less fun b _ hb=>hMS b hb) fun _ _=>rfl
theorem LQ {β:Type} [GT β] {B B':Nat} {v:Value} {ys:List β} {M:bT} (hB:B'≤B) (h:(own B e v ys).holds M w):(own B' e v ys).holds M w:=by
 obtain⟨cs,h1,h2⟩:=h
 refine⟨cs,⟨h1.1,?_⟩,h2⟩
 rcases h1.2 with h3|⟨g,cap,cur,rfl,h3,h4⟩
 ·exact .inl h3
 ·exact .inr ⟨g,cap,cur,J,Nat.le_trans hB h3,h4⟩
def HR (M:bT) (E e:TypeId) (w0:aI) (ss:List SV) (xs:List (List α)) (v:Value) (w:aI):Prop:=ss.length=xs.length∧HI M w0 w (own w0.heap.size E v ss::ck w0.heap.size e ss xs)
theorem HI.NS {v:Value} (H:HI M0 w0 w l) (h:HR (MS M0 l) E e w ss xs v w'):HI M0 w0 w' (own w0.heap.size E v ss::(l++ck w0.heap.size e ss xs)):=by
 have H1:=H.join h.2
 have H2:HI M0 w0 w' ((own w0.heap.size E v ss::ck w0.heap.size e ss xs)++l):=by
  refine H1.weaken ?_ ?_
  ·simp only[amk,amD]
   congr 2
   unfold ck
   rw[List.map_zipWith,List.map_zipWith];rfl
  ·intro i it np hi pC M hh
   have hB:w0.heap.size≤w.heap.size:=H.below.size
   cases i with
   |zero=>
    simp only[aoZ,alX,al2] at hi pC
    subst hi;subst pC;exact LQ hB hh
   |succ i=>
    simp only[aoZ,al7] at hi pC
    have hlen:∀B,(ck B e ss xs).length=min ss.length xs.length:=by intro B;unfold ck;simp
    by_cases iP:i<min ss.length xs.length
    ·rw[y9 (by rw[hlen];exact iP)] at hi pC
     unfold ck at hi pC
     rw[anw,dW ai,dW ai] at hi pC
     simp only[al2] at hi pC
     subst hi;subst pC;exact LQ hB hh
    ·rw[nQ (by rw[hlen];omega),hlen] at hi pC
     rw[hi] at pC
     cases pC;exact hh
 refine H2.perm ?_
 exact List.Perm.cons _ List.perm_append_comm
theorem B2 (H:HI M0 w0 w (l++ck B e ss xs)) (hl:ss.length=xs.length) {i:Nat} (hi:i<ss.length):∃(a:Option Addr) (x:List α) (c:Nat),ss[i]? =some (⟨a,x.length,c⟩:SV)∧xs[i]? =some x:=by
 have hs:ss[i]? =some ss[i]:=dW hi
 have hx:xs[i]? =some (xs[i]'ai):=dW ai
 obtain⟨cs,h1,h2⟩:=H.at_ _ (tR (l:=l) (B:=B) (e:=e) hs hx)
 have hn:ss[i].n=(xs[i]'ai).length:=by
  rcases h1.2 with ⟨h3,h4⟩|⟨g,cap,cur,h3, -⟩
  ·rw[h4];unfold SV.v at h3;injection h3
  ·unfold SV.v at h3;injection h3
 refine⟨ss[i].a,xs[i]'ai,ss[i].c,?_,hx⟩
 rw[hs,←hn]
theorem HI.IF {M:bT} {it:Item} (H:HI M0 w0 w ((l++ck B e ss xs).set (l.length+i) (own B e s.v y))) (hs:ss[i]? =some s):HI M0 w0 w (l++ck B e ss (xs.set i y)):=by
 rw[WK hs] at H;exact H
theorem Yt (H:HI M0 w0 w (l++ck B e ss xs)) (hs:ss[i]? =some s) (hx:xs[i]? =some x):RV (fun _=>False) w s.v x:=
 yf (H.at_ _ (tR (l:=l) (B:=B) (e:=e) hs hx)) (fun _ _ h=>h.elim) (fun _ _ h=>h.elim)
end
section
variable {P:Program} {n:Nat} {ops:Array Oper} {f:aP} {w:aI} {K:aP→aI→Prop} {M:bT} {ad:Addr} {T:TypeId} {bytes:Nat} {z:Value} {x:Operand} {d:Nat} {ty:TypeId} {ps:String} {af:Array Edge}
theorem QJ {s:SV} (hA:gq M w ad s) (F:fA P T 1 false bytes z) (ox:cC n x=true) (hx:ev f x=.pointer (some ad)) (h:K (cS f d s.v) w):
  SO P n ops ⟨some d,.load T x,ty,ps,af,none⟩ f w K:=vQ hA F ox hx fun v hv=>by rw[RV.sv.1 hv];exact h
end
end Go.Ew
namespace Go.Ew
open Go.RowKit
def nX {α:Type} [GT α] (B:Nat) (e:TypeId) (v:Value) (xs:List α):Item:=
 ⟨v.ownBlock,fun M w=>∃cs,cb M w cs xs∧((v=.slice none 0 0∧xs=[])∨∃g o c cur,v=.slice (some ⟨g,o,none⟩) xs.length c∧B≤g∧w.heap[g]? =some (.cells cur e (0,0))∧xs.length≤c∧c≤maxLen∧o+c*GT.size α≤cur.size∧(cur.toList.drop o).take (xs.length*GT.size α)=cs),fun {M M' w w'} h u hb=>by
  obtain⟨cs,h2,h1⟩:=h
  refine⟨cs,cb.lift u h2,?_⟩
  rcases h1 with h3|⟨g,o,c,cur,rfl,h4,h5,h6⟩
  ·exact .inl h3
  ·exact .inr ⟨g,o,c,cur,rfl,h4,(hb g rfl).trans h5,h6⟩⟩
theorem LR {α:Type} [GT α] {B:Nat} {e:TypeId} {v:Value} {xs:List α} {M:bT} {w:aI} (h:(own B e v xs).holds M w):(nX B e v xs).holds M w:=by
 obtain⟨cs,h1,h2⟩:=h
 refine⟨cs,h2,?_⟩
 rcases h1.2 with ⟨rfl,h3⟩|⟨g,cap,cur,rfl,h3,h4,h5,h6,h7,h8⟩
 ·exact .inl ⟨J,amK h3⟩
 ·exact .inr ⟨g,0,cap,cur,J,h3,h4,h5,h6,by omega,by rw[anW];exact h8⟩
section
variable {P:Program} {n:Nat} {ops:Array Oper} {f:aP} {w:aI} {K:aP→aI→Prop} {x y:Operand} {d:Nat} {ty T e:TypeId} {ps:String} {af:Array Edge} {v u:Value} {M M0:bT} {w0:aI} {l:List Item} {bytes:Nat} {z:Value} {B:Nat} {kk:IntKind} {agg:Bool} {α:Type} [GT α] {xs ys:List α}
theorem HI.toQ (H:HI M0 w0 w l) (i:Nat) (hi:l[i]? =some (own B e v xs)):HI M0 w0 w (l.set i (nX B e v xs)):=by
 have iP:=(eW.1 hi).1
 refine H.weaken ?_ ?_
 ·apply am'
  intro j
  rw[amc,amc]
  by_cases h:i=j
  ·subst h;rw[amj iP,hi];rfl
  ·rw[amS h]
 ·intro j it np hj xp M hh
  by_cases h:i=j
  ·subst h
   rw[amj iP] at xp
   rw[hi] at hj
   cases hj;cases xp
   exact LR hh
  ·rw[amS h,hj] at xp;cases xp;exact hh
theorem iaQ {i:Int} (hO:(nX B e v xs).holds M w) (ox:cC n x=true) (oy:cC n y=true) (hx:ev f x=v) (hy:ev f y=.int kk i) (hi:0≤i∧i<xs.length) (hu:P.underlying T=some (.slice e)) (F:fA P e (GT.size α) agg bytes z)
  (h:∀ad xv,xs[i.toNat]? =some xv→gq M w ad xv→K (cS f d (.pointer (some ad))) w):SO P n ops ⟨some d,.indexAddr T x y,ty,ps,af,none⟩ f w K:=by
 obtain⟨cs,h2,h1⟩:=hO
 rcases h1 with ⟨_,h3⟩|⟨g,o,c,cur,rfl,h3,h4,h5,h6,h7,h8⟩
 ·rw[h3] at hi;simp at hi;omega
 ·have dx:i.toNat<xs.length:=by omega
  have tz:∀j,(⟨g,o,none⟩:Addr).add j=⟨g,o+j,none⟩:=fun j=>by unfold Addr.add;split<;>simp_all
  refine SO.value (v:=.pointer (some ⟨g,o+i.toNat*GT.size α,none⟩)) ?_<|h _ xs[i.toNat] (dW dx) ?_
  ·have hb:0≤i∧i<(xs.length:Int):=by omega
   simp[execOp,bA ox,bA oy,hx,hy,Instr.indexAt,asIntOf,jz hu,hb,F.lU,tz]
  ·obtain⟨c',qE,ue⟩:=cb.at_ h2 i.toNat xs[i.toNat] (dW dx)
   refine⟨c',qE,fun j u hu=>?_⟩
   have xx:=ue j u hu
   have ac5:(⟨g,o+i.toNat*GT.size α,none⟩:Addr).add j=⟨g,o+i.toNat*GT.size α+j,none⟩:=by unfold Addr.add;split<;>simp_all
   rw[ac5,cell_of_row w g _ cur e (0,0) h4]
   rw[←h8] at xx
   obtain⟨h9,Mu⟩:=eW.1 xx
   rw[aof (by rw[lY] at h9;omega),amI,←aou] at xx
   rw[←xx,anz]
theorem slQ {lo:Int} {HU:Operand} (H:HI M0 w0 w l) (i:Nat) (hi:l[i]? =some (nX B e v xs)) (ox:cC n x=true) (ol:cC n HU=true) (hx:ev f x=v) (hl:ev f HU=.int kk lo) (hb:0≤lo∧lo≤xs.length) (hu:P.underlying T=some (.slice e)) (F:fA P e (GT.size α) agg bytes z)
  (h:∀a c,HI M0 w0 w (l.set i (nX B e (.slice a (xs.drop lo.toNat).length c) (xs.drop lo.toNat)))→K (cS f d (.slice a (xs.drop lo.toNat).length c)) w):
  SO P n ops ⟨some d,.slice T x (some HU) none none,ty,ps,af,none⟩ f w K:=by
 have hO:=H.at_ i hi
 have iP:=(eW.1 hi).1
 obtain⟨cs,h2,h1⟩:=hO
 have hlen:(xs.drop lo.toNat).length=xs.length-lo.toNat:=by simp
 obtain⟨ao,cc,rfl,hcc⟩:∃ao cc,v=.slice ao xs.length cc∧xs.length≤cc:=by
  rcases h1 with ⟨rfl,h3⟩|⟨g,o,c,cur,rfl,h3,h4,h5,h6⟩
  ·exact⟨none,0,by rw[h3];rfl,by rw[h3];exact alL _⟩
  ·exact⟨_,_,J,h5⟩
 refine SO.value (v:=.slice (if cc=lo.toNat then ao else ao.map (·.add (lo.toNat*GT.size α))) (xs.length-lo.toNat) (cc-lo.toNat)) (w':=w) ?_ ?_
 ·have Em:P.underlying T=some (.slice (P.elem T)):=by rw[hu];simp[Program.elem,hu]
  have JC:P.elem T=e:=by simp[Program.elem,hu]
  simp[execOp,bA ox,bA ol,hx,hl,Instr.sliceAt,jz hu]
  have:=run_slice_l (P:=P) (w:=w) T ao xs.length cc Em kk lo hb.1 ai
  rw[JC,F.lU] at this
  simp[this,sliced]
 ·rw[hlen] at h
  refine h _ _ ?_
  have hblk:∀(aa:Option Addr) (c1 c2 c3 c4:Nat) (f2:Addr→Addr),(∀q,(f2 q).block=q.block)→Value.ownBlock (.slice (aa.map f2) c1 c2)=Value.ownBlock (.slice aa c3 c4):=by
   intro aa c1 c2 c3 c4 f2 hf
   cases aa with
   |none=>rfl
   |some q=>show some _=some _;rw[hf]
  refine H.weaken ?_ ?_
  ·apply am'
   intro j
   rw[amc,amc]
   by_cases hj:i=j
   ·subst hj
    rw[amj iP,hi]
    show some (Value.ownBlock _)=some (Value.ownBlock _)
    split
    ·cases ao<;>rfl
    ·rw[hblk ao _ _ xs.length cc _ (fun q=>uy q _)]
   ·rw[amS hj]
  ·intro j it np hj xp M' hh
   by_cases fS:i=j
   ·subst fS
    rw[amj iP] at xp
    rw[hi] at hj
    cases hj;cases xp
    obtain⟨ds,k2,k1⟩:=hh
    rcases k1 with ⟨k3,k4⟩|⟨g,o,c,cur,k3,k4,k5,k6,k7,k8,k9⟩
    ·have e1:lo.toNat=0:=by rw[k4] at hb;simp at hb;omega
     subst k4
     injection k3 with Zq k3b Zp
     subst Zq;subst Zp
     refine⟨[],by simp;rfl,.inl ⟨?_,by simp⟩⟩
     rw[e1];rfl
    ·injection k3 with Zq k3b Zp
     subst Zq;subst Zp
     have tz:∀j,(⟨g,o,none⟩:Addr).add j=⟨g,o+j,none⟩:=fun j=>by unfold Addr.add;split<;>simp_all
     refine⟨ds.drop (lo.toNat*GT.size α),?_,.inr ?_⟩
     ·have:∀(k:Nat) (xs:List α) (cs:List Value),k≤xs.length→cb M' w cs xs→cb M' w (cs.drop (k*GT.size α)) (xs.drop k):=by
       intro k
       induction k with
       |zero=>intro xs cs _ hc;simpa using hc
       |succ k ih=>
        intro xs cs hk hc
        cases xs with
        |nil=>simp at hk
        |cons q xs=>
         obtain⟨c1,c2,rfl,m1,m2⟩:=hc
         have:=ih xs c2 (by simpa using hk) m2
         rw[an8,show (k+1)*GT.size α=c1.length+k*GT.size α from by rw[GT.len m1,amH];omega,←anm,List.drop_left]
         exact this
      exact this _ _ _ ai k2
     ·by_cases qD:cc=lo.toNat
      ·rw[alE qD]
       have hz:xs.drop lo.toNat=[]:=am_ ai
       refine⟨g,o,cc-lo.toNat,cur,by rw[hlen],k4,k5,by rw[hlen];omega,by omega,?_,?_⟩
       ·have:(cc-lo.toNat)*GT.size α≤cc*GT.size α:=amG _ ai
        omega
       ·rw[hz,←k9]
        rw[gW,aoz,anV,am_]
        rw[lY]
        have:xs.length*GT.size α≤lo.toNat*GT.size α:=amG _ ai
        omega
      ·rw[alG qD]
       refine⟨g,o+lo.toNat*GT.size α,cc-lo.toNat,cur,by rw[hlen];simp[tz],k4,k5,by rw[hlen];omega,by omega,?_,?_⟩
       ·have:lo.toNat*GT.size α+(cc-lo.toNat)*GT.size α=cc*GT.size α:=by rw[←amH];congr 1;omega
        omega
       ·rw[←k9,hlen,aoJ,anm]
        congr 1
        rw[←Nat.sub_mul]
   ·rw[amS fS,hj] at xp;cases xp;exact hh
theorem apQ (H:HI M0 w0 w l) (i:Nat) (hi:l[i]? =some (nX B e v xs)) (hB:B=w0.heap.size) (ox:cC n x=true) (oy:cC n y=true) (hx:ev f x=v) (hy:ev f y=u)
  (hs:Src (MS M0 l) w u ys) (ff:0<ys.length) (hu:P.underlying T=some (.slice e)) (F:fA P e (GT.size α) agg bytes z) (hz:z.cells.size=GT.size α) (hl:(xs.length+ys.length)*bytes≤140737488355328) (pA:xs.length+ys.length≤9223372036854775807)
  (h:∀a c w',HI M0 w0 w' (l.set i (nX B e (.slice a (xs++ys).length c) (xs++ys)))→K (cS f d (.slice a (xs++ys).length c)) w'):
  SO P n ops ⟨some d,.call {callee:=.builtin .append,args:=#[x,y],argTypes:=#[T,T]},ty,ps,af,none⟩ f w K:=by
 subst hB
 obtain⟨cs,h2,h1⟩:=H.at_ i hi
 obtain⟨a0,c0,rfl,Df⟩:=hs
 obtain⟨inf,xr,r5,yJ,El⟩:=F.info
 have dx:∀b,v.ownBlock=some b→w0.heap.size≤b∧b<w.heap.size:=H.js _<|eh hi
 obtain⟨ad,rfl,ds,sU,uT⟩:∃ad,a0=some ad∧∃cs,cb (MS M0 l) w cs ys∧∀j u,cs[j]? =some u→w.cell? (ad.add j)=some u:=by
  rcases Df with h0|h0
  ·omega
  ·exact h0
 have qD:=cb.length h2
 have Be:=cb.length sU
 have MA:∀(v':Value) (w':aI) (B':Nat) (qs:List α) (M':bT) (es:List Value),w0.heap.size≤B'→w'.ownsRow B' e (GT.size α) v' qs.length es→cb M' w' es qs→(nX w0.heap.size e v' qs).holds M' w':=by
  intro v' w' B' qs M' es hB' ho hc
  refine LR ⟨es,⟨ho.1,?_⟩,hc⟩
  rcases ho.2 with h3|⟨g,cap,cur,rfl,h3,h4⟩
  ·exact .inl h3
  ·exact .inr ⟨g,cap,cur,J,Nat.le_trans hB' h3,h4⟩
 obtain⟨a',c',w',lW,qA,Ae,ac0⟩:∃a' c' w',(Builtin.append_ #[T,T] ty #[v,.slice (some ad) ys.length c0]).run P w=.ok (.slice a' (xs.length+ys.length) c') w'∧w.grownBy w' v.ownBlock∧
   ((Value.slice a' (xs.length+ys.length) c').ownBlock=v.ownBlock∨∀b,(Value.slice a' (xs.length+ys.length) c').ownBlock=some b→w.heap.size≤b∧b<w'.heap.size)∧
   ∀M',Up (MS M0 l) w M' w'→(nX w0.heap.size e (.slice a' (xs++ys).length c') (xs++ys)).holds M' w':=by
  rcases h1 with ⟨rfl,rfl⟩|⟨g,o,c,cur,rfl,h3,h4,h5,h6,h7,h8⟩
  ·obtain⟨v',w',r1,r2,r3,_,r4⟩:=run_append_own_at (P:=P) w w0.heap.size T ty e inf z (GT.size α) bytes hu xr r5 yJ El hz GT.pos (.slice none 0 0) 0 [] (World.ownsRow_nil w _ e _) ad ys.length c0 ds Be uT (cb.E' sU) (by simp only[maxLen];simp at pA;omega) (by simpa using hl) H.below.size
   obtain⟨a',c',rfl⟩:=uD r2
   refine⟨a',c',w',by simpa using r1,r3,?_,fun M' py=>?_⟩
   ·rcases r4 with hb|hb
    ·exact .inl (by simpa using hb)
    ·refine .inr fun b uP=>⟨?_,(r2.lt b<|by simpa using uP).2⟩
     simp only[gW,ama] at uP hb
     rw[hb] at uP;cases uP;exact alL _
   ·refine MA _ _ w0.heap.size _ M' ds (alL _) ?_ ?_
    ·simpa using r2
    ·simpa using cb.lift py sU
  ·by_cases Ot:xs.length+ys.length≤c
   ·have TX:o+xs.length*GT.size α+ds.length≤cur.size:=by
     have:(xs.length+ys.length)*GT.size α≤c*GT.size α:=amG _ Ot
     rw[amH] at this
     omega
    have hf:=run_firstCells_some (P:=P) w inf.size ys.length ad ys.length c0 ds (by rw[yJ];exact Be) uT
    rw[yJ] at hf
    have jG:=run_storeCells_at P g (o+xs.length*GT.size α) e ds 0 cur w h4 (by simpa using TX)<|cb.E' sU
    simp only[amw] at jG
    have tz:∀j,(⟨g,o,none⟩:Addr).add j=⟨g,o+j,none⟩:=fun j=>by unfold Addr.add;split<;>simp_all
    have lW:(Builtin.append_ #[T,T] ty #[.slice (some ⟨g,o,none⟩) xs.length c,.slice (some ad) ys.length c0]).run P w=.ok (.slice (some ⟨g,o,none⟩) (xs.length+ys.length) c) (w.setRow g (cur.toList.take (o+xs.length*GT.size α)++ds++cur.toList.drop (o+xs.length*GT.size α+ds.length)).toArray):=by
     simp[Builtin.append_,jz hu,sizeOf,typeInfo,xr,Builtin.lenOf,Ot,hf,yJ,tz,jG]
    refine⟨_,_,_,lW,⟨J,J,J,by simp,fun k _ hk=>setRow_other w g k _ (fun e=>hk<|by simp[Value.ownBlock,e])⟩,.inl rfl,fun M' py=>?_⟩
    refine⟨cs++ds,cb.append (cb.lift py h2) (cb.lift py sU),.inr ⟨g,o,c,_,J,h3,setRow_heap w g cur _ e _ h4,by rw[im];exact Ot,h6,?_,?_⟩⟩
    ·simp only[anR,im,lY,am6,amX]
     omega
    ·rw[im,amH,←Be]
     have afD:cur.toList.length=cur.size:=by simp
     have e1:(cur.toList.take (o+xs.length*GT.size α)).length=o+xs.length*GT.size α:=by rw[lY];omega
     show List.take _ (List.drop o (cur.toList.take (o+xs.length*GT.size α)++ds++cur.toList.drop (o+xs.length*GT.size α+ds.length)))=_
     rw[alY,List.drop_append_of_le_length ai,aoJ,show o+xs.length*GT.size α-o=xs.length*GT.size α from by omega,h8]
     rw[←alY,List.take_left' (by rw[im,qD])]
   ·have holds:∀j u,cs[j]? =some u→w.cell? ((⟨g,o,none⟩:Addr).add j)=some u:=by
     intro j u Vy
     have tz:(⟨g,o,none⟩:Addr).add j=⟨g,o+j,none⟩:=by unfold Addr.add;split<;>simp_all
     rw[tz,cell_of_row w g _ cur e (0,0) h4]
     rw[←h8] at Vy
     obtain⟨k1,k2⟩:=eW.1 Vy
     rw[aof (by rw[lY] at k1;omega),amI] at Vy
     rw[←Vy,anz]
    obtain⟨v',w',r1,r2,r3⟩:=run_append_arg_grows (P:=P) w T ty e inf z (GT.size α) bytes hu xr r5 yJ El hz GT.pos ⟨g,o,none⟩ xs.length c cs qD holds ad ys.length c0 ds Be uT ai (by simp only[maxLen];omega) hl
    obtain⟨a',c',rfl⟩:=uD r2
    refine⟨a',c',w',r1,⟨r3.os,r3.tape,r3.output,r3.size,fun k hk _=>r3.block k hk (by simp)⟩,.inr fun b uP=>r2.lt b uP,fun M' py=>?_⟩
    refine MA _ _ w.heap.size _ M' (cs++ds) H.below.size (by rw[im];exact r2)<|cb.append (cb.lift py h2)<|cb.lift py sU
 refine SO.value (v:=.slice a' (xs.length+ys.length) c') (w':=w') ?_ ?_
 ·simp[execOp,resolve,invoke,builtin,bA ox,bA oy,hx,hy,lW]
 ·have:=h a' c' w'
  rw[im] at this
  refine this ?_
  have hblk:∀b,(nX w0.heap.size e (.slice a' (xs.length+ys.length) c') (xs++ys)).jN=some b→b<w'.heap.size∧((nX w0.heap.size e v xs).jN=some b∨w.heap.size≤b):=by
   intro b hb
   rcases Ae with Ae|Ae
   ·have qc:v.ownBlock=some b:=Ae.symm.trans hb
    exact⟨ams (dx b qc).2 qA.size,.inl qc⟩
   ·exact⟨(Ae b hb).2,.inr (Ae b hb).1⟩
  refine H.Ax i hi qA.os qA.tape qA.output qA.size (rP _ lW) (fun c hc ff=>qA.block c hc<|fun e=>ff e.symm) hblk ?_
  have h9:=ac0 (MS M0<|l.set i (nX w0.heap.size e (.slice a' (xs.length+ys.length) c')<|xs++ys)) ?_
  ·rw[im] at h9;exact h9
  ·refine⟨qA.size,fun b hb hM=>⟨qA.block b hb (fun e=>hM<|.inr ⟨_,eh hi,e.symm⟩),?_⟩⟩
   rintro(Er|⟨it,hit,nb⟩)
   ·exact hM<|.inl Er
   ·rcases amU hit with hit|rfl
    ·exact hM<|.inr ⟨it,hit,nb⟩
    ·rcases (hblk b nb).2 with h'|h'
     ·exact hM<|.inr ⟨_,eh hi,h'⟩
     ·omega
end
end Go.Ew
namespace Go.Ew
open Go.RowKit
section
variable {P:Program} {n:Nat} {ops:Array Oper} {f:aP} {w:aI} {K:aP→aI→Prop} {x y:Operand} {d:Nat} {ty T e:TypeId} {ps:String} {af:Array Edge} {v u:Value} {M M0:bT} {w0:aI} {l:List Item} {bytes:Nat} {z:Value} {B:Nat}
theorem cpO {xs ys:List bG} (H:HI M0 w0 w l) (i:Nat) (hi:l[i]? =some (own B e v xs)) (hB:B=w0.heap.size) (ox:cC n x=true) (oy:cC n y=true) (hx:ev f x=v) (hy:ev f y=u)
  (hs:Src (MS M0 l) w u ys) (hu:P.underlying T=some (.slice e)) (F:fA P e 1 false bytes z) (hl:ys.length=xs.length) (hp:0<xs.length)
  (h:∀w',HI M0 w0 w' (l.set i (own B e v ys))→K (cS f d (.int .i64 (ys.length:Int))) w'):
  SO P n ops ⟨some d,.call {callee:=.builtin .copy,args:=#[x,y],argTypes:=#[T,T]},ty,ps,af,none⟩ f w K:=by
 subst hB
 obtain⟨cs,h1,h2⟩:=H.at_ i hi
 obtain⟨a0,c0,rfl,Df⟩:=hs
 obtain⟨inf,xr,r5,yJ,El⟩:=F.info
 rcases h1.2 with ⟨rfl,h3⟩|⟨g',cap,cur,rfl,h3,h4,h5,h6,h7,h8⟩
 ·omega
 ·rcases Df with h0|⟨ad,rfl,ds,sU,uT⟩
  ·omega
  ·have Be:ds.length=ys.length:=by have:=cb.length sU;simpa [GT.size] using this
   have nM:cur.size=cap:=by rw[h7];simp[GT.size]
   have lW:=run_copy_row (P:=P) w T T ty e g' 0 xs.length cap ad ys.length c0 cur e ds hu (by rw[xr];simp[yJ]) h4 (by rw[Be,hl];simp) uT ai<|cb.E' sU
   refine SO.value (v:=.int .i64 (ys.length:Int)) (w':=w.setRow g' (wr cur 0 ds)) ?_<|h _ ?_
   ·have xn:(Builtin.copy_ #[T,T] ty #[.slice (some ⟨g',0,none⟩) xs.length cap,.slice (some ad) ys.length c0]).run P w=.ok (.int .i64 (ys.length:Int)) (w.setRow g' (wr cur 0 ds)):=by
     rw[lW,←Be];rfl
    simp[execOp,resolve,invoke,builtin,bA ox,bA oy,hx,hy,xn]
   ·have A6:∀c,c<w.heap.size→(own w0.heap.size e (Value.slice (some ⟨g',0,none⟩) xs.length cap) xs).jN≠some c→(w.setRow g' (wr cur 0 ds)).heap[c]? =w.heap[c]?:=
     fun c hc ff=>setRow_other w g' c _ (fun e=>ff (by rw[e];rfl))
    have hblk:∀b,(own w0.heap.size e (Value.slice (some ⟨g',0,none⟩) xs.length cap) ys).jN=some b→b<(w.setRow g' (wr cur 0 ds)).heap.size∧((own w0.heap.size e (Value.slice (some ⟨g',0,none⟩) xs.length cap) xs).jN=some b∨w.heap.size≤b):=by
     intro b hb
     refine⟨?_,.inl hb⟩
     rw[size_setRow]
     exact(H.js _ (eh hi) b hb).2
    refine H.Ax i hi J J J (by simp) (alL _) A6 hblk ?_
    refine⟨ds,⟨by simpa [GT.size] using Be,.inr ⟨g',cap,wr cur 0 ds,by rw[hl],h3,setRow_heap w g' cur _ e _ h4,by omega,h6,?_,?_⟩⟩,?_⟩
    ·simp only[wr,anR,im,lY,am6,amX]
     omega
    ·simp only[wr]
     rw[anV,an9,ama,List.take_left' (by simpa [GT.size] using Be)]
    ·have py:Up (MS M0 l) w (MS M0 (l.set i (own w0.heap.size e (Value.slice (some ⟨g',0,none⟩) xs.length cap) ys))) (w.setRow g' (wr cur 0 ds)):=by
      refine⟨by simp,fun b hb hM=>⟨setRow_other w g' b _ (fun e=>hM<|.inr ⟨_,eh hi,by rw[e];rfl⟩),?_⟩⟩
      rintro(Er|⟨it,hit,nb⟩)
      ·exact hM<|.inl Er
      ·rcases amU hit with hit|rfl
       ·exact hM<|.inr ⟨it,hit,nb⟩
       ·exact hM<|.inr ⟨_,eh hi,nb⟩
     exact cb.lift py sU
end
theorem Xx {α:Type} {ss:List SV} {xs:List (List α)} {i k L:Nat} {s s2:SV} {x x2:List α} (hs:ss[i]? =some s) (gM:ss[k]? =some s2) (hx:xs[i]? =some x) (dR:xs[k]? =some x2):L+i≠L+k∨(s.v=s2.v∧x2=x):=by
 by_cases h:i=k
 ·subst h
  right
  rw[hs] at gM;rw[hx] at dR
  cases gM;cases dR
  exact⟨J,J⟩
 ·left;omega
end Go.Ew
namespace Go.Ew
open Go.RowKit
def tD (a:Option Addr) (c lo:Nat):Option Addr:=if c=lo then a else a.map (·.add (lo*1))
theorem abO (g j:Nat):(⟨g,0,none⟩:Addr).add j=⟨g,j,none⟩:=by unfold Addr.add;split<;>simp_all
theorem vb {M:bT} {w:aI}:∀(k:Nat) {xs:az} {cs:List Value},cb M w cs xs→cb M w (cs.take k) (xs.take k)∧cb M w (cs.drop k) (xs.drop k)
 |0,xs,cs,h=>⟨by rw[anV,anV];rfl,by simpa using h⟩
 |k+1,[],cs,h=>by
  rw[show cs=[] from h]
  exact⟨J,J⟩
 |k+1,x::xs,cs,h=>by
  obtain⟨c1,c2,rfl,h2,h3⟩:=h
  obtain⟨i1,i2⟩:=vb k h3
  obtain⟨e,hx⟩:=h2
  subst e
  exact⟨⟨[.int .i64 x],c2.take k,J,⟨J,hx⟩,i1⟩,i2⟩
section
variable {P:Program} {n:Nat} {ops:Array Oper} {f:aP} {w:aI} {K:aP→aI→Prop} {x y:Operand} {d:Nat} {ty T e:TypeId} {ps:String} {af:Array Edge} {v u:Value} {M M0:bT} {w0:aI} {l:List Item} {bytes:Nat} {z:Value} {B:Nat} {kk:IntKind} {agg:Bool} {xs ys:az} {a:Option Addr} {k c:Nat}
theorem AN (hO:(own B e (.slice a k c) xs).holds M w):k=xs.length∧xs.length≤c:=by
 obtain⟨cs,h1,h2⟩:=hO
 rcases h1.2 with ⟨h3,h4⟩|⟨g,cap,cur,h3,h4,h5,h6,h7⟩
 ·cases h3;omega
 ·cases h3;exact⟨rfl,h6⟩
theorem ae5 {lo:Int} {HU:Operand} (hO:(own B e (.slice a k c) xs).holds M w) (ox:cC n x=true) (ol:cC n HU=true) (hx:ev f x=.slice a k c) (hl:ev f HU=.int kk lo) (hb:0≤lo∧lo≤xs.length) (hu:P.underlying T=some (.slice e)) (F:fA P e 1 agg bytes z)
  (h:K (cS f d (.slice (tD a c lo.toNat) (k-lo.toNat) (c-lo.toNat))) w):
  SO P n ops ⟨some d,.slice T x (some HU) none none,ty,ps,af,none⟩ f w K:=by
 obtain⟨hk,hc⟩:=AN hO
 refine SO.value (v:=.slice (tD a c lo.toNat) (k-lo.toNat) (c-lo.toNat)) (w':=w) ?_ h
 have Em:P.underlying T=some (.slice (P.elem T)):=by rw[hu];simp[Program.elem,hu]
 have JC:P.elem T=e:=by simp[Program.elem,hu]
 simp[execOp,bA ox,bA ol,hx,hl,Instr.sliceAt,jz hu]
 have:=run_slice_l (P:=P) (w:=w) T a k c Em kk lo hb.1 ai
 rw[JC,F.lU] at this
 simp[this,sliced,tD]
theorem ae6 {hi:Int} {HV:Operand} (hO:(own B e (.slice a k c) xs).holds M w) (ox:cC n x=true) (oh:cC n HV=true) (hx:ev f x=.slice a k c) (hh:ev f HV=.int kk hi) (hb:0≤hi∧hi≤xs.length) (hu:P.underlying T=some (.slice e)) (F:fA P e 1 agg bytes z)
  (h:K (cS f d (.slice (tD a c 0) hi.toNat c)) w):
  SO P n ops ⟨some d,.slice T x none (some HV) none,ty,ps,af,none⟩ f w K:=by
 obtain⟨hk,hc⟩:=AN hO
 refine SO.value (v:=.slice (tD a c 0) hi.toNat c) (w':=w) ?_ h
 have Em:P.underlying T=some (.slice (P.elem T)):=by rw[hu];simp[Program.elem,hu]
 have JC:P.elem T=e:=by simp[Program.elem,hu]
 simp[execOp,bA ox,bA oh,hx,hh,Instr.sliceAt,jz hu]
 have:=run_slice_h (P:=P) (w:=w) T a k c Em kk hi hb.1 ai
 rw[JC,F.lU] at this
 simp[this,sliced,tD]
theorem HI.YD (H:HI M0 w0 w l) (i:Nat) {g cap:Nat} {cur:Array Value} {cs ds:List Value} {o:Nat} (hi:l[i]? =some (own w0.heap.size e (.slice (some ⟨g,0,none⟩) xs.length cap) xs))
  (h3:w0.heap.size≤g) (h4:w.heap[g]? =some (.cells cur e (0,0))) (h5:xs.length≤cap) (h6:cap≤maxLen) (h7:cur.size=cap) (h8:cur.toList.take xs.length=cs)
  (hc:cb (MS M0 l) w cs xs) (hd:cb (MS M0 l) w ds ys) (ho:o+ys.length≤xs.length):
  HI M0 w0 (w.setRow g (cur.toList.take o++ds++cur.toList.drop (o+ds.length)).toArray) (l.set i (own w0.heap.size e (.slice (some ⟨g,0,none⟩) xs.length cap) (xs.take o++(ys++xs.drop (o+ys.length))))):=by
 have Be:ds.length=ys.length:=by have:=cb.length hd;simpa [GT.size] using this
 have qD:cs.length=xs.length:=by have:=cb.length hc;simpa [GT.size] using this
 have Vr:(xs.take o++(ys++xs.drop (o+ys.length))).length=xs.length:=by simp;omega
 have afD:cur.toList.length=cap:=by simpa using h7
 have A6:∀q,q<w.heap.size→(own w0.heap.size e (Value.slice (some ⟨g,0,none⟩) xs.length cap) xs).jN≠some q→(w.setRow g (cur.toList.take o++ds++cur.toList.drop (o+ds.length)).toArray).heap[q]? =w.heap[q]?:=
  fun q hq ff=>setRow_other w g q _ (fun e=>ff (by rw[e];rfl))
 refine H.Ax i hi J J J (by simp) (alL _) A6 ?_ ?_
 ·intro b hb
  refine⟨?_,.inl hb⟩
  rw[size_setRow]
  exact(H.js _ (eh hi) b hb).2
 ·have py:Up (MS M0 l) w (MS M0 (l.set i (own w0.heap.size e (Value.slice (some ⟨g,0,none⟩) xs.length cap) (xs.take o++(ys++xs.drop (o+ys.length)))))) (w.setRow g (cur.toList.take o++ds++cur.toList.drop (o+ds.length)).toArray):=by
   refine⟨by simp,fun b hb hM=>⟨setRow_other w g b _ (fun e=>hM<|.inr ⟨_,eh hi,by rw[e];rfl⟩),?_⟩⟩
   rintro(Er|⟨it,hit,nb⟩)
   ·exact hM<|.inl Er
   ·rcases amU hit with hit|rfl
    ·exact hM<|.inr ⟨it,hit,nb⟩
    ·exact hM<|.inr ⟨_,eh hi,nb⟩
  refine⟨cs.take o++(ds++cs.drop (o+ds.length)),⟨by simp[GT.size];omega,.inr ⟨g,cap,_,by rw[Vr],h3,setRow_heap w g cur _ e _ h4,by omega,h6,?_,?_⟩⟩,?_⟩
  ·simp only[anR,im,lY,am6,GT.size]
   omega
  ·rw[Vr]
   show (cur.toList.take o++ds++cur.toList.drop (o+ds.length)).take (xs.length*1)=_
   rw[←h8,aoL,alY,an1,an1,lY,anN ai,anI,anI,aoJ,alU (by omega:ds.length≤xs.length-o),Nat.min_comm o xs.length,
    show xs.length-o-ds.length=xs.length-(o+ds.length) from by omega]
  ·have e9:xs.drop (o+ys.length)=xs.drop (o+ds.length):=by rw[Be]
   have q:=cb.lift py (vb (o+ds.length) hc).2
   exact cb.append (cb.lift py (vb o hc).1)<|cb.append (cb.lift py hd)<|(alB (fun r=>cb _ _ _ r) e9).mpr q
end
end Go.Ew
namespace Go.Ew
open Go.RowKit
def FPH (P:Program) (g:FuncId) (C:List Value) (M:bT) (w:aI) (it:az→Item) (r:List Item) (xs:az) (p:Int→Bool):Prop:=
 dq P g∧∀w1 ys,HI M w w1 ([it ys]++r)→∀x,x∈xs→aN x→Calls P g ([Value.int .i64 x]++C).toArray w1 (cZ fun u w2=>u=.bool (p x)∧Ext w1 w2)
theorem FPH.fp {P:Program} {g:FuncId} {C:List Value} {M M':bT} {w w1:aI} {it:az→Item} {r:List Item} {xs ys:az} {p:Int→Bool} (h:FPH P g C M w it r xs p) (H:HI M w w1 ([it ys]++r)):FP P g C M' w1 xs p:=
 ⟨h.1,fun w2 v x hx e hv=>by
  obtain⟨cs,⟨e1,hi⟩,e2⟩:=hv
  rw[e1] at e2
  cases e2
  exact h.2 w2 ys (H.ext e) x hx hi⟩
theorem Hm (v:Value):∀n,(Builtin.zeroCells #[v] n).toList=List.replicate n v:=by
 intro n
 unfold Builtin.zeroCells
 apply am'
 intro i
 simp only[Array.toList_map,amc,Array.toList_range,anf]
 by_cases h:i<n
 ·rw[anK (by simpa using h),alE h]
  simp[Nat.mod_one]
 ·rw[amf (by simpa using h),alG h];rfl
section
variable {P:Program} {n:Nat} {ops:Array Oper} {f:aP} {w:aI} {K:aP→aI→Prop} {x y:Operand} {d:Nat} {ty T e:TypeId} {ps:String} {af:Array Edge} {v u:Value} {M M0:bT} {w0:aI} {l:List Item} {bytes:Nat} {B:Nat} {kk:IntKind} {agg:Bool} {xs ys:az} {a:Option Addr} {k c:Nat}
theorem acx {hi:Int} {HV:Operand} (H:HI M0 w0 w l) (i:Nat) (pC:l[i]? =some (own B e (.slice a k c) xs)) (ox:cC n x=true) (oh:cC n HV=true) (hx:ev f x=.slice a k c) (hh:ev f HV=.int kk hi) (hb:0≤hi∧hi≤xs.length) (hu:P.underlying T=some (.slice e)) (F:fA P e 1 agg bytes (.int .i64 0))
  (h:HI M0 w0 w (l.set i (own B e (.slice a (xs.take hi.toNat).length c) (xs.take hi.toNat)))→K (cS f d (.slice a (xs.take hi.toNat).length c)) w):
  SO P n ops ⟨some d,.slice T x none (some HV) none,ty,ps,af,none⟩ f w K:=by
 have hO:=H.at_ i pC
 have iP:=(eW.1 pC).1
 have hlen:(xs.take hi.toNat).length=hi.toNat:=by simp;omega
 have afC:tD a c 0=a:=by
  unfold tD
  split
  ·rfl
  ·obtain⟨cs,h1,h2⟩:=hO
   rcases h1.2 with ⟨h3,h4⟩|⟨g,cap,cur,h3,h4⟩
   ·cases h3;rfl
   ·cases h3
    show some (Addr.add _ (0*1))=_
    rw[abO]
 refine ae6 hO ox oh hx hh hb hu F ?_
 rw[afC]
 rw[hlen] at h
 refine h ?_
 refine H.weaken ?_ ?_
 ·apply am'
  intro j
  rw[amc,amc]
  by_cases hj:i=j
  ·subst hj;rw[amj iP,pC];cases a<;>rfl
  ·rw[amS hj]
 ·intro j it np hj xp M hh'
  by_cases pB:i=j
  ·subst pB
   rw[amj iP] at xp
   rw[pC] at hj
   cases hj;cases xp
   obtain⟨cs,h1,h2⟩:=hh'
   have qD:=cb.length h2
   refine⟨cs.take hi.toNat,⟨by rw[hlen];simp only[GT.size] at qD ⊢;rw[lY];omega,?_⟩,(vb _ h2).1⟩
   rcases h1.2 with ⟨h3,h4⟩|⟨g,cap,cur,h3,h4,h5,h6,h7,h8,h9⟩
   ·cases h3
    refine .inl ⟨by rw[show hi.toNat=0 from by omega],by rw[hlen];omega⟩
   ·cases h3
    refine .inr ⟨g,c,cur,by rw[hlen],h4,h5,by omega,h7,h8,?_⟩
    rw[←h9,hlen,anI]
    congr 1
    simp only[GT.size];omega
  ·rw[amS pB,hj] at xp;cases xp;exact hh'
theorem clO (H:HI M0 w0 w l) (i:Nat) (hi:l[i]? =some (own B e (.slice a k c) xs)) (hB:B=w0.heap.size) (ox:cC n x=true) {q:Nat} (hx:ev f x=.slice (tD a c q) (k-q) (c-q))
  (hu:P.underlying T=some (.slice e)) (F:fA P e 1 agg bytes (.int .i64 0)) (hq:q≤xs.length)
  (h:∀w',HI M0 w0 w' (l.set i (own B e (.slice a k c) (xs.take q++(List.replicate (xs.length-q) 0++[]))))→K f w'):
  SO P n ops ⟨none,.call {callee:=.builtin .clear,args:=#[x],argTypes:=#[T]},ty,ps,af,none⟩ f w K:=by
 subst hB
 have hO:=H.at_ i hi
 have iP:=(eW.1 hi).1
 obtain⟨hk,hc⟩:=AN hO
 obtain⟨cs,h1,h2⟩:=hO
 by_cases j7:q=xs.length
 ·have hz:k-q=0:=by omega
  refine SO.value (d:=none) (v:=.tuple #[]) (w':=w) ?_<|h w ?_
  ·have xn:(Builtin.clear_ #[T] ty #[.slice (tD a c q) 0 (c-q)]).run P w=.ok (.tuple #[]) w:=by
    cases hca:tD a c q<;>simp[Builtin.clear_,run_underlying hu]
   rw[hz] at hx
   simp[execOp,resolve,invoke,builtin,bA ox,hx,xn]
  ·have e9:xs.take q++(List.replicate (xs.length-q) 0++[])=xs:=by rw[j7];simp
   rw[e9]
   have:l.set i (own w0.heap.size e (.slice a k c) xs)=l:=by
    apply am'
    intro j
    by_cases hj:i=j
    ·subst hj;rw[amj iP,hi]
    ·rw[amS hj]
   rw[this];exact H
 ·rcases h1.2 with ⟨h0,h3⟩|⟨g',c1,cur,h0,h3,h4,h5,h6,h7,h8⟩
  ·omega
  ·cases h0
   have nM:cur.size=c:=by rw[h7];simp[GT.size]
   have hcA:tD (some ⟨g',0,none⟩) c q=some ⟨g',q,none⟩:=by unfold tD;rw[alG ai,aoL];show some (Addr.add _ q)=_;rw[abO]
   rw[hcA] at hx
   have hz:cb (MS M0 l) w (List.replicate (xs.length-q) (Value.int .i64 0)) (List.replicate (xs.length-q) (0:Int)):=by
    have:∀m,cb (MS M0 l) w (List.replicate m (Value.int .i64 0)) (List.replicate m (0:Int)):=by
     intro m
     induction m with
     |zero=>rfl
     |succ m ih=>exact⟨[.int .i64 0],List.replicate m (.int .i64 0),by rw[ani];rfl,⟨rfl,by unfold aN;omega⟩,ih⟩
    exact this _
   have jG:=run_storeCells_at P g' q e (List.replicate (xs.length-q)<|Value.int .i64 0) 0 cur w h4 (by rw[xf];omega)<|cb.E' hz
   refine SO.value (d:=none) (v:=.tuple #[]) (w':=w.setRow g' (cur.toList.take q++List.replicate (xs.length-q) (Value.int .i64 0)++cur.toList.drop (q+(List.replicate (xs.length-q)<|Value.int .i64 0).length)).toArray) ?_<|h _ ?_
   ·obtain⟨m,hm⟩:∃m,xs.length-q=m+1:=⟨xs.length-q-1,by omega⟩
    have xn:(Builtin.clear_ #[T] ty #[.slice (some ⟨g',q,none⟩) (xs.length-q) (c-q)]).run P w=.ok (.tuple #[]) (w.setRow g' (cur.toList.take q++List.replicate (xs.length-q) (Value.int .i64 0)++cur.toList.drop (q+(List.replicate (xs.length-q) (Value.int .i64 0)).length)).toArray):=by
     have wg:(Builtin.zeroCells (Value.int .i64 0).cells (xs.length-q)).toList=List.replicate (xs.length-q) (Value.int .i64 0):=Hm _ _
     rw[amw] at jG
     rw[hm] at jG wg ⊢
     simp[Builtin.clear_,run_underlying hu,F.zr,wg,jG]
    simp[execOp,resolve,invoke,builtin,bA ox,hx,xn]
   ·have:=HI.YD (ys:=List.replicate (xs.length-q) 0) (ds:=List.replicate (xs.length-q) (Value.int .i64 0)) (o:=q) H i hi h3 h4 h5 h6 nM (by simpa [GT.size] using h8) h2 hz<|by rw[xf];omega
    have e8:xs.drop (q+(List.replicate (xs.length-q) (0:Int)).length)=[]:=by rw[xf];exact am_ ai
    rw[e8] at this
    exact this
end
end Go.Ew
namespace Go.Ew
variable {i:Int}
def eS (i:Int):bG:=if 0≤i∧i≤63 then 1#64 <<< i.toNat else 0#64
theorem GD (h:aN i):((BitVec.ofInt 64 i).toNat:Int)=if 0≤i then i else i+18446744073709551616:=by
 rw[←xE,IntKind.wrap_u64];unfold aN at h;split<;>omega
theorem X4 (h:aN i) (h1:63<(BitVec.ofInt 64 i).toNat):0#64=eS i:=by
 unfold eS;rw[alG];have:=GD h;unfold aN at h;split at this<;>omega
theorem X3 (h:aN i) (h1:¬63<(BitVec.ofInt 64 i).toNat):1#64 <<< ((BitVec.ofInt 64 i).toNat:Int).toNat=eS i:=by
 have h2:=GD h
 unfold eS;unfold aN at h
 split at h2
 ·rw[alE ai];congr 1;omega
 ·omega
def oS (w:bG) (i:Int):Bool:=decide (0≤i)&&w.getLsbD i.toNat
theorem X6 (w:bG) (k:Nat) (hk:k<64):(w &&& 1#64 <<< k=0#64)↔w.getLsbD k=false:=by
 constructor
 ·intro h
  have:=alB (·.getLsbD k) h
  simpa [hk] using this
 ·intro h
  apply anr
  intro j hj
  simp only[aoR,aol,BitVec.getLsbD_zero]
  by_cases v8:j=k
  ·subst v8;simp[h]
  ·by_cases dx:j<k
   ·simp[dx]
   ·have:j-k≠0:=by omega
    simp[this]
theorem Mq (w:bG) (i:Int):(!decide (w &&& eS i=0#64))=oS w i:=by
 unfold eS oS
 by_cases h:0≤i∧i≤63
 ·rw[alE h,al0]
  have:=X6 w i.toNat ai
  simp[this,h.1]
 ·rw[alG h]
  by_cases h0:0≤i
  ·have:w.getLsbD i.toNat=false:=BitVec.getLsbD_of_ge w _ ai
   simp[this]
  ·simp[h0]
abbrev Row:=List bG
def fU (r:Row) (i:Int):Bool:=decide (0≤i)&&(r.getD (i.toNat/64) 0#64).getLsbD (i.toNat%64)
def iO (r:Row) (i:Int):Bool:=decide (0≤i∧i<64*(r.length:Int))
theorem Xz {r:Row} (h:0≤i):decide (i/64<(r.length:Int))=iO r i:=by
 unfold iO;congr 1;apply propext;omega
theorem Zv {r:Row} (h:i<0):false=iO r i:=by
 unfold iO;simp;omega
theorem Mr {r:Row} (h:iO r i=true) {x:bG} (hx:r[(i/64).toNat]? =some x):oS x (i%64)=fU r i:=by
 unfold iO at h;simp only[alC] at h
 unfold oS fU
 have e1:(i/64).toNat=i.toNat/64:=by omega
 have e2:(i%64).toNat=i.toNat%64:=by omega
 rw[e1] at hx
 rw[e2,eH,hx]
 simp[h.1,Int.emod_nonneg]
theorem wi {r:Row} (h:iO r i=false):false=fU r i:=by
 unfold iO at h;simp only[al1] at h
 unfold fU
 by_cases h0:0≤i
 ·rw[eH,amf ai];simp
 ·simp[h0]
def ej (r:Row) (i:Int):Row:=if iO r i then r.set (i.toNat/64) (r.getD (i.toNat/64) 0#64 ||| eS (i%64)) else r
theorem E2 {r:Row} (h:iO r i=true) {x:bG} (hx:r[(i/64).toNat]? =some x):r.set (i/64).toNat (x ||| eS (i%64))=ej r i:=by
 unfold ej;rw[alE h]
 unfold iO at h;simp only[alC] at h
 have e1:(i/64).toNat=i.toNat/64:=by omega
 rw[e1] at hx
 rw[e1,eH,hx];rfl
theorem CZ {r:Row} (h:iO r i=false):r=ej r i:=by
 unfold ej;rw[alG (by simp[h])]
end Go.Ew
namespace Go.Ew
variable {a b:Nat}
def Uv (x:Nat):Nat→Nat
 |0=>0
 |k+1=>Uv x k+(x.testBit k).toNat
def y4 (x:bG):Nat:=Uv x.toNat 64
def rep (m:Nat):Nat→Nat
 |0=>0
 |n+1=>m+256*rep m n
def s1 (n x:Nat):Nat:=(x/2 &&& rep 0x55 n)+(x &&& rep 0x55 n)
def s2 (n x:Nat):Nat:=(x/4 &&& rep 0x33 n)+(x &&& rep 0x33 n)
def s3 (n x:Nat):Nat:=(x/16+x) &&& rep 0x0f n
def HQ (a:Nat):Nat:=(a/2 &&& 0x55)+(a &&& 0x55)
def HP (a:Nat):Nat:=(a/4 &&& 0x33)+(a &&& 0x33)
theorem b3:∀a<256,HP (HQ a)<69∧HP (HQ a)%16<5∧HP (HQ a)%16+HP (HQ a)/16=Uv a 8:=by decide +kernel
theorem d1 (h:a<256):(a+256*b)/256=b:=by omega
theorem d2 {c:Nat} (h:a<256) (h':b<256):(a+256*(b+256*c))/65536=c:=by omega
theorem d4 {c d e:Nat} (h:a<256) (h':b<256) (h2:c<256) (h3:d<256):(a+256*(b+256*(c+256*(d+256*e))))/4294967296=e:=by omega
end Go.Ew
namespace Go.Ew
variable {r:Row} {i:Int}
def BC (r:Row):Nat:=(r.map y4).sum
def acF (x y:bG):Bool:=decide (x &&& ~~~y=0#64)
def acw (a b:Row) (i:Nat):Bool:=acF (a.getD i 0#64) (b.getD i 0#64)
def acv (a b:Row) (k:Nat):Bool:=(List.range k).all (acw a b)
def Is (a b:Row):Bool:=acv a b a.length
theorem r8 {k:Nat} {x:bG} (h:r[((k:Nat):Int).toNat]? =some x):r.getD k 0#64=x:=by
 rw[dC] at h;rw[eH,h];rfl
theorem nI {k:Nat} (h:r.length≤k):r.getD k 0#64=0#64:=by
 rw[eH,amf h];rfl
def words (n:Int):Nat:=((max n 0+63)/64).toNat
def dJ (n:Int):Row:=List.replicate (words n) 0#64
theorem zy (x:bG) (i j:Nat) (hi:i<64) (hj:j<64):(x ||| eS (i:Int)).getLsbD j=(x.getLsbD j||decide (j=i)):=by
 unfold eS
 rw[alE ai,BitVec.getLsbD_or,aol,dC]
 congr 1
 by_cases h:j=i
 ·subst h;simp[hi]
 ·by_cases h2:j<i
  ·simp[h,h2]
  ·have:j-i≠0:=by omega
   simp[h,h2,this,hj]
theorem NU {x:bG} {i:Nat} (hi:i<64) (h:x.getLsbD i=true):x ||| eS (i:Int)=x:=by
 apply anr
 intro j hj
 rw[zy _ _ _ hi hj]
 by_cases e:j=i
 ·subst e;simp[h]
 ·simp[e]
theorem nE (r:Row) (i:Int):(ej r i).length=r.length:=by unfold ej;split<;>simp
theorem Ma (r:Row) (i j:Int):iO (ej r i) j=iO r j:=by unfold iO;rw[nE]
theorem C0 (h:iO r i=true) (k:Nat) (hk:k<r.length):(ej r i).getD k 0#64=if k=i.toNat/64 then r.getD k 0#64 ||| eS ((i.toNat%64:Nat):Int) else r.getD k 0#64:=by
 unfold ej;rw[alE h]
 unfold iO at h;simp only[alC] at h
 have e:i%64=((i.toNat%64:Nat):Int):=by omega
 simp only[eH]
 by_cases Ba:k=i.toNat/64
 ·subst Ba
  rw[amj hk,alE rfl,e];rfl
 ·rw[amS (fun e=>Ba e.symm),alG Ba]
theorem Ht:fU (ej r i) i=iO r i:=by
 by_cases h:iO r i=true
 ·have h':=h
  unfold iO at h';simp only[alC] at h'
  have hm:i.toNat%64<64:=Nat.mod_lt _ aJ
  rw[h];unfold fU
  rw[C0 h _ ai,alE rfl,zy _ _ _ hm hm]
  simp[h'.1]
 ·have h2:iO (ej r i) i=false:=by rw[Ma];simpa using h
  rw[←wi h2];simpa using h
theorem OD {r:Row} {i:Int} (h:fU r i=true):iO r i=true:=by
 cases h1:iO r i with
 |true=>rfl
 |false=>rw[←wi h1] at h;cases h
theorem zm (h:fU r i=true):ej r i=r:=by
 have hi:=OD h
 have h':=hi
 unfold iO at h';simp only[alC] at h'
 have hm:i.toNat%64<64:=Nat.mod_lt _ aJ
 apply anc (nE _ _)
 intro k h1 h2
 have:=C0 hi k h2
 rw[eH,eH,dW h1,dW h2] at this
 simp only[amv] at this
 rw[this]
 split
 ·rename_i e
  refine NU hm ?_
  unfold fU at h
  simp only[cA,alC] at h
  have h3:=h.2
  rw[←e,eH,dW h2] at h3
  exact h3
 ·rfl
end Go.Ew
namespace Go.Ew
variable {n i j:Int} {x:Row} {m:Nat}
abbrev Rows:=List (List bG)
def YO (n k:Int):Bool:=decide (k<0)||decide (n≤k)
def mH (n:Int) (l:az):Bool:=!l.any (YO n)
theorem jC {a b:Int}:mH n [a,b]=true↔(0≤a∧a<n)∧(0≤b∧b<n):=by
 unfold mH YO
 simp
def rowAt (rs:Rows) (i:Int):Row:=rs.getD i.toNat []
theorem oK {rs:Rows} (h:rs[i.toNat]? =some x):rowAt rs i=x:=by unfold rowAt;rw[eH,h];rfl
def pO (rs:Rows) (p:Int×Int):Rows:=rs.set p.1.toNat (ej (rowAt rs p.1) p.2)
theorem K_ (rs:Rows) (p:Int×Int):(pO rs p).length=rs.length:=by unfold pO;simp
theorem E3 {rs:Rows} (h:rs[i.toNat]? =some x):rs.set i.toNat (ej x j)=pO rs (i,j):=by unfold pO;rw[oK h]
def wY (n:Int):Bool:=decide (0≤n)&&decide (n≤4096)
theorem lN:wY n=true↔0≤n∧n≤4096:=by unfold wY;simp
theorem oV:wY n=false↔¬(0≤n∧n≤4096):=by rw[←lN];simp
def tn (n:Int):Rows:=List.replicate n.toNat (dJ n)
def eK (n:Int):Int:=if wY n then n else 0
def bO (n:Int):Rows:=if wY n then tn n else []
def ka (n:Int):Int:=if wY n then 0 else 1
theorem kA (h:wY n=true):eK n=n∧bO n=tn n∧ka n=0:=by simp[eK,bO,ka,h]
theorem nh (h:wY n=false):eK n=0∧bO n=[]∧ka n=1:=by simp[eK,bO,ka,h]
theorem pj (n:Int):(tn n).length=n.toNat:=by unfold tn;simp
def uq {α:Type} (m k:Nat) (a b:α):List α:=List.replicate k a++List.replicate (m-k) b
theorem Lq {α:Type} (m:Nat) (a b:α):List.replicate m b=uq m 0 a b:=by simp[uq]
theorem OO {α:Type} {k:Nat} {a b:α} (h:k<m):(uq m k a b).set k a=uq m (k+1) a b:=by
 unfold uq
 obtain⟨q,hq⟩:∃q,m-k=q+1:=⟨m-k-1,by omega⟩
 rw[hq,anl _ _ (by simp),show m-(k+1)=q from by omega,xf,amN,ani,aoc,an2,alY]
 rfl
theorem OP {α:Type} {k:Nat} {a b:α} (h:k=m):uq m k a b=List.replicate m a:=by subst h;simp[uq]
def foldM (n:Int) (ps:List (Int×Int)):Rows:=ps.foldl pO (tn n)
theorem uW:∀(ps:List (Int×Int)) (rs:Rows),(ps.foldl pO rs).length=rs.length
 |[],_=>rfl
 |p::ps,rs=>by rw[an',uW ps,K_]
theorem wy (n:Int) (ps:List (Int×Int)):(foldM n ps).length=n.toNat:=by unfold foldM;rw[uW,pj]
theorem ON {ps:List (Int×Int)} {j:Nat} {p:Int×Int} (h:ps[((j:Nat):Int).toNat]? =some p):foldM n (ps.take (j+1))=pO (foldM n (ps.take j)) p:=by
 unfold foldM;rw[nV h,anE];rfl
theorem DH {α:Type} {l:List α} {q:α→Bool} {j:Nat} {x:α} (h:l[((j:Nat):Int).toNat]? =some x) (h1:(l.take j).all q=true) (h2:q x=true):(l.take (j+1)).all q=true:=by
 rw[nV h,List.all_append,h1];simp[h2]
theorem KF {α:Type} {l:List α} {q:α→Bool} {i:Nat} {x:α} (h:l[i]? =some x) (h2:q x=false):l.all q=false:=by
 rw[List.all_eq_false];exact⟨x,eh h,by simp[h2]⟩
theorem PC {rs:Rows} {p:Int×Int} (h:∀x∈rs,x.length=m):∀x∈pO rs p,x.length=m:=by
 intro x hx
 unfold pO at hx
 by_cases hi:p.1.toNat<rs.length
 ·rcases amU hx with hx|rfl
  ·exact h x hx
  ·rw[nE]
   unfold rowAt
   rw[eH,dW hi]
   exact h _<|ant hi
 ·rw[List.set_eq_of_length_le ai] at hx
  exact h x hx
theorem xy {m:Nat}:∀(ps:List (Int×Int)) (rs:Rows),(∀x∈rs,x.length=m)→∀x∈ps.foldl pO rs,x.length=m
 |[],_,h=>h
 |p::ps,rs,h=>by rw[an'];exact xy ps _ (PC h)
theorem ph (n:Int):(dJ n).length=words n:=by unfold dJ;simp
theorem G4 {ps:List (Int×Int)} {i:Nat} (h:(foldM n ps)[i]? =some x):x.length=words n:=
 xy ps (tn n) (by
  intro x hx
  unfold tn at hx
  rw[List.eq_of_mem_replicate hx,ph]) x (eh h)
theorem CO (h:n≤4096):words n≤64:=by unfold words;omega
def dP (n:Int) (i j:Int):Int:=if mH n [i,j] then n else 0
def bL (n:Int) (rs:Rows) (i j:Int):Rows:=if mH n [i,j] then pO rs (i,j) else []
def iH (n:Int) (i j:Int):Int:=if mH n [i,j] then 0 else 1
def dG (n:Int) (rs:Rows) (i j:Int):Bool:=mH n [i,j]&&fU (rowAt rs i) j
theorem jx {rs:Rows} (h:mH n [i,j]=true):dP n i j=n∧bL n rs i j=pO rs (i,j)∧iH n i j=0:=by simp[dP,bL,iH,h]
theorem Ix {rs:Rows} (h:mH n [i,j]=false):dP n i j=0∧bL n rs i j=[]∧iH n i j=1:=by simp[dP,bL,iH,h]
theorem ay {α:Type} {l:List α} {i:Nat} {x y:α} (h:l[i]? =some x) (e:l[i]? =some y):x=y:=alD (h.symm.trans e)
theorem AU:mH n [i,j]=(decide (0≤i)&&decide (i<n)&&decide (0≤j)&&decide (j<n)):=by
 rw[al0,jC];simp[and_assoc]
end Go.Ew
namespace Go.Ew
variable {i:Int} {x:bG} {r:Row}
theorem SK (j:Nat):(1#64 <<< j)*2#64=1#64 <<< (j+1):=by
 rw[show (2#64)=BitVec.twoPow 64 1 from rfl,BitVec.mul_twoPow_eq_shiftLeft,←BitVec.shiftLeft_add]
theorem zT (h0:0≤i) (h:i≤63):eS i=1#64 <<< i.toNat:=by unfold eS;rw[alE ⟨h0,h⟩]
theorem zU (h:¬(0≤i∧i≤63)):eS i=0#64:=by unfold eS;rw[alG h]
theorem EK (h0:0≤i) (h:i≤63):(eS i).toNat=2^i.toNat:=by
 rw[zT h0 h,BitVec.toNat_shiftLeft,aoj,Nat.shiftLeft_eq]
 have h1:i.toNat<64:=by omega
 have:2^i.toNat<2^64:=Nat.pow_lt_pow_right aJ h1
 rw[an0 (a:=1) aJ,Nat.one_mul,an0 this]
theorem X2 (h:¬eS i=0#64):0≤i∧i≤63:=by
 by_cases h1:0≤i∧i≤63
 ·exact h1
 ·exact absurd (zU h1) h
theorem JK {w:bG} (h:¬eS i=0#64):decide (w/eS i%2#64=1#64)=oS w i:=by
 obtain⟨h0,h1⟩:=X2 h
 unfold oS
 rw[al0,alC,cA,alC]
 have e:w.getLsbD i.toNat=true↔w.toNat/2^i.toNat%2=1:=by
  rw[BitVec.getLsbD,Nat.testBit_eq_decide_div_mod_eq,alC]
 rw[e]
 have e2:(w/eS i%2#64).toNat=w.toNat/2^i.toNat%2:=by
  rw[BitVec.toNat_umod,BitVec.toNat_udiv,EK h0 h1];rfl
 constructor
 ·intro h2
  rw[h2] at e2
  exact⟨h0,e2.symm⟩
 ·rintro⟨-,h2⟩
  apply ann
  rw[e2,h2];rfl
theorem GX {w:bG} (h:eS i=0#64):false=oS w i:=by
 unfold oS
 by_cases h1:0≤i∧i≤63
 ·have h2:=EK h1.1 h1.2
  rw[h] at h2
  have:0<2^i.toNat:=Nat.pow_pos aJ
  simp only[aoj,Nat.zero_mod] at h2;omega
 ·by_cases h0:0≤i
  ·have:w.getLsbD i.toNat=false:=BitVec.getLsbD_of_ge w _ ai
   simp[this]
  ·simp[h0]
theorem X_ (h:oS x i=false):x+eS i=x ||| eS i:=by
 have e:x &&& eS i=0#64:=by
  have:=Mq x i
  rw[h] at this
  simpa using this
 exact BitVec.add_eq_or_of_and_eq_zero x (eS i) e
theorem AT (h0:0≤i) (h:i<64*(r.length:Int)):iO r i=true:=by unfold iO;simp[h0,h]
theorem Mb (h:¬(0≤i∧i<64*(r.length:Int))):iO r i=false:=by unfold iO;simp;omega
theorem B8 (h0:0≤i) (h:i<64*(r.length:Int)) (hx:r[(i/64).toNat]? =some x):oS x (i%64)=fU r i:=Mr (AT h0 h) hx
theorem B9 (h:¬(0≤i∧i<64*(r.length:Int))):false=fU r i:=wi (Mb h)
theorem BZ (h:¬(0≤i∧i<64*(r.length:Int))):r=ej r i:=CZ (Mb h)
theorem zn (h0:0≤i) (h:i<64*(r.length:Int)) (hn:fU r i=false) (hx:r[(i/64).toNat]? =some x):r.set (i/64).toNat (x+eS (i%64))=ej r i:=by
 rw[X_ (by rw[B8 h0 h hx];exact hn),E2 (AT h0 h) hx]
theorem F' {n:Int} (h:0≤n):((words n:Nat):Int)=(n+63)/64:=by unfold words;omega
theorem Ga {n:Int} (h:n<0):((words n:Nat):Int)=0:=by unfold words;omega
end Go.Ew
namespace Go.Ew
open Go.RowKit Go.WideShapes Go.ChangeShapes
def vv:List Nat:=[0,1,56,2,57,49,28,3,61,58,42,50,38,29,17,4,62,47,59,36,45,43,51,22,53,39,33,30,24,18,12,5,63,55,48,27,60,41,37,16,46,35,44,21,52,32,23,11,54,26,40,15,34,20,31,10,25,14,19,9,13,8,7,6]
def mi (g:Nat) (w:aI):Prop:=∀i,i<64→w.cell? ⟨g,i,none⟩=some (.int .u8 ((vv.getD i 0:Nat):Int))
theorem mi.ext {g:Nat} {w w':aI} (h:mi g w) (e:Ext w w'):mi g w':=by
 intro i hi
 have h1:=h i hi
 rw[Below.cell e.toBelow (p:=⟨g,i,none⟩) (nk h1)]
 exact h1
def uC (i:Nat):BitVec 8:=BitVec.ofNat 8 (vv.getD i 0)
theorem Yn:∀i<64,vv.getD i 0<64:=by decide
theorem Ir {i:Nat} (h:i<64):((uC i).toNat:Int)=((vv.getD i 0:Nat):Int):=by
 have:=Yn i h
 unfold uC
 rw[aoj]
 omega
theorem mi.at_ {g:Nat} {w:aI} {M:bT} (h:mi g w) {i:Nat} (hi:i<64):gq M w ⟨g,i,none⟩ (uC i):=by
 refine⟨[U8 (uC i)],J,fun j v hv=>?_⟩
 cases j with
 |zero=>
  simp at hv;subst hv
  rw[show (⟨g,i,none⟩:Addr).add 0=⟨g,i,none⟩ from rfl,h i hi,U8,Ir hi]
 |succ j=>simp at hv
theorem ae3 {g:Nat} {w0 w:aI} {M:bT} (h:mi g w0) (e:Ext w0 w) {i:Nat} {ad:Addr} (ha:(⟨g,0,none⟩:Addr).add (i*1)=ad) (hi:i<64):gq M w ad (uC i):=by
 have:ad=⟨g,i,none⟩:=by
  rw[←ha,aoL]
  unfold Addr.add
  split
  ·rename_i h;rw[h]
  ·simp
 rw[this]
 exact(h.ext e).at_ hi
theorem K9 {P:Program} {g:Nat} {t e:TypeId} {name:String} {D:DataW Unit} {W:aI} (hg:P.globalNamed name=some g) (ht:(P.globals[g]?).map (·.type)=some t)
  (hu:P.underlying t=some (.array 64 e)) (he:P.underlying e=some (.int .u8)) (hc:P.cellsOf e=1) (hD:D=.agg (vv.map fun k=>.lit (.int .u8 ((k:Nat):Int)))) (h:laidMetH P [(name,D)] W)
  (hp:laidMetH P [(name,D)] W↔laidMet P [(name,D)] W):mi g W:=by
 rw[hp] at h
 obtain⟨ps,⟨g0,t0,V5,f0,p0,q0,Cz,ht0,iC,yL,_⟩,_⟩:=h
 obtain rfl:=alD (hg.symm.trans Cz)
 obtain rfl:=alD (ht.symm.trans ht0)
 obtain⟨xs,m,rfl,hx,hlen,hn,Em⟩:=DataW.trod_array hu yL
 intro i hi
 have h1:=Em i hi
 rw[hc,aoL,dW (by omega:i<xs.length)] at h1
 obtain⟨k,e1,e2,_⟩:=DataW.trod_int he h1
 simp only[Prod.mk.injEq] at hx
 have h2:(DataW.agg (vv.map fun k=>DataW.lit (Lit.int .u8 ((k:Nat):Int))):DataW Unit)=.agg (xs.map (·.1)):=by rw[←hD];exact hx.1
 injection h2 with h3
 have h4:=alB (fun l=>l[i]?) h3
 have hti:i<vv.length:=by simpa [vv] using hi
 simp only[amc,dW hti,dW (by omega:i<xs.length),amq,e2,al2] at h4
 injection h4 with h5
 injection h5 with h6 h7
 have h8:vv.getD i 0=vv[i]:=by rw[eH,dW hti];rfl
 rw[h8,h7]
 have:=World.var?_cell Cz iC i
 have ue:V5[i]? =some (.int .u8 k):=by
  have:(V5.toList.drop i).head?=some (.int .u8 k):=by
   have h9:((V5.toList.drop i).take 1).head?=some (.int .u8 k):=by rw[e1];rfl
   cases hq:V5.toList.drop i with
   |nil=>rw[hq] at h9;simp at h9
   |cons a b=>rw[hq] at h9;simpa using h9
  rw[List.head?_drop] at this
  simpa using this
 rw[ue] at this
 simpa using this
end Go.Ew
namespace Go.Ew
variable {x:bG}
def oQ (x:bG):List Nat:=(List.range 64).filter fun k=>x.getLsbD k
def fK (x:bG):Nat:=(oQ x).headD 64
theorem uo {p:Nat→Bool}:∀(n:Nat),(∃k<n,p k=true)→∃k,k<n∧p k=true∧(∀j,j<k→p j=false)∧∃l,(List.range n).filter p=k::l∧l=(List.range n).filter (fun i=>p i&&!decide (i=k))
 |0,⟨k,h,_⟩=>by omega
 |n+1,h=>by
  by_cases h1:∃k<n,p k=true
  ·obtain⟨k,hk,hp,hl,l,e1,e2⟩:=uo n h1
   refine⟨k,by omega,hp,hl,l++[n].filter p,?_,?_⟩
   ·rw[al6,al8,e1];rfl
   ·rw[al6,al8,←e2]
    congr 1
    have:¬n=k:=by omega
    simp[an3,this]
  ·obtain⟨k,hk,hp⟩:=h
   have qz:k=n:=by
    apply amu
    intro ff
    exact h1 ⟨k,by omega,hp⟩
   subst qz
   have p_:∀j,j<k→p j=false:=by
    intro j hj
    cases hb:p j with
    |false=>rfl
    |true=>exact absurd ⟨j,hj,hb⟩ h1
   have hf:(List.range k).filter p=[]:=by
    rw[amb]
    intro j hj
    rw[alF] at hj
    simp[p_ j hj]
   have l4:(List.range k).filter (fun i=>p i&&!decide (i=k))=[]:=by
    rw[amb]
    intro j hj
    rw[alF] at hj
    simp[p_ j hj]
   refine⟨k,by omega,hp,p_,[],?_,?_⟩
   ·rw[al6,al8,hf];simp[hp]
   ·rw[al6,al8,l4];simp
theorem R0 {x:bG} (h:x≠0#64):∃k<64,x.getLsbD k=true:=by
 apply amu
 intro hn
 apply h
 apply anr
 intro i hi
 rw[BitVec.getLsbD_zero]
 cases hb:x.getLsbD i with
 |false=>rfl
 |true=>exact absurd ⟨i,hi,hb⟩ hn
theorem least (h:x≠0#64):∃l,fK x<64∧x.getLsbD (fK x)=true∧(∀j,j<fK x→x.getLsbD j=false)∧oQ x=fK x::l∧l=(List.range 64).filter (fun i=>x.getLsbD i&&!decide (i=fK x)):=by
 obtain⟨k,hk,hp,hl,l,e1,e2⟩:=uo 64 (R0 h)
 have hf:fK x=k:=by unfold fK oQ;rw[e1];rfl
 rw[hf]
 exact⟨l,hk,hp,hl,e1,e2⟩
theorem Hc {k:Nat} (hp:x.getLsbD k=true) (hl:∀j,j<k→x.getLsbD j=false) (i:Nat):(∃j,j<i∧x.getLsbD j=true)↔k<i:=by
 constructor
 ·rintro⟨j,hj,h⟩
  rcases anT k i with h1|h1
  ·exact h1
  ·rw[hl j ai] at h;cases h
 ·intro h;exact⟨k,h,hp⟩
theorem QF (h:x≠0#64):x &&& -x=1#64 <<< fK x:=by
 obtain⟨l,hk,hp,hl, -, -⟩:=least h
 apply anr
 intro i hi
 rw[aoR,BitVec.getLsbD_neg,aol]
 simp only[Hc hp hl i]
 by_cases h1:i=fK x
 ·subst h1;simp[hp,hk]
 ·by_cases h2:i<fK x
  ·simp[hl i h2,h2]
  ·have h3:fK x<i:=by omega
   have h4:i-fK x≠0:=by omega
   cases hx:x.getLsbD i<;>simp[h2,h3,h4,hi]
theorem clear (h:x≠0#64):oQ x=fK x::oQ (x &&& (x-1#64)):=by
 obtain⟨l,hk,hp,hl,e1,e2⟩:=least h
 rw[e1,e2]
 congr 1
 unfold oQ
 apply amR
 intro i hi
 rw[alF] at hi
 have e:x-1#64= ~~~(-x):=by
  rw[BitVec.not_neg,BitVec.sub_eq_add_neg]
 rw[aoR,e,BitVec.getLsbD_not,BitVec.getLsbD_neg]
 simp only[Hc hp hl i]
 by_cases h1:i=fK x
 ·subst h1;simp[hp,hk]
 ·by_cases h2:i<fK x
  ·simp[hl i h2]
  ·have h3:fK x<i:=by omega
   cases hx:x.getLsbD i<;>simp[h1,h3,hi]
theorem RZ:∀k<64,((1#64 <<< k*285870213051353865#64) >>> 58).toNat<64∧vv.getD ((1#64 <<< k*285870213051353865#64) >>> 58).toNat 0=k:=by decide +kernel
theorem CN (h:x≠0#64):(((x &&& -x)*285870213051353865#64) >>> 58).toNat<64:=by
 obtain⟨l,hk, -⟩:=least h
 rw[QF h];exact(RZ _ hk).1
theorem HT (h:x≠0#64):((uC (((x &&& -x)*285870213051353865#64) >>> 58).toNat).toNat:Int)=((fK x:Nat):Int):=by
 obtain⟨l,hk, -⟩:=least h
 rw[Ir (CN h),QF h,(RZ _ hk).2]
theorem Eb:oQ 0#64=[]:=by
 unfold oQ
 rw[amb]
 intro i _
 simp
theorem xT:fK 0#64=64:=by unfold fK;rw[Eb];rfl
theorem xz (x:bG):fK x≤64:=by
 by_cases h:x=0#64
 ·subst h;rw[xT];exact alL _
 ·obtain⟨l,hk, -⟩:=least h;omega
end Go.Ew
namespace Go.Ew
def rr (j:Nat) (x:bG):az:=(oQ x).map fun k=>(j:Int)*64+((k:Nat):Int)
def sB (r:Row) (j:Nat):az:=(List.range j).flatMap fun i=>rr i (r.getD i 0#64)
def fH (r:Row):az:=sB r r.length
theorem Og (j:Nat):rr j 0#64=[]:=by unfold rr;rw[Eb];rfl
theorem Oh {j:Nat} {x:bG} (h:x≠0#64):rr j x=((j:Int)*64+((fK x:Nat):Int))::rr j (x &&& (x-1#64)):=by
 unfold rr;rw[clear h];rfl
theorem I7 (x:bG):(oQ x).length≤64:=by
 unfold oQ
 exact Nat.le_trans (amQ _ _)<|by simp
theorem AS (j:Nat) (x:bG):(rr j x).length≤64:=by unfold rr;rw[aml];exact I7 x
theorem xN (r:Row) (j:Nat):sB r (j+1)=sB r j++rr j (r.getD j 0#64):=by
 unfold sB;rw[al6,amJ];simp
theorem uF (r:Row):∀j,(sB r j).length≤64*j
 |0=>by simp[sB]
 |j+1=>by
  have:=uF r j
  have:=AS j<|r.getD j 0#64
  rw[xN,im];omega
theorem OU {x:bG} (h:x≠0#64):(oQ (x &&& (x-1#64))).length<(oQ x).length:=by
 rw[clear h];simp
theorem pX (r:Row):(fH r).length≤64*r.length:=uF r _
end Go.Ew
namespace Go.Ew
variable {m j:Nat} {a b z:Row}
def oO (a b:Row) (i:Nat):bG:=a.getD i 0#64 ||| b.getD i 0#64
def fZ (a b:Row):Row:=(List.range (max a.length b.length)).map (oO a b)
theorem Qg (a b:Row) (i:Nat):oO a b i=oO b a i:=BitVec.or_comm _ _
theorem IS (a b:Row):fZ a b=fZ b a:=by
 unfold fZ
 rw[Nat.max_comm]
 exact amV fun i _=>Qg a b i
theorem zA (a b:Row):(fZ a b).length=max a.length b.length:=by unfold fZ;simp
def jR (m:Nat) (a b z:Row) (j:Nat):Row:=(List.range m).map fun i=>if i<j then oO a b i else z.getD i 0#64
theorem tM (m:Nat) (a b z:Row) (j:Nat):(jR m a b z j).length=m:=by unfold jR;simp
theorem AO (a b z:Row):z=jR z.length a b z 0:=by
 apply anc
 ·rw[tM]
 ·intro i h1 h2
  unfold jR
  simp[eH,h1]
theorem vM {x:bG} (h:(jR m a b z j)[((j:Nat):Int).toNat]? =some x):x=z.getD j 0#64:=by
 rw[dC] at h
 obtain⟨h1,h2⟩:=eW.1 h
 rw[←h2]
 unfold jR
 simp
theorem tk {v:bG} (hv:v=oO a b j):(jR m a b z j).set j v=jR m a b z (j+1):=by
 apply anc
 ·simp[tM]
 ·intro i h1 h2
  have hm:i<m:=by rw[tM] at h2;exact h2
  rw[aoY]
  unfold jR
  simp only[List.getElem_map,aoN]
  by_cases Jz:j=i
  ·subst Jz;simp[hv]
  ·have:(i<j+1)↔(i<j):=by omega
   simp[Jz,this]
theorem Qd (hz:z.getD j 0#64=oO a b j):jR m a b z j=jR m a b z (j+1):=by
 unfold jR
 apply amV
 intro i _
 by_cases Jz:i=j
 ·subst Jz;rw[alG (anA _),alE (am5 _),hz]
 ·have:(i<j+1)↔(i<j):=by omega
  simp[this]
theorem tl (hm:m=max a.length b.length) (h:∀i,j≤i→i<m→z.getD i 0#64=oO a b i):jR m a b z j=fZ a b:=by
 unfold jR fZ
 subst hm
 apply amV
 intro i hi
 rw[alF] at hi
 split
 ·rfl
 ·exact h i ai hi
theorem tV {i:Nat} (h:b.length≤i):a.getD i 0#64=oO a b i:=by
 unfold oO;rw[nI h,BitVec.or_zero]
theorem Qf {i:Nat} (h1:a.length≤i) (h:b.length≤i):0#64=oO a b i:=by
 unfold oO;rw[nI h,nI h1,BitVec.or_zero]
theorem To (m:Nat) (a b:Row):List.replicate m 0#64=jR m a b [] 0:=by
 apply anc
 ·simp[tM]
 ·intro i h1 h2
  unfold jR
  simp
def qt (r:Row) (n:Nat):az:=((List.range n).filter fun k=>fU r ((k:Nat):Int)).map fun k=>((k:Nat):Int)
theorem yt {r:Row} {n:Nat} (h:fU r ((n:Nat):Int)=true):qt r (n+1)=qt r n++[((n:Nat):Int)]:=by
 unfold qt;rw[al6,al8,amk];simp[h]
theorem z8 {r:Row} {n:Nat} (h:fU r ((n:Nat):Int)=false):qt r (n+1)=qt r n:=by
 unfold qt;rw[al6,al8,amk];simp[h]
theorem I8 (r:Row) (n:Nat):(qt r n).length≤n:=by
 unfold qt;rw[aml]
 exact Nat.le_trans (amQ _ _)<|by simp
theorem kL (m k:Nat):List.range (m+k)=List.range m++(List.range k).map (fun i=>m+i):=by
 apply anc
 ·simp
 ·intro i h1 h2
  simp only[aoN]
  by_cases h:i<m
  ·rw[aoe (by simpa using h)];simp
  ·rw[an_ (by simpa using h)];simp;omega
theorem Bh (r:Row) (j k:Nat) (hk:k<64):fU r (((64*j+k:Nat):Nat):Int)=(r.getD j 0#64).getLsbD k:=by
 unfold fU
 rw[dC,show (64*j+k)/64=j from by omega,show (64*j+k)%64=k from by omega]
 simp only[Bool.and_eq_right_iff_imp,alC]
 intro _;omega
theorem Ed (r:Row):∀j,qt r (64*j)=sB r j
 |0=>rfl
 |j+1=>by
  rw[xN,←Ed r j,show 64*(j+1)=64*j+64 from by omega]
  unfold qt rr oQ
  rw[kL,al8,amk]
  congr 1
  rw[List.filter_map,aoX]
  have e:(List.range 64).filter ((fun k=>fU r ((k:Nat):Int))∘fun i=>64*j+i)=(List.range 64).filter fun k=>(r.getD j 0#64).getLsbD k:=by
   apply amR
   intro k hk
   rw[alF] at hk
   exact Bh r j k hk
  rw[e]
  apply amV
  intro k _
  show ((64*j+k:Nat):Int)=(j:Int)*64+((k:Nat):Int)
  omega
theorem GI (r:Row):qt r (64*r.length)=fH r:=Ed r r.length
end Go.Ew
namespace Go.Ew
variable {a b xs:Row} {m j:Nat}
theorem tw (r:Row) {i:Int} (h:i<0):fU r i=false:=(B9 ai).symm
theorem tx (r:Row) (n:Nat):fU r ((n:Nat):Int)=(r.getD (n/64) 0#64).getLsbD (n%64):=by
 unfold fU;rw[dC];simp
theorem GY {r:Row} {i k:Int}:fU (ej r i) k=(fU r k||(decide (k=i)&&iO r i)):=by
 cases h:iO r i with
 |false=>rw[←CZ h];simp
 |true=>
  by_cases hk:k=i
  ·subst hk;rw[Ht,h];simp
  ·simp only[hk,decide_false,aop,amn]
   by_cases cI:k<0
   ·rw[tw _ cI,tw _ cI]
   ·obtain⟨n,rfl⟩:∃n:Nat,k=((n:Nat):Int):=⟨k.toNat,by omega⟩
    have h':=h
    unfold iO at h';simp only[alC] at h'
    rw[tx,tx]
    by_cases hw:n/64<r.length
    ·rw[C0 h _ hw]
     split
     ·rename_i e
      rw[zy _ _ _ ai ai]
      have:¬n%64=i.toNat%64:=by omega
      simp[this]
     ·rfl
    ·rw[nI (by rw[nE];omega),nI ai]
theorem WM (hl:a.length=b.length) (h:∀n:Nat,fU a ((n:Nat):Int)=fU b ((n:Nat):Int)):a=b:=by
 apply anc hl
 intro j h1 h2
 apply anr
 intro k hk
 have e1:=Bh a j k hk
 have e2:=Bh b j k hk
 rw[h,e2,eH,eH,dW h1,dW h2] at e1
 simpa using e1.symm
theorem uV:∀(l:az) (r:Row),(l.foldl ej r).length=r.length
 |[],_=>rfl
 |i::l,r=>by rw[an',uV l,nE]
theorem yR:∀(l:az) (r:Row) (k:Int),fU (l.foldl ej r) k=(fU r k||(l.any fun i=>decide (k=i)&&iO r i))
 |[],r,k=>by simp
 |i::l,r,k=>by
  rw[an',yR l,GY]
  simp only[Ma,anM,Bool.or_assoc]
theorem IZ (n k:Int):fU (dJ n) k=false:=by
 by_cases hk:k<0
 ·exact tw _ hk
 ·obtain⟨m,rfl⟩:∃m:Nat,k=((m:Nat):Int):=⟨k.toNat,by omega⟩
  rw[tx]
  unfold dJ
  rw[eH]
  by_cases h:m/64<words n
  ·simp[anf,h]
  ·simp[anf,h]
theorem XE (a b:Row) (i:Int):fU (fZ a b) i=(fU a i||fU b i):=by
 by_cases hk:i<0
 ·rw[tw _ hk,tw _ hk,tw _ hk];rfl
 ·obtain⟨n,rfl⟩:∃n:Nat,i=((n:Nat):Int):=⟨i.toNat,by omega⟩
  rw[tx,tx,tx]
  by_cases h:n/64<max a.length b.length
  ·have:(fZ a b).getD (n/64) 0#64=oO a b (n/64):=by
    rw[eH,dW (by rw[zA];exact h)]
    unfold fZ
    simp
   rw[this,oO,BitVec.getLsbD_or]
  ·rw[nI (by rw[zA];omega),nI ai,nI ai];simp
theorem Xg {x0 x2 x3:bG} (hs:xs=jR m a b [] j) (ha:a[((j:Nat):Int).toNat]? =some x0) (h2:(xs.set ((j:Nat):Int).toNat x0)[((j:Nat):Int).toNat]? =some x2) (hb:b[((j:Nat):Int).toNat]? =some x3):
  (xs.set ((j:Nat):Int).toNat x0).set ((j:Nat):Int).toNat (x2 ||| x3)=jR m a b [] (j+1):=by
 have e2:x2=x0:=by
  have hl:((j:Nat):Int).toNat<xs.length:=by
   have:=(eW.1 h2).1
   simpa using this
  rw[amj hl] at h2
  exact(alD h2).symm
 rw[List.set_set,e2,hs,dC]
 exact tk<|by unfold oO;rw[r8 ha,r8 hb]
theorem Xf {x0:bG} (hs:xs=jR m a b [] j) (ha:a[((j:Nat):Int).toNat]? =some x0) (hb:b.length≤j):xs.set ((j:Nat):Int).toNat x0=jR m a b [] (j+1):=by
 rw[hs,dC]
 exact tk<|by rw[←r8 ha];exact tV hb
theorem Tn {x1 x2:bG} (hs:xs=jR m a b [] j) (ha:a.length≤j) (h1:xs[((j:Nat):Int).toNat]? =some x1) (hb:b[((j:Nat):Int).toNat]? =some x2):xs.set ((j:Nat):Int).toNat (x1 ||| x2)=jR m a b [] (j+1):=by
 have e1:=vM<|hs▸h1
 rw[hs,dC]
 refine tk ?_
 unfold oO
 rw[e1,r8 hb,nI ha]
 simp
theorem or_none (hs:xs=jR m a b [] j) (ha:a.length≤j) (hb:b.length≤j):xs=jR m a b [] (j+1):=by
 rw[hs]
 refine Qd ?_
 rw[←Qf ha hb]
 simp
end Go.Ew
namespace Go.Ew
open Go.RowKit
variable {t:TypeId}
theorem At.s1 {α β:Type} [GT α] [GT β] {M:bT} {w:aI} {ad:Addr} {x:α×β} (h:At M w ad x):At M w (ad.add (GT.size α)) x.2:=h.snd
theorem At.s2 {α β γ:Type} [GT α] [GT β] [GT γ] {M:bT} {w:aI} {ad:Addr} {x:α×β×γ} (h:At M w ad x):At M w (ad.add (GT.size α+GT.size β)) x.2.2:=by have h_:=h.s1.snd;rwa [add_add] at h_
theorem At.s3 {α β γ δ:Type} [GT α] [GT β] [GT γ] [GT δ] {M:bT} {w:aI} {ad:Addr} {x:α×β×γ×δ} (h:At M w ad x):At M w (ad.add (GT.size α+GT.size β+GT.size γ)) x.2.2.2:=by have h_:=h.s2.snd;rwa [add_add] at h_
theorem At.s4 {α β γ δ ε:Type} [GT α] [GT β] [GT γ] [GT δ] [GT ε] {M:bT} {w:aI} {ad:Addr} {x:α×β×γ×δ×ε} (h:At M w ad x):At M w (ad.add (GT.size α+GT.size β+GT.size γ+GT.size δ)) x.2.2.2.2:=by have h_:=h.s3.snd;rwa [add_add] at h_
theorem At.s5 {α β γ δ ε ζ:Type} [GT α] [GT β] [GT γ] [GT δ] [GT ε] [GT ζ] {M:bT} {w:aI} {ad:Addr} {x:α×β×γ×δ×ε×ζ} (h:At M w ad x):At M w (ad.add (GT.size α+GT.size β+GT.size γ+GT.size δ+GT.size ε)) x.2.2.2.2.2:=by have h_:=h.s4.snd;rwa [add_add] at h_
theorem At.s6 {α β γ δ ε ζ η:Type} [GT α] [GT β] [GT γ] [GT δ] [GT ε] [GT ζ] [GT η] {M:bT} {w:aI} {ad:Addr} {x:α×β×γ×δ×ε×ζ×η} (h:At M w ad x):At M w (ad.add (GT.size α+GT.size β+GT.size γ+GT.size δ+GT.size ε+GT.size ζ)) x.2.2.2.2.2.2:=by have h_:=h.s5.snd;rwa [add_add] at h_
theorem gq.s1 {α β:Type} [GT α] [GT β] {M:bT} {w:aI} {ad:Addr} {x:α×β} (h:gq M w ad x):gq M w (ad.add (GT.size α)) x.2:=h.snd
theorem gq.s2 {α β γ:Type} [GT α] [GT β] [GT γ] {M:bT} {w:aI} {ad:Addr} {x:α×β×γ} (h:gq M w ad x):gq M w (ad.add (GT.size α+GT.size β)) x.2.2:=by have h_:=h.s1.snd;rwa [add_add] at h_
theorem gq.s3 {α β γ δ:Type} [GT α] [GT β] [GT γ] [GT δ] {M:bT} {w:aI} {ad:Addr} {x:α×β×γ×δ} (h:gq M w ad x):gq M w (ad.add (GT.size α+GT.size β+GT.size γ)) x.2.2.2:=by have h_:=h.s2.snd;rwa [add_add] at h_
theorem gq.s4 {α β γ δ ε:Type} [GT α] [GT β] [GT γ] [GT δ] [GT ε] {M:bT} {w:aI} {ad:Addr} {x:α×β×γ×δ×ε} (h:gq M w ad x):gq M w (ad.add (GT.size α+GT.size β+GT.size γ+GT.size δ)) x.2.2.2.2:=by have h_:=h.s3.snd;rwa [add_add] at h_
theorem gq.s5 {α β γ δ ε ζ:Type} [GT α] [GT β] [GT γ] [GT δ] [GT ε] [GT ζ] {M:bT} {w:aI} {ad:Addr} {x:α×β×γ×δ×ε×ζ} (h:gq M w ad x):gq M w (ad.add (GT.size α+GT.size β+GT.size γ+GT.size δ+GT.size ε)) x.2.2.2.2.2:=by have h_:=h.s4.snd;rwa [add_add] at h_
theorem gq.s6 {α β γ δ ε ζ η:Type} [GT α] [GT β] [GT γ] [GT δ] [GT ε] [GT ζ] [GT η] {M:bT} {w:aI} {ad:Addr} {x:α×β×γ×δ×ε×ζ×η} (h:gq M w ad x):gq M w (ad.add (GT.size α+GT.size β+GT.size γ+GT.size δ+GT.size ε+GT.size ζ)) x.2.2.2.2.2.2:=by have h_:=h.s5.snd;rwa [add_add] at h_
section
variable {P:Program}
def F6 (P:Program) (t:TypeId) (v u:Value) (r:Bool):Prop:=(∀w,(isAgg t).run P w=.ok false w)∧∀d w,(Op.equalIn (d+1) t v u).run P w=.ok r w
theorem NY {d:TypeDesc} (h:P.underlying t=some d) (hd:(match d with| .struct _| .array _ _=>false|_=>true)=true) (w:aI):(isAgg t).run P w=.ok false w:=by
 cases d<;>first|(cases hd;done)|simp[isAgg,underlying,h]
theorem Oe {k kk:IntKind} {a b:Int} (h:P.underlying t=some (.int k)):F6 P t (.int kk a) (.int kk b) (decide (a=b)):=
 ⟨NY h rfl,fun d w=>by rw[run_equalIn_int w d t kk k a b h];congr 1⟩
theorem acM {a b:Bool} (h:P.underlying t=some .bool):F6 P t (.bool a) (.bool b) (decide (a=b)):=
 ⟨NY h rfl,fun d w=>by rw[run_equalIn_bool' w d t a b h];congr 1⟩
theorem acL {a b:fO} (h:P.underlying t=some .string):F6 P t (.string a) (.string b) (decide (a=b)):=
 ⟨NY h rfl,fun d w=>by
  have e:(a.toList==b.toList)=decide (a=b):=by
   rw[←beq_toListBytes,al0]
   rcases a with ⟨x⟩
   rcases b with ⟨y⟩
   show (x==y)=true↔_
   simp
  rw[run_equalIn_string w d t a b h,e]⟩
theorem rS {cs:Array Value} {off:Nat} {v:Value} (h:∀w,(isAgg t).run P w=.ok false w) (hc:cs[off]? =some v) (w:aI):(part t cs off).run P w=.ok v w:=by
 simp[part,h w,hc]
def nG (P:Program) (t:TypeId):Option Nat:=match P.underlying t with|some (.int _)=>some 0|some .bool=>some 1|some .string=>some 2|_=>none
def adD (P:Program) (T:TypeId):List (Option (Nat×Nat)):=(P.fieldsOf T).toList.map fun f=>if f.name= "_" then none else (nG P f.type).map fun k=>(f.offset,k)
def BR (xs ys:Array Value):List (Option (Nat×Nat))→List Bool→Prop
 |[],[]=>True
 |some (o,0)::ks,r::rs=>(∃kk a b,xs[o]? =some (.int kk a)∧ys[o]? =some (.int kk b)∧r=decide (a=b))∧BR xs ys ks rs
 |some (o,1)::ks,r::rs=>(∃a b,xs[o]? =some (.bool a)∧ys[o]? =some (.bool b)∧r=decide (a=b))∧BR xs ys ks rs
 |some (o,2)::ks,r::rs=>(∃a b,xs[o]? =some (.string a)∧ys[o]? =some (.string b)∧r=decide (a=b))∧BR xs ys ks rs
 |_,_=>False
theorem Od (h:nG P t=some 0):∃k,P.underlying t=some (.int k):=by
 unfold nG at h;split at h<;>simp_all
theorem Oc (h:nG P t=some 1):P.underlying t=some .bool:=by
 unfold nG at h;split at h<;>simp_all
theorem Ob (h:nG P t=some 2):P.underlying t=some .string:=by
 unfold nG at h;split at h<;>simp_all
theorem RC {xs ys:Array Value}:∀{fs:List Field} {rs:List Bool} (d:Nat) (w:aI),BR xs ys (fs.map fun f=>if f.name= "_" then none else (nG P f.type).map fun k=>(f.offset,k)) rs→(Op.eqFields (d+1) xs ys fs).run P w=.ok (rs.all id) w
 |[],[],d,w,_=>by simp[Op.eqFields]
 |[],_::_,d,w,h=>by simp[BR] at h
 |f::fs,rs,d,w,h=>by
  rw[amD] at h
  by_cases hn:f.name= "_"
  ·rw[alE hn] at h;cases rs<;>simp[BR] at h
  ·rw[alG hn] at h
   have key:∀(a b:Value) (r:Bool) (US:List Bool),F6 P f.type a b r→xs[f.offset]? =some a→ys[f.offset]? =some b→
     BR xs ys (fs.map fun f=>if f.name= "_" then none else (nG P f.type).map fun k=>(f.offset,k)) US→(Op.eqFields (d+1) xs ys (f::fs)).run P w=.ok ((r::US).all id) w:=by
    intro a b r US hl ha hb ht
    have ih:=RC d w ht
    simp only[Op.eqFields,aom,hn,anP,ana,Sem.run_bind,rS hl.1 ha w,rS hl.1 hb w,hl.2 d w,Result.andThen_ok]
    cases r
    ·simp
    ·simp[ih]
   cases hk:nG P f.type with
   |none=>rw[hk] at h;cases rs<;>simp[BR] at h
   |some k=>
    rw[hk,amq] at h
    cases rs with
    |nil=>simp[BR] at h
    |cons r US=>
     match k,hk,h with
     |0,hk,⟨⟨kk,a,b,ha,hb,hr⟩,ht⟩=>
      obtain⟨q,hq⟩:=Od hk
      rw[hr];exact key _ _ _ _ (Oe hq) ha hb ht
     |1,hk,⟨⟨a,b,ha,hb,hr⟩,ht⟩=>rw[hr];exact key _ _ _ _ (acM (Oc hk)) ha hb ht
     |2,hk,⟨⟨a,b,ha,hb,hr⟩,ht⟩=>rw[hr];exact key _ _ _ _ (acL (Ob hk)) ha hb ht
     |(n+3),hk,h=>simp[BR] at h
structure StF (P:Program) (T:TypeId) (ks:List (Option (Nat×Nat))):Prop where
 u:P.underlying T=some (.struct (P.fieldsOf T))
 s:P.stoodInHeld T=false
 g:P.eqGuardType P.depth T=false
 k:adD P T=ks
theorem StF.eq {T:TypeId} {ks:List (Option (Nat×Nat))} (F:StF P T ks) {xs ys:Array Value} {rs:List Bool} (h:BR xs ys ks rs) (d:Nat) (w:aI):(Op.equalIn (d+2) T (.agg xs) (.agg ys)).run P w=.ok (rs.all id) w:=by
 rw[run_equalIn_agg w (d+1) T xs ys F.u F.s]
 exact RC d w<|by rw[←F.k] at h;exact h
structure ArF (P:Program) (T:TypeId):Prop where
 h:∃e k i,P.underlying T=some (.array 2 e)∧P.underlying e=some (.int k)∧P.info? e=some i∧P.cellsOf e=1
 g:P.eqGuardType P.depth T=false
theorem ArF.eq {T:TypeId} (F:ArF P T) {k1 k2:IntKind} {a b c d:Int} (m:Nat) (w:aI):(Op.equalIn (m+2) T (.agg #[.int k1 a,.int k2 b]) (.agg #[.int k1 c,.int k2 d])).run P w=.ok (decide (a=c)&&decide (b=d)) w:=by
 obtain⟨e,k,i,h1,h2,h3,h4⟩:=F.h
 have l1:F6 P e (.int k1 a) (.int k1 c) (decide (a=c)):=Oe h2
 have l2:F6 P e (.int k2 b) (.int k2 d) (decide (b=d)):=Oe h2
 have p1:(part e #[.int k1 a,.int k2 b] 0).run P w=.ok (.int k1 a) w:=rS l1.1 J w
 have p2:(part e #[.int k1 c,.int k2 d] 0).run P w=.ok (.int k1 c) w:=rS l1.1 J w
 have p3:(part e #[.int k1 a,.int k2 b] 1).run P w=.ok (.int k2 b) w:=rS l1.1 J w
 have p4:(part e #[.int k1 c,.int k2 d] 1).run P w=.ok (.int k2 d) w:=rS l1.1 J w
 rw[run_equalIn_array w (m+1) _ _ h1 h3,h4,show List.range 2=[0,1] from rfl]
 simp only[Op.eqItems,Sem.run_bind,Sem.run_ite,Sem.run_pure,aoL,p1,p2,p3,p4,l1.2 m w,l2.2 m w,Result.andThen_ok]
 by_cases e1:a=c<;>by_cases e2:b=d<;>simp[e1,e2]
section
variable {n:Nat} {ops:Array Oper} {f:aP} {w:aI} {K:aP→aI→Prop} {x y c:Operand} {d:Nat} {ty T T2:TypeId} {ps:String} {af:Array Edge}
end
abbrev KV:=List ((Int×Int)×Int)
section
variable {n:Nat} {ops:Array Oper} {f:aP} {w:aI} {K:aP→aI→Prop} {x y c:Operand} {d:Nat} {ty T T2:TypeId} {ps:String} {af:Array Edge} {M0:bT} {w0:aI} {l:List Item} {m:KV} {b:Nat}
end
end
end Go.Ew
namespace Go.Ew
end Go.Ew
namespace Go.Ew
variable {s:fO} {j i k:Nat} {c:UInt8} {m v val:Int}
abbrev oF:=Bool×fO×Int
abbrev aR:=Int×Int×Bool×Int×Int
abbrev fC:=List (List oF)
def AQ (c:UInt8):Bool:=!(decide (((c.toNat:Nat):Int)<97))&&!(decide ((122:Int)<((c.toNat:Nat):Int)))
def xe (s:fO):Bool:=s.data.toList.all AQ&&decide (1≤s.size)&&decide (s.size≤8)
theorem MQ (h:s[((j:Nat):Int).toNat]? =some c):s.data.toList[((j:Nat):Int).toNat]? =some c:=by
 rw[dC] at h ⊢
 rw[anz]
 have hj:j<s.size:=by
  refine amu fun hn=>?_
  rw[getElem?_neg s j hn] at h;cases h
 rw[getElem?_pos s j hj] at h
 rw[Array.getElem?_eq_getElem hj]
 exact h
theorem L4 (h:s[((j:Nat):Int).toNat]? =some c) (h1:AQ c=false):false=xe s:=by
 unfold xe;rw[KF (MQ h) h1];rfl
theorem I2 (h:(s.data.toList.take j).all AQ=true) (hj:s.size≤j):s.data.toList.all AQ=true:=by
 rwa [alU (by rw[amX];exact hj)] at h
theorem YQ (h:decide (((c.toNat:Nat):Int)<97)=true):AQ c=false:=by unfold AQ;rw[h];rfl
theorem YR (h:decide ((122:Int)<((c.toNat:Nat):Int))=true):AQ c=false:=by unfold AQ;rw[h];simp
theorem Xh (h:decide (((c.toNat:Nat):Int)<97)=false) (h1:decide ((122:Int)<((c.toNat:Nat):Int))=false):AQ c=true:=by unfold AQ;rw[h,h1];rfl
theorem Bs {α:Type} {h:List (List α)} {x:List α} (hx:h[((j:Nat):Int).toNat]? =some x):(h.take (j+1)).flatten=(h.take j).flatten++x:=by
 rw[nV hx];simp
theorem J' {α:Type} {h:List (List α)} {x:List α} (hx:h[((j:Nat):Int).toNat]? =some x):((h.take j).flatten).length+x.length≤h.flatten.length:=by
 have h1:h.flatten=(h.take (j+1)).flatten++(h.drop (j+1)).flatten:=by rw[←List.flatten_append,ank]
 rw[h1,Bs hx];simp
def D4 (o:oF):Bool:=xe o.2.1
def kV (h:fC):Bool:=h.flatten.all D4&&decide (h.flatten.length≤4096)
theorem S6 {h:fC} {x:oF} (hx:h.flatten[i]? =some x) (h1:xe x.2.1=false):false=kV h:=by
 unfold kV;rw[KF hx h1];rfl
theorem PO {h:fC} (hs:(h.flatten.take j).all D4=true) (hj:h.flatten.length≤j):decide ((h.flatten.length:Int)≤4096)=kV h:=by
 unfold kV;rw[k0 hj] at hs;rw[hs,am8,am4];omega
def yh (o:oF):Bool:=decide (o.2.1.size≤20)
def mF (h:fC) (m:Int):Bool:=decide ((h.length:Int)≤m)&&decide ((h.flatten.length:Int)≤m)&&h.flatten.all yh
theorem Py {h:fC}:mF h m=true↔(h.length:Int)≤m∧(h.flatten.length:Int)≤m∧∀o∈h.flatten,o.2.1.size≤20:=by
 unfold mF
 rw[cA,cA,alC,alC,alK,and_assoc]
 unfold yh
 simp only[alC]
theorem Px {h:fC} (hm:m<(h.length:Int)):false=mF h m:=by unfold mF;rw[alH ai];rfl
theorem Pw {h:fC} (hm:m<(h.flatten.length:Int)):false=mF h m:=by unfold mF;rw[show decide ((h.flatten.length:Int)≤m)=false from alH ai];simp
theorem Pv {h:fC} {x:oF} (hx:h.flatten[i]? =some x) (h1:20<(x.2.1.size:Int)):false=mF h m:=by
 unfold mF;rw[KF hx (show yh x=false from alH ai)];simp
theorem Pz {h:fC} (h1:¬m<(h.length:Int)) (h2:¬m<(h.flatten.length:Int)) (hs:(h.flatten.take j).all yh=true) (hj:h.flatten.length≤j):true=mF h m:=by
 unfold mF;rw[k0 hj] at hs;rw[hs,alM ai,alM ai];rfl
def Zu (s:fO) (t:fO):Bool:=decide (t=s)
def jW (l:List fO) (s:fO):Int:=gx (Zu s) l
def O1 (vs:List fO) (s:fO):List fO:=if jW vs s<0 then vs++[s] else vs
def Tu (vs:List fO) (s:fO):Int:=if jW vs s<0 then (vs.length:Int) else jW vs s
abbrev y':=List fO×List aR
def u1 (i:Nat) (st:y') (x:oF×Nat):y':=(O1 st.1 x.1.2.1,st.2++[(((i:Nat):Int),((x.2:Nat):Int),x.1.1,Tu st.1 x.1.2.1,x.1.2.2)])
def lB (i:Nat) (st:y') (ops:List oF) (k:Nat):y':=((ops.take k).zipIdx).foldl (u1 i) st
def Ns (i:Nat) (st:y') (ops:List oF):y':=lB i st ops ops.length
def mO (h:fC) (j:Nat):y':=((h.take j).zipIdx).foldl (fun st x=>Ns x.2 st x.1) ([],[])
theorem HS {α:Type} {l:List α} {x:α} (hx:l[((k:Nat):Int).toNat]? =some x):(l.take (k+1)).zipIdx=(l.take k).zipIdx++[(x,k)]:=by
 have hk:k<l.length:=by rw[dC] at hx;exact(eW.1 hx).1
 rw[nV hx,List.zipIdx_append]
 simp;omega
theorem CV (i:Nat) (st:y') (ops:List oF):lB i st ops 0=st:=rfl
theorem zg {st:y'} {ops:List oF} {x:oF} (hx:ops[((k:Nat):Int).toNat]? =some x):lB i st ops (k+1)=u1 i (lB i st ops k) (x,k):=by
 unfold lB;rw[HS hx,anE];rfl
theorem BM {h:fC} {x:List oF} (hx:h[((j:Nat):Int).toNat]? =some x):mO h (j+1)=Ns j (mO h j) x:=by
 unfold mO;rw[HS hx,anE];rfl
theorem jJ {α:Type} {h:List (List α)} {x:List α} (hx:h[((j:Nat):Int).toNat]? =some x):h.getD j []=x:=by
 rw[dC] at hx;rw[eH,hx];rfl
theorem KH {h:fC} (hj:j<h.length) (hk:(h.getD j []).length≤k):lB j (mO h j) (h.getD j []) k=mO h (j+1):=by
 have hx:h[((j:Nat):Int).toNat]? =some h[j]:=by rw[dC];exact dW hj
 rw[BM hx,jJ hx] at *
 unfold Ns lB
 rw[alU hk,amT]
theorem EY (i:Nat) (st:y') (ops:List oF):∀k,k≤ops.length→(lB i st ops k).2.length=st.2.length+k∧(lB i st ops k).1.length≤st.1.length+k
 |0,_=>by rw[CV];omega
 |k+1,h=>by
  have ih:=EY i st ops k ai
  have hx:ops[((k:Nat):Int).toNat]? =some ops[k]:=by rw[dC];exact dW ai
  rw[zg hx]
  have e1:(u1 i (lB i st ops k) (ops[k],k)).2.length=(lB i st ops k).2.length+1:=by unfold u1;simp
  have e2:(u1 i (lB i st ops k) (ops[k],k)).1.length≤(lB i st ops k).1.length+1:=by unfold u1 O1;simp only;split<;>simp
  omega
theorem DI (h:fC):∀j,j≤h.length→(mO h j).2.length=((h.take j).flatten).length∧(mO h j).1.length≤((h.take j).flatten).length
 |0,_=>by simp[mO]
 |j+1,hj=>by
  have ih:=DI h j ai
  have hx:h[((j:Nat):Int).toNat]? =some h[j]:=by rw[dC];exact dW ai
  rw[BM hx,Bs hx,im]
  have:=EY j (mO h j) h[j] h[j].length<|alL _
  unfold Ns
  omega
theorem yk {h:fC} {x:List oF} (hx:h[((j:Nat):Int).toNat]? =some x) (hk:k<x.length):
  (lB j (mO h j) x k).2.length+1≤h.flatten.length∧(lB j (mO h j) x k).1.length+1≤h.flatten.length:=by
 have hj:j<h.length:=by rw[dC] at hx;exact(eW.1 hx).1
 have h1:=DI h j ai
 have h2:=EY j (mO h j) x k ai
 have h3:=J' hx
 omega
def OQ (h:fC):List fO:=(mO h h.length).1
def xA (h:fC):List aR:=(mO h h.length).2
theorem RB (h:fC):(xA h).length=h.flatten.length:=by
 have:=(DI h h.length<|alL _).1
 rwa [amT] at this
def qY (h:fC):List fO:=if kV h then OQ h else []
def j6 (h:fC):List aR:=if kV h then xA h else []
def tW (h:fC):Int:=if kV h then 0 else 1
theorem zB {h:fC} (hr:kV h=true):qY h=OQ h∧j6 h=xA h∧tW h=0:=by unfold qY j6 tW;simp[hr]
theorem D7 {h:fC} (hr:kV h=false):qY h=[]∧j6 h=[]∧tW h=1:=by unfold qY j6 tW;simp[hr]
theorem LY (h:fC):(j6 h).length≤h.flatten.length:=by
 unfold j6;split
 ·rw[RB];exact alL _
 ·simp
theorem zl {st:y'} {ops:List oF} {x:oF} (hx:ops[((k:Nat):Int).toNat]? =some x) (hf:jW (lB i st ops k).1 x.2.1<0):
  (lB i st ops k).1++[x.2.1]=(lB i st ops (k+1)).1∧(lB i st ops k).2++[(((i:Nat):Int),((k:Nat):Int),x.1,((lB i st ops k).1.length:Int),x.2.2)]=(lB i st ops (k+1)).2:=by
 rw[zg hx];unfold u1 O1 Tu;rw[alE hf,alE hf];exact⟨rfl,rfl⟩
theorem zj {st:y'} {ops:List oF} {x:oF} (hx:ops[((k:Nat):Int).toNat]? =some x) (hf:¬jW (lB i st ops k).1 x.2.1<0):
  (lB i st ops k).1=(lB i st ops (k+1)).1∧(lB i st ops k).2++[(((i:Nat):Int),((k:Nat):Int),x.1,jW (lB i st ops k).1 x.2.1,x.2.2)]=(lB i st ops (k+1)).2:=by
 rw[zg hx];unfold u1 O1 Tu;rw[alG hf,alG hf];exact⟨rfl,rfl⟩
def sD (v val:Int) (x:aR):Bool:=x.2.2.1&&decide (x.2.2.2.1=v)&&decide (x.2.2.2.2=val)
def g_ (aL:List aR) (v val:Int):Int:=gx (sD v val) aL
def zY (aL:List aR) (j:Nat) (x:aR):Bool:=x.2.2.1&&(decide (x.2.2.2.2=0)||decide (max (g_ aL x.2.2.2.1 x.2.2.2.2) 0<((j:Nat):Int)))
def sI (aL:List aR) (j:Nat):Bool:=(aL[j]?).any (zY aL j)
def Rw (aL:List aR):Option Nat:=(List.range aL.length).find? (sI aL)
def kh (aL:List aR):Int×Int×Int:=match Rw aL with
 |none=>(0,0,0)
 |some j=>match aL[j]? with
  |none=>(0,0,0)
  |some x=>if x.2.2.2.2=0 then (((j:Nat):Int),((j:Nat):Int),5) else (max (g_ aL x.2.2.2.1 x.2.2.2.2) 0,((j:Nat):Int),4)
theorem XL {aL:List aR} (h:∀k,k<j→sI aL k=false) (hj:aL.length≤j):Rw aL=none:=by
 unfold Rw;rw[am2]
 intro k hk
 rw[alF] at hk
 rw[h k ai];simp
theorem MD {aL:List aR} (h:∀k,k<j→sI aL k=false) (hj:j<aL.length) (hb:sI aL j=true):Rw aL=some j:=by
 unfold Rw
 rw[aoF]
 refine⟨hb,List.range j,(List.range<|aL.length-j-1).map (fun i=>j+1+i),?_,fun a ha=>by rw[h a (alF.1 ha)];rfl⟩
 have:aL.length=j+(1+(aL.length-j-1)):=by omega
 rw[this,kL,kL]
 simp[aou]
theorem KB {aL:List aR} {x:aR} (hx:aL[((j:Nat):Int).toNat]? =some x):sI aL j=zY aL j x:=by
 rw[dC] at hx;unfold sI;rw[hx];rfl
theorem KA {aL:List aR} {x:aR} (h:∀k,k<j→sI aL k=false) (hx:aL[((j:Nat):Int).toNat]? =some x) (hb:zY aL j x=false):∀k,k<j+1→sI aL k=false:=by
 intro k hk
 rcases amO.1 hk with h1|rfl
 ·exact h k h1
 ·rw[KB hx];exact hb
theorem F2 {aL:List aR} (h:∀k,k<j→sI aL k=false) (hj:aL.length≤j):kh aL=(0,0,0):=by
 unfold kh;rw[XL h hj]
theorem DC {aL:List aR} {x:aR} (h:∀k,k<j→sI aL k=false) (hx:aL[((j:Nat):Int).toNat]? =some x) (hw:x.2.2.1=true) (h0:x.2.2.2.2=0):kh aL=(((j:Nat):Int),((j:Nat):Int),5):=by
 have hj:j<aL.length:=by rw[dC] at hx;exact(eW.1 hx).1
 have hb:sI aL j=true:=by rw[KB hx];unfold zY;simp[hw,h0]
 unfold kh;rw[MD h hj hb]
 rw[dC] at hx
 simp only[hx,h0,ana]
theorem BE {aL:List aR} {j:Nat} {x:aR} (h:∀k,k<j→sI aL k=false) (hx:aL[((j:Nat):Int).toNat]? =some x) (hw:x.2.2.1=true) (h0:¬x.2.2.2.2=0)
  (h1:max (g_ aL x.2.2.2.1 x.2.2.2.2) 0<((j:Nat):Int)):kh aL=(max (g_ aL x.2.2.2.1 x.2.2.2.2) 0,((j:Nat):Int),4):=by
 have hj:j<aL.length:=by rw[dC] at hx;exact(eW.1 hx).1
 have hb:sI aL j=true:=by rw[KB hx];unfold zY;simp[hw,h1]
 unfold kh;rw[MD h hj hb]
 rw[dC] at hx
 simp only[hx,h0,amo]
theorem UD {aL:List aR} {x:aR} (hw:x.2.2.1=false):zY aL j x=false:=by unfold zY;rw[hw];rfl
theorem UE {aL:List aR} {x:aR} (h0:¬x.2.2.2.2=0) (h1:¬max (g_ aL x.2.2.2.1 x.2.2.2.2) 0<((j:Nat):Int)):zY aL j x=false:=by
 unfold zY;rw[alH h0,alH h1];simp
theorem Pa {aL:List aR} {x:aR} (hx:aL[((j:Nat):Int).toNat]? =some x) (h1:x.2.2.1=true) (h2:decide (x.2.2.2.1=v)=true) (h3:decide (x.2.2.2.2=val)=true) (hs:(aL.take j).any (sD v val)=false):((j:Nat):Int)=g_ aL v val:=
 pY hx hs (by unfold sD;rw[h1,h2,h3];rfl)
theorem Lz {aL:List aR} (hs:(aL.take j).any (sD v val)=false) (h:aL.length≤j):(-1:Int)=g_ aL v val:=rW hs h
theorem Xy {x:aR} (h:x.2.2.1=false):sD v val x=false:=by unfold sD;rw[h];rfl
theorem L9 {x:aR} (h:decide (x.2.2.2.1=v)=false):sD v val x=false:=by unfold sD;rw[h];simp
theorem L8 {x:aR} (h:decide (x.2.2.2.2=val)=false):sD v val x=false:=by unfold sD;rw[h];simp
end Go.Ew
namespace Go.Ew
open Go.RowKit
section
variable {P:Program} {n:Nat} {ops:Array Oper} {f:aP} {w:aI} {K:aP→aI→Prop} {x y:Operand} {d:Nat} {ty T T2 e:TypeId} {ps:String} {af:Array Edge} {M:bT} {B:Nat} {a:Option Addr} {k c:Nat} {s t:Int}
theorem w8 {i:Int} (h0:0≤i) (h1:i≤255):IntKind.u8.wrap i=i∧(((BitVec.ofInt 8 i).toNat:Nat):Int)=i:=by
 constructor
 ·unfold IntKind.wrap
  simp[IntKind.bits,IntKind.signed]
  omega
 ·rw[aok]
  show ((i%256).toNat:Int)=i
  omega
end
end Go.Ew
namespace Go.Ew
open Go.RowKit
section
variable {P:Program} {n:Nat} {ops:Array Oper} {f:aP} {w:aI} {K:aP→aI→Prop} {x:Operand} {d:Nat} {ty:TypeId} {ps:String} {af:Array Edge} {a:Addr}
theorem nc (ox:cC n x=true) (hx:ev f x=.pointer (some a)) (h:K (cS f d (.pointer (some a))) w):SO P n ops ⟨some d,.nilCheck x,ty,ps,af,none⟩ f w K:=
 SO.value (v:=.pointer (some a)) (w':=w) (by simp[execOp,bA ox,hx]) h
theorem mf0 {f:aP}:([]:List Operand).map (ev f)=[]:=rfl
theorem mfc {f:aP} {x:Operand} {v:Value} {L:List Operand} {V:List Value} (h:ev f x=v) (t:L.map (ev f)=V):(x::L).map (ev f)=v::V:=by rw[amD,h,t]
theorem mf2 {fn:Fn} {C:List Operand} {V:List Value} (oc:IU n C=true) (hC:C.map (ev f)=V) (h:K (cS f d (.func fn #[] V.toArray)) w):SO P n ops ⟨some d,.makeFunc fn #[] C.toArray,ty,ps,af,none⟩ f w K:=by
 refine mf oc ?_
 rw[hC];exact h
end
end Go.Ew
namespace Go.Ew
open Go.RowKit
theorem mo {α:Type} {p:α→Bool} {l:List α} (h:l.Nodup):(l.filter p).Nodup:=aoh List.filter_sublist h
def gZ (l:de) (cn:Nat→Option Nat) (L:Nat→Bool) (j:Nat):Bool:=(Nat.ble l.length j||L j)&&(match cn j with|none=>true|some i=>!L i)
def C1 (l:de) (cn:Nat→Option Nat) (aL:Nat→Value→List Item) (m:Nat) (L:Nat→Bool) (V:Nat→Value):List Item:=((List.range m).filter (gZ l cn L)).flatMap fun j=>aL j (V j)
def waits (T:List Nat) (i j:Nat):Bool:=Nat.testBit (T.getD i 0) j
def C4 (T:List Nat) (o:Oper):Nat→Nat
 |0=>0
 |j+1=>bif jS o j then C4 T o j ||| (2^j ||| T.getD j 0) else C4 T o j
def U3 (l:de) (T:List Nat):Bool:=(List.range l.length).all fun i=>match l[i]? with|some o=>Nat.beq (T.getD i 0) (C4 T o i)|none=>true
theorem C3 {T:List Nat} {o:Oper} {m:Nat}:∀i,Nat.testBit (C4 T o i) m=true→∃j,j<i∧jS o j=true∧(m=j∨waits T j m=true)
 |0,h=>by simp[C4] at h
 |i+1,h=>by
  unfold C4 at h
  cases ho:jS o i with
  |false=>
   rw[ho] at h
   obtain⟨j,h1,h2⟩:=C3 i h
   exact⟨j,by omega,h2⟩
  |true=>
   rw[ho] at h
   have h:Nat.testBit (C4 T o i ||| (2^i ||| T.getD i 0)) m=true:=h
   rw[Nat.testBit_or,Nat.testBit_or,alI,alI,Nat.testBit_two_pow] at h
   rcases h with h|h|h
   ·obtain⟨j,h1,h2⟩:=C3 i h
    exact⟨j,by omega,h2⟩
   ·exact⟨i,by omega,ho,.inl (alT h).symm⟩
   ·exact⟨i,by omega,ho,.inr h⟩
theorem si {l:de} {T:List Nat} (hT:U3 l T=true) {L:Nat→Bool} (hC:∀j o,L j=true→l[j]? =some o→∀q,jS o q=true→L q=true) (hL:∀j,L j=true→j<l.length):
  ∀(n i:Nat) (o:Oper),i≤n→l[i]? =some o→(∀j,jS o j=true→L j=true)→∀m,waits T i m=true→L m=true
 |n,i,o,iw,ho,hd,m,hm=>by
  have iP:=(eW.1 ho).1
  have h1:=alK.1 hT i<|alF.2 iP
  rw[ho] at h1
  have h1:=amP h1
  unfold waits at hm
  rw[h1] at hm
  obtain⟨j,hj,Jr,yH⟩:=C3 i hm
  have od:=hd j Jr
  rcases yH with rfl|yH
  ·exact od
  ·have rZ:=hL j od
   have iF:l[j]? =some l[j]:=dW rZ
   cases n with
   |zero=>omega
   |succ n=>exact si hT hC hL n j l[j] ai iF (hC j l[j] od iF) m yH
def D5 (l:de) (cn:Nat→Option Nat) (T:List Nat) (m i:Nat) (o:Oper) (D:List Nat):Bool:=
 nodupB D&&D.all (fun j=>Nat.blt j m&&(Nat.ble l.length j||waits T i j)&&(match cn j with|none=>true|some c=>Nat.beq c i||(Nat.blt c l.length&&waits T c i)))&&(List.range m).all (fun j=>match cn j with|none=>true|some c=>!Nat.beq c i||D.contains j)
def u6 (cn:Nat→Option Nat) (i:Nat) (D:List Nat):List Nat:=D.filter fun j=>match cn j with|none=>true|some c=>!Nat.beq c i
def GC (n:Nat) (l:de) (cn:Nat→Option Nat) (T:List Nat) (m:Nat) (Ds:List (List Nat)):Bool:=
 U3 l T&&nZ 0 l&&nodupB (fW l.length l)&&(fW l.length l).all (fun d=>Nat.blt d n)&&Nat.ble l.length m&&(List.range l.length).all fun i=>match l[i]? with|some o=>D5 l cn T m i o (Ds.getD i [])|none=>true
section
variable {P:Program} {n:Nat} {l:de} {cn:Nat→Option Nat} {aL:Nat→Value→List Item} {m:Nat} {T:List Nat} {Ds:List (List Nat)} {Φ:Nat→Value→Prop} {f0:aP} {M0:bT} {w0:aI} {base:List Item}
def GStep (P:Program) (n:Nat) (l:de) (cn:Nat→Option Nat) (T:List Nat) (aL:Nat→Value→List Item) (Φ:Nat→Value→Prop) (f0:aP) (M0:bT) (w0:aI) (base:List Item) (i:Nat) (o:Oper) (D:List Nat):Prop:=
 ∀(f:aP) (w:aI) (V:Nat→Value) (r:List Item),(∀t,(fW l.length l).contains t=false→f t=f0 t)→(∀j x,l[j]? =some x→x.dst.isSome=true→waits T i j=true→f (eP l j)=V j∧Φ j (V j))→(∀j x,l[j]? =some x→x.dst.isSome=true→(j=i∨waits T j i=true)→f (eP l j)=f0 (eP l j))→
  HI M0 w0 w (base++(D.flatMap (fun j=>aL j (V j))++r))→SO P n l.toArray o f w (fun f' w'=>∃v,f'=df f o.dst v∧Φ i v∧HI M0 w0 w' (base++(((u6 cn i D).flatMap fun j=>aL j (V j))++(aL i v++r))))
def wV (P:Program) (n:Nat) (l:de) (cn:Nat→Option Nat) (T:List Nat) (aL:Nat→Value→List Item) (Φ:Nat→Value→Prop) (f0:aP) (M0:bT) (w0:aI) (base:List Item) (Ds:List (List Nat)):Nat→de→Prop
 |_,[]=>True
 |i,o::r=>GStep P n l cn T aL Φ f0 M0 w0 base i o (Ds.getD i [])∧wV P n l cn T aL Φ f0 M0 w0 base Ds (i+1) r
theorem wV.at_:∀(r:de) (i:Nat),wV P n l cn T aL Φ f0 M0 w0 base Ds i r→∀j o,r[j]? =some o→GStep P n l cn T aL Φ f0 M0 w0 base (i+j) o (Ds.getD (i+j) [])
 |[],_,_,j,o,h=>by simp at h
 |x::r,i,h,0,o,hj=>by
  simp only[alX,al2] at hj
  subst hj
  exact h.1
 |x::r,i,h,j+1,o,hj=>by
  simp only[al7] at hj
  have:=wV.at_ r (i+1) h.2 j o hj
  rwa [show i+1+j=i+(j+1) from by omega] at this
def JG (l:de) (cn:Nat→Option Nat) (aL:Nat→Value→List Item) (m:Nat) (Φ:Nat→Value→Prop) (f0:aP) (M0:bT) (w0:aI) (base:List Item) (L:Nat→Bool) (f:aP) (w:aI):Prop:=
 ∃V:Nat→Value,(∀t,(fW l.length l).contains t=false→f t=f0 t)∧(∀j x,l[j]? =some x→x.dst.isSome=true→f (eP l j)=if L j=true then V j else f0 (eP l j))∧(∀j,j<l.length→L j=true→Φ j (V j))∧(∀j o,L j=true→l[j]? =some o→∀q,jS o q=true→L q=true)∧HI M0 w0 w (base++C1 l cn aL m L V)
theorem drg {id:Nat} {Q:Exit→Act→aI→Prop} {f:aP} {w:aI} (cn:Nat→Option Nat) (T:List Nat) (aL:Nat→Value→List Item) (m:Nat) (Ds:List (List Nat)) (Φ:Nat→Value→Prop) (base:List Item) (V0:Nat→Value) (hm:P.follows .mixedOrders=true) (jl:GC n l cn T m Ds=true)
  (hH:HI M0 w0 w (base++((List.range m).filter (fun j=>Nat.ble l.length j)).flatMap fun j=>aL j (V0 j))) (oY:∀j i,cn j=some i→i<l.length)
  (hS:wV P n l cn T aL Φ f M0 w0 base Ds 0 l)
  (lX:∀(f':aP) (w':aI) (V:Nat→Value),(∀t,(fW l.length l).contains t=false→f' t=f t)→(∀j x,l[j]? =some x→x.dst.isSome=true→f' (eP l j)=V j∧Φ j (V j))→HI M0 w0 w' (base++((List.range m).filter (fun j=>(cn j).isNone)).flatMap fun j=>aL j (V j))→Q .normal (bY n f') w'):
  WC P n (.region id l.toArray true) Q f w:=by
 simp only[GC,cA] at jl
 obtain⟨⟨⟨⟨⟨JQ,hE⟩,hN⟩,hn⟩,Jv⟩,hU⟩:=jl
 have Jv:l.length≤m:=al9 Jv
 have Jk:∀V,C1 l cn aL m (fun _=>false) V=((List.range m).filter (fun j=>Nat.ble l.length j)).flatMap fun j=>aL j (V j):=by
  intro V
  unfold C1
  congr 1
  refine amR fun j hj=>?_
  unfold gZ
  cases cn j<;>simp
 refine drj (JG l cn aL m Φ f M0 w0 base) hm hE ⟨V0,fun _ _=>rfl,fun j x _ _=>(by simp),fun j _ h=>(by cases h),fun j o h=>(by cases h),?_⟩ ?_ ?_
 ·rw[Jk]
  exact hH.ext (Ext.drew w)
 ·rintro L f' w' i o ib nu FT xw ⟨V,hs,hv,hφ,hC,hH⟩
  have iP:=(eW.1 ib).1
  have Eg:∀j,waits T i j=true→L j=true:=fun j hj=>si JQ hC FT i i o (alL _) ib xw j hj
  have AW:∀c oc,L c=true→l[c]? =some oc→∀j,waits T c j=true→L j=true:=fun c oc Bn A8 j hj=>si JQ hC FT c c oc (alL _) A8 (hC c oc Bn A8) j hj
  have jG:=wV.at_ l 0 hS i o ib
  simp only[ama] at jG
  have hu:=alK.1 hU i<|alF.2 iP
  rw[ib] at hu
  simp only[D5,cA] at hu
  obtain⟨⟨Bo,Rk⟩,Rl⟩:=hu
  have Bo:=ky _ Bo
  generalize hD:Ds.getD i []=D at jG Bo Rk Rl
  have CD:∀j∈D,j<m∧gZ l cn L j=true:=by
   intro j hj
   have:=alK.1 Rk j hj
   simp only[cA,alI,ano] at this
   obtain⟨⟨h1,h2⟩,h3⟩:=this
   refine⟨h1,?_⟩
   unfold gZ
   rw[cA,alI]
   refine⟨h2.imp (fun h=>h) (Eg j),?_⟩
   revert h3
   cases yM:cn j with
   |none=>intro _;rfl
   |some c=>
    intro h3
    simp only[alI] at h3
    show (!L c)=true
    rcases h3 with h3|h3
    ·rw[amP h3,nu];rfl
    ·cases Bn:L c with
     |false=>rfl
     |true=>
      exfalso
      simp only[cA,ano] at h3
      have:=AW c l[c] Bn (dW h3.1) i h3.2
      rw[nu] at this;cases this
  have Q8:i∉D:=by
   intro hi
   have:=(CD i hi).2
   unfold gZ at this
   rw[nu,show Nat.ble l.length i=false from by
    cases hb:Nat.ble l.length i with
    |false=>rfl
    |true=>have:=al9 hb;omega] at this
   simp at this
  
  have Ow:((List.range m).filter (gZ l cn L)).Perm (D++((List.range m).filter fun j=>gZ l cn L j&&!D.contains j)):=by
   refine(anB (mo anb) ?_).2 fun j=>?_
   ·rw[ang]
    refine⟨Bo,mo anb,fun a ha b hb mK=>?_⟩
    subst mK
    have:=(alO.1 hb).2
    simp[ha] at this
   ·simp only[alO,alF,alR,cA,alW,am7,al1]
    constructor
    ·rintro⟨h1,h2⟩
     by_cases hj:j∈D
     ·exact .inl hj
     ·exact .inr ⟨h1,h2,hj⟩
    ·rintro(h|⟨h1,h2, -⟩)
     ·exact CD j h
     ·exact⟨h1,h2⟩
  have hH2:HI M0 w0 w' (base++(D.flatMap (fun j=>aL j (V j))++((List.range m).filter fun j=>gZ l cn L j&&!D.contains j).flatMap fun j=>aL j (V j))):=by
   refine hH.perm ?_
   unfold C1
   rw[←amJ]
   exact anX _<|Ow.symm.flatMap_right _
  refine(jG f' w' V _ hs (fun j x nr ri Jr=>?_) (fun j x nr ri fS=>?_) hH2).mono fun f2 w2 hK=>?_
  ·have:=hv j x nr ri
   rw[alE (Eg j Jr)] at this
   exact⟨this,hφ j (eW.1 nr).1 (Eg j Jr)⟩
  ·have:=hv j x nr ri
   have od:L j=false:=by
    rcases fS with rfl|fS
    ·exact nu
    ·cases od:L j with
     |false=>rfl
     |true=>have:=AW j x od nr i fS;rw[nu] at this;cases this
   rw[od] at this
   simpa using this
  ·obtain⟨v,rfl,TE,hH3⟩:=hK
   refine⟨fun j=>if j=i then v else V j,fun t ht=>?_,fun j x nr ri=>?_,fun j hj od=>?_,fun j oj od iF q hq=>?_,?_⟩
   ·cases jY:o.dst with
    |none=>exact hs t ht
    |some di=>
     have ff:t≠di:=by
      rintro rfl
      have:=mq (k:=l.length) ib iP jY
      rw[←amg,ht] at this
      cases this
     rw[show df f' (some di) v=cS f' di v from rfl,ik f' v ff]
     exact hs t ht
   ·dsimp only
    by_cases fS:j=i
    ·subst fS
     rw[ib] at nr;cases nr
     obtain⟨di,jY⟩:=alN.1 ri
     rw[alE (by simp),alE rfl,vk ib jY,jY]
     exact ij f' di v
    ·have h1:=hv j x nr ri
     obtain⟨dj,nO⟩:=alN.1 ri
     have h2:df f' o.dst v (eP l j)=f' (eP l j):=by
      cases jY:o.dst with
      |none=>rfl
      |some di=>
       rw[vk nr nO]
       exact ik f' v<|Kj hN ib nr jY nO<|fun e=>fS e.symm
     rw[h2,h1];simp[fS]
   ·dsimp only at od ⊢
    by_cases fS:j=i
    ·subst fS;rw[alE rfl];exact TE
    ·rw[alG fS]
     rw[alH fS,amn] at od
     exact hφ j hj od
   ·dsimp only at od ⊢
    by_cases fS:j=i
    ·subst fS
     rw[ib] at iF;cases iF
     rw[xw q hq];rfl
    ·rw[alH fS,amn] at od
     rw[hC j oj od iF q hq];rfl
   ·refine hH3.perm ?_
    have Ah:∀j,gZ l cn (fun k=>L k||decide (k=i)) j=true↔(j=i∨(gZ l cn L j=true∧∀c,cn j=some c→c≠i)):=by
     intro j
     unfold gZ
     simp only[cA,alI,alC]
     constructor
     ·rintro⟨h1,h2⟩
      by_cases fS:j=i
      ·exact .inl fS
      ·refine .inr ⟨⟨h1.imp (fun h=>h) fun h=>h.resolve_right fS,?_⟩,?_⟩
       ·revert h2
        cases cn j with
        |none=>intro _;rfl
        |some c=>intro h2;simp at h2 ⊢;exact h2.1
       ·intro c hc
        rw[hc] at h2
        simp at h2
        exact h2.2
     ·rintro(rfl|⟨⟨h1,h2⟩,h3⟩)
      ·refine⟨.inr (.inr rfl),?_⟩
       cases yM:cn j with
       |none=>rfl
       |some c=>
        have qD:=oY j c yM
        have A8:l[c]? =some l[c]:=dW qD
        have Eh:=alK.1 hU c<|alF.2 qD
        rw[A8] at Eh
        simp only[D5,cA] at Eh
        have iw:=alK.1 Eh.2 j<|alF.2 ai
        rw[yM] at iw
        have iw:j∈Ds.getD c []:=by
         have hb:Nat.beq c c=true:=aob c
         simp only[hb,anC,am9,am7,alC] at iw
         exact iw
        have nO:=alK.1 Eh.1.2 j iw
        simp only[cA,alI] at nO
        have nN:waits T c j=true:=by
         rcases nO.1.2 with h|h
         ·have:=al9 h;omega
         ·exact h
        have T3:c≠j:=by
         rintro rfl
         have:=Eg c nN
         rw[nu] at this;cases this
        show (!(L c||decide (c=j)))=true
        rw[alH T3,amn]
        cases Bn:L c with
        |false=>rfl
        |true=>have:=AW c l[c] Bn A8 j nN;rw[nu] at this;cases this
      ·refine⟨h1.imp (fun h=>h) .inl,?_⟩
       revert h2 h3
       cases cn j with
       |none=>intro _ _;rfl
       |some c=>
        intro h3 h2
        simp at h2 ⊢
        exact⟨h2,h3 c rfl⟩
    have rY:((List.range m).filter (gZ l cn fun k=>L k||decide (k=i))).Perm (u6 cn i D++([i]++((List.range m).filter fun j=>gZ l cn L j&&!D.contains j))):=by
     refine(anB (mo anb) ?_).2 fun j=>?_
     ·rw[ang]
      refine⟨mo Bo,?_,fun a ha b hb mK=>?_⟩
      ·rw[List.singleton_append,amr]
       refine⟨fun hi=>?_,mo anb⟩
       have:=(alO.1 hi).2
       simp only[cA] at this
       have h1:=this.1
       unfold gZ at h1
       rw[nu,show Nat.ble l.length i=false from by
        cases hb:Nat.ble l.length i with
        |false=>rfl
        |true=>have:=al9 hb;omega] at h1
       simp at h1
      ·subst mK
       have Rf:=(alO.1 ha).1
       rcases alQ.1 hb with rfl|hb
       ·exact Q8 Rf
       ·have:=(alO.1 hb).2
        simp[Rf] at this
     ·rw[alO,Ah,alF,alR,alR,amm,alO]
      unfold u6
      rw[alO,alF]
      simp only[cA,alW,am7,al1]
      have hcn:(match cn j with|none=>true|some c=>!Nat.beq c i)=true↔∀c,cn j=some c→c≠i:=by
       cases yM:cn j with
       |none=>simp
       |some c=>
        simp only[alW,al2]
        constructor
        ·rintro h d rfl rfl
         rw[aob] at h;cases h
        ·intro h
         cases hb:Nat.beq c i with
         |false=>rfl
         |true=>exact absurd (amP hb) (h c rfl)
      rw[hcn]
      constructor
      ·rintro⟨h1,h2|⟨h2,h3⟩⟩
       ·exact .inr (.inl h2)
       ·by_cases Q7:j∈D
        ·exact .inl ⟨Q7,h3⟩
        ·exact .inr (.inr ⟨h1,h2,Q7⟩)
      ·rintro(⟨h1,h2⟩|rfl|⟨h1,h2,h3⟩)
       ·exact⟨(CD j h1).1,.inr ⟨(CD j h1).2,h2⟩⟩
       ·exact⟨by omega,.inl rfl⟩
       ·refine⟨h1,.inr ⟨h2,fun c hc Q_=>?_⟩⟩
        subst Q_
        have iw:=alK.1 Rl j<|alF.2 h1
        rw[hc] at iw
        have hb:Nat.beq c c=true:=aob c
        simp only[hb,anC,am9,am7,alC] at iw
        exact h3 iw
    refine anX _ ?_
    unfold C1
    refine(rY.flatMap_right _).trans ?_
    rw[amJ,amJ,List.flatMap_singleton]
    dsimp only
    rw[alE rfl]
    have Bf:∀A:List Nat,i∉A→A.flatMap (fun j=>aL j (if j=i then v else V j))=A.flatMap fun j=>aL j (V j):=by
     intro A hA
     induction A with
     |nil=>rfl
     |cons a A Je=>
      rw[amE,amE,Je fun h=>hA (alV _ h),alG fun (e:a=i)=>hA (e▸al5)]
    rw[Bf (u6 cn i D) (fun h=>Q8 (alO.1 h).1),Bf]
    intro hi
    have:=(alO.1 hi).2
    simp only[cA] at this
    have h1:=this.1
    unfold gZ at h1
    rw[nu,show Nat.ble l.length i=false from by
     cases hb:Nat.ble l.length i with
     |false=>rfl
     |true=>have:=al9 hb;omega] at h1
    simp at h1
 ·rintro f' w' ⟨V,hs,hv,hφ, -,hH⟩
  refine lX f' w' V hs (fun j x nr ri=>?_) ?_
  ·have rZ:=(eW.1 nr).1
   have:=hv j x nr ri
   rw[alE (alM rZ)] at this
   exact⟨this,hφ j rZ (alM rZ)⟩
  ·have:C1 l cn aL m (fun k=>decide (k<l.length)) V=((List.range m).filter (fun j=>(cn j).isNone)).flatMap fun j=>aL j (V j):=by
    unfold C1
    congr 1
    refine amR fun j hj=>?_
    unfold gZ
    have h1:(Nat.ble l.length j||decide (j<l.length))=true:=by
     rw[alI,alC]
     by_cases h:j<l.length
     ·exact .inr h
     ·exact .inl (anU ai)
    rw[h1,am8]
    cases yM:cn j with
    |none=>rfl
    |some c=>
     have:=oY j c yM
     simp[this]
   rw[←this];exact hH
end
def vA:Value→Option Addr
 | .slice a _ _=>a
 |_=>none
def vC:Value→Nat
 | .slice _ _ c=>c
 |_=>0
def vP:Value→Addr
 | .pointer (some a)=>a
 |_=>⟨0,0,none⟩
def vG (v:Value):Nat:=(vP v).block
def vK (k:Nat):Value→Value
 | .agg cs=>cs.getD k undef
 | .tuple cs=>cs.getD k undef
 |_=>undef
theorem VB {wD:List (Option Nat)} {N:Nat} (h:wD.all (fun c=>match c with|none=>true|some i=>Nat.blt i N)=true):∀j i,wD.getD j none=some i→i<N:=by
 intro j i hj
 rw[eH] at hj
 cases hc:wD[j]? with
 |none=>rw[hc] at hj;cases hj
 |some c=>
  rw[hc] at hj
  have hj:c=some i:=hj
  subst hj
  have:=alK.1 h _<|eh hc
  simpa using this
theorem abx {P:Program} {n:Nat} {l:de} {id:Nat} {Q:Exit→Act→aI→Prop} {f:aP} {w:aI} {M0:bT} {w0:aI} (wD:List (Option Nat)) (T:List Nat) (oR:List (Value→List Item)) (Ds:List (List Nat)) (ΦL:List (Value→Prop)) (base:List Item)
  (hm:P.follows .mixedOrders=true) (jl:GC n l (fun j=>wD.getD j none) T oR.length Ds=true) (hc:wD.all (fun c=>match c with|none=>true|some i=>Nat.blt i l.length)=true)
  (hH:HI M0 w0 w (base++((oR.drop l.length).flatMap fun g=>g undef)))
  (hS:wV P n l (fun j=>wD.getD j none) T (fun j=>oR.getD j (fun _=>[])) (fun j=>ΦL.getD j (fun _=>True)) f M0 w0 base Ds 0 l)
  (lX:∀(f':aP) (w':aI) (V:Nat→Value),(∀t,(fW l.length l).contains t=false→f' t=f t)→(∀j x,l[j]? =some x→x.dst.isSome=true→f' (eP l j)=V j∧(ΦL.getD j (fun _=>True)) (V j))→HI M0 w0 w' (base++((List.range oR.length).filter (fun j=>(wD.getD j none).isNone)).flatMap fun j=>(oR.getD j (fun _=>[])) (V j))→Q .normal (bY n f') w'):
  WC P n (.region id l.toArray true) Q f w:=by
 have Jv:l.length≤oR.length:=by
  simp only[GC,cA] at jl
  exact al9 jl.1.2
 refine drg (fun j=>wD.getD j none) T (fun j=>oR.getD j<|fun _=>[]) oR.length Ds (fun j=>ΦL.getD j<|fun _=>True) base (fun _=>undef) hm jl ?_ (VB hc) hS lX
 have key:∀(L:List (Value→List Item)) (k s:Nat),((List.range' s L.length).filter (fun j=>Nat.ble k j)).flatMap (fun j=>((List.replicate s (fun _=>[]))++L).getD j (fun _=>[]) undef)=(L.drop (k-s)).flatMap fun g=>g undef:=by
  intro L
  induction L with
  |nil=>intro k s;simp
  |cons g L ih=>
   intro k s
   have TJ:List.replicate s (fun _:Value=>([]:List Item))++g::L=(List.replicate s (fun _:Value=>([]:List Item))++[g])++L:=by simp
   have rD:∀j∈List.range' (s+1) L.length,(List.replicate s (fun _:Value=>([]:List Item))++g::L).getD j (fun _=>[]) undef=(List.replicate (s+1) (fun _:Value=>([]:List Item))++L).getD j (fun _=>[]) undef:=by
    intro j hj
    have hj:=(List.mem_range'_1.1 hj).1
    rw[eH,eH,TJ,nQ (by simp;omega),nQ (by simp;omega)]
    simp
   have JB:∀A:List Nat,(∀j∈A,j∈List.range' (s+1) L.length)→A.flatMap (fun j=>(List.replicate s (fun _:Value=>([]:List Item))++g::L).getD j (fun _=>[]) undef)=A.flatMap fun j=>(List.replicate (s+1) (fun _:Value=>([]:List Item))++L).getD j (fun _=>[]) undef:=by
    intro A hA
    induction A with
    |nil=>rfl
    |cons a A Je=>rw[amE,amE,Je fun j hj=>hA j (alV _ hj),rD a (hA a al5)]
   rw[jv,List.range'_succ,an3]
   by_cases hk:Nat.ble k s=true
   ·have Jy:=al9 hk
    rw[alE hk,amE,JB _ fun j hj=>(alO.1 hj).1,ih k (s+1),show k-s=0 from by omega,show k-(s+1)=0 from by omega,anW,anW,amE]
    congr 1
    rw[eH,nQ (by simp)]
    simp
   ·have Jy:¬k≤s:=fun h=>hk<|anU h
    rw[alG hk,JB _ fun j hj=>(alO.1 hj).1,ih k (s+1),show k-s=(k-(s+1))+1 from by omega,an8]
 have:=key oR l.length 0
 rw[aoG,an9,Nat.sub_zero,←List.range_eq_range'] at this
 rw[this]
 exact hH
theorem oM {α:Type} [GT α] {B:Nat} {e:TypeId} {v:Value} {xs:List α} {M:bT} {w:aI} (h:(own B e v xs).holds M w):xs.length≤9223372036854775807:=by
 obtain⟨cs,h1,h2⟩:=h
 rcases h1.2 with ⟨rfl,h3⟩|⟨g',cap,cur,rfl,h3,h4,h5,h6,h7,h8⟩
 ·omega
 ·have:maxLen=9223372036854775807:=rfl
  omega
end Go.Ew
namespace Go.Ew
open Go.RowKit
def OV (m k:Nat):Bool:=Nat.beq (Nat.land 1 (Nat.shiftRight m k)) 1
theorem Uz (m k:Nat):OV m k=Nat.testBit m k:=by
 unfold OV Nat.testBit
 have h:Nat.land 1 (Nat.shiftRight m k)=1 &&& (m >>> k):=rfl
 rw[h,Nat.and_comm,Nat.and_one_is_mod]
 rcases Nat.mod_two_eq_zero_or_one (m >>> k) with h|h<;>rw[h]<;>rfl
def mask (T:List Nat) (j:Nat) (V:Nat→Value) (k:Nat):Value:=bif (Nat.beq k j||OV (T.getD j 0) k) then V k else undef
theorem Fa (T:List Nat) (j:Nat) (V:Nat→Value) (k:Nat):mask T j V k=if (k==j||waits T j k)=true then V k else undef:=by
 unfold mask waits
 rw[Uz,show Nat.beq k j=(k==j) from by rw[al0,Nat.beq_eq_true_eq];simp]
 cases (k==j||Nat.testBit (T.getD j 0) k)<;>rfl
def zp (l:de) (cn:Nat→Option Nat) (T:List Nat) (aL:Nat→(Nat→Value)→List Item) (m:Nat) (L:Nat→Bool) (V:Nat→Value):List Item:=((List.range m).filter (gZ l cn L)).flatMap fun j=>aL j (mask T j V)
theorem Xt {T:List Nat} {i j:Nat} {v:Value} {V:Nat→Value} (h1:j≠i) (h2:waits T j i=false):mask T j (fun k=>if k=i then v else V k)=mask T j V:=by
 funext k
 rw[Fa,Fa]
 by_cases hk:(k==j||waits T j k)=true
 ·rw[alE hk,alE hk]
  have:k≠i:=by
   rintro rfl
   rw[h2,amn,beq_iff_eq] at hk
   exact h1 hk.symm
  exact alG this
 ·rw[alG hk,alG hk]
theorem QA {cn:Nat→Option Nat} {i j:Nat} {D:List Nat}:j∈u6 cn i D↔j∈D∧∀c,cn j=some c→c≠i:=by
 unfold u6
 rw[alO]
 refine and_congr_right fun _=>?_
 cases yM:cn j with
 |none=>simp
 |some c=>
  simp only[alW,al2]
  constructor
  ·rintro h d rfl rfl
   rw[aob] at h;cases h
  ·intro h
   cases hb:Nat.beq c i with
   |false=>rfl
   |true=>exact absurd (amP hb) (h c rfl)
section
variable {P:Program} {n:Nat} {l:de} {cn:Nat→Option Nat} {aL:Nat→(Nat→Value)→List Item} {m:Nat} {T:List Nat} {Ds:List (List Nat)} {Φ:Nat→Value→Prop} {f0:aP} {M0:bT} {w0:aI} {base:List Item}
def Sw (P:Program) (n:Nat) (l:de) (cn:Nat→Option Nat) (T:List Nat) (aL:Nat→(Nat→Value)→List Item) (Φ:Nat→Value→Prop) (f0:aP) (M0:bT) (w0:aI) (base:List Item) (i:Nat) (o:Oper) (D:List Nat):Prop:=
 ∀(f:aP) (w:aI) (V:Nat→Value) (r:List Item),(∀t,(fW l.length l).contains t=false→f t=f0 t)→(∀j x,l[j]? =some x→x.dst.isSome=true→waits T i j=true→f (eP l j)=V j∧Φ j (V j))→(∀j x,l[j]? =some x→x.dst.isSome=true→(j=i∨waits T j i=true)→f (eP l j)=f0 (eP l j))→
  HI M0 w0 w (base++(D.flatMap (fun j=>aL j (mask T j V))++r))→SO P n l.toArray o f w (fun f' w'=>∃v,f'=df f o.dst v∧Φ i v∧HI M0 w0 w' (base++(((u6 cn i D).flatMap fun j=>aL j (mask T j V))++(aL i (mask T i (fun k=>if k=i then v else V k))++r))))
def tI (P:Program) (n:Nat) (l:de) (cn:Nat→Option Nat) (T:List Nat) (aL:Nat→(Nat→Value)→List Item) (Φ:Nat→Value→Prop) (f0:aP) (M0:bT) (w0:aI) (base:List Item) (Ds:List (List Nat)):Nat→de→Prop
 |_,[]=>True
 |i,o::r=>Sw P n l cn T aL Φ f0 M0 w0 base i o (Ds.getD i [])∧tI P n l cn T aL Φ f0 M0 w0 base Ds (i+1) r
theorem tI.at_:∀(r:de) (i:Nat),tI P n l cn T aL Φ f0 M0 w0 base Ds i r→∀j o,r[j]? =some o→Sw P n l cn T aL Φ f0 M0 w0 base (i+j) o (Ds.getD (i+j) [])
 |[],_,_,j,o,h=>by simp at h
 |x::r,i,h,0,o,hj=>by
  simp only[alX,al2] at hj
  subst hj
  exact h.1
 |x::r,i,h,j+1,o,hj=>by
  simp only[al7] at hj
  have:=tI.at_ r (i+1) h.2 j o hj
  rwa [show i+1+j=i+(j+1) from by omega] at this
def JGM (l:de) (cn:Nat→Option Nat) (T:List Nat) (aL:Nat→(Nat→Value)→List Item) (m:Nat) (Φ:Nat→Value→Prop) (f0:aP) (M0:bT) (w0:aI) (base:List Item) (L:Nat→Bool) (f:aP) (w:aI):Prop:=
 ∃V:Nat→Value,(∀t,(fW l.length l).contains t=false→f t=f0 t)∧(∀j x,l[j]? =some x→x.dst.isSome=true→f (eP l j)=if L j=true then V j else f0 (eP l j))∧(∀j,j<l.length→L j=true→Φ j (V j))∧(∀j o,L j=true→l[j]? =some o→∀q,jS o q=true→L q=true)∧HI M0 w0 w (base++zp l cn T aL m L V)
theorem agu {id:Nat} {Q:Exit→Act→aI→Prop} {f:aP} {w:aI} (cn:Nat→Option Nat) (T:List Nat) (aL:Nat→(Nat→Value)→List Item) (m:Nat) (Ds:List (List Nat)) (Φ:Nat→Value→Prop) (base:List Item) (V0:Nat→Value) (hm:P.follows .mixedOrders=true) (jl:GC n l cn T m Ds=true) (hTl:T.length≤l.length)
  (hH:HI M0 w0 w (base++((List.range m).filter (fun j=>Nat.ble l.length j)).flatMap fun j=>aL j (mask T j V0))) (oY:∀j i,cn j=some i→i<l.length)
  (hS:tI P n l cn T aL Φ f M0 w0 base Ds 0 l)
  (lX:∀(f':aP) (w':aI) (V:Nat→Value),(∀t,(fW l.length l).contains t=false→f' t=f t)→(∀j x,l[j]? =some x→x.dst.isSome=true→f' (eP l j)=V j∧Φ j (V j))→HI M0 w0 w' (base++((List.range m).filter (fun j=>(cn j).isNone)).flatMap fun j=>aL j (mask T j V))→Q .normal (bY n f') w'):
  WC P n (.region id l.toArray true) Q f w:=by
 simp only[GC,cA] at jl
 obtain⟨⟨⟨⟨⟨JQ,hE⟩,hN⟩,hn⟩,Jv⟩,hU⟩:=jl
 have Jv:l.length≤m:=al9 Jv
 have Jk:∀V,zp l cn T aL m (fun _=>false) V=((List.range m).filter (fun j=>Nat.ble l.length j)).flatMap fun j=>aL j (mask T j V):=by
  intro V
  unfold zp
  congr 1
  refine amR fun j hj=>?_
  unfold gZ
  cases cn j<;>simp
 refine drj (JGM l cn T aL m Φ f M0 w0 base) hm hE ⟨V0,fun _ _=>rfl,fun j x _ _=>(by simp),fun j _ h=>(by cases h),fun j o h=>(by cases h),?_⟩ ?_ ?_
 ·rw[Jk]
  exact hH.ext (Ext.drew w)
 ·rintro L f' w' i o ib nu FT xw ⟨V,hs,hv,hφ,hC,hH⟩
  have iP:=(eW.1 ib).1
  have Eg:∀j,waits T i j=true→L j=true:=fun j hj=>si JQ hC FT i i o (alL _) ib xw j hj
  have AW:∀c oc,L c=true→l[c]? =some oc→∀j,waits T c j=true→L j=true:=fun c oc Bn A8 j hj=>si JQ hC FT c c oc (alL _) A8 (hC c oc Bn A8) j hj
  have jG:=tI.at_ l 0 hS i o ib
  simp only[ama] at jG
  have hu:=alK.1 hU i<|alF.2 iP
  rw[ib] at hu
  simp only[D5,cA] at hu
  obtain⟨⟨Bo,Rk⟩,Rl⟩:=hu
  have Bo:=ky _ Bo
  generalize hD:Ds.getD i []=D at jG Bo Rk Rl
  have CD:∀j∈D,j<m∧gZ l cn L j=true:=by
   intro j hj
   have:=alK.1 Rk j hj
   simp only[cA,alI,ano] at this
   obtain⟨⟨h1,h2⟩,h3⟩:=this
   refine⟨h1,?_⟩
   unfold gZ
   rw[cA,alI]
   refine⟨h2.imp (fun h=>h) (Eg j),?_⟩
   revert h3
   cases yM:cn j with
   |none=>intro _;rfl
   |some c=>
    intro h3
    simp only[alI] at h3
    show (!L c)=true
    rcases h3 with h3|h3
    ·rw[amP h3,nu];rfl
    ·cases Bn:L c with
     |false=>rfl
     |true=>
      exfalso
      simp only[cA,ano] at h3
      have:=AW c l[c] Bn (dW h3.1) i h3.2
      rw[nu] at this;cases this
  have Q8:i∉D:=by
   intro hi
   have:=(CD i hi).2
   unfold gZ at this
   rw[nu,show Nat.ble l.length i=false from by
    cases hb:Nat.ble l.length i with
    |false=>rfl
    |true=>have:=al9 hb;omega] at this
   simp at this
  
  have Ow:((List.range m).filter (gZ l cn L)).Perm (D++((List.range m).filter fun j=>gZ l cn L j&&!D.contains j)):=by
   refine(anB (mo anb) ?_).2 fun j=>?_
   ·rw[ang]
    refine⟨Bo,mo anb,fun a ha b hb mK=>?_⟩
    subst mK
    have:=(alO.1 hb).2
    simp[ha] at this
   ·simp only[alO,alF,alR,cA,alW,am7,al1]
    constructor
    ·rintro⟨h1,h2⟩
     by_cases hj:j∈D
     ·exact .inl hj
     ·exact .inr ⟨h1,h2,hj⟩
    ·rintro(h|⟨h1,h2, -⟩)
     ·exact CD j h
     ·exact⟨h1,h2⟩
  have hH2:HI M0 w0 w' (base++(D.flatMap (fun j=>aL j (mask T j V))++((List.range m).filter fun j=>gZ l cn L j&&!D.contains j).flatMap fun j=>aL j (mask T j V))):=by
   refine hH.perm ?_
   unfold zp
   rw[←amJ]
   exact anX _<|Ow.symm.flatMap_right _
  refine(jG f' w' V _ hs (fun j x nr ri Jr=>?_) (fun j x nr ri fS=>?_) hH2).mono fun f2 w2 hK=>?_
  ·have:=hv j x nr ri
   rw[alE (Eg j Jr)] at this
   exact⟨this,hφ j (eW.1 nr).1 (Eg j Jr)⟩
  ·have:=hv j x nr ri
   have od:L j=false:=by
    rcases fS with rfl|fS
    ·exact nu
    ·cases od:L j with
     |false=>rfl
     |true=>have:=AW j x od nr i fS;rw[nu] at this;cases this
   rw[od] at this
   simpa using this
  ·obtain⟨v,rfl,TE,hH3⟩:=hK
   refine⟨fun j=>if j=i then v else V j,fun t ht=>?_,fun j x nr ri=>?_,fun j hj od=>?_,fun j oj od iF q hq=>?_,?_⟩
   ·cases jY:o.dst with
    |none=>exact hs t ht
    |some di=>
     have ff:t≠di:=by
      rintro rfl
      have:=mq (k:=l.length) ib iP jY
      rw[←amg,ht] at this
      cases this
     rw[show df f' (some di) v=cS f' di v from rfl,ik f' v ff]
     exact hs t ht
   ·dsimp only
    by_cases fS:j=i
    ·subst fS
     rw[ib] at nr;cases nr
     obtain⟨di,jY⟩:=alN.1 ri
     rw[alE (by simp),alE rfl,vk ib jY,jY]
     exact ij f' di v
    ·have h1:=hv j x nr ri
     obtain⟨dj,nO⟩:=alN.1 ri
     have h2:df f' o.dst v (eP l j)=f' (eP l j):=by
      cases jY:o.dst with
      |none=>rfl
      |some di=>
       rw[vk nr nO]
       exact ik f' v<|Kj hN ib nr jY nO<|fun e=>fS e.symm
     rw[h2,h1];simp[fS]
   ·dsimp only at od ⊢
    by_cases fS:j=i
    ·subst fS;rw[alE rfl];exact TE
    ·rw[alG fS]
     rw[alH fS,amn] at od
     exact hφ j hj od
   ·dsimp only at od ⊢
    by_cases fS:j=i
    ·subst fS
     rw[ib] at iF;cases iF
     rw[xw q hq];rfl
    ·rw[alH fS,amn] at od
     rw[hC j oj od iF q hq];rfl
   ·refine hH3.perm ?_
    have Ah:∀j,gZ l cn (fun k=>L k||decide (k=i)) j=true↔(j=i∨(gZ l cn L j=true∧∀c,cn j=some c→c≠i)):=by
     intro j
     unfold gZ
     simp only[cA,alI,alC]
     constructor
     ·rintro⟨h1,h2⟩
      by_cases fS:j=i
      ·exact .inl fS
      ·refine .inr ⟨⟨h1.imp (fun h=>h) fun h=>h.resolve_right fS,?_⟩,?_⟩
       ·revert h2
        cases cn j with
        |none=>intro _;rfl
        |some c=>intro h2;simp at h2 ⊢;exact h2.1
       ·intro c hc
        rw[hc] at h2
        simp at h2
        exact h2.2
     ·rintro(rfl|⟨⟨h1,h2⟩,h3⟩)
      ·refine⟨.inr (.inr rfl),?_⟩
       cases yM:cn j with
       |none=>rfl
       |some c=>
        have qD:=oY j c yM
        have A8:l[c]? =some l[c]:=dW qD
        have Eh:=alK.1 hU c<|alF.2 qD
        rw[A8] at Eh
        simp only[D5,cA] at Eh
        have iw:=alK.1 Eh.2 j<|alF.2 ai
        rw[yM] at iw
        have iw:j∈Ds.getD c []:=by
         have hb:Nat.beq c c=true:=aob c
         simp only[hb,anC,am9,am7,alC] at iw
         exact iw
        have nO:=alK.1 Eh.1.2 j iw
        simp only[cA,alI] at nO
        have nN:waits T c j=true:=by
         rcases nO.1.2 with h|h
         ·have:=al9 h;omega
         ·exact h
        have T3:c≠j:=by
         rintro rfl
         have:=Eg c nN
         rw[nu] at this;cases this
        show (!(L c||decide (c=j)))=true
        rw[alH T3,amn]
        cases Bn:L c with
        |false=>rfl
        |true=>have:=AW c l[c] Bn A8 j nN;rw[nu] at this;cases this
      ·refine⟨h1.imp (fun h=>h) .inl,?_⟩
       revert h2 h3
       cases cn j with
       |none=>intro _ _;rfl
       |some c=>
        intro h3 h2
        simp at h2 ⊢
        exact⟨h2,h3 c rfl⟩
    have rY:((List.range m).filter (gZ l cn fun k=>L k||decide (k=i))).Perm (u6 cn i D++([i]++((List.range m).filter fun j=>gZ l cn L j&&!D.contains j))):=by
     refine(anB (mo anb) ?_).2 fun j=>?_
     ·rw[ang]
      refine⟨mo Bo,?_,fun a ha b hb mK=>?_⟩
      ·rw[List.singleton_append,amr]
       refine⟨fun hi=>?_,mo anb⟩
       have:=(alO.1 hi).2
       simp only[cA] at this
       have h1:=this.1
       unfold gZ at h1
       rw[nu,show Nat.ble l.length i=false from by
        cases hb:Nat.ble l.length i with
        |false=>rfl
        |true=>have:=al9 hb;omega] at h1
       simp at h1
      ·subst mK
       have Rf:=(alO.1 ha).1
       rcases alQ.1 hb with rfl|hb
       ·exact Q8 Rf
       ·have:=(alO.1 hb).2
        simp[Rf] at this
     ·rw[alO,Ah,alF,alR,alR,amm,alO]
      rw[QA,alF]
      simp only[cA,alW,am7,al1]
      constructor
      ·rintro⟨h1,h2|⟨h2,h3⟩⟩
       ·exact .inr (.inl h2)
       ·by_cases Q7:j∈D
        ·exact .inl ⟨Q7,h3⟩
        ·exact .inr (.inr ⟨h1,h2,Q7⟩)
      ·rintro(⟨h1,h2⟩|rfl|⟨h1,h2,h3⟩)
       ·exact⟨(CD j h1).1,.inr ⟨(CD j h1).2,h2⟩⟩
       ·exact⟨by omega,.inl rfl⟩
       ·refine⟨h1,.inr ⟨h2,fun c hc Q_=>?_⟩⟩
        subst Q_
        have iw:=alK.1 Rl j<|alF.2 h1
        rw[hc] at iw
        have hb:Nat.beq c c=true:=aob c
        simp only[hb,anC,am9,am7,alC] at iw
        exact h3 iw
    refine anX _ ?_
    unfold zp
    refine(rY.flatMap_right _).trans ?_
    rw[amJ,amJ,List.flatMap_singleton]
    have Bf:∀A:List Nat,i∉A→(∀a∈A,waits T a i=false)→A.flatMap (fun j=>aL j (mask T j (fun k=>if k=i then v else V k)))=A.flatMap fun j=>aL j (mask T j V):=by
     intro A hA hW
     induction A with
     |nil=>rfl
     |cons a A Je=>
      rw[amE,amE,Je (fun h=>hA (alV _ h)) (fun b hb=>hW b (alV _ hb)),Xt (fun (e:a=i)=>hA (e▸al5)) (hW a al5)]
    have Vu:∀a,gZ l cn L a=true→waits T a i=false:=by
     intro a ha
     cases Vl:waits T a i with
     |false=>rfl
     |true=>
      exfalso
      unfold gZ at ha
      rw[cA,alI] at ha
      rcases ha.1 with h|h
      ·have h:=al9 h
       unfold waits at Vl
       rw[eH,amf ai] at Vl
       simp at Vl
      ·have GZ:=FT a h
       have:=AW a l[a] h (dW GZ) i Vl
       rw[nu] at this;cases this
    rw[Bf (u6 cn i D) (fun h=>Q8 (alO.1 h).1) (fun a ha=>Vu a (CD a (alO.1 ha).1).2),Bf _ ?_ (fun a ha=>Vu a (by have:=(alO.1 ha).2;rw[cA] at this;exact this.1))]
    intro hi
    have:=(alO.1 hi).2
    simp only[cA] at this
    have h1:=this.1
    unfold gZ at h1
    rw[nu,show Nat.ble l.length i=false from by
     cases hb:Nat.ble l.length i with
     |false=>rfl
     |true=>have:=al9 hb;omega] at h1
    simp at h1
 ·rintro f' w' ⟨V,hs,hv,hφ, -,hH⟩
  refine lX f' w' V hs (fun j x nr ri=>?_) ?_
  ·have rZ:=(eW.1 nr).1
   have:=hv j x nr ri
   rw[alE (alM rZ)] at this
   exact⟨this,hφ j rZ (alM rZ)⟩
  ·have:zp l cn T aL m (fun k=>decide (k<l.length)) V=((List.range m).filter (fun j=>(cn j).isNone)).flatMap fun j=>aL j (mask T j V):=by
    unfold zp
    congr 1
    refine amR fun j hj=>?_
    unfold gZ
    have h1:(Nat.ble l.length j||decide (j<l.length))=true:=by
     rw[alI,alC]
     by_cases h:j<l.length
     ·exact .inr h
     ·exact .inl (anU ai)
    rw[h1,am8]
    cases yM:cn j with
    |none=>rfl
    |some c=>
     have:=oY j c yM
     simp[this]
   rw[←this];exact hH
end
theorem NZ (T:List Nat) (j:Nat):mask T j (fun _=>undef)=fun _=>undef:=by
 funext k;rw[Fa];split<;>rfl
theorem V1 {P:Program} {n:Nat} {l:de} {id:Nat} {Q:Exit→Act→aI→Prop} {f:aP} {w:aI} {M0:bT} {w0:aI} (wD:List (Option Nat)) (T:List Nat) (oR:List ((Nat→Value)→List Item)) (Ds:List (List Nat)) (ΦL:List (Value→Prop)) (base:List Item)
  (hm:P.follows .mixedOrders=true) (jl:GC n l (fun j=>wD.getD j none) T oR.length Ds=true) (hTl:Nat.ble T.length l.length=true) (hc:wD.all (fun c=>match c with|none=>true|some i=>Nat.blt i l.length)=true)
  (hH:HI M0 w0 w (base++((oR.drop l.length).flatMap fun g=>g (fun _=>undef))))
  (hS:tI P n l (fun j=>wD.getD j none) T (fun j=>oR.getD j (fun _=>[])) (fun j=>ΦL.getD j (fun _=>True)) f M0 w0 base Ds 0 l)
  (lX:∀(f':aP) (w':aI) (V:Nat→Value),(∀t,(fW l.length l).contains t=false→f' t=f t)→(∀j x,l[j]? =some x→x.dst.isSome=true→f' (eP l j)=V j∧(ΦL.getD j (fun _=>True)) (V j))→HI M0 w0 w' (base++((List.range oR.length).filter (fun j=>(wD.getD j none).isNone)).flatMap fun j=>(oR.getD j (fun _=>[])) (mask T j V))→Q .normal (bY n f') w'):
  WC P n (.region id l.toArray true) Q f w:=by
 have Jv:l.length≤oR.length:=by
  simp only[GC,cA] at jl
  exact al9 jl.1.2
 refine agu (fun j=>wD.getD j none) T (fun j=>oR.getD j<|fun _=>[]) oR.length Ds (fun j=>ΦL.getD j<|fun _=>True) base (fun _=>undef) hm jl (al9 hTl) ?_ (VB hc) hS lX
 simp only[NZ]
 have key:∀(L:List ((Nat→Value)→List Item)) (k s:Nat),((List.range' s L.length).filter (fun j=>Nat.ble k j)).flatMap (fun j=>((List.replicate s (fun _=>[]))++L).getD j (fun _=>[]) (fun _=>undef))=(L.drop (k-s)).flatMap fun g=>g (fun _=>undef):=by
  intro L
  induction L with
  |nil=>intro k s;simp
  |cons g L ih=>
   intro k s
   have TJ:List.replicate s (fun _:Nat→Value=>([]:List Item))++g::L=(List.replicate s (fun _:Nat→Value=>([]:List Item))++[g])++L:=by simp
   have rD:∀j∈List.range' (s+1) L.length,(List.replicate s (fun _:Nat→Value=>([]:List Item))++g::L).getD j (fun _=>[]) (fun _=>undef)=(List.replicate (s+1) (fun _:Nat→Value=>([]:List Item))++L).getD j (fun _=>[]) (fun _=>undef):=by
    intro j hj
    have hj:=(List.mem_range'_1.1 hj).1
    rw[eH,eH,TJ,nQ (by simp;omega),nQ (by simp;omega)]
    simp
   have JB:∀A:List Nat,(∀j∈A,j∈List.range' (s+1) L.length)→A.flatMap (fun j=>(List.replicate s (fun _:Nat→Value=>([]:List Item))++g::L).getD j (fun _=>[]) (fun _=>undef))=A.flatMap fun j=>(List.replicate (s+1) (fun _:Nat→Value=>([]:List Item))++L).getD j (fun _=>[]) (fun _=>undef):=by
    intro A hA
    induction A with
    |nil=>rfl
    |cons a A Je=>rw[amE,amE,Je fun j hj=>hA j (alV _ hj),rD a (hA a al5)]
   rw[jv,List.range'_succ,an3]
   by_cases hk:Nat.ble k s=true
   ·have Jy:=al9 hk
    rw[alE hk,amE,JB _ fun j hj=>(alO.1 hj).1,ih k (s+1),show k-s=0 from by omega,show k-(s+1)=0 from by omega,anW,anW,amE]
    congr 1
    rw[eH,nQ (by simp)]
    simp
   ·have Jy:¬k≤s:=fun h=>hk<|anU h
    rw[alG hk,JB _ fun j hj=>(alO.1 hj).1,ih k (s+1),show k-s=(k-(s+1))+1 from by omega,an8]
 have:=key oR l.length 0
 rw[aoG,an9,Nat.sub_zero,←List.range_eq_range'] at this
 rw[this]
 exact hH
end Go.Ew
namespace Go.Ew
theorem UH {aL:List aR} {v val:Int} (h:0≤g_ aL v val):∃x,aL[(g_ aL v val).toNat]? =some x∧sD v val x=true:=by
 unfold g_ gx at h ⊢
 cases hf:aL.findIdx? (sD v val) with
 |none=>rw[hf] at h;simp at h
 |some i=>
  obtain⟨hi,hp, -⟩:=amz.1 hf
  exact⟨aL[i],by simp[hi],hp⟩
theorem L_ {v val:Int} {x:aR}:sD v val x=true↔x.2.2.1=true∧x.2.2.2.1=v∧x.2.2.2.2=val:=by unfold sD;simp[and_assoc]
end Go.Ew
namespace Go.Ew
variable {aL:List aR} {x:aR}
def uU (aL:List aR) (x:aR):Int:=if x.2.2.1 then -3 else if x.2.2.2.2=0 then -1 else if 0≤g_ aL x.2.2.2.1 x.2.2.2.2 then max (g_ aL x.2.2.2.1 x.2.2.2.2) 0 else -2
def iU (aL:List aR):az:=aL.map (uU aL)
theorem HJ (hw:x.2.2.1=true):(-3:Int)=uU aL x:=by unfold uU;simp[hw]
theorem HM (hw:x.2.2.1=false) (h0:x.2.2.2.2=0):(-1:Int)=uU aL x:=by unfold uU;simp[hw,h0]
theorem HK (hw:x.2.2.1=false) (h0:¬x.2.2.2.2=0) (hs:decide (0≤g_ aL x.2.2.2.1 x.2.2.2.2)=true):max (g_ aL x.2.2.2.1 x.2.2.2.2) 0=uU aL x:=by unfold uU;simp only[hw,h0,alT hs];rfl
theorem HL (hw:x.2.2.1=false) (h0:¬x.2.2.2.2=0) (hs:decide (0≤g_ aL x.2.2.2.1 x.2.2.2.2)=false):(-2:Int)=uU aL x:=by unfold uU;simp only[hw,h0,al3 hs];rfl
theorem ig {j:Nat} {v:Int} (hx:aL[((j:Nat):Int).toNat]? =some x) (hv:v=uU aL x):(aL.take j).map (uU aL)++[v]=(aL.take (j+1)).map (uU aL):=by
 rw[nV hx,amk,hv];rfl
end Go.Ew
namespace Go.Ew
theorem Ro (aL:List aR):(iU aL).length=aL.length:=by unfold iU;simp
theorem Lj {aL:List aR} {x:aR} {t:Int} (ht:t=uU aL x):(x.2.2.1==decide (t= -3))=true∧(t= -1→x.2.2.2.2=0)∧ -3≤t∧t<(aL.length:Int)∧
  (0≤t→∃y,aL[t.toNat]? =some y∧y.2.2.1=true∧y.2.2.2.1=x.2.2.2.1∧y.2.2.2.2=x.2.2.2.2∧x.2.2.2.2≠0)∧
  (t= -2→∀y∈aL,y.2.2.1=true→y.2.2.2.1=x.2.2.2.1→y.2.2.2.2≠x.2.2.2.2):=by
 have hr:=u7 (p:=sD x.2.2.2.1 x.2.2.2.2) (r:=aL)
 have dx:0≤g_ aL x.2.2.2.1 x.2.2.2.2→g_ aL x.2.2.2.1 x.2.2.2.2<(aL.length:Int):=by
  intro h0
  obtain⟨y,hy, -⟩:=UH h0
  have:=(eW.1 hy).1
  omega
 subst ht
 unfold uU
 by_cases hw:x.2.2.1=true
 ·simp only[hw,ana]
  refine⟨by simp,fun h=>ai,by omega,by omega,fun h=>ai,fun h=>ai⟩
 ·have QU:x.2.2.1=false:=by simpa using hw
  simp only[QU,aoi,amo]
  by_cases h0:x.2.2.2.2=0
  ·simp only[h0,ana]
   refine⟨by simp,fun _=>(by first|trivial|rfl),by omega,by omega,fun h=>ai,fun h=>ai⟩
  ·simp only[h0,amo]
   by_cases hp:0≤g_ aL x.2.2.2.1 x.2.2.2.2
   ·simp only[hp,ana]
    have hl:=dx hp
    obtain⟨y,hy,hyp⟩:=UH hp
    obtain⟨y1,y2,y3⟩:=L_.1 hyp
    have e:max (g_ aL x.2.2.2.1 x.2.2.2.2) 0=g_ aL x.2.2.2.1 x.2.2.2.2:=by omega
    rw[e]
    refine⟨?_,fun h=>ai,by omega,hl,fun _=>⟨y,hy,y1,y2,y3,h0⟩,fun h=>ai⟩
    rw[alH ai];rfl
   ·simp only[hp,amo]
    refine⟨J,fun h=>ai,by omega,by omega,fun h=>ai,fun _ y hy hyw hyv hyn=>?_⟩
    apply hp
    unfold g_ gx
    cases hf:aL.findIdx? (sD x.2.2.2.1 x.2.2.2.2) with
    |none=>
     rw[anF] at hf
     have:=hf y hy
     rw[L_.2 ⟨hyw,hyv,hyn⟩] at this
     cases this
    |some i=>simp
end Go.Ew
namespace Go.Ew
variable {n:Nat} {i j:Int} {p:gk}
def jH (n:Nat) (p:Nat→Bool):Row:=(((List.range n).filter p).map fun k=>((k:Nat):Int)).foldl ej (dJ ((n:Nat):Int))
theorem rL (n:Nat):words ((n:Nat):Int)=(n+63)/64:=by unfold words;omega
theorem lb (n:Nat) (p:Nat→Bool):(jH n p).length=words ((n:Nat):Int):=by unfold jH;rw[uV,ph]
theorem TD (h0:0≤i) (h:i<((n:Nat):Int)):iO (dJ ((n:Nat):Int)) i=true:=AT h0 (by rw[ph,rL];omega)
theorem lf (n:Nat) (p:Nat→Bool) (i:Int):fU (jH n p) i=(decide (0≤i)&&decide (i<((n:Nat):Int))&&p i.toNat):=by
 unfold jH
 rw[yR,IZ,am9,al0]
 simp only[amp,amx,alO,alF,cA,alC]
 constructor
 ·rintro⟨z,⟨k,⟨hk,hp⟩,rfl⟩,rfl, -⟩
  exact⟨⟨by omega,by omega⟩,by simpa using hp⟩
 ·rintro⟨⟨h0,h1⟩,hp⟩
  exact⟨i,⟨i.toNat,⟨by omega,hp⟩,by omega⟩,J,TD h0 h1⟩
theorem AG {r:Row} {p:Nat→Bool} (hl:r.length=words ((n:Nat):Int)) (h:∀k:Nat,fU r ((k:Nat):Int)=(decide (k<n)&&p k)):r=jH n p:=by
 refine WM (by rw[hl,lb]) fun k=>?_
 rw[h,lf]
 simp
theorem qo {p q:Nat→Bool} (h:∀k,k<n→p k=q k):jH n p=jH n q:=
 AG (lb n p) fun k=>by
  rw[lf]
  by_cases hk:k<n
  ·simp[hk,h k hk]
  ·simp[hk]
theorem Qy (n:Nat):dJ ((n:Nat):Int)=jH n fun _=>false:=AG (ph _) fun k=>by rw[IZ];simp
theorem AD {p:Nat→Bool} (h0:0≤j) (h1:j<((n:Nat):Int)):ej (jH n p) j=jH n fun k=>p k||decide (k=j.toNat):=by
 refine AG (by rw[nE,lb]) fun k=>?_
 rw[GY,lf]
 have iw:iO (jH n p) j=true:=AT h0<|by rw[lb,rL];omega
 rw[iw,an6,al0]
 simp only[alI,cA,alC,dC]
 constructor
 ·rintro(⟨⟨h2,h3⟩,h4⟩|h2)
  ·exact⟨by omega,.inl h4⟩
  ·exact⟨by omega,.inr ai⟩
 ·rintro⟨h2,h3|h3⟩
  ·exact .inl ⟨⟨by omega,by omega⟩,h3⟩
  ·exact .inr ai
def cO (n:Nat) (p:gk):Rows:=(List.range n).map fun i=>jH n (p i)
theorem lV (n:Nat) (p:gk):(cO n p).length=n:=by unfold cO;simp
theorem pk {n:Nat} {p:gk} {i:Nat} {x:Row} (h:(cO n p)[i]? =some x):i<n∧x=jH n (p i):=by
 unfold cO at h
 rw[amc] at h
 cases hr:(List.range n)[i]? with
 |none=>rw[hr] at h;cases h
 |some k=>
  rw[hr] at h
  obtain⟨h1,h2⟩:=eW.1 hr
  simp at h1 h2
  subst h2
  exact⟨h1,(alD h).symm⟩
theorem tq {i:Nat} (h:i<n):(cO n p)[i]? =some (jH n (p i)):=by
 unfold cO;rw[amc,anK h];rfl
theorem AR {rs:Rows} (hl:rs.length=n) (h:∀i,i<n→rs[i]? =some (jH n (p i))):rs=cO n p:=by
 apply am'
 intro i
 by_cases hi:i<n
 ·rw[h i hi,tq hi]
 ·rw[amf ai,amf (by rw[lV];omega)]
theorem dL {q:gk} (h:∀i j,i<n→j<n→p i j=q i j):cO n p=cO n q:=
 AR (lV n p) fun i hi=>by rw[tq hi,qo fun j hj=>h i j hi hj]
theorem tY (n:Nat):tn ((n:Nat):Int)=cO n fun _ _=>false:=by
 refine AR (by rw[pj];simp) fun i hi=>?_
 unfold tn
 rw[anf,alE (by simpa using hi),Qy]
theorem Dc {i:Nat} {q:Nat→Bool}:(cO n p).set i (jH n q)=cO n fun a b=>if a=i then q b else p a b:=by
 refine AR (by rw[alP,lV]) fun k hk=>?_
 rw[anq]
 by_cases e:i=k
 ·subst e
  rw[alE rfl,alE (by rw[lV];exact hk)]
  congr 1
  exact qo fun j _=>by simp
 ·rw[alG e,tq hk]
  congr 1
  exact qo fun j _=>by rw[alG fun e2=>e e2.symm]
theorem sr (h0:0≤i) (h:i<((n:Nat):Int)):rowAt (cO n p) i=jH n (p i.toNat):=oK (tq ai)
theorem AE (hi:mH ((n:Nat):Int) [i,j]=true):pO (cO n p) (i,j)=cO n fun a b=>p a b||(decide (a=i.toNat)&&decide (b=j.toNat)):=by
 obtain⟨⟨h1,h2⟩,h3,h4⟩:=jC.1 hi
 unfold pO
 dsimp only
 rw[sr h1 h2,AD h3 h4,Dc]
 refine dL fun a b ha hb=>?_
 by_cases e:a=i.toNat
 ·subst e;simp
 ·simp[e]
theorem Re {n:Nat} {p:gk} {i j:Int}:dG ((n:Nat):Int) (cO n p) i j=(mH ((n:Nat):Int) [i,j]&&p i.toNat j.toNat):=by
 unfold dG
 cases h:mH ((n:Nat):Int) [i,j] with
 |false=>rfl
 |true=>
  obtain⟨⟨h1,h2⟩,h3,h4⟩:=jC.1 h
  rw[sr h1 h2,lf,alM h3,alM h4];rfl
theorem zo (hi:mH ((n:Nat):Int) [i,j]=true):bL ((n:Nat):Int) (cO n p) i j=cO n fun a b=>p a b||(decide (a=i.toNat)&&decide (b=j.toNat)):=by
 rw[(jx hi).2.1,AE hi]
theorem B6 {i j:Nat}:mH ((n:Nat):Int) [((i:Nat):Int),((j:Nat):Int)]=(decide (i<n)&&decide (j<n)):=by
 rw[AU,al0]
 simp only[cA,alC]
 omega
theorem fy {i j:Nat} (hi:i<n) (hj:j<n):dG ((n:Nat):Int) (cO n p) ((i:Nat):Int) ((j:Nat):Int)=p i j:=by
 rw[Re,B6];simp[hi,hj]
theorem QD:∀x∈cO n p,x.length=words ((n:Nat):Int):=by
 intro x hx
 obtain⟨i,hi⟩:=amt.1 hx
 rw[(pk hi).2,lb]
theorem sA (h:n≤4096):∀x∈cO n p,x.length≤1000000000:=by
 intro x hx
 rw[QD x hx,rL];omega
end Go.Ew
namespace Go.Ew
variable {aL:List aR} {i t:Int} {x y:aR} {j:Nat}
abbrev zG:aR:=(0,0,false,0,0)
def jy (aL:List aR) (i:Nat):Int:=(aL.getD i zG).1
def jQ (aL:List aR) (i:Nat):Int:=(aL.getD i zG).2.1
theorem GJ (h:aL[i.toNat]? =some x):aL.getD i.toNat zG=x:=by rw[eH,h];rfl
theorem fh (h:aL[i.toNat]? =some x):jy aL i.toNat=x.1:=by unfold jy;rw[GJ h]
theorem yb (h:aL[i.toNat]? =some x):jQ aL i.toNat=x.2.1:=by unfold jQ;rw[GJ h]
structure et (aL:List aR):Prop where
 first:0<aL.length→jQ aL 0=0
 next:∀i,i+1<aL.length→(jy aL (i+1)=jy aL i∧jQ aL (i+1)=jQ aL i+1)∨(jy aL i<jy aL (i+1)∧jQ aL (i+1)=0)
section
variable {aL:List aR} (o:et aL)
include o
theorem et.le:∀(d i:Nat),i+d<aL.length→jy aL i≤jy aL (i+d)
 |0,i,h=>ao1 _
 |d+1,i,h=>by
  have h1:=et.le d i ai
  have h2:=o.next (i+d) ai
  rw[show i+(d+1)=i+d+1 from rfl];omega
theorem et.mono {i:Nat} (Jz:i≤j) (h:j<aL.length):jy aL i≤jy aL j:=by
 have:=o.le (j-i) i ai
 rwa [show i+(j-i)=j from by omega] at this
theorem et.place:∀(d i:Nat),i+d<aL.length→jy aL i=jy aL (i+d)→jQ aL (i+d)=jQ aL i+((d:Nat):Int)
 |0,i,h,_=>by simp
 |d+1,i,h,hs=>by
  have h1:=o.mono (i:=i) (j:=i+d) ai ai
  have h2:=o.mono (i:=i+d) (j:=i+(d+1)) ai h
  have h3:=o.next (i+d) ai
  have e:i+(d+1)=i+d+1:=rfl
  rw[e] at hs h2 ⊢
  have ih:=et.place d i ai ai
  omega
theorem et.vO:∀i,i<aL.length→0≤jQ aL i
 |0,h=>by rw[o.first h];exact ao1 _
 |i+1,h=>by
  have:=et.vO i ai
  have:=o.next i h
  omega
theorem et.back:∀i,i<aL.length→jQ aL i≤((i:Nat):Int)∧∀k,((i:Nat):Int)-jQ aL i≤((k:Nat):Int)→k≤i→jy aL k=jy aL i
 |0,h=>by
  rw[o.first h]
  exact⟨by omega,fun k _ hk=>by rw[show k=0 from by omega]⟩
 |i+1,h=>by
  obtain⟨h1,h2⟩:=et.back i ai
  have h0:=o.vO (i+1) h
  rcases o.next i h with ⟨hs,hp⟩|⟨hs,hp⟩
  ·refine⟨by omega,fun k hk Ek=>?_⟩
   by_cases e:k=i+1
   ·rw[e]
   ·rw[hs];exact h2 k ai ai
  ·refine⟨by omega,fun k hk Ek=>?_⟩
   rw[show k=i+1 from by omega]
theorem et.ahead {i:Nat} (hi:i<aL.length) (hj:j<aL.length) (hs:jy aL i=jy aL j):(jQ aL i<jQ aL j↔i<j):=by
 rcases Nat.le_total i j with h|h
 ·have:=o.place (j-i) i ai<|by rw[show i+(j-i)=j from by omega];exact hs
  rw[show i+(j-i)=j from by omega] at this
  omega
 ·have:=o.place (i-j) j ai<|by rw[show j+(i-j)=i from by omega];exact hs.symm
  rw[show j+(i-j)=i from by omega] at this
  omega
end
theorem Tm (o:et aL) (h0:aL.length=0→x.2.1=0) (h:∀n,aL.length=n+1→(x.1=jy aL n∧x.2.1=jQ aL n+1)∨(jy aL n<x.1∧x.2.1=0)):et (aL++[x]):=by
 have hold:∀i,i<aL.length→(aL++[x]).getD i zG=aL.getD i zG:=by
  intro i hi
  rw[eH,eH,y9 hi]
 have zK:(aL++[x]).getD aL.length zG=x:=by
  rw[eH,nQ (alL _)];simp
 refine⟨fun hl=>?_,fun i hi=>?_⟩
 ·by_cases e:aL.length=0
  ·have:=zK
   rw[e] at this
   unfold jQ;rw[this];exact h0 e
  ·have:=o.first ai
   unfold jQ at this ⊢
   rw[hold 0 ai];exact this
 ·rw[im,List.length_singleton] at hi
  by_cases e:i+1<aL.length
  ·have:=o.next i e
   unfold jy jQ at this ⊢
   rw[hold i ai,hold (i+1) e];exact this
  ·have e2:aL.length=i+1:=by omega
   have:=h i e2
   unfold jy jQ at this ⊢
   rw[hold i ai,←e2,zK]
   rcases this with ⟨a,b⟩|⟨a,b⟩
   ·exact .inl ⟨a,b⟩
   ·exact .inr ⟨a,b⟩
def K2 (aL:List aR) (j:Nat):Prop:=∀x∈aL,x.1<((j:Nat):Int)
theorem Ty {n:Nat} (h:aL.length=n+1):aL.getD n zG∈aL:=by
 rw[eH,dW ai]
 exact ant _
theorem LG {j:Nat} {st:y'} {ops:List oF} (o:et st.2) (hb:K2 st.2 j):∀k,k≤ops.length→
  et (lB j st ops k).2∧K2 (lB j st ops k).2 (j+1)∧(0<k→∃n,(lB j st ops k).2.length=n+1∧jy (lB j st ops k).2 n=((j:Nat):Int)∧jQ (lB j st ops k).2 n=((k:Nat):Int)-1)
 |0,_=>by
  rw[CV]
  exact⟨o,fun x hx=>by have:=hb x hx;omega,fun h=>ai⟩
 |k+1,hk=>by
  obtain⟨ho,Bg,Vv⟩:=LG (ops:=ops) o hb k ai
  have hx:ops[((k:Nat):Int).toNat]? =some ops[k]:=by rw[dC];exact dW ai
  rw[zg hx]
  unfold u1
  dsimp only
  refine⟨Tm ho (fun h0=>?_) (fun n hn=>?_),?_,fun _=>⟨(lB j st ops k).2.length,by simp,?_,?_⟩⟩
  ·show ((k:Nat):Int)=0
   by_cases cI:0<k
   ·obtain⟨n,h1, -⟩:=Vv cI
    omega
   ·omega
  ·show (((j:Nat):Int)=_∧((k:Nat):Int)=_)∨(_<((j:Nat):Int)∧((k:Nat):Int)=0)
   by_cases cI:0<k
   ·obtain⟨n',h1,h2,h3⟩:=Vv cI
    obtain rfl:n=n':=by omega
    exact .inl ⟨h2.symm,by rw[h3];omega⟩
   ·right
    have cI:k=0:=by omega
    subst cI
    rw[CV] at hn ⊢
    exact⟨hb _ (Ty hn),J⟩
  ·intro x hxm
   rcases alR.1 hxm with h|h
   ·exact Bg x h
   ·rw[amm] at h
    subst h
    show ((j:Nat):Int)<_
    omega
  ·unfold jy
   rw[eH,nQ (alL _)];simp
  ·unfold jQ
   rw[eH,nQ (alL _)]
   simp
theorem KG (h:fC):∀j,j≤h.length→et (mO h j).2∧K2 (mO h j).2 j
 |0,_=>⟨⟨fun h=>(by simp[mO] at h),fun i hi=>(by simp[mO] at hi)⟩,fun x hx=>(by simp[mO] at hx)⟩
 |j+1,hj=>by
  obtain⟨ho,hb⟩:=KG h j ai
  have hx:h[((j:Nat):Int).toNat]? =some h[j]:=by rw[dC];exact dW ai
  rw[BM hx]
  have:=LG (ops:=h[j]) ho hb _<|alL _
  exact⟨this.1,this.2.1⟩
theorem RA (h:fC):et (xA h):=(KG h h.length (alL _)).1
theorem Xk (h:fC):et (j6 h):=by
 unfold j6;split
 ·exact RA h
 ·exact⟨fun h=>(by simp at h),fun i hi=>(by simp at hi)⟩
def xC (aL:List aR) (i j:Nat):Bool:=decide (i<j)&&decide (j<aL.length)&&decide (jy aL i=jy aL j)
def ux (aL:List aR) (i j:Int):Bool:=decide (0≤i)&&decide (j<(aL.length:Int))&&decide (i<j)&&decide (jy aL i.toNat=jy aL j.toNat)
def sf (aL:List aR) (i j:Int):Bool:=decide (0≤i)&&decide (0≤j)&&decide (i<(aL.length:Int))&&decide (j<(aL.length:Int))&&decide (jy aL i.toNat=jy aL j.toNat)&&decide (jQ aL i.toNat<jQ aL j.toNat)
theorem EO (aL:List aR) (i j:Nat):ux aL ((i:Nat):Int) ((j:Nat):Int)=xC aL i j:=by
 unfold ux xC
 rw[al0]
 simp only[cA,alC,dC]
 omega
theorem Cg (o:et aL) (i j:Int):sf aL i j=ux aL i j:=by
 unfold ux sf
 rw[al0]
 simp only[cA,alC]
 constructor
 ·rintro⟨⟨⟨⟨⟨h1,h2⟩,h3⟩,h4⟩,h5⟩,h6⟩
  have:=(o.ahead (i:=i.toNat) (j:=j.toNat) ai ai h5).1 h6
  exact⟨⟨⟨h1,h4⟩,by omega⟩,h5⟩
 ·rintro⟨⟨⟨h1,h2⟩,h3⟩,h4⟩
  have:=(o.ahead (i:=i.toNat) (j:=j.toNat) ai ai h4).2 ai
  exact⟨⟨⟨⟨⟨h1,by omega⟩,by omega⟩,h2⟩,h4⟩,this⟩
def gP (aL:List aR):Rows:=cO aL.length (xC aL)
def xI (aL:List aR) (t:Int):Rows:=cO aL.length fun a b=>decide (t<((a:Nat):Int))&&xC aL a b
theorem NN (aL:List aR) (t:Int) (h:(aL.length:Int)-2=t):tn (aL.length:Int)=xI aL t:=by
 rw[tY]
 refine dL fun a b ha hb=>?_
 unfold xC
 rw[al0]
 simp only[cA,alC,aoi,false_iff]
 omega
theorem Tj (h:t<0):xI aL t=gP aL:=by
 refine dL fun a b ha hb=>?_
 rw[alM ai];rfl
theorem kM (h0:0≤t) (h1:t+1<(aL.length:Int)) (hs:jy aL t.toNat=jy aL (t+1).toNat) {x:Row} (hx:(xI aL t)[(t+1).toNat]? =some x):
  (xI aL t).set t.toNat (ej x (t+1))=xI aL (t-1):=by
 unfold xI at *
 obtain⟨h2,rfl⟩:=pk hx
 rw[AD ai h1,Dc]
 refine dL fun a b ha hb=>?_
 have e:(t+1).toNat=t.toNat+1:=by omega
 rw[e] at hs ⊢
 by_cases ea:a=t.toNat
 ·subst ea
  rw[alE rfl]
  unfold xC
  rw[al0]
  simp only[cA,alI,alC]
  constructor
  ·rintro(⟨_,⟨h3,h4⟩,h5⟩|h3)
   ·exact⟨by omega,⟨by omega,h4⟩,by rw[hs,h5]⟩
   ·subst h3;exact⟨by omega,⟨by omega,by omega⟩,hs⟩
  ·rintro⟨_,⟨h3,h4⟩,h5⟩
   by_cases e2:b=t.toNat+1
   ·exact .inr e2
   ·exact .inl ⟨by omega,⟨by omega,h4⟩,by rw[←hs,h5]⟩
 ·rw[alG ea,show decide (t<((a:Nat):Int))=decide (t-1<((a:Nat):Int)) from by rw[am4];omega]
theorem D1 (o:et aL) (h0:0≤t) (h1:t+1<(aL.length:Int)) (hs:¬jy aL t.toNat=jy aL (t+1).toNat):xI aL t=xI aL (t-1):=by
 refine dL fun a b ha hb=>?_
 have e:(t+1).toNat=t.toNat+1:=by omega
 rw[e] at hs
 by_cases ea:a=t.toNat
 ·subst ea
  rw[alH ai,aop]
  symm
  unfold xC
  rw[anx]
  right
  rw[anx]
  by_cases qc:t.toNat<b
  ·right
   rw[al1]
   intro he
   have g1:=o.mono (i:=t.toNat) (j:=t.toNat+1) ai ai
   have g2:=o.mono (i:=t.toNat+1) (j:=b) ai ai
   omega
  ·left
   rw[alH ai];rfl
 ·rw[show decide (t<((a:Nat):Int))=decide (t-1<((a:Nat):Int)) from by rw[am4];omega]
def z7 (aL:List aR) (i j:Nat):Rows:=cO aL.length fun a b=>(decide (a<i)||(decide (a=i)&&decide (b<j)))&&xC aL a b
theorem P2 (aL:List aR):tn (aL.length:Int)=z7 aL 0 0:=by
 rw[tY]
 exact dL fun a b ha hb=>by simp
theorem W0 {i:Nat} (h:aL.length≤j):z7 aL i j=z7 aL (i+1) 0:=by
 refine dL fun a b ha hb=>?_
 congr 1
 rw[al0]
 simp only[alI,cA,alC]
 omega
theorem W2 {i:Nat} (h:aL.length≤i):z7 aL i 0=gP aL:=by
 refine dL fun a b ha hb=>?_
 rw[alM ai];rfl
theorem WZ {i:Nat} (hi:i<aL.length) (hj:j<aL.length) (h:xC aL i j=true):bL (aL.length:Int) (z7 aL i j) ((i:Nat):Int) ((j:Nat):Int)=z7 aL i (j+1):=by
 unfold z7
 rw[zo (by rw[B6];simp[hi,hj])]
 refine dL fun a b ha hb=>?_
 rw[al0]
 simp only[alI,cA,alC,dC]
 constructor
 ·rintro(⟨h1,h2⟩|⟨rfl,rfl⟩)
  ·exact⟨by omega,h2⟩
  ·exact⟨.inr ⟨J,by omega⟩,h⟩
 ·rintro⟨h1,h2⟩
  by_cases e:a=i∧b=j
  ·exact .inr e
  ·exact .inl ⟨by omega,h2⟩
theorem YF {i:Nat} (h:xC aL i j=false):z7 aL i j=z7 aL i (j+1):=by
 refine dL fun a b ha hb=>?_
 rw[al0]
 simp only[alI,cA,alC]
 constructor
 ·rintro⟨h1,h2⟩;exact⟨by omega,h2⟩
 ·rintro⟨h1,h2⟩
  refine⟨?_,h2⟩
  by_cases e:a=i∧b=j
  ·rw[e.1,e.2,h] at h2;cases h2
  ·omega
def fG (aL:List aR) (t:Int):az:=if 0≤t∧t<(aL.length:Int) then (List.range ((jQ aL t.toNat).toNat+1)).map fun q=>(t-jQ aL t.toNat)+((q:Nat):Int) else []
def tT (f:Int) (q:Nat):az:=(List.range q).map fun k=>f+((k:Nat):Int)
theorem Lk (f:Int) (q:Nat):tT f q++[f+((q:Nat):Int)]=tT f (q+1):=by unfold tT;rw[al6,amk];rfl
theorem NR (f:Int) (q:Nat):(tT f q).length=q:=by unfold tT;simp
def bS (aL:List aR) (t:Int) (j:Nat):az:=((List.range j).filter fun i=>decide (((i:Nat):Int)=t)||sf aL ((i:Nat):Int) t).map fun i=>((i:Nat):Int)
theorem rR (h:(decide (((j:Nat):Int)=t)||sf aL ((j:Nat):Int) t)=true):bS aL t j++[((j:Nat):Int)]=bS aL t (j+1):=by
 unfold bS;rw[al6,al8,amk,an3,alE h];rfl
theorem C8 (h:(decide (((j:Nat):Int)=t)||sf aL ((j:Nat):Int) t)=false):bS aL t j=bS aL t (j+1):=by
 unfold bS;rw[al6,al8,amk,an3,alG (by rw[h];simp)];simp
theorem pU (aL:List aR) (t:Int) (j:Nat):(bS aL t j).length≤j:=by
 unfold bS;rw[aml]
 have:=amQ (fun i=>decide (((i:Nat):Int)=t)||sf aL ((i:Nat):Int) t)<|List.range j
 rwa [amZ] at this
theorem zQ {lo hi:Nat}:∀n,hi≤n→lo≤hi→(List.range n).filter (fun i=>decide (lo≤i)&&decide (i<hi))=(List.range (hi-lo)).map fun q=>lo+q:=by
 intro n hn hl
 have h1:n=lo+((hi-lo)+(n-hi)):=by omega
 rw[h1,kL,kL,al8,amk,al8]
 have e1:(List.range lo).filter (fun i=>decide (lo≤i)&&decide (i<hi))=[]:=by
  rw[amb];intro i r5;have:=alF.1 r5;simp;omega
 have e2:((List.range (hi-lo)).map fun i=>lo+i).filter (fun i=>decide (lo≤i)&&decide (i<hi))=(List.range (hi-lo)).map fun i=>lo+i:=by
  rw[an7];intro i r5
  obtain⟨k,hk,rfl⟩:=amx.1 r5
  have:=alF.1 hk
  simp;omega
 have e3:(((List.range (n-hi)).map fun i=>hi-lo+i).map fun i=>lo+i).filter (fun i=>decide (lo≤i)&&decide (i<hi))=[]:=by
  rw[amb];intro i r5
  obtain⟨k,hk,rfl⟩:=amx.1 r5
  obtain⟨k2,Ba,rfl⟩:=amx.1 hk
  simp;omega
 rw[e1,e2,e3];simp
theorem LO (o:et aL) (t:Int):bS aL t aL.length=fG aL t:=by
 unfold bS fG
 split
 ·rename_i ht
  obtain⟨b1,b2⟩:=o.back t.toNat ai
  have b0:=o.vO t.toNat ai
  have key:∀i,i∈List.range aL.length→(decide (((i:Nat):Int)=t)||sf aL ((i:Nat):Int) t)=(decide ((t-jQ aL t.toNat).toNat≤i)&&decide (i<t.toNat+1)):=by
   intro i hi
   have hi:=alF.1 hi
   rw[Cg o]
   unfold ux
   rw[al0]
   simp only[alI,cA,alC,dC]
   constructor
   ·rintro(h|⟨⟨⟨h1,h2⟩,h3⟩,h4⟩)
    ·omega
    ·have:=o.place (t.toNat-i) i ai<|by rw[show i+(t.toNat-i)=t.toNat from by omega];exact h4
     rw[show i+(t.toNat-i)=t.toNat from by omega] at this
     have:=o.vO i ai
     omega
   ·rintro⟨h1,h2⟩
    by_cases e:((i:Nat):Int)=t
    ·exact .inl e
    ·exact .inr ⟨⟨⟨by omega,ht.2⟩,by omega⟩,b2 i ai ai⟩
  rw[amR key,zQ aL.length ai ai,aoX]
  rw[show t.toNat+1-(t-jQ aL t.toNat).toNat=(jQ aL t.toNat).toNat+1 from by omega]
  apply amV
  intro q _
  show (((t-jQ aL t.toNat).toNat+q:Nat):Int)=_
  omega
 ·rename_i ht
  rw[amb.2]
  ·rfl
  ·intro i hi
   have hi:=alF.1 hi
   unfold sf
   simp only[alI,cA,alC]
   omega
theorem KI {j:Int} (h:¬(0≤i∧j<(aL.length:Int)∧i<j)):false=ux aL i j:=by
 unfold ux;symm;simp only[anx,al1];omega
theorem X9 {j:Int} (h0:0≤i) (h1:j<(aL.length:Int)) (h2:i<j) (hx:aL[i.toNat]? =some x) (hy:aL[j.toNat]? =some y):decide (x.1=y.1)=ux aL i j:=by
 unfold ux;rw[alM h0,alM h1,alM h2,fh hx,fh hy];rfl
theorem EM {j:Int} (h:¬(0≤i∧0≤j∧i<(aL.length:Int)∧j<(aL.length:Int))):false=sf aL i j:=by
 unfold sf;symm;simp only[anx,al1];omega
theorem X8 {j:Int} (hx:aL[i.toNat]? =some x) (hy:aL[j.toNat]? =some y) (hs:¬x.1=y.1):false=sf aL i j:=by
 unfold sf;rw[fh hx,fh hy,alH hs];simp
theorem X7 {j:Int} (h0:0≤i) (h1:0≤j) (h2:i<(aL.length:Int)) (h3:j<(aL.length:Int)) (hx:aL[i.toNat]? =some x) (hy:aL[j.toNat]? =some y) (hs:x.1=y.1):decide (x.2.1<y.2.1)=sf aL i j:=by
 unfold sf;rw[alM h0,alM h1,alM h2,alM h3,fh hx,fh hy,yb hx,yb hy,alM hs];rfl
theorem C9 (h:¬(0≤t∧t<(aL.length:Int))):([]:az)=fG aL t:=by unfold fG;rw[alG h]
theorem P9 {q:Nat} (h0:0≤t) (h:t<(aL.length:Int)) (hx:aL[t.toNat]? =some x) (hp:0≤x.2.1) (hq:((q:Nat):Int)=x.2.1+1):tT (t-x.2.1) q=fG aL t:=by
 unfold fG tT
 rw[alE ⟨h0,h⟩,yb hx,show x.2.1.toNat+1=q from by omega]
theorem W3 (aL:List aR):(gP aL).length=aL.length:=lV _ _
theorem W1 (aL:List aR) (i j:Nat):(z7 aL i j).length=aL.length:=lV _ _
theorem Ti {i:Nat} {x:Row} (h:(xI aL t)[i]? =some x):x.length=words ((aL.length:Nat):Int):=by rw[(pk h).2,lb]
theorem K4 {n:Nat} (h:n≤4096):words ((n:Nat):Int)≤64:=by rw[rL];omega
end Go.Ew
namespace Go.Ew
variable {rs:Rows} {j n i:Nat} {p:gk} {x:Row}
def B3 (n:Int) (r:Row):Bool:=decide (((r.length:Nat):Int)=((words n:Nat):Int))&&(List.range (64*r.length)).all fun k=>decide (((k:Nat):Int)<n)||!fU r ((k:Nat):Int)
def cq (n:Int) (rs:Rows):Bool:=wY n&&decide (((rs.length:Nat):Int)=n)&&rs.all (B3 n)
theorem PM {n:Int} {r:Row} {j:Int} (hl:((r.length:Nat):Int)=((words n:Nat):Int)) (h:∀k:Int,n≤k→k<j→fU r k=false) (hj:64*((r.length:Nat):Int)≤j):B3 n r=true:=by
 unfold B3
 rw[alM hl,am8,alK]
 intro k hk
 have:=alF.1 hk
 by_cases hn:((k:Nat):Int)<n
 ·rw[alM hn];rfl
 ·rw[h _ ai ai];simp
theorem Nx {n:Int} (h0:0≤n) (h1:n≤4096) (h2:((rs.length:Nat):Int)=n) (hs:(rs.take j).all (B3 n)=true) (hj:rs.length≤j):true=cq n rs:=by
 unfold cq;rw[k0 hj] at hs;rw[lN.2 ⟨h0,h1⟩,alM h2,hs];rfl
theorem kx (h:n≤4096):cq ((n:Nat):Int) (cO n p)=true:=by
 refine(Nx (j:=(cO n p).length) ai ai (by rw[lV]) ?_<|alL _).symm
 rw[amT,alK]
 intro x hx
 obtain⟨i,hi⟩:=amt.1 hx
 obtain⟨h1,rfl⟩:=pk hi
 refine PM (j:=64*(((jH n<|p i).length:Nat):Int)) (by rw[lb]) (fun k hk Ba=>?_)<|ao1 _
 rw[lf,alH (show ¬k<((n:Nat):Int) from by omega)];simp
def eC (n:Int) (rs:Rows):Option Nat:=(List.range n.toNat).find? fun i=>dG n rs ((i:Nat):Int) ((i:Nat):Int)
theorem Uh {p:Nat→Bool} (hj:j<n) (hp:p j=true) (hl:∀k,k<j→p k=false):(List.range n).find? p=some j:=by
 rw[aoF]
 refine⟨hp,List.range j,(List.range<|n-j-1).map (fun i=>j+1+i),?_,fun a ha=>by rw[hl a (alF.1 ha)];rfl⟩
 have:n=j+(1+(n-j-1)):=by omega
 conv=>lhs;rw[this]
 rw[kL,kL]
 simp[aou]
theorem Ru {p:Nat→Bool} (hj:n≤j) (hl:∀k,k<j→p k=false):(List.range n).find? p=none:=by
 rw[am2]
 intro k hk
 rw[hl k (by have:=alF.1 hk;omega)];simp
theorem I6 {n:Int} (hj:((j:Nat):Int)<n) (hp:dG n rs ((j:Nat):Int) ((j:Nat):Int)=true) (hl:∀k,k<j→dG n rs ((k:Nat):Int) ((k:Nat):Int)=false):eC n rs=some j:=Uh ai hp hl
theorem GG {n:Int} (hj:n≤((j:Nat):Int)) (hl:∀k,k<j→dG n rs ((k:Nat):Int) ((k:Nat):Int)=false):eC n rs=none:=Ru ai hl
theorem OX {p:Nat→Bool} (hl:∀k,k<j→p k=false) (h:p j=false):∀k,k<j+1→p k=false:=by
 intro k hk
 rcases amO.1 hk with h1|rfl
 ·exact hl k h1
 ·exact h
def wW (rs:Rows) (i:Nat):List (Int×Int):=(fH (rowAt rs ((i:Nat):Int))).map fun j=>(((i:Nat):Int),j)
def j5 (rs:Rows) (i:Nat):List (Int×Int):=(List.range i).flatMap (wW rs)
def cW (n:Int) (rs:Rows):List (Int×Int):=j5 rs n.toNat
theorem AM (rs:Rows) (i:Nat):j5 rs (i+1)=j5 rs i++wW rs i:=by unfold j5;rw[al6,amJ];simp
theorem Ec (n:Nat) (q:Nat→Bool):fH (jH n q)=((List.range n).filter q).map fun k=>((k:Nat):Int):=by
 rw[←GI]
 unfold qt
 congr 1
 have hl:=lb n q
 rw[rL] at hl
 have e:64*(jH n q).length=n+(64*(jH n q).length-n):=by omega
 rw[e,kL,al8]
 have e2:((List.range (64*(jH n q).length-n)).map fun i=>n+i).filter (fun k=>fU (jH n q) ((k:Nat):Int))=[]:=by
  rw[amb]
  intro k hk
  obtain⟨i, -,rfl⟩:=amx.1 hk
  rw[lf,alH (show ¬(((n+i:Nat):Nat):Int)<((n:Nat):Int) from by omega)];simp
 rw[e2,amA]
 apply amR
 intro k hk
 have:=alF.1 hk
 rw[lf]
 simp[this]
theorem zs (h:i<n):wW (cO n p) i=((List.range n).filter (p i)).map fun j=>(((i:Nat):Int),((j:Nat):Int)):=by
 unfold wW
 rw[sr ai ai,dC,Ec,aoX];rfl
theorem rV {z:Int×Int}:z∈cW ((n:Nat):Int) (cO n p)↔∃a b,a<n∧b<n∧p a b=true∧z=(((a:Nat):Int),((b:Nat):Int)):=by
 unfold cW j5
 rw[aox]
 constructor
 ·rintro⟨a,ha,hz⟩
  have ha:=alF.1 ha
  rw[dC] at ha
  rw[zs ha] at hz
  obtain⟨b,hb,rfl⟩:=amx.1 hz
  rw[alO,alF] at hb
  exact⟨a,b,ha,hb.1,hb.2,J⟩
 ·rintro⟨a,b,ha,hb,hp,rfl⟩
  refine⟨a,alF.2 (by simpa using ha),?_⟩
  rw[zs ha]
  exact amx.2 ⟨b,alO.2 ⟨alF.2 hb,hp⟩,J⟩
def IE (n:Nat) (p:gk):Nat:=((List.range n).map fun a=>((List.range n).filter (p a)).length).sum
theorem Qa:(cW ((n:Nat):Int) (cO n p)).length=IE n p:=by
 unfold cW j5 IE
 rw[List.length_flatMap,dC]
 congr 1
 apply amV
 intro a ha
 rw[zs (alF.1 ha),aml]
theorem Ll {n:Nat} {p:gk}:(cW ((n:Nat):Int) (cO n p)).length≤n*n:=by
 rw[Qa];unfold IE
 have:∀l:List Nat,(l.map fun a=>((List.range n).filter (p a)).length).sum≤l.length*n:=by
  intro l
  induction l with
  |nil=>simp
  |cons a l ih=>
   have h1:=amQ (p a)<|List.range n
   rw[amZ] at h1
   simp only[amD,aov,jv,amH,Nat.one_mul];omega
 have h:=this<|List.range n
 rwa [amZ] at h
theorem PJ {rs:Rows} (hr:∀x∈rs,x.length≤64) (i:Nat):(wW rs i).length≤4096:=by
 unfold wW
 rw[aml]
 have h1:=pX<|rowAt rs ((i:Nat):Int)
 have:(rowAt rs ((i:Nat):Int)).length≤64:=by
  unfold rowAt
  rw[eH]
  cases h:rs[((i:Nat):Int).toNat]? with
  |none=>simp
  |some x=>exact hr x (eh h)
 omega
theorem xJ {rs:Rows} (hr:∀x∈rs,x.length≤64):∀i,(j5 rs i).length≤4096*i
 |0=>by simp[j5]
 |i+1=>by
  have:=xJ hr i
  have:=PJ hr i
  rw[AM,im];omega
theorem S4 (hx:rs[((i:Nat):Int).toNat]? =some x):wW rs i=(fH x).map fun j=>(((i:Nat):Int),j):=by unfold wW;rw[oK hx]
theorem GA {q:Nat} {y:Int} (hy:(fH x)[((q:Nat):Int).toNat]? =some y):(j5 rs i++((fH x).take q).map fun j=>(((i:Nat):Int),j))++[(((i:Nat):Int),y)]=j5 rs i++((fH x).take (q+1)).map fun j=>(((i:Nat):Int),j):=by
 rw[nV hy,amk,alY];rfl
theorem IP {q:Nat} (hx:rs[((i:Nat):Int).toNat]? =some x) (hq:(fH x).length≤q):(j5 rs i++((fH x).take q).map fun j=>(((i:Nat):Int),j))=j5 rs (i+1):=by
 rw[k0 hq,AM,S4 hx]
theorem Gz {n:Int} (h:n≤((i:Nat):Int)) (hi:((i:Nat):Int)≤n∨i=0):j5 rs i=cW n rs:=by
 unfold cW;rw[show n.toNat=i from by omega]
theorem W8 {aL:List aR} (o:et aL) {t:Int} (h0:0≤t) (h:t<(aL.length:Int)) {q:Nat} {x:Int} (hx:(fG aL t)[q]? =some x):0≤x∧x≤t∧x<(aL.length:Int)∧jy aL x.toNat=jy aL t.toNat∧jQ aL x.toNat=((q:Nat):Int)∧x=t-jQ aL t.toNat+((q:Nat):Int):=by
 obtain⟨b1,b2⟩:=o.back t.toNat ai
 have b0:=o.vO t.toNat ai
 unfold fG at hx
 rw[alE ⟨h0,h⟩,amc] at hx
 cases hr:(List.range ((jQ aL t.toNat).toNat+1))[q]? with
 |none=>rw[hr] at hx;cases hx
 |some k=>
  rw[hr] at hx
  obtain⟨h1,h2⟩:=eW.1 hr
  simp only[amZ] at h1
  rw[aoN] at h2
  subst h2
  have hx:(t-jQ aL t.toNat)+((q:Nat):Int)=x:=alD hx
  have hs:=b2 x.toNat ai ai
  refine⟨by omega,by omega,by omega,hs,?_,hx.symm⟩
  have:=o.place (t.toNat-x.toNat) x.toNat ai<|by rw[show x.toNat+(t.toNat-x.toNat)=t.toNat from by omega];exact hs
  rw[show x.toNat+(t.toNat-x.toNat)=t.toNat from by omega] at this
  omega
theorem Xs (h:n≤4096):∀x∈cO n p,x.length≤64:=by
 intro x hx
 obtain⟨i,hi⟩:=aoB hx
 obtain⟨-,rfl⟩:=pk hi
 have h1:=lb n<|p i
 have:=CO (n:=((n:Nat):Int)) ai
 omega
end Go.Ew
namespace Go.Ew
variable {n:Nat}
theorem S5 {r:Row} (h:B3 ((n:Nat):Int) r=true):r=jH n fun k=>fU r ((k:Nat):Int):=by
 unfold B3 at h
 rw[cA,alC,alK] at h
 refine AG ai fun k=>?_
 by_cases hk:k<n
 ·simp[hk]
 ·rw[alH hk,aop]
  by_cases h2:k<64*r.length
  ·have:=h.2 k<|alF.2 h2
   rw[alH (show ¬((k:Nat):Int)<((n:Nat):Int) from by omega),am9] at this
   simpa using this
  ·exact(wi<|by unfold iO;exact alH ai).symm
theorem nF {n:Int} {rs:Rows} (h:cq n rs=true):∃(m:Nat) (p:gk),n=((m:Nat):Int)∧m≤4096∧rs=cO m p:=by
 unfold cq at h
 rw[cA,cA,alC,alK] at h
 obtain⟨⟨h1,h2⟩,h3⟩:=h
 have h1:=lN.1 h1
 refine⟨n.toNat,fun i j=>fU (rs.getD i []) ((j:Nat):Int),by omega,by omega,AR ai fun i hi=>?_⟩
 have hx:rs[i]? =some rs[i]:=dW ai
 have e:rs.getD i []=rs[i]:=by rw[eH,hx];rfl
 rw[hx,e]
 have:=S5 (n:=n.toNat) (r:=rs[i])<|by rw[show ((n.toNat:Nat):Int)=n from by omega];exact h3 _ (ant _)
 rw[←this]
theorem bQ {n:Int} {rs:Rows} (h:cq n rs=true):((rs.length:Nat):Int)=n∧(∀x∈rs,x.length≤1000000000)∧n≤4096∧0≤n∧∀x∈rs,x.length≤64:=by
 obtain⟨m,p,rfl,hm,rfl⟩:=nF h
 exact⟨by rw[lV],sA hm,by omega,by omega,Xs hm⟩
def tm (a b:Rows) (n:Nat):Rows:=(List.range n).map fun i=>fZ (rowAt a ((i:Nat):Int)) (rowAt b ((i:Nat):Int))
theorem C_ (a b:Rows) (n:Nat):(tm a b n).length=n:=by unfold tm;simp
theorem GB (a b:Rows) (n:Nat):tm a b (n+1)=tm a b n++[fZ (rowAt a ((n:Nat):Int)) (rowAt b ((n:Nat):Int))]:=by unfold tm;rw[al6,amk];rfl
def j1 (an bn:Int):Int:=if an=bn then an else 0
def ga (an:Int) (ar:Rows) (bn:Int) (br:Rows):Rows:=if an=bn then tm ar br an.toNat else []
def nY (an bn:Int):Int:=if an=bn then 0 else 1
theorem yg {an bn:Int} {ar br:Rows} (h:¬an=bn):j1 an bn=0∧ga an ar bn br=[]∧nY an bn=1:=by unfold j1 ga nY;simp[h]
theorem rT {an bn:Int} {ar br:Rows} (h:an=bn):j1 an bn=an∧ga an ar bn br=tm ar br an.toNat∧nY an bn=0:=by unfold j1 ga nY;simp[h]
def tU (a b:Rows) (n j:Nat):Rows:=tm a b j++List.replicate (n-j) []
theorem Lm (a b:Rows) (n:Nat):List.replicate n []=tU a b n 0:=by unfold tU tm;simp
theorem NV {a b:Rows} {j:Nat} {x y:Row} (hj:j<n) (hx:a[((j:Nat):Int).toNat]? =some x) (hy:b[((j:Nat):Int).toNat]? =some y):(tU a b n j).set j (fZ x y)=tU a b n (j+1):=by
 unfold tU
 rw[GB,oK hx,oK hy]
 have hl:=C_ a b j
 rw[anl _ _ ai,hl,amN,show n-j=n-(j+1)+1 from by omega,ani,aoc]
 simp
theorem NW {a b:Rows} {j:Nat} (hj:n≤j) (h:j≤n):tU a b n j=tm a b n:=by
 obtain rfl:n=j:=by omega
 unfold tU;simp
theorem LS (p q:Nat→Bool):fZ (jH n p) (jH n q)=jH n fun k=>p k||q k:=by
 refine AG (by rw[zA,lb,lb];omega) fun k=>?_
 rw[XE,lf,lf]
 by_cases hk:k<n<;>simp[hk]
theorem Qe (p q:gk):tm (cO n p) (cO n q) n=cO n fun a b=>p a b||q a b:=by
 refine AR (C_ _ _ _) fun i hi=>?_
 unfold tm
 rw[amc,anK hi]
 simp only[amq]
 rw[sr ai ai,sr ai ai,dC,LS]
theorem P' {p:gk} {z:Int×Int} {q:Nat} (h:(cW ((n:Nat):Int) (cO n p))[q]? =some z):0≤z.1∧z.1<((n:Nat):Int)∧0≤z.2∧z.2<((n:Nat):Int)∧p z.1.toNat z.2.toNat=true:=by
 obtain⟨a,b,ha,hb,hp,rfl⟩:=rV.1 (eh h)
 exact⟨by omega,by omega,by omega,by omega,by simpa using hp⟩
end Go.Ew
namespace Go.Ew
theorem iA {n:Int} {rs:Rows} (h:cq n rs=true):0≤n:=(bQ h).2.2.2.1
section
variable {n:Int} {rs:Rows} {i j:Int} (h:cq n rs=true) (hi:mH n [i,j]=true)
include h hi
end
theorem pf {n:Int} {rs:Rows} (h:cq n rs=true):(cW n rs).length≤16777216:=by
 obtain⟨m,p,rfl,hm,rfl⟩:=nF h
 have h1:=Ll (n:=m) (p:=p)
 have h2:m*m≤4096*4096:=amB hm hm
 omega
end Go.Ew
namespace Go.Ew
variable {l:List Item} {i j q:Nat} {a b xs:Row} {n:Int} {rs:Rows}
theorem QQ {B e:Nat} {iv fv:Value} (hj:l[j]? =some (own B e fv b)) (hi:i<l.length) (ff:i≠j∨(iv=fv∧b=a)) (Jh:xs.length=a.length) (Jg:xs=jR a.length a b a q) (hq:q≤b.length) (hlen:b.length≤a.length):
  ∃ys:Row,(l.set i (own B e iv xs))[j]? =some (own B e fv ys)∧ys.length=b.length∧∀x,ys[((q:Nat):Int).toNat]? =some x→b.getD q 0#64=x:=by
 by_cases h:i=j
 ·subst h
  rcases ff with h|⟨rfl,rfl⟩
  ·exact absurd J h
  ·refine⟨xs,by rw[amj hi],Jh,fun x hx=>?_⟩
   rw[Jg] at hx
   exact(vM hx).symm
 ·exact⟨b,by rw[amS h,hj],J,fun x hx=>r8 hx⟩
theorem QP {x y:bG} (hs:xs=jR a.length a b a q) (hx:b.getD q 0#64=x) (hy:xs[((q:Nat):Int).toNat]? =some y):xs.set ((q:Nat):Int).toNat (y ||| x)=jR a.length a b a (q+1):=by
 subst hs
 have e1:=vM hy
 rw[dC]
 exact tk<|by rw[e1];unfold oO;rw[hx]
theorem TB (hs:xs=jR a.length a b a q) (hlen:b.length≤a.length) (hq:b.length≤q):xs=fZ a b:=by
 rw[hs]
 refine tl ai<|fun i h1 h2=>?_
 unfold oO
 rw[nI (show b.length≤i by omega)];simp
theorem Iy {it:Item} (hi:i<l.length):(l.set i it)[i]? =some it:=amj hi
theorem set_set {l:List Item} {i:Nat} {x y:Item}:(l.set i x).set i y=l.set i y:=List.set_set ..
theorem WD {x:Item} (h:l[i]? =some x):l.set i x=l:=by
 apply am'
 intro m
 rw[anq]
 split
 ·rename_i e
  subst e
  split
  ·exact h.symm
  ·rename_i hl
   rw[amf ai]
 ·rfl
def zi (z:Int×Int):Int×Int:=(z.2,z.1)
def oJ (n:Int) (rs:Rows):Rows:=foldM n ((cW n rs).map zi)
theorem DV (h:cq n rs=true) {z:Int×Int} (hz:(cW n rs)[q]? =some z):0≤z.1∧z.1<n∧0≤z.2∧z.2<n:=by
 obtain⟨m,p,rfl,hm,rfl⟩:=nF h
 obtain⟨h1,h2,h3,h4, -⟩:=P' hz
 exact⟨h1,h2,h3,h4⟩
theorem vu {ps:List (Int×Int)} {x:Row} (h:(foldM n ps)[i]? =some x) {k:Int} (h0:0≤k) (h1:k<n):0≤k/64∧k/64<((x.length:Nat):Int)∧(k/64).toNat<x.length∧iO x k=true:=by
 have hr:=G4 h
 have hw:x.length=(n.toNat+63)/64:=by rw[hr,←rL,show ((n.toNat:Nat):Int)=n from by omega]
 refine⟨by omega,by omega,by omega,AT h0 ai⟩
theorem Pl {l:List (Int×Int)} {z:Int×Int} {xs:Rows} {x:Row} {u:bG} (hs:xs=foldM n ((l.map zi).take j)) (hz:l[((j:Nat):Int).toNat]? =some z) (hx:xs[z.2.toNat]? =some x) (hu:x[(z.1/64).toNat]? =some u) (h0:0≤z.1) (h1:z.1<n):
  xs.set z.2.toNat (x.set (z.1/64).toNat (u ||| eS (z.1%64)))=foldM n ((l.map zi).take (j+1)):=by
 have hr:=(vu (hs▸hx) h0 h1).2.2.2
 rw[ON (p:=(z.2,z.1)) (by rw[amc,hz];rfl),←hs,E2 hr hu]
 exact E3 hx
theorem SD {xs:Rows} (hs:xs=foldM n (((cW n rs).map zi).take j)) (hj:(cW n rs).length≤j):xs=oJ n rs:=by
 rw[hs,k0 (by rw[aml];exact hj)];rfl
theorem Pk (n:Int) (l:List (Int×Int)):List.replicate n.toNat (dJ n)=foldM n ((l.map zi).take 0):=rfl
theorem Gh (n:Int) (rs:Rows):(oJ n rs).length=n.toNat:=wy _ _
theorem zt (h:cq n rs=true):wY n=true:=lN.2 ⟨iA h,(bQ h).2.2.1⟩
theorem MC {rs0:Rows} (h:cq n rs0=true) (ps:List (Int×Int)):(((foldM n ps).length:Nat):Int)=n∧∀x∈foldM n ps,x.length≤1000000000:=by
 have h0:=iA h
 have h4:=(bQ h).2.2.1
 refine⟨by rw[wy];omega,fun x hx=>?_⟩
 obtain⟨i,hi⟩:=amt.1 hx
 rw[G4 hi]
 have:=CO h4
 omega
end Go.Ew
namespace Go.Ew
variable {m:Nat} {p:gk}
theorem EA {m:Nat}:∀(l:List (Int×Int)) (p:gk),(∀z∈l,mH ((m:Nat):Int) [z.1,z.2]=true)→l.foldl pO (cO m p)=cO m fun a b=>p a b||l.any fun z=>decide (a=z.1.toNat)&&decide (b=z.2.toNat)
 |[],p,_=>by
  show cO m p=_
  exact dL fun a b _ _=>by simp
 |z::l,p,h=>by
  rw[an',show z=(z.1,z.2) from rfl,AE (h z al5),EA l _ fun y hy=>h y (alV _ hy)]
  exact dL fun a b _ _=>by simp[Bool.or_assoc]
theorem EB {l:List (Int×Int)} (h:∀z∈l,mH ((m:Nat):Int) [z.1,z.2]=true):foldM ((m:Nat):Int) l=cO m fun a b=>l.any fun z=>decide (a=z.1.toNat)&&decide (b=z.2.toNat):=by
 unfold foldM
 rw[tY,EA l _ h]
 exact dL fun a b _ _=>by simp
theorem IN:∀z∈cW ((m:Nat):Int) (cO m p),mH ((m:Nat):Int) [z.1,z.2]=true:=by
 intro z hz
 obtain⟨a,b,ha,hb, -,rfl⟩:=rV.1 hz
 exact jC.2 ⟨⟨by omega,by omega⟩,by omega,by omega⟩
theorem R9 {a b:Nat} (ha:a<m) (hb:b<m):((cW ((m:Nat):Int) (cO m p)).any fun z=>decide (a=z.1.toNat)&&decide (b=z.2.toNat))=p a b:=by
 rw[al0,amp]
 constructor
 ·rintro⟨z,hz,h⟩
  obtain⟨c,d,hc,hd,hp,rfl⟩:=rV.1 hz
  simp only[dC,cA,alC] at h
  rw[h.1,h.2];exact hp
 ·intro hp
  exact⟨_,rV.2 ⟨a,b,ha,hb,hp,J⟩,by simp⟩
theorem Gg:oJ ((m:Nat):Int) (cO m p)=cO m fun a b=>p b a:=by
 unfold oJ
 rw[EB]
 ·refine dL fun a b ha hb=>?_
  rw[List.any_map,←R9 (p:=p) hb ha]
  congr 1
  funext z
  simp only[Function.comp,zi]
  exact Bool.and_comm _ _
 ·intro z hz
  obtain⟨y,hy,rfl⟩:=amx.1 hz
  have:=jC.1<|IN y hy
  exact jC.2 ⟨this.2,this.1⟩
section
variable {n:Int} {rs:Rows} (h:cq n rs=true)
include h
theorem Ng:cq n (oJ n rs)=true:=by
 obtain⟨m,p,rfl,hm,rfl⟩:=nF h
 rw[Gg];exact kx hm
end
end Go.Ew
