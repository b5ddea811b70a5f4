/- Engine, part P: function values that are handed in; blocks that are only read; small words on lists. -/
import Derived.Test.YtgjakhpjmapelaaGreatDoorVwnA
import Derived.WalkKit
import Derived.ProofKit
import Derived.OpenShut
import Derived.ReadAgain
import Derived.ChangeStays
import Derived.Below
import Derived.ChangeSame
import Derived.ArgAppend
import Derived.Laws.CopyRow
import Derived.LaidMore
import Derived.Stop.Joined
import Derived.Laws.StructEq
import Derived.ChangeKeysEq
import Derived.MapKept
import Derived.Laws.BytesArg
set_option linter.unusedVariables false
set_option linter.unusedSimpArgs false
set_option linter.unusedSectionVars false
namespace Go.Ew
open Go.RowKit
variable {k:Nat}
def ro (b:Nat) (cs:Array Value) (t:TypeId):Item:=⟨none,fun M w=>w.heap[b]? =some (.cells cs t (0,0))∧¬M b,fun h u _=>by
 have hb:b<_:=(aor.1 h.1).1
 have:=u.2 b hb h.2
 exact⟨this.1.trans h.1,this.2⟩⟩
section
variable {P:Program} {n:Nat} {ops:Array Oper} {f:aO} {w w0 w':aG} {K:aO→aG→Prop} {M0:bY} {l:List Item}
variable {d:Nat} {T ty e:TypeId} {ps:String} {af:Array Edge} {x y:Operand} {v:Value}
theorem v7 {bb off:Nat} {cs:Array Value} {t:TypeId} {k bytes:Nat} {agg:Bool} {z:Value} (H:HI M0 w0 w l) (i:Nat) (hi:l[i]? =some (ro bb cs t)) (F:ep P T k agg bytes z) (ox:bD n x=true) (hx:ev f x=.pointer (some ⟨bb,off,none⟩))
  (hk:agg=false→k=1) (hl:((cs.toList.drop off).take k).length=k) (h:K (cg f d (sF agg ((cs.toList.drop off).take k))) w):SO P n ops ⟨some d,.load T x,ty,ps,af,none⟩ f w K:=by
 have hb:w.heap[bb]? =some (.cells cs t (0,0)):=(H.at_ i hi).1
 refine SO.value (v:=sF agg ((cs.toList.drop off).take k)) ?_ h
 have hc:∀j u,((cs.toList.drop off).take k)[j]? =some u→w.cell? ((⟨bb,off,none⟩:Addr).add j)=some u:=by
  intro j u hu
  rw[show (⟨bb,off,none⟩:Addr).add j=⟨bb,off+j,none⟩ from by unfold Addr.add;split<;>simp_all,cell_of_row w bb (off+j) cs t (0,0) hb]
  have hj:j<k:=by
   have:=(dJ.1 hu).1
   omega
  rw[aov,an4 hj,aoG] at hu
  simpa using hu
 simp[execOp,aJ ox,hx,Instr.loadAt,Instr.sureAddr,rI F hk hl hc]
theorem lr {bb off:Nat} {cs:Array Value} {t:TypeId} {bytes:Nat} {z:Value} (H:HI M0 w0 w l) (i:Nat) (hi:l[i]? =some (ro bb cs t)) (F:ep P T 1 false bytes z) (ox:bD n x=true) (hx:ev f x=.pointer (some ⟨bb,off,none⟩))
  (hl:((cs.toList.drop off).take 1).length=1) (h:K (cg f d (sF false ((cs.toList.drop off).take 1))) w):SO P n ops ⟨some d,.load T x,ty,ps,af,none⟩ f w K:=v7 H i hi F ox hx (fun _=>rfl) hl h
end
def FP {α:Type} [GT α] (P:Program) (g:FuncId) (C:List Value) (M:bY) (w:aG) (xs:List α) (p:α→Bool):Prop:=
 cx P g∧∀w1 v x,x∈xs→Ext w w1→RV M w1 v x→Calls P g ([v]++C).toArray w1 (cm fun u w2=>u=.bool (p x)∧Ext w1 w2)
theorem FP.sub {α:Type} [GT α] {P:Program} {g:FuncId} {C:List Value} {M M':bY} {w w':aG} {xs:List α} {p:α→Bool} (h:FP P g C M w xs p) (e:Ext w w') (hM:∀b,M b→M' b):FP P g C M' w' xs p:=
 ⟨h.1,fun w1 v x hx e' hv=>h.2 w1 v x hx (e.trans e') (hv.lift (Up.less fun b _ hb=>hM b hb))⟩
theorem U5 {M0:bY} {l:List Item}:∀b,M0 b→MS M0 l b:=fun _ h=>.inl h
theorem nO {α:Type} {r:List α} {x:α} (h:r[((k:Nat):Int).toNat]? =some x):r.take (k+1)=r.take k++[x]:=by
 rw[dq] at h
 rw[aoy,h];rfl
theorem mg {α:Type} {r:List α} (h:r.length≤k):r.take k=r:=an_ h
theorem pE {α:Type} {r:List α} {x:α} {p:α→Bool} (h:r[((k:Nat):Int).toNat]? =some x) (h1:(r.take k).any p=false) (h2:p x=false):(r.take (k+1)).any p=false:=by
 rw[nO h];simp[h1,h2]
def eF {α:Type} (p:α→Bool) (r:List α):Int:=match r.findIdx? p with|some i=>i|none=> -1
theorem uA {α:Type} {r:List α} {x:α} {p:α→Bool} (h:r[((k:Nat):Int).toNat]? =some x) (h1:(r.take k).any p=false) (h2:p x=true):(k:Int)=eF p r:=by
 rw[dq] at h
 obtain⟨hk,hx⟩:=dJ.1 h
 have:r.findIdx? p=some k:=by
  rw[aom]
  refine⟨hk,by rw[hx];exact h2,fun j hj=>?_⟩
  have hm:r[j]∈r.take k:=by
   rw[List.mem_take_iff_getElem]
   exact⟨j,by omega,J⟩
  have:=apN.1 h1 _ hm
  simpa using this
 simp[eF,this]
theorem ve {α:Type} {r:List α} {p:α→Bool} (h1:(r.take k).any p=false) (h2:r.length≤k):(-1:Int)=eF p r:=by
 rw[mg h2] at h1
 have:r.findIdx? p=none:=by
  rw[apH]
  intro x hx
  simpa using apN.1 h1 x hx
 simp[eF,this]
theorem uB {α:Type} {p:α→Bool} {r:List α}:decide ((0:Int)≤eF p r)=r.any p:=by
 unfold eF
 cases h:r.findIdx? p with
 |none=>
  rw[apH] at h
  have:r.any p=false:=apN.2<|by intro x hx;simp[h x hx]
  simp[this]
 |some i=>
  rw[aom] at h
  obtain⟨hi,hp,_⟩:=h
  have:r.any p=true:=aoB.2 ⟨_,aqn hi,hp⟩
  simp[this]
theorem wC {α:Type} {p:α→Bool} {r:List α}: -1≤eF p r∧eF p r≤r.length:=by
 unfold eF
 cases h:r.findIdx? p with
 |none=>simp only[];omega
 |some i=>
  rw[aom] at h
  obtain⟨hi,_⟩:=h
  simp only[];omega
theorem bg {α:Type} [GT α] {M:bY} {w:aG} {a:Option Addr} {n c:Nat} {xs:List α} (h:RV M w (.slice a n c) xs):xs.length≤9223372036854775807:=by
 obtain⟨a',m,c',e,h2,h3,h4, -⟩:=RV.list.1 h
 injection e with e1 e2 e3
 unfold maxLen at h4
 omega
def bl {α:Type} [GT α] (M:bY) (e:TypeId) (w0:aG) (xs:List α) (v:Value) (w:aG):Prop:=
 Ext w0 w∧(∀b,v.ownBlock=some b→b<w.heap.size)∧(own w0.heap.size e v xs).holds (fun b=>M b∨v.ownBlock=some b) w
section
variable {M0:bY} {w0 w w':aG} {l:List Item} {α:Type} [GT α] {v:Value} {xs:List α} {e:TypeId}
theorem HI.eP (H:HI M0 w0 w l) (h:bl (MS M0 l) e w xs v w'):HI M0 w0 w' (own w0.heap.size e v xs::l):=by
 obtain⟨hx,hb,cs,h1,h2⟩:=h
 have zv:∀(B:Nat),B≤w.heap.size→w'.ownsRow B e (GT.size α) v xs.length cs:=by
  intro B hB
  refine⟨h1.1,?_⟩
  rcases h1.2 with h3|⟨g,cap,cur,rfl,h3,h4⟩
  ·exact .inl h3
  ·exact .inr ⟨g,cap,cur,J,Nat.le_trans hB h3,h4⟩
 have vi:∀b,v.ownBlock=some b→w.heap.size≤b:=fun b v8=>(h1.lt b v8).1
 cases hv:v.ownBlock with
 |none=>
  refine(H.ext hx).put hv ⟨cs,zv _ H.below.size,bz.lift (Up.less ?_) h2⟩
  intro b B2 hM
  exact .inl hM
 |some b=>
  refine H.new hx b hv (vi b hv) (hb b hv) ⟨cs,zv _ H.below.size,bz.lift (Up.less ?_) h2⟩
  rintro c hc (hM|⟨it,hit,adx⟩)
  ·exact .inl (.inl hM)
  ·rcases aoh.1 hit with rfl|hit
   ·exact .inr adx
   ·exact .inl (.inr ⟨it,hit,adx⟩)
theorem HI.dt (H:HI M0 w0 w l) (i:Nat) (hi:l[i]? =some (own w0.heap.size e v xs)):bl M0 e w0 xs v w:=by
 obtain⟨cs,h1,h2⟩:=H.at_ i hi
 refine⟨H.below,fun b hb=>(wA H hi b hb).2,cs,h1,bz.lift (Up.less ?_) h2⟩
 rintro b _ (hM|hb)
 ·exact .inl hM
 ·exact .inr ⟨_,dz hi,hb⟩
theorem fQ {M:bY} (h:Ext w0 w):bl M e w0 ([]:List α) (.slice none 0 0) w:=⟨h,fun b hb=>(by cases hb),[],World.ownsRow_nil w _ e _,rfl⟩
theorem bl.rv {M:bY} (h:bl M e w xs v w') (hM:∀b,M b→b<w.heap.size):RV M w' v xs:=by
 obtain⟨_,hb,ho⟩:=h
 refine Ac ho (fun b _ vm=>.inl vm)<|fun b v8 hMb=>?_
 obtain⟨cs,h1,_⟩:=ho
 have:=(h1.lt b v8).1
 have:=hM b hMb
 omega
end
section
variable {α:Type} {β:Type} {γ:Type} {δ:Type} {ε:Type} {ζ:Type} {V:Type} {a a':α} {b b':β} {c c':γ} {d d':δ} {e e':ε} {z z':ζ}
theorem iF (f:α→V) (h1:a=a'):f a=f a':=by rw[h1]
theorem nG (f:α→β→V) (h1:a=a') (h2:b=b'):f a b=f a' b':=by rw[h1,h2]
theorem qX (f:α→β→γ→V) (h1:a=a') (h2:b=b') (h3:c=c'):f a b c=f a' b' c':=by rw[h1,h2,h3]
theorem Ur (f:α→β→γ→δ→V) (h1:a=a') (h2:b=b') (h3:c=c') (h4:d=d'):f a b c d=f a' b' c' d':=by rw[h1,h2,h3,h4]
end
theorem l4 {α:Type} [GT α] {M0:bY} {l:List Item} {it:Item} {w:aG} {v:Value} {x:α} (hn:it.jI=none) (h:RV (MS M0 (it::l)) w v x):RV (MS M0 l) w v x:=by rwa [aH hn] at h
end Go.Ew
namespace Go.Ew
open Go.RowKit Go.WideShapes Go.ChangeShapes
abbrev NB:Nat→Prop:=fun _=>False
section
variable {P:Program} {t e:TypeId}
theorem Uw {W:aG} {a:Addr} {n:Nat} {cs:List Value} (h:W.cells? 0 a n=some cs):∀j v,cs[j]? =some v→W.cell? (a.add j)=some v:=by
 intro j v hv
 simp only[World.cells?,apn,apG] at h
 have hl:=mapM_some_length h
 have hj:j<cs.length:=(dJ.1 hv).1
 rw[apM] at hl
 have:=mapM_some_get h j j<|by rw[aoL aj]
 rw[this,hv]
theorem EU {α:Type} {Q:Nat→α→Prop}:∀n:Nat,(∀i,i<n→∃y,Q i y)→∃l:List α,l.length=n∧∀(i:Nat) (y:α),l[i]? =some y→Q i y
 |0,_=>⟨[],rfl,fun i y h=>by simp at h⟩
 |n+1,h=>by
  obtain⟨l,hl,hq⟩:=EU n fun i hi=>h i aj
  obtain⟨y,hy⟩:=h n aj
  refine⟨l++[y],by simp[hl],fun i z hz=>?_⟩
  by_cases hi:i<l.length
  ·rw[oB hi] at hz;exact hq i z hz
  ·rw[nH aj] at hz
   have JM:i-l.length=0:=by
    have:=(dJ.1 hz).1
    simp at this;omega
   rw[JM] at hz
   simp at hz
   subst hz
   rw[show i=n from by omega]
   exact hy
section
variable {H:Type} {enc:TypeId×Value→H} {W:aG} {base:Nat} {v:Value} {d:DataW H} {ps:List MemPlace}
theorem ZR {k:IntKind} (ht:P.underlying t=some (.int k)) (hv:Value.okWide P W .any base t v) (h:DataW.Trod enc P W 0 (fun _=>true) true t v d ps):∃n:Int,v=.int k n∧(Lit.int k n).wf=true:=by
 obtain⟨n,h⟩:=h
 obtain⟨m,rfl⟩:=okWide_int ht hv
 obtain⟨m',e, -,hw⟩:=DataW.trod_int ht h
 simp[Value.cells] at e
 subst e
 exact⟨m,J,hw⟩
theorem R0 (ht:P.underlying t=some (.int .u8)) (hv:Value.okWide P W .any base t v) (h:DataW.Trod enc P W 0 (fun _=>true) true t v d ps):∃x:BitVec 8,v=U8 x:=by
 obtain⟨n,rfl,hw⟩:=ZR ht hv h
 have hb:=bounds_u8 hw
 refine⟨BitVec.ofNat 8 n.toNat,?_⟩
 have:((BitVec.ofNat 8 n.toNat).toNat:Int)=n:=by rw[BitVec.toNat_ofNat];omega
 rw[U8,this]
theorem El {W':aG} {T:TypeId→Prop} (K:Kids P T) (hz:∀t e,T t→P.underlying t=some (.slice e)→0<P.cellsOf e) (e:Ext W W') {sp:Nat→Bool}:
  ∀{ts:List TypeId} {vs:List Value} {ds:List (DataW H)} {ps:List MemPlace},(∀t∈ts,T t)→DataW.TrodAll enc P W 0 (fun _=>true) true ts vs ds ps→(∀p∈ps,sp p.block=true)→DataW.TrodAll enc P W' 0 sp true ts vs ds ps
 |[],[],[],_,_,h,_=>h
 |t::_,v::_,_::_,_,hT,⟨p,q,⟨n,h1⟩,h2,hp⟩,hs=>by
  refine⟨p,q,⟨n,?_⟩,El K hz e (fun t ht=>hT t<|aoh.2<|Or.inr ht) h2 (fun x hx=>hs x<|by rw[hp];exact ape _ hx),hp⟩
  have hr:=DataW.trod_respare K hz n _ _ _ (hT _<|aoh.2<|Or.inl J) h1 (spare':=sp)<|fun x hx=>hs x<|by rw[hp];exact apm _ hx
  exact DataW.trod_carry n _ _ _ hr fun x hx=>Below.same e.toBelow (DataW.trod_lt n _ _ _ h1 x hx)
 |[],[],_::_,_,_,h,_=>h.elim
 |[],_::_,_,_,_,h,_=>h.elim
 |_::_,[],_,_,_,h,_=>h.elim
 |_::_,_::_,[],_,_,h,_=>h.elim
theorem S7 {f:Func} {s:ChangeSpec} {apart fresh handsOn again:Bool} {W W':aG} {args:Array Value} {ds gs:List (DataW H)} {before:List MemPlace} {tb:TypeId}
  (K:Kids P (·<P.types.size)) (hz:∀t e,t<P.types.size→P.underlying t=some (.slice e)→0<P.cellsOf e) (hts:∀t∈f.params.toList,t<P.types.size)
  (Yk:s.vars=[]) (hW:DataW.Whole enc P f.params.toList s.vars apart W args.toList ds gs before) (e:Ext W W') (hrt:f.resultTypes=#[tb]) (hu:P.underlying tb=some .bool)
  (h1:(s.fn H (ds++gs)).results=[.lit (.bool true)]) (h2:(s.fn H (ds++gs)).args=ds) (h3:(s.fn H (ds++gs)).vars=[]):
  s.post enc P f apart fresh handsOn again W args (.bool true) W':=by
 have ef:∀p∈before,p.block<W.heap.size:=fun p hp=>hW.lt p hp
 have hW2:=hW
 obtain⟨p,q,hA,hV,Hd,hfz,lS⟩:=hW2
 rw[Yk] at hV
 have hq:gs=[]∧q=[]:=by
  cases gs with
  |nil=>exact⟨rfl,hV⟩
  |cons _ _=>exact hV.elim
 obtain⟨rfl,rfl⟩:=hq
 rw[aps] at Hd
 subst Hd
 have hold:∀x∈before,(fun b=>decide (b<W.heap.size)) x.block=true:=fun x hx=>by simpa using ef x hx
 have adf:∀(b:Nat) (sp:Nat→Bool) (hd:Bool),DataW.TrodAll enc P W' b sp hd f.resultTypes.toList ((Value.bool true).resultList f.resultTypes.size) (s.fn H (ds++[])).results []:=by
  intro b sp hd
  rw[h1,hrt]
  exact trodAll_mk1<|shut_bool hu _
 have Q8:∀sp:Nat→Bool,(∀x∈before,sp x.block=true)→DataW.TrodAll enc P W' 0 sp true f.params.toList args.toList (s.fn H (ds++[])).args before:=by
  intro sp hsp
  rw[h2]
  exact El K hz e hts hA hsp
 have hvs:∀sp:Nat→Bool,DataW.TrodVars enc P W' sp s.vars (s.fn H (ds++[])).vars []:=by
  intro sp
  rw[h3,Yk]
  rfl
 refine⟨ds,[],before,[],before,[],hW,adf _ _ _,Q8 _ hold,hvs _,World.keptBut_mono (fun x hx=>⟨hx,.inr (.inl hx)⟩) (e.frame (·∈before)),fun _=>?_⟩
 refine⟨ok_one (by rw[hrt]) rfl (okWide_bool_mk hu _),(s.fn H<|ds++[]).results++(s.fn H<|ds++[]).args,(s.fn H<|ds++[]).vars,([]++before)++[],⟨[]++before,[],trodAll_append (Q8 _<|fun _ _=>rfl) (adf _ _ _),hvs _,J,?_,?_⟩,?_⟩
 ·intro b off hp
  have sJ:MemPlace.cell b off∈before:=by simpa using hp
  rw[Below.frozen e.toBelow (ef _ sJ)]
  exact hfz b off sJ
 ·intro ha
  simpa using lS ha
 ·intro x hx _
  simpa using hx
end
end
end Go.Ew
namespace Go.Ew
open Go.RowKit
def QD (Φ:List (Nat→Nat→Value→aG→Prop)) (i lo hi:Nat):Value→aG→Prop:=Φ.getD i (fun _ _ _ _=>True) lo hi
structure U9 (P:Program) (n:Nat) (l:dh) (k:Nat) (Φ:List (Nat→Nat→Value→aG→Prop)) (f0:aO) (w0:aG) (i:Nat) (o:Oper):Prop where
 go:∀f w,(∀t,(jn k l).contains t=false→f t=f0 t)→Ext w0 w→(∀j,kZ o j=true→Nat.blt j k=true→∃lo hi,w0.heap.size≤lo∧hi≤w.heap.size∧QD Φ j lo hi (f (jb l j)) w)→
  SO P n l.toArray o f w (fun f' w'=>∃v,f'=cW f o.dst v∧Ext w w'∧QD Φ i w.heap.size w'.heap.size v w')
 mono:∀lo hi v w w',Ext w w'→QD Φ i lo hi v w→QD Φ i lo hi v w'
def wS (P:Program) (n:Nat) (l:dh) (k:Nat) (Φ:List (Nat→Nat→Value→aG→Prop)) (f0:aO) (w0:aG):Nat→dh→Prop
 |_,[]=>True
 |i,o::r=>(Nat.blt i k=true→U9 P n l k Φ f0 w0 i o)∧wS P n l k Φ f0 w0 (i+1) r
section
variable {P:Program} {n:Nat} {l:dh} {k:Nat} {Φ:List (Nat→Nat→Value→aG→Prop)} {f0:aO} {w0:aG}
theorem wS.at_:∀(r:dh) (i:Nat),wS P n l k Φ f0 w0 i r→∀j o,r[j]? =some o→Nat.blt (i+j) k=true→U9 P n l k Φ f0 w0 (i+j) o
 |[],_,_,j,o,h,_=>by simp at h
 |x::r,i,h,0,o,hj,hk=>by
  simp only[aoe,aod] at hj
  subst hj
  exact h.1 hk
 |x::r,i,h,j+1,o,hj,hk=>by
  simp only[aon] at hj
  have:=wS.at_ r (i+1) h.2 j o hj<|by rw[show i+1+j=i+(j+1) from by omega];exact hk
  rwa [show i+1+j=i+(j+1) from by omega] at this
theorem wS.rest {i:Nat} (h:Nat.ble k i=true):∀r,wS P n l k Φ f0 w0 i r:=by
 intro r
 induction r generalizing i with
 |nil=>exact trivial
 |cons o r ih=>
  simp only[aqU] at h
  exact⟨fun hk=>by simp only[aqa] at hk;omega,ih (by simp only[aqU];omega)⟩
section
variable {M0:bY} {zT w w':aG} {l:List Item} {v:Value} {z:Value} {T:TypeId} {lo hi:Nat}
def RJ (b:Nat) (cs:Array Value) (t:TypeId) (lo hi:Nat) (w:aG):Prop:=lo≤b∧b<hi∧w.heap[b]? =some (.cells cs t (0,0))
theorem RJ.ext {b:Nat} {cs:Array Value} {t:TypeId} (h:RJ b cs t lo hi w) (e:Ext w w'):RJ b cs t lo hi w':=
 ⟨h.1,h.2.1,(e.block b (aor.1 h.2.2).1).trans h.2.2⟩
theorem HI.laid {b:Nat} {cs:Array Value} {t:TypeId} (H:HI M0 zT w l) (x:Ext w w') (hb:w.heap.size≤b) (h:w'.heap[b]? =some (.cells cs t (0,0))):HI M0 zT w' (box b cs t::l):=
 H.new x b rfl hb (aor.1 h).1 h
end
section
variable {x:Operand} {v:Value} {ops:Array Oper} {f:aO} {w:aG} {K:aO→aG→Prop} {d:Nat} {ty T:TypeId} {ps:String} {af:Array Edge} {bytes size:Nat} {agg:Bool} {z:Value}
end
end
end Go.Ew
namespace Go.Ew
open Go.RowKit
variable {i:Nat}
inductive Kd where
 |v
 |n
 |s (a j:Nat)
def acQ:Kd→Option Nat
 | .s a _=>some a
 |_=>none
def QQ (Ks:List Kd) (i:Nat):Kd:=Ks.getD i .v
def Is (Φ:List (Value→Prop)) (i:Nat):Value→Prop:=Φ.getD i (fun _=>True)
def zO (Z:List (Array Value×TypeId)) (i:Nat):Array Value×TypeId:=Z.getD i (#[],0)
def Zr (P:Program) (n:Nat) (l:dh) (Ks:List Kd) (Φ:List (Value→Prop)) (Z:List (Array Value×TypeId)) (f0:aO) (w0:aG) (i:Nat) (o:Oper):Prop:=
 match QQ Ks i with
 | .v=>o.dst.isSome=true∧∀f w,(∀t,(jn l.length l).contains t=false→f t=f0 t)→Ext w0 w→(∀j,kZ o j=true→(∃x,l[j]? =some x∧x.dst.isSome=true)→Is Φ j (f (jb l j)))→
   SO P n l.toArray o f w (fun f' w'=>∃v,f'=cW f o.dst v∧w'=w∧Is Φ i v)
 | .n=>o.dst.isSome=true∧∀f w,(∀t,(jn l.length l).contains t=false→f t=f0 t)→Ext w0 w→(∀j,kZ o j=true→(∃x,l[j]? =some x∧x.dst.isSome=true)→Is Φ j (f (jb l j)))→
   SO P n l.toArray o f w (fun f' w'=>f'=cW f o.dst (.pointer (some ⟨w.heap.size,0,none⟩))∧w'=w.alloc (.cells (zO Z i).1 (zO Z i).2)∧Is Φ i (.pointer (some ⟨w.heap.size,0,none⟩)))
 | .s a j=>o.dst=none∧kZ o a=true∧kZ o j=true∧(∃x,l[a]? =some x∧x.dst.isSome=true)∧(∃x,l[j]? =some x∧x.dst.isSome=true)∧(match QQ Ks a with| .n=>True|_=>False)∧(∀v,Is Φ j v→v.cells.size=(zO Z a).1.size)∧
   ∀f w b cur,Ext w0 w→f (jb l a)=.pointer (some ⟨b,0,none⟩)→w.heap[b]? =some (.cells cur (zO Z a).2 (0,0))→cur.size=(zO Z a).1.size→Is Φ j (f (jb l j))→
   SO P n l.toArray o f w (fun f' w'=>f'=f∧w'=w.setRow b (f (jb l j)).cells)
def HV (P:Program) (n:Nat) (l:dh) (Ks:List Kd) (Φ:List (Value→Prop)) (Z:List (Array Value×TypeId)) (f0:aO) (w0:aG):Nat→dh→Prop
 |_,[]=>True
 |i,o::r=>Zr P n l Ks Φ Z f0 w0 i o∧HV P n l Ks Φ Z f0 w0 (i+1) r
section
variable {P:Program} {n:Nat} {l:dh} {Ks:List Kd} {Φ:List (Value→Prop)} {Z:List (Array Value×TypeId)} {f0:aO} {w0:aG}
theorem HV.at_:∀(r:dh) (i:Nat),HV P n l Ks Φ Z f0 w0 i r→∀j o,r[j]? =some o→Zr P n l Ks Φ Z f0 w0 (i+j) o
 |[],_,_,j,o,h=>by simp at h
 |x::r,i,h,0,o,hj=>by
  simp only[aoe,aod] at hj
  subst hj
  exact h.1
 |x::r,i,h,j+1,o,hj=>by
  simp only[aon] at hj
  have:=HV.at_ r (i+1) h.2 j o hj
  rwa [show i+1+j=i+(j+1) from by omega] at this
def afv (l:dh) (Ks:List Kd) (Z:List (Array Value×TypeId)) (L:Nat→Bool) (f:aO) (i:Nat) (cur:Array Value):Prop:=
 cur.size=(zO Z i).1.size∧(∀s j,Ks[s]? =some (.s i j)→L s=true→cur=(f (jb l j)).cells)∧((∀s j,Ks[s]? =some (.s i j)→L s=false)→cur=(zO Z i).1)
theorem aeJ (hN:nodupB (jn l.length l)=true) {j:Nat} {oi oj:Oper} (hi:l[i]? =some oi) (hj:l[j]? =some oj) {di dj:Nat} (vk:oi.dst=some di) (EH:oj.dst=some dj) (gB:i≠j):dj≠di:=by
 rintro rfl
 have lS:=oN _ hN
 unfold jn at lS
 rw[ao1] at lS
 exact gB<|im (·.dst) l lS i j oi oj hi hj (by simp[vk])<|by simp[vk,EH]
theorem Pz {o:Oper} (hi:l[i]? =some o) {d:Nat} (hd:o.dst=some d):jb l i=d:=by unfold jb;rw[hi];simp[hd]
end
theorem afv.zero {l:dh} {Ks:List Kd} {Z:List (Array Value×TypeId)} {f:aO} {cur:Array Value} (h:afv l Ks Z (fun _=>true) f i cur) (hn:(Ks.filterMap acQ).contains i=false):cur=(zO Z i).1:=by
 refine h.2.2 fun s j hs=>?_
 exfalso
 have:i∈Ks.filterMap acQ:=aou.2 ⟨_,dz hs,J⟩
 rw[←aoF,hn] at this
 cases this
section
variable {P:Program} {n:Nat} {ops:Array Oper} {f:aO} {w ws:aG} {K:aO→aG→Prop} {x y:Operand} {d:Nat} {ty T e:TypeId} {ps:String} {af:Array Edge} {v:Value} {M:bY} {kk:IntKind} {bytes:Nat} {z:Value} {ad:Addr} {size:Nat} {agg:Bool}
theorem gP.ext' {α:Type} [GT α] {M:bY} {w w':aG} {ad:Addr} {x:α} (h:gP M w ad x) (e:Ext w w'):gP M w' ad x:=gP.ext h e
end
end Go.Ew
namespace Go.Ew
open Go.RowKit
def CH (Φ:List ((bY)→Value→aG→Prop)) (i:Nat):(bY)→Value→aG→Prop:=Φ.getD i (fun _ _ _=>True)
def afq (N N':bY) (w w':aG):Prop:=w.heap.size≤w'.heap.size∧(∀c,c<w.heap.size→¬N c→w'.heap[c]? =w.heap[c]?)∧∀c,c<w.heap.size→N' c→N c
def Zs (P:Program) (n:Nat) (l:dh) (Ks:List Kd) (Φ:List ((bY)→Value→aG→Prop)) (Z:List (Array Value×TypeId)) (f0:aO) (w0:aG) (i:Nat) (o:Oper):Prop:=
 (∀N N' v w w',afq N N' w w'→CH Φ i N v w→CH Φ i N' v w')∧
 match QQ Ks i with
 | .v=>o.dst.isSome=true∧∀f w N,(∀t,(jn l.length l).contains t=false→f t=f0 t)→Ext w0 w→(∀c,N c→w0.heap.size≤c∧c<w.heap.size)→(∀j,kZ o j=true→(∃x,l[j]? =some x∧x.dst.isSome=true)→CH Φ j N (f (jb l j)) w)→
   SO P n l.toArray o f w (fun f' w'=>∃v,f'=cW f o.dst v∧Ext w w'∧CH Φ i N v w')
 | .n=>o.dst.isSome=true∧(∀N v w,CH Φ i N v w)∧∀f w N,(∀t,(jn l.length l).contains t=false→f t=f0 t)→Ext w0 w→(∀c,N c→w0.heap.size≤c∧c<w.heap.size)→(∀j,kZ o j=true→(∃x,l[j]? =some x∧x.dst.isSome=true)→CH Φ j N (f (jb l j)) w)→
   SO P n l.toArray o f w (fun f' w'=>f'=cW f o.dst (.pointer (some ⟨w.heap.size,0,none⟩))∧w'=w.alloc (.cells (zO Z i).1 (zO Z i).2))
 | .s a j=>o.dst=none∧kZ o a=true∧kZ o j=true∧(∃x,l[a]? =some x∧x.dst.isSome=true)∧(∃x,l[j]? =some x∧x.dst.isSome=true)∧a≠j∧(match QQ Ks a with| .n=>True|_=>False)∧(∀N v w,CH Φ j N v w→v.cells.size=(zO Z a).1.size)∧
   ∀f w N b cur,Ext w0 w→f (jb l a)=.pointer (some ⟨b,0,none⟩)→w.heap[b]? =some (.cells cur (zO Z a).2 (0,0))→cur.size=(zO Z a).1.size→CH Φ j N (f (jb l j)) w→
   SO P n l.toArray o f w (fun f' w'=>f'=f∧w'=w.setRow b (f (jb l j)).cells)
def HW (P:Program) (n:Nat) (l:dh) (Ks:List Kd) (Φ:List ((bY)→Value→aG→Prop)) (Z:List (Array Value×TypeId)) (f0:aO) (w0:aG):Nat→dh→Prop
 |_,[]=>True
 |i,o::r=>Zs P n l Ks Φ Z f0 w0 i o∧HW P n l Ks Φ Z f0 w0 (i+1) r
section
variable {P:Program} {n:Nat} {l:dh} {Ks:List Kd} {Φ:List ((bY)→Value→aG→Prop)} {Z:List (Array Value×TypeId)} {f0:aO} {w0:aG}
theorem HW.at_:∀(r:dh) (i:Nat),HW P n l Ks Φ Z f0 w0 i r→∀j o,r[j]? =some o→Zs P n l Ks Φ Z f0 w0 (i+j) o
 |[],_,_,j,o,h=>by simp at h
 |x::r,i,h,0,o,hj=>by
  simp only[aoe,aod] at hj
  subst hj
  exact h.1
 |x::r,i,h,j+1,o,hj=>by
  simp only[aon] at hj
  have:=HW.at_ r (i+1) h.2 j o hj
  rwa [show i+1+j=i+(j+1) from by omega] at this
end
section
variable {α:Type} [GT α] {M N N':bY} {w0 w w':aG} {v:Value} {x:α}
end
end Go.Ew
namespace Go.Ew
open Go.RowKit
def FP2 {α β:Type} [GT α] [GT β] (P:Program) (g:FuncId) (C:List Value) (M:bY) (w:aG) (xs:List α) (ys:List β) (q:α→β→Bool):Prop:=
 cx P g∧∀w1 v x u y,x∈xs→y∈ys→Ext w w1→RV M w1 v x→RV M w1 u y→Calls P g ([v,u]++C).toArray w1 (cm fun r w2=>r=.bool (q x y)∧Ext w1 w2)
theorem FP2.sub {α β:Type} [GT α] [GT β] {P:Program} {g:FuncId} {C:List Value} {M M':bY} {w w':aG} {xs:List α} {ys:List β} {q:α→β→Bool} (h:FP2 P g C M w xs ys q) (e:Ext w w') (hM:∀b,M b→M' b):FP2 P g C M' w' xs ys q:=
 ⟨h.1,fun w1 v x u y hx hy e' hv hu=>h.2 w1 v x u y hx hy (e.trans e') (hv.lift (Up.less fun b _ hb=>hM b hb)) (hu.lift (Up.less fun b _ hb=>hM b hb))⟩
end Go.Ew
namespace Go.Ew
open Go.RowKit
structure SV where
 a:Option Addr
 n:Nat
 c:Nat
def SV.v (s:SV):Value:=.slice s.a s.n s.c
instance gSV:GT SV where
 size:=1
 agg:=false
 rep _ _ cs s:=cs=[s.v]
 len h:=by rw[h];rfl
 one h:=by rw[h];simp[Value.oneCell',SV.v]
 single _:=rfl
 pos:=by decide
 lift h _:=h
theorem RV.sv {M:bY} {w:aG} {v:Value} {s:SV}:RV M w v s↔v=s.v:=by
 constructor
 ·rintro⟨cs,rfl,rfl⟩;rfl
 ·rintro rfl;exact⟨_,rfl,rfl⟩
section
variable {α:Type} [GT α] {B:Nat} {e E:TypeId} {ss:List SV} {xs:List (List α)} {l l':List Item} {M0:bY} {w0 w w':aG} {s:SV} {x y:List α} {i:Nat}
def bG (B:Nat) (e:TypeId) (ss:List SV) (xs:List (List α)):List Item:=List.zipWith (fun s x=>own B e s.v x) ss xs
def z7 (ss:List SV) (xs:List (List α)):List Item:=List.zipWith (fun s x=>tq s.v x) ss xs
theorem pG (hs:ss[i]? =some s) (hx:xs[i]? =some x):(l++bG B e ss xs)[l.length+i]? =some (own B e s.v x):=by
 rw[nH aj,show l.length+i-l.length=i from by omega]
 unfold bG
 rw[apY,hs,hx]
theorem Z4 (hs:ss[i]? =some s):(l++bG B e ss xs).set (l.length+i) (own B e s.v y)=l++bG B e ss (xs.set i y):=by
 rw[apd _ _ aj,show l.length+i-l.length=i from by omega]
 congr 1
 unfold bG
 apply aoz
 intro j
 rw[apa,apY,apY,apa,List.length_zipWith]
 by_cases e:i=j
 ·subst e
  have hl:=(dJ.1 hs).1
  by_cases hx:i<xs.length
  ·rw[an4 rfl,an4 rfl,an4 aj,an4 hx,hs]
  ·rw[an4 rfl,an4 rfl,an8 aj,an8 hx,hs]
 ·rw[an8 e,an8 e]
theorem Sh (h:ss.length=xs.length):bG B e (ss++[s]) (xs++[x])=bG B e ss xs++[own B e s.v x]:=by
 unfold bG
 rw[List.zipWith_append h];rfl
theorem HI.perm (H:HI M0 w0 w l) (hp:l'.Perm l):HI M0 w0 w l':=
 H.pick l' (fun it hit=>hp.mem_iff.1 hit) ((hp.filterMap _).nodup_iff.2 H.nodup)
theorem HI.ab7 (H:HI M0 w0 w (own B e s.v x::(l++bG B e ss xs))) (h:ss.length=xs.length):HI M0 w0 w (l++bG B e (ss++[s]) (xs++[x])):=by
 rw[Sh h,←aoA]
 exact H.perm<|List.perm_append_singleton _ _
theorem MU {A B:Type} {f g:A→Option B}:∀{l:List A},(∀a∈l,f a=g a)→l.filterMap f=l.filterMap g
 |[],_=>rfl
 |a::l,h=>by rw[aoQ,aoQ,h a aoO,MU fun b hb=>h b (aow _ hb)]
theorem MT {A:Type}:∀t:List A,(List.range t.length).filterMap (fun i=>t[i]?)=t
 |[]=>rfl
 |a::t=>by
  rw[iS,List.range_succ_eq_map,aoQ,aq7]
  have:((fun i=>(a::t)[i]?)∘Nat.succ)=fun i=>t[i]?:=by funext i;rfl
  rw[this,MT t];rfl
theorem HI.aP {t:List Item} (H:HI M0 w0 w (l++t)) (is:List Nat) (hn:is.Nodup) (hb:is.all (fun i=>Nat.blt i l.length)=true) (he:is.filterMap (fun i=>l[i]?)=l'):HI M0 w0 w (l'++t):=by
 refine H.bV (is++(List.range t.length).map (l.length+·)) ?_ ?_
 ·rw[apL]
  refine⟨hn,?_,?_⟩
  ·rw[List.nodup_iff_pairwise_ne,List.pairwise_map]
   exact List.Pairwise.imp (fun h=>by omega) aqm
  ·intro a ha b vm JP
   subst JP
   obtain⟨j, -,rfl⟩:=aoE.1 vm
   have:=an9.1 hb _ ha
   have:l.length+j<l.length:=by simpa using this
   omega
 ·rw[aqi,←he]
  congr 1
  ·refine MU fun i hi=>?_
   have:=an9.1 hb _ hi
   rw[oB (by simpa using this)]
  ·rw[aq7]
   have:((fun i=>(l++t)[i]?)∘(l.length+·))=fun i=>t[i]?:=by
    funext i
    simp only[Function.comp]
    rw[nH aj,show l.length+i-l.length=i from by omega]
   rw[this]
   exact MT t
theorem HI.Hp:∀(ss:List SV) (xs:List (List α)) (l:List Item),HI M0 w0 w (l++bG B e ss xs)→HI M0 w0 w (l++z7 ss xs)
 |[],xs,l,H=>H
 |s::ss,[],l,H=>H
 |s::ss,x::xs,l,H=>by
  have h1:(l++bG B e (s::ss) (x::xs))[l.length]? =some (own B e s.v x):=by rw[nH (an3 _),aoZ];rfl
  have H1:=H.freeze l.length h1
  have h2:(l++bG B e (s::ss) (x::xs)).set l.length (tq s.v x)=(l++[tq s.v x])++bG B e ss xs:=by
   rw[apd _ _ (an3 _),aoZ,aoA];rfl
  rw[h2] at H1
  have H2:=HI.Hp ss xs _ H1
  rwa [aoA] at H2
theorem ET {M:bY}:∀{ss:List SV} {xs:List (List α)} {cs:List Value},ss.length=xs.length→(∀(i:Nat) (s:SV) (x:List α),ss[i]? =some s→xs[i]? =some x→RV M w s.v x)→bz M w cs ss→bz M w cs xs
 |[],[],cs,_,_,h=>h
 |s::ss,x::xs,cs,hl,hr,⟨c1,c2,h1,h2,h3⟩=>by
  refine⟨c1,c2,h1,⟨s.v,h2,RV.list.1 (hr 0 s x J J)⟩,ET (by simpa using hl) (fun i s' x' hs hx=>hr (i+1) s' x' hs hx) h3⟩
 |[],_::_,_,h,_,_=>by cases h
 |_::_,[],_,h,_,_=>by cases h
theorem HI.deep {v:Value} (H:HI M0 w0 w (own B E v ss::(l++bG B e ss xs))) (hl:ss.length=xs.length):HI M0 w0 w (own B E v xs::l):=by
 have H1:HI M0 w0 w (own B E v ss::(l++z7 ss xs)):=HI.Hp ss xs (own B E v ss::l) H
 obtain⟨cs,h1,h2⟩:=H1.at_ 0 rfl
 have key:∀(i:Nat) (s:SV) (x:List α),ss[i]? =some s→xs[i]? =some x→RV (MS M0 (own B E v ss::(l++z7 ss xs))) w s.v x:=by
  intro i s x hs hx
  refine H1.all (tq s.v x) (aow _<|ape _ ?_)
  unfold z7
  exact dz (i:=i)<|by rw[apY,hs,hx]
 have H2:=H1.uk (nA:=own B E v xs) 0 rfl rfl rfl rfl (an3 _) (an3 _) (fun _ _ _=>rfl) (fun b hb=>⟨(H1.jl _ (aoO) b hb).2,.inl hb⟩) (by
  refine⟨cs,?_,bz.lift (M:=MS M0 (own B E v ss::(l++z7 ss xs))) (Up.less ?_) (ET hl key h2)⟩
  ·rw[←hl];exact h1
  ·rintro b _ (hb|⟨it,hit,hb⟩)
   ·exact .inl hb
   ·rcases aoh.1 hit with rfl|hit
    ·exact .inr ⟨_,aoO,hb⟩
    ·exact .inr ⟨it,aow _ hit,hb⟩)
 refine H2.pick _ (fun it hit=>?_) ?_
 ·rcases aoh.1 hit with rfl|hit
  ·exact aoO
  ·exact aow _<|apm _ hit
 ·refine aqD ?_ H2.nodup
  refine List.Sublist.filterMap _ ?_
  exact(List.sublist_append_left l _).cons_cons _
theorem HI.join (H:HI M0 w0 w l) (H':HI (MS M0 l) w w' l'):HI M0 w0 w' (l'++l):=by
 have hM:∀b,MS (MS M0 l) l' b↔MS M0 (l'++l) b:=by
  intro b
  constructor
  ·rintro((h|⟨it,hit,hb⟩)|⟨it,hit,hb⟩)
   ·exact .inl h
   ·exact .inr ⟨it,ape _ hit,hb⟩
   ·exact .inr ⟨it,apm _ hit,hb⟩
  ·rintro(h|⟨it,hit,hb⟩)
   ·exact .inl (.inl h)
   ·rcases aot.1 hit with hit|hit
    ·exact .inr ⟨it,hit,hb⟩
    ·exact .inl (.inr ⟨it,hit,hb⟩)
 refine⟨H.below.trans H'.below,H.m0,?_,?_,?_⟩
 ·intro it hit b hb
  rcases aot.1 hit with hit|hit
  ·exact⟨Nat.le_trans H.below.size (H'.jl it hit b hb).1,(H'.jl it hit b hb).2⟩
  ·exact⟨(H.jl it hit b hb).1,aox (H.jl it hit b hb).2 H'.below.size⟩
 ·rw[aqi,apL]
  refine⟨H'.nodup,H.nodup,fun b hb c hc hbc=>?_⟩
  subst hbc
  obtain⟨i,hi,BZ⟩:=aou.1 hb
  obtain⟨j,hj,wa⟩:=aou.1 hc
  have h1:=(H'.jl i hi b BZ).1
  have h2:=(H.jl j hj b wa).2
  omega
 ·intro it hit
  rcases aot.1 hit with hit|hit
  ·exact it.lift (H'.all it hit) (Up.less fun b _ hb=>(hM b).2 hb) fun _ _=>rfl
  ·refine it.lift (H.all it hit) ⟨H'.below.size,fun c hc hMc=>⟨H'.below.block c hc,fun hb=>?_⟩⟩ fun b hb=>H'.below.block b (H.jl it hit b hb).2
   rcases (hM c).2 hb with hb|⟨i,hi,BZ⟩
   ·exact hMc hb
   ·have:=(H'.jl i hi c BZ).1;omega
theorem HI.weaken (H:HI M0 w0 w l) (hl:l'.map (·.jI)=l.map (·.jI)) (hh:∀(i:Nat) it nA,l[i]? =some it→l'[i]? =some nA→∀M,it.holds M w→nA.holds M w):HI M0 w0 w l':=by
 have hlen:l'.length=l.length:=by simpa using an0 List.length hl
 have uC:∀(i:Nat) nA,l'[i]? =some nA→∃it,l[i]? =some it∧it.jI=nA.jI:=by
  intro i nA hi
  have h1:=an0 (fun z=>z[i]?) hl
  simp only[aoa,hi,aoV] at h1
  cases la:l[i]? with
  |none=>rw[la] at h1;cases h1
  |some it=>rw[la] at h1;exact⟨it,rfl,(an5 h1).symm⟩
 have hMS:∀b,MS M0 l' b→MS M0 l b:=by
  rintro b (h|⟨nA,hit,hb⟩)
  ·exact .inl h
  ·obtain⟨i,hi⟩:=aok.1 hit
   obtain⟨it,h1,h2⟩:=uC i nA hi
   exact .inr ⟨it,dz h1,h2.trans hb⟩
 refine⟨H.below,H.m0,?_,?_,?_⟩
 ·intro nA hit b hb
  obtain⟨i,hi⟩:=aok.1 hit
  obtain⟨it,h1,h2⟩:=uC i nA hi
  exact H.jl it (dz h1) b<|h2.trans hb
 ·have:∀m:List Item,m.filterMap (·.jI)=(m.map (·.jI)).filterMap id:=by intro m;rw[aq7];rfl
  rw[this,hl,←this];exact H.nodup
 ·intro nA hit
  obtain⟨i,hi⟩:=aok.1 hit
  obtain⟨it,h1,h2⟩:=uC i nA hi
  have:=hh i it nA h1 hi _<|H.all it (dz h1)
  exact nA.lift this (Up.less fun b _ hb=>hMS b hb) fun _ _=>rfl
theorem OR {β:Type} [GT β] {B B':Nat} {v:Value} {ys:List β} {M:bY} (hB:B'≤B) (h:(own B e v ys).holds M w):(own B' e v ys).holds M w:=by
 obtain⟨cs,h1,h2⟩:=h
 refine⟨cs,⟨h1.1,?_⟩,h2⟩
 rcases h1.2 with h3|⟨g,cap,cur,rfl,h3,h4⟩
 ·exact .inl h3
 ·exact .inr ⟨g,cap,cur,J,Nat.le_trans hB h3,h4⟩
def KW (M:bY) (E e:TypeId) (w0:aG) (ss:List SV) (xs:List (List α)) (v:Value) (w:aG):Prop:=ss.length=xs.length∧HI M w0 w (own w0.heap.size E v ss::bG w0.heap.size e ss xs)
theorem HI.GJ {v:Value} (H:HI M0 w0 w l) (h:KW (MS M0 l) E e w ss xs v w'):HI M0 w0 w' (own w0.heap.size E v ss::(l++bG w0.heap.size e ss xs)):=by
 have H1:=H.join h.2
 have H2:HI M0 w0 w' ((own w0.heap.size E v ss::bG w0.heap.size e ss xs)++l):=by
  refine H1.weaken ?_ ?_
  ·simp only[api,aoq]
   congr 2
   unfold bG
   rw[List.map_zipWith,List.map_zipWith];rfl
  ·intro i it nA hi oQ M hh
   have hB:w0.heap.size≤w.heap.size:=H.below.size
   cases i with
   |zero=>
    simp only[aqp,aoe,aod] at hi oQ
    subst hi;subst oQ;exact OR hB hh
   |succ i=>
    simp only[aqp,aon] at hi oQ
    have hlen:∀B,(bG B e ss xs).length=min ss.length xs.length:=by intro B;unfold bG;simp
    by_cases jL:i<min ss.length xs.length
    ·rw[oB (by rw[hlen];exact jL)] at hi oQ
     unfold bG at hi oQ
     rw[apY,dW aj,dW aj] at hi oQ
     simp only[aod] at hi oQ
     subst hi;subst oQ;exact OR hB hh
    ·rw[nH (by rw[hlen];omega),hlen] at hi oQ
     rw[hi] at oQ
     cases oQ;exact hh
 refine H2.perm ?_
 exact List.Perm.cons _ List.perm_append_comm
theorem ur (H:HI M0 w0 w (l++bG B e ss xs)) (hl:ss.length=xs.length) {i:Nat} (hi:i<ss.length):∃(a:Option Addr) (x:List α) (c:Nat),ss[i]? =some (⟨a,x.length,c⟩:SV)∧xs[i]? =some x:=by
 have hs:ss[i]? =some ss[i]:=dW hi
 have hx:xs[i]? =some (xs[i]'aj):=dW aj
 obtain⟨cs,h1,h2⟩:=H.at_ _ (pG (l:=l) (B:=B) (e:=e) hs hx)
 have hn:ss[i].n=(xs[i]'aj).length:=by
  rcases h1.2 with ⟨h3,h4⟩|⟨g,cap,cur,h3, -⟩
  ·rw[h4];unfold SV.v at h3;injection h3
  ·unfold SV.v at h3;injection h3
 refine⟨ss[i].a,xs[i]'aj,ss[i].c,?_,hx⟩
 rw[hs,←hn]
theorem HI.z6 {M:bY} {it:Item} (H:HI M0 w0 w ((l++bG B e ss xs).set (l.length+i) (own B e s.v y))) (hs:ss[i]? =some s):HI M0 w0 w (l++bG B e ss (xs.set i y)):=by
 rw[Z4 hs] at H;exact H
theorem ab5 (H:HI M0 w0 w (l++bG B e ss xs)) (hs:ss[i]? =some s) (hx:xs[i]? =some x):RV (fun _=>False) w s.v x:=
 Ac (H.at_ _ (pG (l:=l) (B:=B) (e:=e) hs hx)) (fun _ _ h=>h.elim) (fun _ _ h=>h.elim)
end
section
variable {P:Program} {n:Nat} {ops:Array Oper} {f:aO} {w:aG} {K:aO→aG→Prop} {M:bY} {ad:Addr} {T:TypeId} {bytes:Nat} {z:Value} {x:Operand} {d:Nat} {ty:TypeId} {ps:String} {af:Array Edge}
theorem Jx {s:SV} (hA:gP M w ad s) (F:ep P T 1 false bytes z) (ox:bD n x=true) (hx:ev f x=.pointer (some ad)) (h:K (cg f d s.v) w):
  SO P n ops ⟨some d,.load T x,ty,ps,af,none⟩ f w K:=nz hA F ox hx fun v hv=>by rw[RV.sv.1 hv];exact h
end
end Go.Ew
namespace Go.Ew
open Go.RowKit
def nJ {α:Type} [GT α] (B:Nat) (e:TypeId) (v:Value) (xs:List α):Item:=
 ⟨v.ownBlock,fun M w=>∃cs,bz M w cs xs∧((v=.slice none 0 0∧xs=[])∨∃g o c cur,v=.slice (some ⟨g,o,none⟩) xs.length c∧B≤g∧w.heap[g]? =some (.cells cur e (0,0))∧xs.length≤c∧c≤maxLen∧o+c*GT.size α≤cur.size∧(cur.toList.drop o).take (xs.length*GT.size α)=cs),fun {M M' w w'} h u hb=>by
  obtain⟨cs,h2,h1⟩:=h
  refine⟨cs,bz.lift u h2,?_⟩
  rcases h1 with h3|⟨g,o,c,cur,rfl,h4,h5,h6⟩
  ·exact .inl h3
  ·exact .inr ⟨g,o,c,cur,rfl,h4,(hb g rfl).trans h5,h6⟩⟩
theorem OS {α:Type} [GT α] {B:Nat} {e:TypeId} {v:Value} {xs:List α} {M:bY} {w:aG} (h:(own B e v xs).holds M w):(nJ B e v xs).holds M w:=by
 obtain⟨cs,h1,h2⟩:=h
 refine⟨cs,h2,?_⟩
 rcases h1.2 with ⟨rfl,h3⟩|⟨g,cap,cur,rfl,h3,h4,h5,h6,h7,h8⟩
 ·exact .inl ⟨J,apu h3⟩
 ·exact .inr ⟨g,0,cap,cur,J,h3,h4,h5,h6,by omega,by rw[aqG];exact h8⟩
section
variable {P:Program} {n:Nat} {ops:Array Oper} {f:aO} {w:aG} {K:aO→aG→Prop} {x y:Operand} {d:Nat} {ty T e:TypeId} {ps:String} {af:Array Edge} {v u:Value} {M M0:bY} {w0:aG} {l:List Item} {bytes:Nat} {z:Value} {B:Nat} {kk:IntKind} {agg:Bool} {α:Type} [GT α] {xs ys:List α}
theorem HI.toQ (H:HI M0 w0 w l) (i:Nat) (hi:l[i]? =some (own B e v xs)):HI M0 w0 w (l.set i (nJ B e v xs)):=by
 have jL:=(dJ.1 hi).1
 refine H.weaken ?_ ?_
 ·apply aoz
  intro j
  rw[aoa,aoa]
  by_cases h:i=j
  ·subst h;rw[aol jL,hi];rfl
  ·rw[aoD h]
 ·intro j it nA hj rq M hh
  by_cases h:i=j
  ·subst h
   rw[aol jL] at rq
   rw[hi] at hj
   cases hj;cases rq
   exact OS hh
  ·rw[aoD h,hj] at rq;cases rq;exact hh
theorem iaQ {i:Int} (hO:(nJ B e v xs).holds M w) (ox:bD n x=true) (oy:bD n y=true) (hx:ev f x=v) (hy:ev f y=.int kk i) (hi:0≤i∧i<xs.length) (hu:P.underlying T=some (.slice e)) (F:ep P e (GT.size α) agg bytes z)
  (h:∀ad xv,xs[i.toNat]? =some xv→gP M w ad xv→K (cg f d (.pointer (some ad))) w):SO P n ops ⟨some d,.indexAddr T x y,ty,ps,af,none⟩ f w K:=by
 obtain⟨cs,h2,h1⟩:=hO
 rcases h1 with ⟨_,h3⟩|⟨g,o,c,cur,rfl,h3,h4,h5,h6,h7,h8⟩
 ·rw[h3] at hi;simp at hi;omega
 ·have ef:i.toNat<xs.length:=by omega
  have kn:∀j,(⟨g,o,none⟩:Addr).add j=⟨g,o+j,none⟩:=fun j=>by unfold Addr.add;split<;>simp_all
  refine SO.value (v:=.pointer (some ⟨g,o+i.toNat*GT.size α,none⟩)) ?_<|h _ xs[i.toNat] (dW ef) ?_
  ·have hb:0≤i∧i<(xs.length:Int):=by omega
   simp[execOp,aJ ox,aJ oy,hx,hy,Instr.indexAt,asIntOf,gp hu,hb,F.iK,kn]
  ·obtain⟨c',yS,Ay⟩:=bz.at_ h2 i.toNat xs[i.toNat] (dW ef)
   refine⟨c',yS,fun j u hu=>?_⟩
   have rZ:=Ay j u hu
   have af_:(⟨g,o+i.toNat*GT.size α,none⟩:Addr).add j=⟨g,o+i.toNat*GT.size α+j,none⟩:=by unfold Addr.add;split<;>simp_all
   rw[af_,cell_of_row w g _ cur e (0,0) h4]
   rw[←h8] at rZ
   obtain⟨h9,h10⟩:=dJ.1 rZ
   rw[apf (by rw[ic] at h9;omega),aoG,←aqN] at rZ
   rw[←rZ,aph]
theorem slQ {lo:Int} {rl:Operand} (H:HI M0 w0 w l) (i:Nat) (hi:l[i]? =some (nJ B e v xs)) (ox:bD n x=true) (ol:bD n rl=true) (hx:ev f x=v) (hl:ev f rl=.int kk lo) (hb:0≤lo∧lo≤xs.length) (hu:P.underlying T=some (.slice e)) (F:ep P e (GT.size α) agg bytes z)
  (h:∀a c,HI M0 w0 w (l.set i (nJ B e (.slice a (xs.drop lo.toNat).length c) (xs.drop lo.toNat)))→K (cg f d (.slice a (xs.drop lo.toNat).length c)) w):
  SO P n ops ⟨some d,.slice T x (some rl) none none,ty,ps,af,none⟩ f w K:=by
 have hO:=H.at_ i hi
 have jL:=(dJ.1 hi).1
 obtain⟨cs,h2,h1⟩:=hO
 have hlen:(xs.drop lo.toNat).length=xs.length-lo.toNat:=by simp
 obtain⟨ao,cc,rfl,hcc⟩:∃ao cc,v=.slice ao xs.length cc∧xs.length≤cc:=by
  rcases h1 with ⟨rfl,h3⟩|⟨g,o,c,cur,rfl,h3,h4,h5,h6⟩
  ·exact⟨none,0,by rw[h3];rfl,by rw[h3];exact an3 _⟩
  ·exact⟨_,_,J,h5⟩
 refine SO.value (v:=.slice (if cc=lo.toNat then ao else ao.map (·.add (lo.toNat*GT.size α))) (xs.length-lo.toNat) (cc-lo.toNat)) (w':=w) ?_ ?_
 ·have vj:P.underlying T=some (.slice (P.elem T)):=by rw[hu];simp[Program.elem,hu]
  have uE:P.elem T=e:=by simp[Program.elem,hu]
  simp[execOp,aJ ox,aJ ol,hx,hl,Instr.sliceAt,gp hu]
  have:=run_slice_l (P:=P) (w:=w) T ao xs.length cc vj kk lo hb.1 aj
  rw[uE,F.iK] at this
  simp[this,sliced]
 ·rw[hlen] at h
  refine h _ _ ?_
  have hblk:∀(aa:Option Addr) (c1 c2 c3 c4:Nat) (f2:Addr→Addr),(∀q,(f2 q).block=q.block)→Value.ownBlock (.slice (aa.map f2) c1 c2)=Value.ownBlock (.slice aa c3 c4):=by
   intro aa c1 c2 c3 c4 f2 hf
   cases aa with
   |none=>rfl
   |some q=>show some _=some _;rw[hf]
  refine H.weaken ?_ ?_
  ·apply aoz
   intro j
   rw[aoa,aoa]
   by_cases hj:i=j
   ·subst hj
    rw[aol jL,hi]
    show some (Value.ownBlock _)=some (Value.ownBlock _)
    split
    ·cases ao<;>rfl
    ·rw[hblk ao _ _ xs.length cc _ (fun q=>vC q _)]
   ·rw[aoD hj]
  ·intro j it nA hj rq M' hh
   by_cases nD:i=j
   ·subst nD
    rw[aol jL] at rq
    rw[hi] at hj
    cases hj;cases rq
    obtain⟨ds,k2,k1⟩:=hh
    rcases k1 with ⟨k3,k4⟩|⟨g,o,c,cur,k3,k4,k5,k6,k7,k8,k9⟩
    ·have e1:lo.toNat=0:=by rw[k4] at hb;simp at hb;omega
     subst k4
     injection k3 with k3a k3b k3c
     subst k3a;subst k3c
     refine⟨[],by simp;rfl,.inl ⟨?_,by simp⟩⟩
     rw[e1];rfl
    ·injection k3 with k3a k3b k3c
     subst k3a;subst k3c
     have kn:∀j,(⟨g,o,none⟩:Addr).add j=⟨g,o+j,none⟩:=fun j=>by unfold Addr.add;split<;>simp_all
     refine⟨ds.drop (lo.toNat*GT.size α),?_,.inr ?_⟩
     ·have:∀(k:Nat) (xs:List α) (cs:List Value),k≤xs.length→bz M' w cs xs→bz M' w (cs.drop (k*GT.size α)) (xs.drop k):=by
       intro k
       induction k with
       |zero=>intro xs cs _ hc;simpa using hc
       |succ k ih=>
        intro xs cs hk hc
        cases xs with
        |nil=>simp at hk
        |cons q xs=>
         obtain⟨c1,c2,rfl,m1,m2⟩:=hc
         have:=ih xs c2 (by simpa using hk) m2
         rw[List.drop_succ_cons,show (k+1)*GT.size α=c1.length+k*GT.size α from by rw[GT.len m1,aoT];omega,←ao0,List.drop_left]
         exact this
      exact this _ _ _ aj k2
     ·by_cases rN:cc=lo.toNat
      ·rw[an4 rN]
       have hz:xs.drop lo.toNat=[]:=apo aj
       refine⟨g,o,cc-lo.toNat,cur,by rw[hlen],k4,k5,by rw[hlen];omega,by omega,?_,?_⟩
       ·have:(cc-lo.toNat)*GT.size α≤cc*GT.size α:=ao6 _ aj
        omega
       ·rw[hz,←k9]
        rw[gA,aqA,ap5,apo]
        rw[ic]
        have:xs.length*GT.size α≤lo.toNat*GT.size α:=ao6 _ aj
        omega
      ·rw[an8 rN]
       refine⟨g,o+lo.toNat*GT.size α,cc-lo.toNat,cur,by rw[hlen];simp[kn],k4,k5,by rw[hlen];omega,by omega,?_,?_⟩
       ·have:lo.toNat*GT.size α+(cc-lo.toNat)*GT.size α=cc*GT.size α:=by rw[←aoT];congr 1;omega
        omega
       ·rw[←k9,hlen,aq2,ao0]
        congr 1
        rw[←Nat.sub_mul]
   ·rw[aoD nD,hj] at rq;cases rq;exact hh
theorem apQ (H:HI M0 w0 w l) (i:Nat) (hi:l[i]? =some (nJ B e v xs)) (hB:B=w0.heap.size) (ox:bD n x=true) (oy:bD n y=true) (hx:ev f x=v) (hy:ev f y=u)
  (hs:Src (MS M0 l) w u ys) (gB:0<ys.length) (hu:P.underlying T=some (.slice e)) (F:ep P e (GT.size α) agg bytes z) (hz:z.cells.size=GT.size α) (hl:(xs.length+ys.length)*bytes≤140737488355328) (la:xs.length+ys.length≤9223372036854775807)
  (h:∀a c w',HI M0 w0 w' (l.set i (nJ B e (.slice a (xs++ys).length c) (xs++ys)))→K (cg f d (.slice a (xs++ys).length c)) w'):
  SO P n ops ⟨some d,.call {callee:=.builtin .append,args:=#[x,y],argTypes:=#[T,T]},ty,ps,af,none⟩ f w K:=by
 subst hB
 obtain⟨cs,h2,h1⟩:=H.at_ i hi
 obtain⟨a0,c0,rfl,FR⟩:=hs
 obtain⟨inf,sK,t',vh,C8⟩:=F.info
 have ef:∀b,v.ownBlock=some b→w0.heap.size≤b∧b<w.heap.size:=H.jl _<|dz hi
 obtain⟨ad,rfl,ds,ua,C9⟩:∃ad,a0=some ad∧∃cs,bz (MS M0 l) w cs ys∧∀j u,cs[j]? =some u→w.cell? (ad.add j)=some u:=by
  rcases FR with h0|h0
  ·omega
  ·exact h0
 have rN:=bz.length h2
 have yR:=bz.length ua
 have Pm:∀(v':Value) (w':aG) (B':Nat) (qs:List α) (M':bY) (es:List Value),w0.heap.size≤B'→w'.ownsRow B' e (GT.size α) v' qs.length es→bz M' w' es qs→(nJ w0.heap.size e v' qs).holds M' w':=by
  intro v' w' B' qs M' es hB' ho hc
  refine OS ⟨es,⟨ho.1,?_⟩,hc⟩
  rcases ho.2 with h3|⟨g,cap,cur,rfl,h3,h4⟩
  ·exact .inl h3
  ·exact .inr ⟨g,cap,cur,J,Nat.le_trans hB' h3,h4⟩
 obtain⟨a',c',w',km,rr,B1,af5⟩:∃a' c' w',(Builtin.append_ #[T,T] ty #[v,.slice (some ad) ys.length c0]).run P w=.ok (.slice a' (xs.length+ys.length) c') w'∧w.grownBy w' v.ownBlock∧
   ((Value.slice a' (xs.length+ys.length) c').ownBlock=v.ownBlock∨∀b,(Value.slice a' (xs.length+ys.length) c').ownBlock=some b→w.heap.size≤b∧b<w'.heap.size)∧
   ∀M',Up (MS M0 l) w M' w'→(nJ w0.heap.size e (.slice a' (xs++ys).length c') (xs++ys)).holds M' w':=by
  rcases h1 with ⟨rfl,rfl⟩|⟨g,o,c,cur,rfl,h3,h4,h5,h6,h7,h8⟩
  ·obtain⟨v',w',r1,r2,r3,_,r4⟩:=run_append_own_at (P:=P) w w0.heap.size T ty e inf z (GT.size α) bytes hu sK t' vh C8 hz GT.pos (.slice none 0 0) 0 [] (World.ownsRow_nil w _ e _) ad ys.length c0 ds yR C9 (bz.Bd ua) (by simp only[maxLen];simp at la;omega) (by simpa using hl) H.below.size
   obtain⟨a',c',rfl⟩:=vL r2
   refine⟨a',c',w',by simpa using r1,r3,?_,fun M' qN=>?_⟩
   ·rcases r4 with hb|hb
    ·exact .inl (by simpa using hb)
    ·refine .inr fun b v8=>⟨?_,(r2.lt b<|by simpa using v8).2⟩
     simp only[gA,aoJ] at v8 hb
     rw[hb] at v8;cases v8;exact an3 _
   ·refine Pm _ _ w0.heap.size _ M' ds (an3 _) ?_ ?_
    ·simpa using r2
    ·simpa using bz.lift qN ua
  ·by_cases QZ:xs.length+ys.length≤c
   ·have Wz:o+xs.length*GT.size α+ds.length≤cur.size:=by
     have:(xs.length+ys.length)*GT.size α≤c*GT.size α:=ao6 _ QZ
     rw[aoT] at this
     omega
    have hf:=run_firstCells_some (P:=P) w inf.size ys.length ad ys.length c0 ds (by rw[vh];exact yR) C9
    rw[vh] at hf
    have oP:=run_storeCells_at P g (o+xs.length*GT.size α) e ds 0 cur w h4 (by simpa using Wz)<|bz.Bd ua
    simp only[aoH] at oP
    have kn:∀j,(⟨g,o,none⟩:Addr).add j=⟨g,o+j,none⟩:=fun j=>by unfold Addr.add;split<;>simp_all
    have km:(Builtin.append_ #[T,T] ty #[.slice (some ⟨g,o,none⟩) xs.length c,.slice (some ad) ys.length c0]).run P w=.ok (.slice (some ⟨g,o,none⟩) (xs.length+ys.length) c) (w.setRow g (cur.toList.take (o+xs.length*GT.size α)++ds++cur.toList.drop (o+xs.length*GT.size α+ds.length)).toArray):=by
     simp[Builtin.append_,gp hu,sizeOf,typeInfo,sK,Builtin.lenOf,QZ,hf,vh,kn,oP]
    refine⟨_,_,_,km,⟨J,J,J,by simp,fun k _ hk=>setRow_other w g k _ (fun e=>hk<|by simp[Value.ownBlock,e])⟩,.inl rfl,fun M' qN=>?_⟩
    refine⟨cs++ds,bz.append (bz.lift qN h2) (bz.lift qN ua),.inr ⟨g,o,c,_,J,h3,setRow_heap w g cur _ e _ h4,by rw[fJ];exact QZ,h6,?_,?_⟩⟩
    ·simp only[apC,fJ,ic,aog,aoM]
     omega
    ·rw[fJ,aoT,←yR]
     have adK:cur.toList.length=cur.size:=by simp
     have e1:(cur.toList.take (o+xs.length*GT.size α)).length=o+xs.length*GT.size α:=by rw[ic];omega
     show List.take _ (List.drop o (cur.toList.take (o+xs.length*GT.size α)++ds++cur.toList.drop (o+xs.length*GT.size α+ds.length)))=_
     rw[aoA,aqY aj,aq2,show o+xs.length*GT.size α-o=xs.length*GT.size α from by omega,h8]
     rw[←aoA,aqV (by rw[fJ,rN])]
   ·have holds:∀j u,cs[j]? =some u→w.cell? ((⟨g,o,none⟩:Addr).add j)=some u:=by
     intro j u Yz
     have kn:(⟨g,o,none⟩:Addr).add j=⟨g,o+j,none⟩:=by unfold Addr.add;split<;>simp_all
     rw[kn,cell_of_row w g _ cur e (0,0) h4]
     rw[←h8] at Yz
     obtain⟨k1,k2⟩:=dJ.1 Yz
     rw[apf (by rw[ic] at k1;omega),aoG] at Yz
     rw[←Yz,aph]
    obtain⟨v',w',r1,r2,r3⟩:=run_append_arg_grows (P:=P) w T ty e inf z (GT.size α) bytes hu sK t' vh C8 hz GT.pos ⟨g,o,none⟩ xs.length c cs rN holds ad ys.length c0 ds yR C9 aj (by simp only[maxLen];omega) hl
    obtain⟨a',c',rfl⟩:=vL r2
    refine⟨a',c',w',r1,⟨r3.os,r3.tape,r3.output,r3.size,fun k hk _=>r3.block k hk (by simp)⟩,.inr fun b v8=>r2.lt b v8,fun M' qN=>?_⟩
    refine Pm _ _ w.heap.size _ M' (cs++ds) H.below.size (by rw[fJ];exact r2)<|bz.append (bz.lift qN h2)<|bz.lift qN ua
 refine SO.value (v:=.slice a' (xs.length+ys.length) c') (w':=w') ?_ ?_
 ·simp[execOp,resolve,invoke,builtin,aJ ox,aJ oy,hx,hy,km]
 ·have:=h a' c' w'
  rw[fJ] at this
  refine this ?_
  have hblk:∀b,(nJ w0.heap.size e (.slice a' (xs.length+ys.length) c') (xs++ys)).jI=some b→b<w'.heap.size∧((nJ w0.heap.size e v xs).jI=some b∨w.heap.size≤b):=by
   intro b hb
   rcases B1 with B1|B1
   ·have wb:v.ownBlock=some b:=B1.symm.trans hb
    exact⟨aox (ef b wb).2 rr.size,.inl wb⟩
   ·exact⟨(B1 b hb).2,.inr (B1 b hb).1⟩
  refine H.uk i hi rr.os rr.tape rr.output rr.size (sB _ km) (fun c hc gB=>rr.block c hc<|fun e=>gB e.symm) hblk ?_
  have h9:=af5 (MS M0<|l.set i (nJ w0.heap.size e (.slice a' (xs.length+ys.length) c')<|xs++ys)) ?_
  ·rw[fJ] at h9;exact h9
  ·refine⟨rr.size,fun b hb hM=>⟨rr.block b hb (fun e=>hM<|.inr ⟨_,dz hi,e.symm⟩),?_⟩⟩
   rintro(Dd|⟨it,hit,ml⟩)
   ·exact hM<|.inl Dd
   ·rcases aoR hit with hit|rfl
    ·exact hM<|.inr ⟨it,hit,ml⟩
    ·rcases (hblk b ml).2 with h'|h'
     ·exact hM<|.inr ⟨_,dz hi,h'⟩
     ·omega
end
end Go.Ew
namespace Go.Ew
open Go.RowKit
section
variable {P:Program} {n:Nat} {ops:Array Oper} {f:aO} {w:aG} {K:aO→aG→Prop} {x y:Operand} {d:Nat} {ty T e:TypeId} {ps:String} {af:Array Edge} {v u:Value} {M M0:bY} {w0:aG} {l:List Item} {bytes:Nat} {z:Value} {B:Nat}
theorem cpO {xs ys:List bp} (H:HI M0 w0 w l) (i:Nat) (hi:l[i]? =some (own B e v xs)) (hB:B=w0.heap.size) (ox:bD n x=true) (oy:bD n y=true) (hx:ev f x=v) (hy:ev f y=u)
  (hs:Src (MS M0 l) w u ys) (hu:P.underlying T=some (.slice e)) (F:ep P e 1 false bytes z) (hl:ys.length=xs.length) (hp:0<xs.length)
  (h:∀w',HI M0 w0 w' (l.set i (own B e v ys))→K (cg f d (.int .i64 (ys.length:Int))) w'):
  SO P n ops ⟨some d,.call {callee:=.builtin .copy,args:=#[x,y],argTypes:=#[T,T]},ty,ps,af,none⟩ f w K:=by
 subst hB
 obtain⟨cs,h1,h2⟩:=H.at_ i hi
 obtain⟨a0,c0,rfl,FR⟩:=hs
 obtain⟨inf,sK,t',vh,C8⟩:=F.info
 rcases h1.2 with ⟨rfl,h3⟩|⟨g',cap,cur,rfl,h3,h4,h5,h6,h7,h8⟩
 ·omega
 ·rcases FR with h0|⟨ad,rfl,ds,ua,C9⟩
  ·omega
  ·have yR:ds.length=ys.length:=by have:=bz.length ua;simpa [GT.size] using this
   have pI:cur.size=cap:=by rw[h7];simp[GT.size]
   have km:=run_copy_row (P:=P) w T T ty e g' 0 xs.length cap ad ys.length c0 cur e ds hu (by rw[sK];simp[vh]) h4 (by rw[yR,hl];simp) C9 aj<|bz.Bd ua
   refine SO.value (v:=.int .i64 (ys.length:Int)) (w':=w.setRow g' (wr cur 0 ds)) ?_<|h _ ?_
   ·have Aq:(Builtin.copy_ #[T,T] ty #[.slice (some ⟨g',0,none⟩) xs.length cap,.slice (some ad) ys.length c0]).run P w=.ok (.int .i64 (ys.length:Int)) (w.setRow g' (wr cur 0 ds)):=by
     rw[km,←yR];rfl
    simp[execOp,resolve,invoke,builtin,aJ ox,aJ oy,hx,hy,Aq]
   ·have C5:∀c,c<w.heap.size→(own w0.heap.size e (Value.slice (some ⟨g',0,none⟩) xs.length cap) xs).jI≠some c→(w.setRow g' (wr cur 0 ds)).heap[c]? =w.heap[c]?:=
     fun c hc gB=>setRow_other w g' c _ (fun e=>gB (by rw[e];rfl))
    have hblk:∀b,(own w0.heap.size e (Value.slice (some ⟨g',0,none⟩) xs.length cap) ys).jI=some b→b<(w.setRow g' (wr cur 0 ds)).heap.size∧((own w0.heap.size e (Value.slice (some ⟨g',0,none⟩) xs.length cap) xs).jI=some b∨w.heap.size≤b):=by
     intro b hb
     refine⟨?_,.inl hb⟩
     rw[size_setRow]
     exact(H.jl _ (dz hi) b hb).2
    refine H.uk i hi J J J (by simp) (an3 _) C5 hblk ?_
    refine⟨ds,⟨by simpa [GT.size] using yR,.inr ⟨g',cap,wr cur 0 ds,by rw[hl],h3,setRow_heap w g' cur _ e _ h4,by omega,h6,?_,?_⟩⟩,?_⟩
    ·simp only[wr,apC,fJ,ic,aog,aoM]
     omega
    ·simp only[wr]
     rw[ap5,List.nil_append,aoJ,aqV (by simpa [GT.size] using yR)]
    ·have qN:Up (MS M0 l) w (MS M0 (l.set i (own w0.heap.size e (Value.slice (some ⟨g',0,none⟩) xs.length cap) ys))) (w.setRow g' (wr cur 0 ds)):=by
      refine⟨by simp,fun b hb hM=>⟨setRow_other w g' b _ (fun e=>hM<|.inr ⟨_,dz hi,by rw[e];rfl⟩),?_⟩⟩
      rintro(Dd|⟨it,hit,ml⟩)
      ·exact hM<|.inl Dd
      ·rcases aoR hit with hit|rfl
       ·exact hM<|.inr ⟨it,hit,ml⟩
       ·exact hM<|.inr ⟨_,dz hi,ml⟩
     exact bz.lift qN ua
end
theorem aax {α:Type} {ss:List SV} {xs:List (List α)} {i k L:Nat} {s s2:SV} {x x2:List α} (hs:ss[i]? =some s) (gM:ss[k]? =some s2) (hx:xs[i]? =some x) (gZ:xs[k]? =some x2):L+i≠L+k∨(s.v=s2.v∧x2=x):=by
 by_cases h:i=k
 ·subst h
  right
  rw[hs] at gM;rw[hx] at gZ
  cases gM;cases gZ
  exact⟨J,J⟩
 ·left;omega
end Go.Ew
namespace Go.Ew
open Go.RowKit
def mo (a:Option Addr) (c lo:Nat):Option Addr:=if c=lo then a else a.map (·.add (lo*1))
def Gc (xs:aA) (k:Nat):aA:=xs.take k++((xs.take k).take (xs.length-k)++xs.drop (k+min k (xs.length-k)))
theorem Gn (g j:Nat):(⟨g,0,none⟩:Addr).add j=⟨g,j,none⟩:=by unfold Addr.add;split<;>simp_all
theorem rk {M:bY} {w:aG}:∀(k:Nat) {xs:aA} {cs:List Value},bz M w cs xs→bz M w (cs.take k) (xs.take k)∧bz M w (cs.drop k) (xs.drop k)
 |0,xs,cs,h=>⟨by rw[ap5,ap5];rfl,by simpa using h⟩
 |k+1,[],cs,h=>by
  rw[show cs=[] from h]
  exact⟨J,J⟩
 |k+1,x::xs,cs,h=>by
  obtain⟨c1,c2,rfl,h2,h3⟩:=h
  obtain⟨i1,i2⟩:=rk k h3
  obtain⟨e,hx⟩:=h2
  subst e
  exact⟨⟨[.int .i64 x],c2.take k,J,⟨J,hx⟩,i1⟩,i2⟩
section
variable {P:Program} {n:Nat} {ops:Array Oper} {f:aO} {w:aG} {K:aO→aG→Prop} {x y:Operand} {d:Nat} {ty T e:TypeId} {ps:String} {af:Array Edge} {v u:Value} {M M0:bY} {w0:aG} {l:List Item} {bytes:Nat} {z:Value} {B:Nat} {kk:IntKind} {agg:Bool} {xs ys:aA} {a:Option Addr} {k c:Nat}
theorem CK (hO:(own B e (.slice a k c) xs).holds M w):k=xs.length∧xs.length≤c:=by
 obtain⟨cs,h1,h2⟩:=hO
 rcases h1.2 with ⟨h3,h4⟩|⟨g,cap,cur,h3,h4,h5,h6,h7⟩
 ·cases h3;omega
 ·cases h3;exact⟨rfl,h6⟩
theorem LP {α:Type} [GT α] {xs:List α} (hO:(own B e (.slice a k c) xs).holds M w):k=xs.length:=by
 obtain⟨cs,h1,h2⟩:=hO
 rcases h1.2 with ⟨h3,h4⟩|⟨g,cap,cur,h3,h4,h5,h6,h7⟩
 ·cases h3;omega
 ·cases h3;rfl
theorem abH {lo:Int} {rl:Operand} (hO:(own B e (.slice a k c) xs).holds M w) (ox:bD n x=true) (ol:bD n rl=true) (hx:ev f x=.slice a k c) (hl:ev f rl=.int kk lo) (hb:0≤lo∧lo≤xs.length) (hu:P.underlying T=some (.slice e)) (F:ep P e 1 agg bytes z)
  (h:K (cg f d (.slice (mo a c lo.toNat) (k-lo.toNat) (c-lo.toNat))) w):
  SO P n ops ⟨some d,.slice T x (some rl) none none,ty,ps,af,none⟩ f w K:=by
 obtain⟨hk,hc⟩:=CK hO
 refine SO.value (v:=.slice (mo a c lo.toNat) (k-lo.toNat) (c-lo.toNat)) (w':=w) ?_ h
 have vj:P.underlying T=some (.slice (P.elem T)):=by rw[hu];simp[Program.elem,hu]
 have uE:P.elem T=e:=by simp[Program.elem,hu]
 simp[execOp,aJ ox,aJ ol,hx,hl,Instr.sliceAt,gp hu]
 have:=run_slice_l (P:=P) (w:=w) T a k c vj kk lo hb.1 aj
 rw[uE,F.iK] at this
 simp[this,sliced,mo]
theorem abI {hi:Int} {pd:Operand} (hO:(own B e (.slice a k c) xs).holds M w) (ox:bD n x=true) (oh:bD n pd=true) (hx:ev f x=.slice a k c) (hh:ev f pd=.int kk hi) (hb:0≤hi∧hi≤xs.length) (hu:P.underlying T=some (.slice e)) (F:ep P e 1 agg bytes z)
  (h:K (cg f d (.slice (mo a c 0) hi.toNat c)) w):
  SO P n ops ⟨some d,.slice T x none (some pd) none,ty,ps,af,none⟩ f w K:=by
 obtain⟨hk,hc⟩:=CK hO
 refine SO.value (v:=.slice (mo a c 0) hi.toNat c) (w':=w) ?_ h
 have vj:P.underlying T=some (.slice (P.elem T)):=by rw[hu];simp[Program.elem,hu]
 have uE:P.elem T=e:=by simp[Program.elem,hu]
 simp[execOp,aJ ox,aJ oh,hx,hh,Instr.sliceAt,gp hu]
 have:=run_slice_h (P:=P) (w:=w) T a k c vj kk hi hb.1 aj
 rw[uE,F.iK] at this
 simp[this,sliced,mo]
theorem HI.LL (H:HI M0 w0 w l) (i:Nat) {g cap:Nat} {cur:Array Value} {cs ds:List Value} {o:Nat} (hi:l[i]? =some (own w0.heap.size e (.slice (some ⟨g,0,none⟩) xs.length cap) xs))
  (h3:w0.heap.size≤g) (h4:w.heap[g]? =some (.cells cur e (0,0))) (h5:xs.length≤cap) (h6:cap≤maxLen) (h7:cur.size=cap) (h8:cur.toList.take xs.length=cs)
  (hc:bz (MS M0 l) w cs xs) (hd:bz (MS M0 l) w ds ys) (ho:o+ys.length≤xs.length):
  HI M0 w0 (w.setRow g (cur.toList.take o++ds++cur.toList.drop (o+ds.length)).toArray) (l.set i (own w0.heap.size e (.slice (some ⟨g,0,none⟩) xs.length cap) (xs.take o++(ys++xs.drop (o+ys.length))))):=by
 have yR:ds.length=ys.length:=by have:=bz.length hd;simpa [GT.size] using this
 have rN:cs.length=xs.length:=by have:=bz.length hc;simpa [GT.size] using this
 have Hg:(xs.take o++(ys++xs.drop (o+ys.length))).length=xs.length:=by simp;omega
 have adK:cur.toList.length=cap:=by simpa using h7
 have C5:∀q,q<w.heap.size→(own w0.heap.size e (Value.slice (some ⟨g,0,none⟩) xs.length cap) xs).jI≠some q→(w.setRow g (cur.toList.take o++ds++cur.toList.drop (o+ds.length)).toArray).heap[q]? =w.heap[q]?:=
  fun q hq gB=>setRow_other w g q _ (fun e=>gB (by rw[e];rfl))
 refine H.uk i hi J J J (by simp) (an3 _) C5 ?_ ?_
 ·intro b hb
  refine⟨?_,.inl hb⟩
  rw[size_setRow]
  exact(H.jl _ (dz hi) b hb).2
 ·have qN:Up (MS M0 l) w (MS M0 (l.set i (own w0.heap.size e (Value.slice (some ⟨g,0,none⟩) xs.length cap) (xs.take o++(ys++xs.drop (o+ys.length)))))) (w.setRow g (cur.toList.take o++ds++cur.toList.drop (o+ds.length)).toArray):=by
   refine⟨by simp,fun b hb hM=>⟨setRow_other w g b _ (fun e=>hM<|.inr ⟨_,dz hi,by rw[e];rfl⟩),?_⟩⟩
   rintro(Dd|⟨it,hit,ml⟩)
   ·exact hM<|.inl Dd
   ·rcases aoR hit with hit|rfl
    ·exact hM<|.inr ⟨it,hit,ml⟩
    ·exact hM<|.inr ⟨_,dz hi,ml⟩
  refine⟨cs.take o++(ds++cs.drop (o+ds.length)),⟨by simp[GT.size];omega,.inr ⟨g,cap,_,by rw[Hg],h3,setRow_heap w g cur _ e _ h4,by omega,h6,?_,?_⟩⟩,?_⟩
  ·simp only[apC,fJ,ic,aog,GT.size]
   omega
  ·rw[Hg]
   show (cur.toList.take o++ds++cur.toList.drop (o+ds.length)).take (xs.length*1)=_
   rw[←h8,aqd,aoA,aql,aql,ic,ao7 aj,apz,apz,aq2,an_ (by omega:ds.length≤xs.length-o),Nat.min_comm o xs.length,
    show xs.length-o-ds.length=xs.length-(o+ds.length) from by omega]
  ·have e9:xs.drop (o+ys.length)=xs.drop (o+ds.length):=by rw[yR]
   have q:=bz.lift qN (rk (o+ds.length) hc).2
   exact bz.append (bz.lift qN (rk o hc).1)<|bz.append (bz.lift qN hd)<|(an0 (fun r=>bz _ _ _ r) e9).mpr q
theorem akg (H:HI M0 w0 w l) (i:Nat) (hi:l[i]? =some (own B e (.slice a k c) xs)) (hB:B=w0.heap.size) (ox:bD n x=true) (oy:bD n y=true) (hx:ev f x=.slice a k c) (hy:ev f y=u)
  (hs:Src (MS M0 l) w u ys) (hu:P.underlying T=some (.slice e)) (F:ep P e 1 agg bytes z) (hl:ys.length≤xs.length) (hp:0<ys.length)
  (h:∀w',HI M0 w0 w' (l.set i (own B e (.slice a k c) (ys++xs.drop ys.length)))→K (cg f d (.int .i64 (ys.length:Int))) w'):
  SO P n ops ⟨some d,.call {callee:=.builtin .copy,args:=#[x,y],argTypes:=#[T,T]},ty,ps,af,none⟩ f w K:=by
 subst hB
 obtain⟨cs,h1,h2⟩:=H.at_ i hi
 obtain⟨a0,c0,rfl,FR⟩:=hs
 obtain⟨inf,sK,t',vh,C8⟩:=F.info
 rcases h1.2 with ⟨h0,h3⟩|⟨g',c1,cur,h0,h3,h4,h5,h6,h7,h8⟩
 ·omega
 ·cases h0
  rcases FR with h0|⟨ad,rfl,ds,ua,C9⟩
  ·omega
  ·have yR:ds.length=ys.length:=by have:=bz.length ua;simpa [GT.size] using this
   have pI:cur.size=c:=by rw[h7];simp[GT.size]
   have km:=run_copy_row (P:=P) w T T ty e g' 0 xs.length c ad ys.length c0 cur e ds hu (by rw[sK];simp[vh]) h4 (by rw[yR];simp[ao7 hl]) C9 aj<|bz.Bd ua
   refine SO.value (v:=.int .i64 (ys.length:Int)) (w':=w.setRow g' (cur.toList.take 0++ds++cur.toList.drop (0+ds.length)).toArray) ?_<|h _ ?_
   ·have Aq:(Builtin.copy_ #[T,T] ty #[.slice (some ⟨g',0,none⟩) xs.length c,.slice (some ad) ys.length c0]).run P w=.ok (.int .i64 (ys.length:Int)) (w.setRow g' (cur.toList.take 0++ds++cur.toList.drop (0+ds.length)).toArray):=by
     rw[km,←yR];rfl
    simp[execOp,resolve,invoke,builtin,aJ ox,aJ oy,hx,hy,Aq]
   ·rw[show ys++xs.drop ys.length=xs.take 0++(ys++xs.drop (0+ys.length)) from by simp]
    exact HI.LL (ys:=ys) (ds:=ds) (o:=0) H i hi h3 h4 h5 h6 pI (by simpa [GT.size] using h8) h2 ua aj
theorem akh (H:HI M0 w0 w l) (i:Nat) (hi:l[i]? =some (own B e (.slice a k c) xs)) (hB:B=w0.heap.size) (ox:bD n x=true) (oy:bD n y=true) {q:Nat} (hx:ev f x=.slice (mo a c q) (k-q) (c-q)) (hy:ev f y=.slice (mo a c 0) q c)
  (hu:P.underlying T=some (.slice e)) (F:ep P e 1 agg bytes z) (hq:0<q∧q<xs.length)
  (h:∀w',HI M0 w0 w' (l.set i (own B e (.slice a k c) (Gc xs q)))→K (cg f d (.int .i64 ((min q (xs.length-q):Nat):Int))) w'):
  SO P n ops ⟨some d,.call {callee:=.builtin .copy,args:=#[x,y],argTypes:=#[T,T]},ty,ps,af,none⟩ f w K:=by
 subst hB
 obtain⟨cs,h1,h2⟩:=H.at_ i hi
 obtain⟨inf,sK,t',vh,C8⟩:=F.info
 rcases h1.2 with ⟨h0,h3⟩|⟨g',c1,cur,h0,h3,h4,h5,h6,h7,h8⟩
 ·omega
 ·cases h0
  have pI:cur.size=c:=by rw[h7];simp[GT.size]
  have kn:∀j,(⟨g',0,none⟩:Addr).add j=⟨g',j,none⟩:=Gn g'
  have TH:mo (some ⟨g',0,none⟩) c q=some ⟨g',q,none⟩:=by unfold mo;rw[an8 aj,aqd];show some (Addr.add _ q)=_;rw[kn]
  have hcB:mo (some ⟨g',0,none⟩) c 0=some ⟨g',0,none⟩:=by unfold mo;rw[an8 aj];show some (Addr.add _<|0*1)=_;rw[kn]
  rw[TH] at hx;rw[hcB] at hy
  have rN:cs.length=xs.length:=by have:=bz.length h2;simpa [GT.size] using this
  have hd:bz (MS M0 l) w ((cs.take q).take (xs.length-q)) ((xs.take q).take (xs.length-q)):=(rk _ (rk q h2).1).1
  have sM:((cs.take q).take (xs.length-q)).length=min q (xs.length-q):=by simp;omega
  have km:=run_copy_row (P:=P) w T T ty e g' q (xs.length-q) (c-q) ⟨g',0,none⟩ q c cur e ((cs.take q).take (xs.length-q)) hu (by rw[sK];simp[vh]) h4 (by rw[sM]) (by
   intro j v hv
   have xF:=(dJ.1 hv).1
   rw[sM] at xF
   rw[apf aj,apf aj,←h8,apf (by simp[GT.size];omega)] at hv
   rw[kn,cell_of_row w g' _ cur e (0,0) h4,←hv,aph]) (by rw[sM];omega) (bz.Bd hd)
  refine SO.value (v:=.int .i64 ((min q (xs.length-q):Nat):Int)) (w':=w.setRow g' (cur.toList.take q++(cs.take q).take (xs.length-q)++cur.toList.drop (q+((cs.take q).take (xs.length-q)).length)).toArray) ?_<|h _ ?_
  ·have Aq:(Builtin.copy_ #[T,T] ty #[.slice (some ⟨g',q,none⟩) (xs.length-q) (c-q),.slice (some ⟨g',0,none⟩) q c]).run P w=.ok (.int .i64 ((min q (xs.length-q):Nat):Int)) (w.setRow g' (cur.toList.take q++(cs.take q).take (xs.length-q)++cur.toList.drop (q+((cs.take q).take (xs.length-q)).length)).toArray):=by
    rw[km,sM];rfl
   simp[execOp,resolve,invoke,builtin,aJ ox,aJ oy,hx,hy,Aq]
  ·have:=HI.LL (ys:=(xs.take q).take (xs.length-q)) (o:=q) H i hi h3 h4 h5 h6 pI (by simpa [GT.size] using h8) h2 hd<|by simp;omega
   rw[show ((xs.take q).take (xs.length-q)).length=min q (xs.length-q) from by simp;omega] at this
   exact this
end
end Go.Ew
namespace Go.Ew
open Go.RowKit
def FPH (P:Program) (g:FuncId) (C:List Value) (M:bY) (w:aG) (it:aA→Item) (r:List Item) (xs:aA) (p:Int→Bool):Prop:=
 cx P g∧∀w1 ys,HI M w w1 ([it ys]++r)→∀x,x∈xs→aK x→Calls P g ([Value.int .i64 x]++C).toArray w1 (cm fun u w2=>u=.bool (p x)∧Ext w1 w2)
theorem FPH.fp {P:Program} {g:FuncId} {C:List Value} {M M':bY} {w w1:aG} {it:aA→Item} {r:List Item} {xs ys:aA} {p:Int→Bool} (h:FPH P g C M w it r xs p) (H:HI M w w1 ([it ys]++r)):FP P g C M' w1 xs p:=
 ⟨h.1,fun w2 v x hx e hv=>by
  obtain⟨cs,⟨e1,hi⟩,e2⟩:=hv
  rw[e1] at e2
  cases e2
  exact h.2 w2 ys (H.ext e) x hx hi⟩
theorem Km (v:Value):∀n,(Builtin.zeroCells #[v] n).toList=List.replicate n v:=by
 intro n
 unfold Builtin.zeroCells
 apply aoz
 intro i
 simp only[Array.toList_map,aoa,Array.toList_range,apO]
 by_cases h:i<n
 ·rw[aoL (by simpa using h),an4 h]
  simp[Nat.mod_one]
 ·rw[aof (by simpa using h),an8 h];rfl
section
variable {P:Program} {n:Nat} {ops:Array Oper} {f:aO} {w:aG} {K:aO→aG→Prop} {x y:Operand} {d:Nat} {ty T e:TypeId} {ps:String} {af:Array Edge} {v u:Value} {M M0:bY} {w0:aG} {l:List Item} {bytes:Nat} {B:Nat} {kk:IntKind} {agg:Bool} {xs ys:aA} {a:Option Addr} {k c:Nat}
theorem afL {hi:Int} {pd:Operand} (H:HI M0 w0 w l) (i:Nat) (oQ:l[i]? =some (own B e (.slice a k c) xs)) (ox:bD n x=true) (oh:bD n pd=true) (hx:ev f x=.slice a k c) (hh:ev f pd=.int kk hi) (hb:0≤hi∧hi≤xs.length) (hu:P.underlying T=some (.slice e)) (F:ep P e 1 agg bytes (.int .i64 0))
  (h:HI M0 w0 w (l.set i (own B e (.slice a (xs.take hi.toNat).length c) (xs.take hi.toNat)))→K (cg f d (.slice a (xs.take hi.toNat).length c)) w):
  SO P n ops ⟨some d,.slice T x none (some pd) none,ty,ps,af,none⟩ f w K:=by
 have hO:=H.at_ i oQ
 have jL:=(dJ.1 oQ).1
 have hlen:(xs.take hi.toNat).length=hi.toNat:=by simp;omega
 have FY:mo a c 0=a:=by
  unfold mo
  split
  ·rfl
  ·obtain⟨cs,h1,h2⟩:=hO
   rcases h1.2 with ⟨h3,h4⟩|⟨g,cap,cur,h3,h4⟩
   ·cases h3;rfl
   ·cases h3
    show some (Addr.add _ (0*1))=_
    rw[Gn]
 refine abI hO ox oh hx hh hb hu F ?_
 rw[FY]
 rw[hlen] at h
 refine h ?_
 refine H.weaken ?_ ?_
 ·apply aoz
  intro j
  rw[aoa,aoa]
  by_cases hj:i=j
  ·subst hj;rw[aol jL,oQ];cases a<;>rfl
  ·rw[aoD hj]
 ·intro j it nA hj rq M Tw
  by_cases qt:i=j
  ·subst qt
   rw[aol jL] at rq
   rw[oQ] at hj
   cases hj;cases rq
   obtain⟨cs,h1,h2⟩:=Tw
   have rN:=bz.length h2
   refine⟨cs.take hi.toNat,⟨by rw[hlen];simp only[GT.size] at rN ⊢;rw[ic];omega,?_⟩,(rk _ h2).1⟩
   rcases h1.2 with ⟨h3,h4⟩|⟨g,cap,cur,h3,h4,h5,h6,h7,h8,h9⟩
   ·cases h3
    refine .inl ⟨by rw[show hi.toNat=0 from by omega],by rw[hlen];omega⟩
   ·cases h3
    refine .inr ⟨g,c,cur,by rw[hlen],h4,h5,by omega,h7,h8,?_⟩
    rw[←h9,hlen,apz]
    congr 1
    simp only[GT.size];omega
  ·rw[aoD qt,hj] at rq;cases rq;exact Tw
theorem clO (H:HI M0 w0 w l) (i:Nat) (hi:l[i]? =some (own B e (.slice a k c) xs)) (hB:B=w0.heap.size) (ox:bD n x=true) {q:Nat} (hx:ev f x=.slice (mo a c q) (k-q) (c-q))
  (hu:P.underlying T=some (.slice e)) (F:ep P e 1 agg bytes (.int .i64 0)) (hq:q≤xs.length)
  (h:∀w',HI M0 w0 w' (l.set i (own B e (.slice a k c) (xs.take q++(List.replicate (xs.length-q) 0++[]))))→K f w'):
  SO P n ops ⟨none,.call {callee:=.builtin .clear,args:=#[x],argTypes:=#[T]},ty,ps,af,none⟩ f w K:=by
 subst hB
 have hO:=H.at_ i hi
 have jL:=(dJ.1 hi).1
 obtain⟨hk,hc⟩:=CK hO
 obtain⟨cs,h1,h2⟩:=hO
 by_cases nC:q=xs.length
 ·have hz:k-q=0:=by omega
  refine SO.value (d:=none) (v:=.tuple #[]) (w':=w) ?_<|h w ?_
  ·have Aq:(Builtin.clear_ #[T] ty #[.slice (mo a c q) 0 (c-q)]).run P w=.ok (.tuple #[]) w:=by
    cases hca:mo a c q<;>simp[Builtin.clear_,run_underlying hu]
   rw[hz] at hx
   simp[execOp,resolve,invoke,builtin,aJ ox,hx,Aq]
  ·have e9:xs.take q++(List.replicate (xs.length-q) 0++[])=xs:=by rw[nC];simp
   rw[e9]
   have:l.set i (own w0.heap.size e (.slice a k c) xs)=l:=by
    apply aoz
    intro j
    by_cases hj:i=j
    ·subst hj;rw[aol jL,hi]
    ·rw[aoD hj]
   rw[this];exact H
 ·rcases h1.2 with ⟨h0,h3⟩|⟨g',c1,cur,h0,h3,h4,h5,h6,h7,h8⟩
  ·omega
  ·cases h0
   have pI:cur.size=c:=by rw[h7];simp[GT.size]
   have TH:mo (some ⟨g',0,none⟩) c q=some ⟨g',q,none⟩:=by unfold mo;rw[an8 aj,aqd];show some (Addr.add _ q)=_;rw[Gn]
   rw[TH] at hx
   have hz:bz (MS M0 l) w (List.replicate (xs.length-q) (Value.int .i64 0)) (List.replicate (xs.length-q) (0:Int)):=by
    have:∀m,bz (MS M0 l) w (List.replicate m (Value.int .i64 0)) (List.replicate m (0:Int)):=by
     intro m
     induction m with
     |zero=>rfl
     |succ m ih=>exact⟨[.int .i64 0],List.replicate m (.int .i64 0),by rw[aoW];rfl,⟨rfl,by unfold aK;omega⟩,ih⟩
    exact this _
   have oP:=run_storeCells_at P g' q e (List.replicate (xs.length-q)<|Value.int .i64 0) 0 cur w h4 (by rw[oz];omega)<|bz.Bd hz
   refine SO.value (d:=none) (v:=.tuple #[]) (w':=w.setRow g' (cur.toList.take q++List.replicate (xs.length-q) (Value.int .i64 0)++cur.toList.drop (q+(List.replicate (xs.length-q)<|Value.int .i64 0).length)).toArray) ?_<|h _ ?_
   ·obtain⟨m,hm⟩:∃m,xs.length-q=m+1:=⟨xs.length-q-1,by omega⟩
    have Aq:(Builtin.clear_ #[T] ty #[.slice (some ⟨g',q,none⟩) (xs.length-q) (c-q)]).run P w=.ok (.tuple #[]) (w.setRow g' (cur.toList.take q++List.replicate (xs.length-q) (Value.int .i64 0)++cur.toList.drop (q+(List.replicate (xs.length-q) (Value.int .i64 0)).length)).toArray):=by
     have rO:(Builtin.zeroCells (Value.int .i64 0).cells (xs.length-q)).toList=List.replicate (xs.length-q) (Value.int .i64 0):=Km _ _
     rw[aoH] at oP
     rw[hm] at oP rO ⊢
     simp[Builtin.clear_,run_underlying hu,F.um,rO,oP]
    simp[execOp,resolve,invoke,builtin,aJ ox,hx,Aq]
   ·have:=HI.LL (ys:=List.replicate (xs.length-q) 0) (ds:=List.replicate (xs.length-q) (Value.int .i64 0)) (o:=q) H i hi h3 h4 h5 h6 pI (by simpa [GT.size] using h8) h2 hz<|by rw[oz];omega
    have e8:xs.drop (q+(List.replicate (xs.length-q) (0:Int)).length)=[]:=by rw[oz];exact apo aj
    rw[e8] at this
    exact this
end
end Go.Ew
namespace Go.Ew
variable {i:Int}
def ko (i:Int):bp:=if 0≤i∧i≤63 then 1#64 <<< i.toNat else 0#64
theorem Jp (h:aK i):((BitVec.ofInt 64 i).toNat:Int)=if 0≤i then i else i+18446744073709551616:=by
 rw[←zl,IntKind.wrap_u64];unfold aK at h;split<;>omega
theorem aa9 (h:aK i) (h1:63<(BitVec.ofInt 64 i).toNat):0#64=ko i:=by
 unfold ko;rw[an8];have:=Jp h;unfold aK at h;split at this<;>omega
theorem aa8 (h:aK i) (h1:¬63<(BitVec.ofInt 64 i).toNat):1#64 <<< ((BitVec.ofInt 64 i).toNat:Int).toNat=ko i:=by
 have h2:=Jp h
 unfold ko;unfold aK at h
 split at h2
 ·rw[an4 aj];congr 1;omega
 ·omega
def xJ (w:bp) (i:Int):Bool:=decide (0≤i)&&w.getLsbD i.toNat
theorem abb (w:bp) (k:Nat) (hk:k<64):(w &&& 1#64 <<< k=0#64)↔w.getLsbD k=false:=by
 constructor
 ·intro h
  have:=an0 (·.getLsbD k) h
  simpa [hk] using this
 ·intro h
  apply ap9
  intro j hj
  simp only[aqc,aqF,BitVec.getLsbD_zero]
  by_cases JK:j=k
  ·subst JK;simp[h]
  ·by_cases ef:j<k
   ·simp[ef]
   ·have:j-k≠0:=by omega
    simp[this]
theorem aaC (w:bp) (i:Int):(!decide (w &&& ko i=0#64))=xJ w i:=by
 unfold ko xJ
 by_cases h:0≤i∧i≤63
 ·rw[an4 h,aoj]
  have:=abb w i.toNat aj
  simp[this,h.1]
 ·rw[an8 h]
  by_cases h0:0≤i
  ·have:w.getLsbD i.toNat=false:=BitVec.getLsbD_of_ge w _ aj
   simp[this]
  ·simp[h0]
abbrev Row:=List bp
def fk (r:Row) (i:Int):Bool:=decide (0≤i)&&(r.getD (i.toNat/64) 0#64).getLsbD (i.toNat%64)
def jz (r:Row) (i:Int):Bool:=decide (0≤i∧i<64*(r.length:Int))
theorem aaz {r:Row} (h:0≤i):decide (i/64<(r.length:Int))=jz r i:=by
 unfold jz;congr 1;apply propext;omega
theorem acR {r:Row} (h:i<0):false=jz r i:=by
 unfold jz;simp;omega
theorem aaF {r:Row} (h:jz r i=true) {x:bp} (hx:r[(i/64).toNat]? =some x):xJ x (i%64)=fk r i:=by
 unfold jz at h;simp only[an2] at h
 unfold xJ fk
 have e1:(i/64).toNat=i.toNat/64:=by omega
 have e2:(i%64).toNat=i.toNat%64:=by omega
 rw[e1] at hx
 rw[e2,il,hx]
 simp[h.1,aqy]
theorem xK {r:Row} (h:jz r i=false):false=fk r i:=by
 unfold jz at h;simp only[aob] at h
 unfold fk
 by_cases h0:0≤i
 ·rw[il,aof aj];simp
 ·simp[h0]
def ei (r:Row) (i:Int):Row:=if jz r i then r.set (i.toNat/64) (r.getD (i.toNat/64) 0#64 ||| ko (i%64)) else r
theorem OD {r:Row} (h:jz r i=true) {x:bp} (hx:r[(i/64).toNat]? =some x):r.set (i/64).toNat (x ||| ko (i%64))=ei r i:=by
 unfold ei;rw[an4 h]
 unfold jz at h;simp only[an2] at h
 have e1:(i/64).toNat=i.toNat/64:=by omega
 rw[e1] at hx
 rw[e1,il,hx];rfl
theorem Fm {r:Row} (h:jz r i=false):r=ei r i:=by
 unfold ei;rw[an8 (by simp[h])]
end Go.Ew
namespace Go.Ew
def Xb (x:Nat):Nat→Nat
 |0=>0
 |k+1=>Xb x k+(x.testBit k).toNat
def AE (x:bp):Nat:=Xb x.toNat 64
def rep (m:Nat):Nat→Nat
 |0=>0
 |n+1=>m+256*rep m n
def s1 (n x:Nat):Nat:=(x/2 &&& rep 0x55 n)+(x &&& rep 0x55 n)
def s2 (n x:Nat):Nat:=(x/4 &&& rep 0x33 n)+(x &&& rep 0x33 n)
def s3 (n x:Nat):Nat:=(x/16+x) &&& rep 0x0f n
def KT (a:Nat):Nat:=(a/2 &&& 0x55)+(a &&& 0x55)
def KS (a:Nat):Nat:=(a/4 &&& 0x33)+(a &&& 0x33)
theorem b3:∀a<256,KS (KT a)<69∧KS (KT a)%16<5∧KS (KT a)%16+KS (KT a)/16=Xb a 8:=by decide +kernel
theorem d1 {a b:Nat} (h:a<256):(a+256*b)/256=b:=by omega
theorem d2 {a b c:Nat} (h:a<256) (h':b<256):(a+256*(b+256*c))/65536=c:=by omega
end Go.Ew
namespace Go.Ew
variable {r:Row}
def Dq (r:Row):Nat:=(r.map AE).sum
def afR (x y:bp):Bool:=decide (x &&& ~~~y=0#64)
def afF (a b:Row) (i:Nat):Bool:=afR (a.getD i 0#64) (b.getD i 0#64)
def afE (a b:Row) (k:Nat):Bool:=(List.range k).all (afF a b)
def Ll (a b:Row):Bool:=afE a b a.length
theorem wQ {k:Nat} {x:bp} (h:r[((k:Nat):Int).toNat]? =some x):r.getD k 0#64=x:=by
 rw[dq] at h;rw[il,h];rfl
theorem sr {k:Nat} (h:r.length≤k):r.getD k 0#64=0#64:=by
 rw[il,aof h];rfl
def words (n:Int):Nat:=((max n 0+63)/64).toNat
def eh (n:Int):Row:=List.replicate (words n) 0#64
theorem GL (x:bp) (i j:Nat) (hi:i<64) (hj:j<64):(x ||| ko (i:Int)).getLsbD j=(x.getLsbD j||decide (j=i)):=by
 unfold ko
 rw[an4 aj,BitVec.getLsbD_or,aqF,dq]
 congr 1
 by_cases h:j=i
 ·subst h;simp[hi]
 ·by_cases h2:j<i
  ·simp[h,h2]
  ·have:j-i≠0:=by omega
   simp[h,h2,this,hj]
theorem kG (r:Row) (i:Int):(ei r i).length=r.length:=by unfold ei;split<;>simp
theorem Pc (r:Row) (i j:Int):jz (ei r i) j=jz r j:=by unfold jz;rw[kG]
theorem Lv {i:Int} (h:jz r i=true) (k:Nat) (hk:k<r.length):(ei r i).getD k 0#64=if k=i.toNat/64 then r.getD k 0#64 ||| ko ((i.toNat%64:Nat):Int) else r.getD k 0#64:=by
 unfold ei;rw[an4 h]
 unfold jz at h;simp only[an2] at h
 have e:i%64=((i.toNat%64:Nat):Int):=by omega
 simp only[il]
 by_cases Av:k=i.toNat/64
 ·subst Av
  rw[aol hk,an4 rfl,e];rfl
 ·rw[aoD (fun e=>Av e.symm),an8 Av]
theorem Kv {i:Int}:fk (ei r i) i=jz r i:=by
 by_cases h:jz r i=true
 ·have h':=h
  unfold jz at h';simp only[an2] at h'
  have hm:i.toNat%64<64:=aqS _ au
  rw[h];unfold fk
  rw[Lv h _ aj,an4 rfl,GL _ _ _ hm hm]
  simp[h'.1]
 ·have h2:jz (ei r i) i=false:=by rw[Pc];simpa using h
  rw[←xK h2];simpa using h
theorem Q7 {r:Row} {i:Int} (h:fk r i=true):jz r i=true:=by
 cases h1:jz r i with
 |true=>rfl
 |false=>rw[←xK h1] at h;cases h
end Go.Ew
namespace Go.Ew
variable {n i j:Int} {x:Row} {m:Nat}
abbrev Rows:=List (List bp)
def CL (n k:Int):Bool:=decide (k<0)||decide (n≤k)
def kE (n:Int) (l:aA):Bool:=!l.any (CL n)
theorem jo {a b:Int}:kE n [a,b]=true↔(0≤a∧a<n)∧(0≤b∧b<n):=by
 unfold kE CL
 simp
theorem ka {a b:Int}:kE n [a,b]=false↔¬((0≤a∧a<n)∧(0≤b∧b<n)):=by
 rw[←jo];simp
def rowAt (rs:Rows) (i:Int):Row:=rs.getD i.toNat []
theorem sh {rs:Rows} (h:rs[i.toNat]? =some x):rowAt rs i=x:=by unfold rowAt;rw[il,h];rfl
def rB (rs:Rows) (p:Int×Int):Rows:=rs.set p.1.toNat (ei (rowAt rs p.1) p.2)
theorem NR (rs:Rows) (p:Int×Int):(rB rs p).length=rs.length:=by unfold rB;simp
theorem Ik {rs:Rows} (h:rs[i.toNat]? =some x):rs.set i.toNat (ei x j)=rB rs (i,j):=by unfold rB;rw[sh h]
def CQ (n:Int):Bool:=decide (0≤n)&&decide (n≤4096)
theorem sD:CQ n=true↔0≤n∧n≤4096:=by unfold CQ;simp
theorem Ai:CQ n=false↔¬(0≤n∧n≤4096):=by rw[←sD];simp
def vN (n:Int):Rows:=List.replicate n.toNat (eh n)
def oD (n:Int):Int:=if CQ n then n else 0
def iR (n:Int):Rows:=if CQ n then vN n else []
def rY (n:Int):Int:=if CQ n then 0 else 1
theorem xw (h:CQ n=true):oD n=n∧iR n=vN n∧rY n=0:=by simp[oD,iR,rY,h]
theorem wL (h:CQ n=false):oD n=0∧iR n=[]∧rY n=1:=by simp[oD,iR,rY,h]
theorem pZ (n:Int):(vN n).length=n.toNat:=by unfold vN;simp
def vw {α:Type} (m k:Nat) (a b:α):List α:=List.replicate k a++List.replicate (m-k) b
theorem Oa {α:Type} (m:Nat) (a b:α):List.replicate m b=vw m 0 a b:=by simp[vw]
theorem Rr {α:Type} {k:Nat} {a b:α} (h:k<m):(vw m k a b).set k a=vw m (k+1) a b:=by
 unfold vw
 obtain⟨q,hq⟩:∃q,m-k=q+1:=⟨m-k-1,by omega⟩
 rw[hq,apd _ _ (by simp),show m-(k+1)=q from by omega,oz,aoZ,aoW,apU,List.replicate_succ',aoA]
 rfl
theorem Rs {α:Type} {k:Nat} {a b:α} (h:k=m):vw m k a b=List.replicate m a:=by subst h;simp[vw]
def foldM (n:Int) (ps:List (Int×Int)):Rows:=ps.foldl rB (vN n)
theorem wh:∀(ps:List (Int×Int)) (rs:Rows),(ps.foldl rB rs).length=rs.length
 |[],_=>rfl
 |p::ps,rs=>by rw[aqx,wh ps,NR]
theorem Dh (n:Int) (ps:List (Int×Int)):(foldM n ps).length=n.toNat:=by unfold foldM;rw[wh,pZ]
theorem Rn {ps:List (Int×Int)} {j:Nat} {p:Int×Int} (h:ps[((j:Nat):Int).toNat]? =some p):foldM n (ps.take (j+1))=rB (foldM n (ps.take j)) p:=by
 unfold foldM;rw[nO h,ap1];rfl
theorem Gm {α:Type} {l:List α} {q:α→Bool} {j:Nat} {x:α} (h:l[((j:Nat):Int).toNat]? =some x) (h1:(l.take j).all q=true) (h2:q x=true):(l.take (j+1)).all q=true:=by
 rw[nO h,List.all_append,h1];simp[h2]
theorem Nt {α:Type} {l:List α} {q:α→Bool} {i:Nat} {x:α} (h:l[i]? =some x) (h2:q x=false):l.all q=false:=by
 rw[List.all_eq_false];exact⟨x,dz h,by simp[h2]⟩
theorem Sf {rs:Rows} {p:Int×Int} (h:∀x∈rs,x.length=m):∀x∈rB rs p,x.length=m:=by
 intro x hx
 unfold rB at hx
 by_cases hi:p.1.toNat<rs.length
 ·rcases aoR hx with hx|rfl
  ·exact h x hx
  ·rw[kG]
   unfold rowAt
   rw[il,dW hi]
   exact h _<|aqn hi
 ·rw[List.set_eq_of_length_le aj] at hx
  exact h x hx
theorem yU {m:Nat}:∀(ps:List (Int×Int)) (rs:Rows),(∀x∈rs,x.length=m)→∀x∈ps.foldl rB rs,x.length=m
 |[],_,h=>h
 |p::ps,rs,h=>by rw[aqx];exact yU ps _ (Sf h)
theorem pY (n:Int):(eh n).length=words n:=by unfold eh;simp
theorem TZ {ps:List (Int×Int)} {i:Nat} (h:(foldM n ps)[i]? =some x):x.length=words n:=
 yU ps (vN n) (by
  intro x hx
  unfold vN at hx
  rw[List.eq_of_mem_replicate hx,pY]) x (dz h)
theorem Ff (h:n≤4096):words n≤64:=by unfold words;omega
def iu (n:Int) (i j:Int):Int:=if kE n [i,j] then n else 0
def j9 (n:Int) (rs:Rows) (i j:Int):Rows:=if kE n [i,j] then rB rs (i,j) else []
def lG (n:Int) (i j:Int):Int:=if kE n [i,j] then 0 else 1
def eI (n:Int) (rs:Rows) (i j:Int):Bool:=kE n [i,j]&&fk (rowAt rs i) j
theorem pW {rs:Rows} (h:kE n [i,j]=true):iu n i j=n∧j9 n rs i j=rB rs (i,j)∧lG n i j=0:=by simp[iu,j9,lG,h]
theorem oG {rs:Rows} (h:kE n [i,j]=false):iu n i j=0∧j9 n rs i j=[]∧lG n i j=1:=by simp[iu,j9,lG,h]
theorem ny {α:Type} {l:List α} {i:Nat} {x y:α} (h:l[i]? =some x) (e:l[i]? =some y):x=y:=an5 (h.symm.trans e)
theorem acS:kE n [i,j]=(decide (0≤i)&&decide (i<n)&&decide (0≤j)&&decide (j<n)):=by
 rw[aoj,jo];simp[and_assoc]
end Go.Ew
namespace Go.Ew
variable {r:Row} {i:Int}
theorem Mi (h0:0≤i) (h:i<64*(r.length:Int)):jz r i=true:=by unfold jz;simp[h0,h]
theorem Pd (h:¬(0≤i∧i<64*(r.length:Int))):jz r i=false:=by unfold jz;simp;omega
theorem aaE (h:¬(0≤i∧i<64*(r.length:Int))):false=fk r i:=xK (Pd h)
theorem ZZ (h:¬(0≤i∧i<64*(r.length:Int))):r=ei r i:=Fm (Pd h)
end Go.Ew
namespace Go.Ew
open Go.RowKit Go.WideShapes Go.ChangeShapes
def xe:List Nat:=[0,1,56,2,57,49,28,3,61,58,42,50,38,29,17,4,62,47,59,36,45,43,51,22,53,39,33,30,24,18,12,5,63,55,48,27,60,41,37,16,46,35,44,21,52,32,23,11,54,26,40,15,34,20,31,10,25,14,19,9,13,8,7,6]
def fS (g:Nat) (w:aG):Prop:=∀i,i<64→w.cell? ⟨g,i,none⟩=some (.int .u8 ((xe.getD i 0:Nat):Int))
theorem fS.ext {g:Nat} {w w':aG} (h:fS g w) (e:Ext w w'):fS g w':=by
 intro i hi
 have h1:=h i hi
 rw[Below.cell e.toBelow (p:=⟨g,i,none⟩) (pQ h1)]
 exact h1
def vJ (i:Nat):BitVec 8:=BitVec.ofNat 8 (xe.getD i 0)
theorem abA:∀i<64,xe.getD i 0<64:=by decide
theorem Lj {i:Nat} (h:i<64):((vJ i).toNat:Int)=((xe.getD i 0:Nat):Int):=by
 have:=abA i h
 unfold vJ
 rw[BitVec.toNat_ofNat]
 omega
theorem fS.at_ {g:Nat} {w:aG} {M:bY} (h:fS g w) {i:Nat} (hi:i<64):gP M w ⟨g,i,none⟩ (vJ i):=by
 refine⟨[U8 (vJ i)],J,fun j v hv=>?_⟩
 cases j with
 |zero=>
  simp at hv;subst hv
  rw[show (⟨g,i,none⟩:Addr).add 0=⟨g,i,none⟩ from rfl,h i hi,U8,Lj hi]
 |succ j=>simp at hv
theorem aiv {g:Nat} {w0 w:aG} {M:bY} (h:fS g w0) (e:Ext w0 w) {i:Nat} {ad:Addr} (ha:(⟨g,0,none⟩:Addr).add (i*1)=ad) (hi:i<64):gP M w ad (vJ i):=by
 have:ad=⟨g,i,none⟩:=by
  rw[←ha,aqd]
  unfold Addr.add
  split
  ·rename_i h;rw[h]
  ·simp
 rw[this]
 exact(h.ext e).at_ hi
theorem NP {P:Program} {g:Nat} {t e:TypeId} {name:String} {D:DataW Unit} {W:aG} (hg:P.globalNamed name=some g) (ht:(P.globals[g]?).map (·.type)=some t)
  (hu:P.underlying t=some (.array 64 e)) (he:P.underlying e=some (.int .u8)) (hc:P.cellsOf e=1) (hD:D=.agg (xe.map fun k=>.lit (.int .u8 ((k:Nat):Int)))) (h:laidMetH P [(name,D)] W)
  (hp:laidMetH P [(name,D)] W↔laidMet P [(name,D)] W):fS g W:=by
 rw[hp] at h
 obtain⟨ps,⟨g0,t0,Zd,f0,p0,q0,hg0,ht0,iE,MC,_⟩,_⟩:=h
 obtain rfl:=an5 (hg.symm.trans hg0)
 obtain rfl:=an5 (ht.symm.trans ht0)
 obtain⟨xs,m,rfl,hx,hlen,hn,vj⟩:=DataW.trod_array hu MC
 intro i hi
 have h1:=vj i hi
 rw[hc,aqd,dW (by omega:i<xs.length)] at h1
 obtain⟨k,e1,e2,_⟩:=DataW.trod_int he h1
 simp only[aoI] at hx
 have h2:(DataW.agg (xe.map fun k=>DataW.lit (Lit.int .u8 ((k:Nat):Int))):DataW Unit)=.agg (xs.map (·.1)):=by rw[←hD];exact hx.1
 injection h2 with h3
 have h4:=an0 (fun l=>l[i]?) h3
 have hti:i<xe.length:=by simpa [xe] using hi
 simp only[aoa,dW hti,dW (by omega:i<xs.length),aoV,e2,aod] at h4
 injection h4 with h5
 injection h5 with h6 h7
 have h8:xe.getD i 0=xe[i]:=by rw[il,dW hti];rfl
 rw[h8,h7]
 have:=World.var?_cell hg0 iE i
 have Ay:Zd[i]? =some (.int .u8 k):=by
  have:(Zd.toList.drop i).head?=some (.int .u8 k):=by
   have h9:((Zd.toList.drop i).take 1).head?=some (.int .u8 k):=by rw[e1];rfl
   cases hq:Zd.toList.drop i with
   |nil=>rw[hq] at h9;simp at h9
   |cons a b=>rw[hq] at h9;simpa using h9
  rw[List.head?_drop] at this
  simpa using this
 rw[Ay] at this
 simpa using this
end Go.Ew
namespace Go.Ew
variable {x:bp}
def oF (x:bp):List Nat:=(List.range 64).filter fun k=>x.getLsbD k
def fF (x:bp):Nat:=(oF x).headD 64
theorem vv {p:Nat→Bool}:∀(n:Nat),(∃k<n,p k=true)→∃k,k<n∧p k=true∧(∀j,j<k→p j=false)∧∃l,(List.range n).filter p=k::l∧l=(List.range n).filter (fun i=>p i&&!decide (i=k))
 |0,⟨k,h,_⟩=>by omega
 |n+1,h=>by
  by_cases h1:∃k<n,p k=true
  ·obtain⟨k,hk,hp,hl,l,e1,e2⟩:=vv n h1
   refine⟨k,by omega,hp,hl,l++[n].filter p,?_,?_⟩
   ·rw[apq,apx,e1];rfl
   ·rw[apq,apx,←e2]
    congr 1
    have:¬n=k:=by omega
    simp[List.filter_cons,this]
  ·obtain⟨k,hk,hp⟩:=h
   have yO:k=n:=by
    apply aoK
    intro gB
    exact h1 ⟨k,by omega,hp⟩
   subst yO
   have Hf:∀j,j<k→p j=false:=by
    intro j hj
    cases hb:p j with
    |false=>rfl
    |true=>exact absurd ⟨j,hj,hb⟩ h1
   have hf:(List.range k).filter p=[]:=by
    rw[ao']
    intro j hj
    rw[an7] at hj
    simp[Hf j hj]
   have Hi:(List.range k).filter (fun i=>p i&&!decide (i=k))=[]:=by
    rw[ao']
    intro j hj
    rw[an7] at hj
    simp[Hf j hj]
   refine⟨k,by omega,hp,Hf,[],?_,?_⟩
   ·rw[apq,apx,hf];simp[hp]
   ·rw[apq,apx,Hi];simp
theorem UD {x:bp} (h:x≠0#64):∃k<64,x.getLsbD k=true:=by
 apply aoK
 intro hn
 apply h
 apply ap9
 intro i hi
 rw[BitVec.getLsbD_zero]
 cases hb:x.getLsbD i with
 |false=>rfl
 |true=>exact absurd ⟨i,hi,hb⟩ hn
theorem least (h:x≠0#64):∃l,fF x<64∧x.getLsbD (fF x)=true∧(∀j,j<fF x→x.getLsbD j=false)∧oF x=fF x::l∧l=(List.range 64).filter (fun i=>x.getLsbD i&&!decide (i=fF x)):=by
 obtain⟨k,hk,hp,hl,l,e1,e2⟩:=vv 64 (UD h)
 have hf:fF x=k:=by unfold fF oF;rw[e1];rfl
 rw[hf]
 exact⟨l,hk,hp,hl,e1,e2⟩
theorem Kb {k:Nat} (hp:x.getLsbD k=true) (hl:∀j,j<k→x.getLsbD j=false) (i:Nat):(∃j,j<i∧x.getLsbD j=true)↔k<i:=by
 constructor
 ·rintro⟨j,hj,h⟩
  rcases aqT k i with h1|h1
  ·exact h1
  ·rw[hl j aj] at h;cases h
 ·intro h;exact⟨k,h,hp⟩
theorem S5 (h:x≠0#64):x &&& -x=1#64 <<< fF x:=by
 obtain⟨l,hk,hp,hl, -, -⟩:=least h
 apply ap9
 intro i hi
 rw[aqc,BitVec.getLsbD_neg,aqF]
 simp only[Kb hp hl i]
 by_cases h1:i=fF x
 ·subst h1;simp[hp,hk]
 ·by_cases h2:i<fF x
  ·simp[hl i h2,h2]
  ·have h3:fF x<i:=by omega
   have h4:i-fF x≠0:=by omega
   cases hx:x.getLsbD i<;>simp[h2,h3,h4,hi]
theorem clear (h:x≠0#64):oF x=fF x::oF (x &&& (x-1#64)):=by
 obtain⟨l,hk,hp,hl,e1,e2⟩:=least h
 rw[e1,e2]
 congr 1
 unfold oF
 apply aqg
 intro i hi
 rw[an7] at hi
 have e:x-1#64= ~~~(-x):=by
  rw[BitVec.not_neg,BitVec.sub_eq_add_neg]
 rw[aqc,e,BitVec.getLsbD_not,BitVec.getLsbD_neg]
 simp only[Kb hp hl i]
 by_cases h1:i=fF x
 ·subst h1;simp[hp,hk]
 ·by_cases h2:i<fF x
  ·simp[hl i h2]
  ·have h3:fF x<i:=by omega
   cases hx:x.getLsbD i<;>simp[h1,h3,hi]
theorem UB:∀k<64,((1#64 <<< k*285870213051353865#64) >>> 58).toNat<64∧xe.getD ((1#64 <<< k*285870213051353865#64) >>> 58).toNat 0=k:=by decide +kernel
theorem Fb (h:x≠0#64):(((x &&& -x)*285870213051353865#64) >>> 58).toNat<64:=by
 obtain⟨l,hk, -⟩:=least h
 rw[S5 h];exact(UB _ hk).1
theorem Vb (h:x≠0#64):((vJ (((x &&& -x)*285870213051353865#64) >>> 58).toNat).toNat:Int)=((fF x:Nat):Int):=by
 obtain⟨l,hk, -⟩:=least h
 rw[Lj (Fb h),S5 h,(UB _ hk).2]
theorem G0:oF 0#64=[]:=by
 unfold oF
 rw[ao']
 intro i _
 simp
theorem EM:fF 0#64=64:=by unfold fF;rw[G0];rfl
theorem yV (x:bp):fF x≤64:=by
 by_cases h:x=0#64
 ·subst h;rw[EM];exact an3 _
 ·obtain⟨l,hk, -⟩:=least h;omega
end Go.Ew
namespace Go.Ew
def ql (j:Nat) (x:bp):aA:=(oF x).map fun k=>(j:Int)*64+((k:Nat):Int)
def rL (r:Row) (j:Nat):aA:=(List.range j).flatMap fun i=>ql i (r.getD i 0#64)
def cY (r:Row):aA:=rL r r.length
theorem QR (j:Nat):ql j 0#64=[]:=by unfold ql;rw[G0];rfl
theorem QS {j:Nat} {x:bp} (h:x≠0#64):ql j x=((j:Int)*64+((fF x:Nat):Int))::ql j (x &&& (x-1#64)):=by
 unfold ql;rw[clear h];rfl
theorem L9 (x:bp):(oF x).length≤64:=by
 unfold oF
 exact Nat.le_trans (ao3 _ _)<|by simp
theorem CY (j:Nat) (x:bp):(ql j x).length≤64:=by unfold ql;rw[aoo];exact L9 x
theorem zo (r:Row) (j:Nat):rL r (j+1)=rL r j++ql j (r.getD j 0#64):=by
 unfold rL;rw[apq,apP];simp
theorem vO (r:Row):∀j,(rL r j).length≤64*j
 |0=>by simp[rL]
 |j+1=>by
  have:=vO r j
  have:=CY j<|r.getD j 0#64
  rw[zo,fJ];omega
theorem Rx {x:bp} (h:x≠0#64):(oF (x &&& (x-1#64))).length<(oF x).length:=by
 rw[clear h];simp
theorem nf (r:Row):(cY r).length≤64*r.length:=vO r _
end Go.Ew
namespace Go.Ew
variable {m j:Nat} {a b z:Row}
def tk (a b:Row) (i:Nat):bp:=a.getD i 0#64 ||| b.getD i 0#64
def jK (a b:Row):Row:=(List.range (max a.length b.length)).map (tk a b)
theorem SS (a b:Row) (i:Nat):tk a b i=tk b a i:=BitVec.or_comm _ _
theorem LR (a b:Row):jK a b=jK b a:=by
 unfold jK
 rw[Nat.max_comm]
 exact aoP fun i _=>SS a b i
theorem Bb (a b:Row):(jK a b).length=max a.length b.length:=by unfold jK;simp
def qe (m:Nat) (a b z:Row) (j:Nat):Row:=(List.range m).map fun i=>if i<j then tk a b i else z.getD i 0#64
theorem zn (m:Nat) (a b z:Row) (j:Nat):(qe m a b z j).length=m:=by unfold qe;simp
theorem CM (a b z:Row):z=qe z.length a b z 0:=by
 apply apE
 ·rw[zn]
 ·intro i h1 h2
  unfold qe
  simp[il,h1]
theorem Ba {x:bp} (h:(qe m a b z j)[((j:Nat):Int).toNat]? =some x):x=z.getD j 0#64:=by
 rw[dq] at h
 obtain⟨h1,h2⟩:=dJ.1 h
 rw[←h2]
 unfold qe
 simp
theorem FC {v:bp} (hv:v=tk a b j):(qe m a b z j).set j v=qe m a b z (j+1):=by
 apply apE
 ·simp[zn]
 ·intro i h1 h2
  have hm:i<m:=by rw[zn] at h2;exact h2
  rw[aqP]
  unfold qe
  simp only[List.getElem_map,aqC]
  by_cases JL:j=i
  ·subst JL;simp[hv]
  ·have:(i<j+1)↔(i<j):=by omega
   simp[JL,this]
theorem xo (hm:m=max a.length b.length) (h:∀i,j≤i→i<m→z.getD i 0#64=tk a b i):qe m a b z j=jK a b:=by
 unfold qe jK
 subst hm
 apply aoP
 intro i hi
 rw[an7] at hi
 split
 ·rfl
 ·exact h i aj hi
theorem yA {i:Nat} (h:b.length≤i):a.getD i 0#64=tk a b i:=by
 unfold tk;rw[sr h,BitVec.or_zero]
def KG (r:Row) (n:Nat):aA:=((List.range n).filter fun k=>fk r ((k:Nat):Int)).map fun k=>((k:Nat):Int)
theorem nQ (m k:Nat):List.range (m+k)=List.range m++(List.range k).map (fun i=>m+i):=by
 apply apE
 ·simp
 ·intro i h1 h2
  simp only[aqC]
  by_cases h:i<m
  ·rw[List.getElem_append_left (by simpa using h)];simp
  ·rw[List.getElem_append_right (by simpa using h)];simp;omega
theorem vn (r:Row) (j k:Nat) (hk:k<64):fk r (((64*j+k:Nat):Nat):Int)=(r.getD j 0#64).getLsbD k:=by
 unfold fk
 rw[dq,show (64*j+k)/64=j from by omega,show (64*j+k)%64=k from by omega]
 simp only[Bool.and_eq_right_iff_imp,an2]
 intro _;omega
theorem G2 (r:Row):∀j,KG r (64*j)=rL r j
 |0=>rfl
 |j+1=>by
  rw[zo,←G2 r j,show 64*(j+1)=64*j+64 from by omega]
  unfold KG ql oF
  rw[nQ,apx,api]
  congr 1
  rw[List.filter_map,aqh]
  have e:(List.range 64).filter ((fun k=>fk r ((k:Nat):Int))∘fun i=>64*j+i)=(List.range 64).filter fun k=>(r.getD j 0#64).getLsbD k:=by
   apply aqg
   intro k hk
   rw[an7] at hk
   exact vn r j k hk
  rw[e]
  apply aoP
  intro k _
  show ((64*j+k:Nat):Int)=(j:Int)*64+((k:Nat):Int)
  omega
theorem S6 (r:Row):KG r (64*r.length)=cY r:=G2 r r.length
theorem S1 {x:bp} {i:Int}:i∈ql j x↔∃k<64,x.getLsbD k=true∧i=(j:Int)*64+((k:Nat):Int):=by
 unfold ql oF
 simp only[aoE,aoi,an7]
 constructor
 ·rintro⟨k,⟨h1,h2⟩,rfl⟩;exact⟨k,h1,h2,rfl⟩
 ·rintro⟨k,h1,h2,rfl⟩;exact⟨k,⟨h1,h2⟩,rfl⟩
theorem u7 {r:Row} {i:Int}:i∈cY r↔fk r i=true:=by
 unfold cY rL
 simp only[arf,an7,S1]
 constructor
 ·rintro⟨j,hj,k,hk,hx,rfl⟩
  have:=vn r j k hk
  rw[show (j:Int)*64+((k:Nat):Int)=((64*j+k:Nat):Int) from by omega,this];exact hx
 ·intro h
  have hi:=Q7 h
  unfold jz at hi
  simp only[an2] at hi
  have hw:=vn r (i.toNat/64) (i.toNat%64) aj
  rw[show (((64*(i.toNat/64)+i.toNat%64:Nat):Nat):Int)=i from by omega,h] at hw
  exact⟨i.toNat/64,by omega,i.toNat%64,by omega,hw.symm,by omega⟩
end Go.Ew
namespace Go.Ew
theorem uG (r:Row) {i:Int} (h:i<0):fk r i=false:=(aaE aj).symm
theorem uH (r:Row) (n:Nat):fk r ((n:Nat):Int)=(r.getD (n/64) 0#64).getLsbD (n%64):=by
 unfold fk;rw[dq];simp
theorem Da {r:Row} {i k:Int}:fk (ei r i) k=(fk r k||(decide (k=i)&&jz r i)):=by
 cases h:jz r i with
 |false=>rw[←Fm h];simp
 |true=>
  by_cases hk:k=i
  ·subst hk;rw[Kv,h];simp
  ·simp only[hk,decide_false,aq3,apy]
   by_cases cC:k<0
   ·rw[uG _ cC,uG _ cC]
   ·obtain⟨n,rfl⟩:∃n:Nat,k=((n:Nat):Int):=⟨k.toNat,by omega⟩
    have h':=h
    unfold jz at h';simp only[an2] at h'
    rw[uH,uH]
    by_cases hw:n/64<r.length
    ·rw[Lv h _ hw]
     split
     ·rename_i e
      rw[GL _ _ _ aj aj]
      have:¬n%64=i.toNat%64:=by omega
      simp[this]
     ·rfl
    ·rw[sr (by rw[kG];omega),sr aj]
theorem Z5 {a b:Row} (hl:a.length=b.length) (h:∀n:Nat,fk a ((n:Nat):Int)=fk b ((n:Nat):Int)):a=b:=by
 apply apE hl
 intro j h1 h2
 apply ap9
 intro k hk
 have e1:=vn a j k hk
 have e2:=vn b j k hk
 rw[h,e2,il,il,dW h1,dW h2] at e1
 simpa using e1.symm
theorem wg:∀(l:aA) (r:Row),(l.foldl ei r).length=r.length
 |[],_=>rfl
 |i::l,r=>by rw[aqx,wg l,kG]
theorem AA:∀(l:aA) (r:Row) (k:Int),fk (l.foldl ei r) k=(fk r k||(l.any fun i=>decide (k=i)&&jz r i))
 |[],r,k=>by simp
 |i::l,r,k=>by
  rw[aqx,AA l,Da]
  simp only[Pc,List.any_cons,Bool.or_assoc]
theorem FF (n k:Int):fk (eh n) k=false:=by
 by_cases hk:k<0
 ·exact uG _ hk
 ·obtain⟨m,rfl⟩:∃m:Nat,k=((m:Nat):Int):=⟨k.toNat,by omega⟩
  rw[uH]
  unfold eh
  rw[il]
  by_cases h:m/64<words n
  ·simp[apO,h]
  ·simp[apO,h]
theorem aaD (a b:Row) (i:Int):fk (jK a b) i=(fk a i||fk b i):=by
 by_cases hk:i<0
 ·rw[uG _ hk,uG _ hk,uG _ hk];rfl
 ·obtain⟨n,rfl⟩:∃n:Nat,i=((n:Nat):Int):=⟨i.toNat,by omega⟩
  rw[uH,uH,uH]
  by_cases h:n/64<max a.length b.length
  ·have:(jK a b).getD (n/64) 0#64=tk a b (n/64):=by
    rw[il,dW (by rw[Bb];exact h)]
    unfold jK
    simp
   rw[this,tk,BitVec.getLsbD_or]
  ·rw[sr (by rw[Bb];omega),sr aj,sr aj];simp
end Go.Ew
namespace Go.Ew
open Go.RowKit
variable {t T kt:TypeId} {k:IntKind} {a:Int} {w:aG} {r:Nat}
theorem At.s1 {α β:Type} [GT α] [GT β] {M:bY} {w:aG} {ad:Addr} {x:α×β} (h:At M w ad x):At M w (ad.add (GT.size α)) x.2:=h.snd
theorem At.s2 {α β γ:Type} [GT α] [GT β] [GT γ] {M:bY} {w:aG} {ad:Addr} {x:α×β×γ} (h:At M w ad x):At M w (ad.add (GT.size α+GT.size β)) x.2.2:=by have h_:=h.s1.snd;rwa [add_add] at h_
theorem At.s3 {α β γ δ:Type} [GT α] [GT β] [GT γ] [GT δ] {M:bY} {w:aG} {ad:Addr} {x:α×β×γ×δ} (h:At M w ad x):At M w (ad.add (GT.size α+GT.size β+GT.size γ)) x.2.2.2:=by have h_:=h.s2.snd;rwa [add_add] at h_
theorem At.s4 {α β γ δ ε:Type} [GT α] [GT β] [GT γ] [GT δ] [GT ε] {M:bY} {w:aG} {ad:Addr} {x:α×β×γ×δ×ε} (h:At M w ad x):At M w (ad.add (GT.size α+GT.size β+GT.size γ+GT.size δ)) x.2.2.2.2:=by have h_:=h.s3.snd;rwa [add_add] at h_
theorem At.s5 {α β γ δ ε ζ:Type} [GT α] [GT β] [GT γ] [GT δ] [GT ε] [GT ζ] {M:bY} {w:aG} {ad:Addr} {x:α×β×γ×δ×ε×ζ} (h:At M w ad x):At M w (ad.add (GT.size α+GT.size β+GT.size γ+GT.size δ+GT.size ε)) x.2.2.2.2.2:=by have h_:=h.s4.snd;rwa [add_add] at h_
theorem At.s6 {α β γ δ ε ζ η:Type} [GT α] [GT β] [GT γ] [GT δ] [GT ε] [GT ζ] [GT η] {M:bY} {w:aG} {ad:Addr} {x:α×β×γ×δ×ε×ζ×η} (h:At M w ad x):At M w (ad.add (GT.size α+GT.size β+GT.size γ+GT.size δ+GT.size ε+GT.size ζ)) x.2.2.2.2.2.2:=by have h_:=h.s5.snd;rwa [add_add] at h_
theorem gP.s1 {α β:Type} [GT α] [GT β] {M:bY} {w:aG} {ad:Addr} {x:α×β} (h:gP M w ad x):gP M w (ad.add (GT.size α)) x.2:=h.snd
theorem gP.s2 {α β γ:Type} [GT α] [GT β] [GT γ] {M:bY} {w:aG} {ad:Addr} {x:α×β×γ} (h:gP M w ad x):gP M w (ad.add (GT.size α+GT.size β)) x.2.2:=by have h_:=h.s1.snd;rwa [add_add] at h_
theorem gP.s3 {α β γ δ:Type} [GT α] [GT β] [GT γ] [GT δ] {M:bY} {w:aG} {ad:Addr} {x:α×β×γ×δ} (h:gP M w ad x):gP M w (ad.add (GT.size α+GT.size β+GT.size γ)) x.2.2.2:=by have h_:=h.s2.snd;rwa [add_add] at h_
theorem gP.s4 {α β γ δ ε:Type} [GT α] [GT β] [GT γ] [GT δ] [GT ε] {M:bY} {w:aG} {ad:Addr} {x:α×β×γ×δ×ε} (h:gP M w ad x):gP M w (ad.add (GT.size α+GT.size β+GT.size γ+GT.size δ)) x.2.2.2.2:=by have h_:=h.s3.snd;rwa [add_add] at h_
theorem gP.s5 {α β γ δ ε ζ:Type} [GT α] [GT β] [GT γ] [GT δ] [GT ε] [GT ζ] {M:bY} {w:aG} {ad:Addr} {x:α×β×γ×δ×ε×ζ} (h:gP M w ad x):gP M w (ad.add (GT.size α+GT.size β+GT.size γ+GT.size δ+GT.size ε)) x.2.2.2.2.2:=by have h_:=h.s4.snd;rwa [add_add] at h_
theorem gP.s6 {α β γ δ ε ζ η:Type} [GT α] [GT β] [GT γ] [GT δ] [GT ε] [GT ζ] [GT η] {M:bY} {w:aG} {ad:Addr} {x:α×β×γ×δ×ε×ζ×η} (h:gP M w ad x):gP M w (ad.add (GT.size α+GT.size β+GT.size γ+GT.size δ+GT.size ε+GT.size ζ)) x.2.2.2.2.2.2:=by have h_:=h.s5.snd;rwa [add_add] at h_
section
variable {P:Program}
def I2 (P:Program) (t:TypeId) (v u:Value) (r:Bool):Prop:=(∀w,(isAgg t).run P w=.ok false w)∧∀d w,(Op.equalIn (d+1) t v u).run P w=.ok r w
theorem Be {d:TypeDesc} (h:P.underlying t=some d) (hd:(match d with| .struct _| .array _ _=>false|_=>true)=true) (w:aG):(isAgg t).run P w=.ok false w:=by
 cases d<;>first|(cases hd;done)|simp[isAgg,underlying,h]
theorem QO {kk:IntKind} {b:Int} (h:P.underlying t=some (.int k)):I2 P t (.int kk a) (.int kk b) (decide (a=b)):=
 ⟨Be h rfl,fun d w=>by rw[run_equalIn_int w d t kk k a b h];congr 1⟩
theorem afX {a b:Bool} (h:P.underlying t=some .bool):I2 P t (.bool a) (.bool b) (decide (a=b)):=
 ⟨Be h rfl,fun d w=>by rw[run_equalIn_bool' w d t a b h];congr 1⟩
theorem afW {a b:bh} (h:P.underlying t=some .string):I2 P t (.string a) (.string b) (decide (a=b)):=
 ⟨Be h rfl,fun d w=>by
  have e:(a.toList==b.toList)=decide (a=b):=by
   rw[←beq_toListBytes,aoj]
   rcases a with ⟨x⟩
   rcases b with ⟨y⟩
   show (x==y)=true↔_
   simp
  rw[run_equalIn_string w d t a b h,e]⟩
theorem mM {cs:Array Value} {off:Nat} {v:Value} (h:∀w,(isAgg t).run P w=.ok false w) (hc:cs[off]? =some v) (w:aG):(part t cs off).run P w=.ok v w:=by
 simp[part,h w,hc]
def ng (P:Program) (t:TypeId):Option Nat:=match P.underlying t with|some (.int _)=>some 0|some .bool=>some 1|some .string=>some 2|_=>none
def Rp (P:Program) (T:TypeId):List (Option (Nat×Nat)):=(P.fieldsOf T).toList.map fun f=>if f.name= "_" then none else (ng P f.type).map fun k=>(f.offset,k)
def DI (xs ys:Array Value):List (Option (Nat×Nat))→List Bool→Prop
 |[],[]=>True
 |some (o,0)::ks,r::rs=>(∃kk a b,xs[o]? =some (.int kk a)∧ys[o]? =some (.int kk b)∧r=decide (a=b))∧DI xs ys ks rs
 |some (o,1)::ks,r::rs=>(∃a b,xs[o]? =some (.bool a)∧ys[o]? =some (.bool b)∧r=decide (a=b))∧DI xs ys ks rs
 |some (o,2)::ks,r::rs=>(∃a b,xs[o]? =some (.string a)∧ys[o]? =some (.string b)∧r=decide (a=b))∧DI xs ys ks rs
 |_,_=>False
theorem G4 (h:ng P t=some 0):∃k,P.underlying t=some (.int k):=by
 unfold ng at h;split at h<;>simp_all
theorem QN (h:ng P t=some 1):P.underlying t=some .bool:=by
 unfold ng at h;split at h<;>simp_all
theorem QM (h:ng P t=some 2):P.underlying t=some .string:=by
 unfold ng at h;split at h<;>simp_all
theorem Ua {xs ys:Array Value}:∀{fs:List Field} {rs:List Bool} (d:Nat) (w:aG),DI xs ys (fs.map fun f=>if f.name= "_" then none else (ng P f.type).map fun k=>(f.offset,k)) rs→(Op.eqFields (d+1) xs ys fs).run P w=.ok (rs.all id) w
 |[],[],d,w,_=>by simp[Op.eqFields]
 |[],_::_,d,w,h=>by simp[DI] at h
 |f::fs,rs,d,w,h=>by
  rw[aoq] at h
  by_cases hn:f.name= "_"
  ·rw[an4 hn] at h;cases rs<;>simp[DI] at h
  ·rw[an8 hn] at h
   have key:∀(a b:Value) (r:Bool) (X0:List Bool),I2 P f.type a b r→xs[f.offset]? =some a→ys[f.offset]? =some b→
     DI xs ys (fs.map fun f=>if f.name= "_" then none else (ng P f.type).map fun k=>(f.offset,k)) X0→(Op.eqFields (d+1) xs ys (f::fs)).run P w=.ok ((r::X0).all id) w:=by
    intro a b r X0 hl ha hb ht
    have ih:=Ua d w ht
    simp only[Op.eqFields,aqv,hn,not_false_eq_true,apG,Sem.run_bind,mM hl.1 ha w,mM hl.1 hb w,hl.2 d w,Result.andThen_ok]
    cases r
    ·simp
    ·simp[ih]
   cases hk:ng P f.type with
   |none=>rw[hk] at h;cases rs<;>simp[DI] at h
   |some k=>
    rw[hk,aoV] at h
    cases rs with
    |nil=>simp[DI] at h
    |cons r X0=>
     match k,hk,h with
     |0,hk,⟨⟨kk,a,b,ha,hb,hr⟩,ht⟩=>
      obtain⟨q,hq⟩:=G4 hk
      rw[hr];exact key _ _ _ _ (QO hq) ha hb ht
     |1,hk,⟨⟨a,b,ha,hb,hr⟩,ht⟩=>rw[hr];exact key _ _ _ _ (afX (QN hk)) ha hb ht
     |2,hk,⟨⟨a,b,ha,hb,hr⟩,ht⟩=>rw[hr];exact key _ _ _ _ (afW (QM hk)) ha hb ht
     |(n+3),hk,h=>simp[DI] at h
structure P1 (P:Program) (T:TypeId) (ks:List (Option (Nat×Nat))):Prop where
 u:P.underlying T=some (.struct (P.fieldsOf T))
 s:P.stoodInHeld T=false
 g:P.eqGuardType P.depth T=false
 k:Rp P T=ks
theorem P1.eq {ks:List (Option (Nat×Nat))} (F:P1 P T ks) {xs ys:Array Value} {rs:List Bool} (h:DI xs ys ks rs) (d:Nat) (w:aG):(Op.equalIn (d+2) T (.agg xs) (.agg ys)).run P w=.ok (rs.all id) w:=by
 rw[run_equalIn_agg w (d+1) T xs ys F.u F.s]
 exact Ua d w<|by rw[←F.k] at h;exact h
structure Va (P:Program) (T:TypeId):Prop where
 h:∃e k i,P.underlying T=some (.array 2 e)∧P.underlying e=some (.int k)∧P.info? e=some i∧P.cellsOf e=1
 g:P.eqGuardType P.depth T=false
theorem arF {e:TypeId} (h1:P.underlying T=some (.array 2 e)) (h2:P.underlying e=some (.int k)) (h3:(P.info? e).isSome=true) (h4:P.cellsOf e=1) (g:P.eqGuardType P.depth T=false):Va P T:=by
 obtain⟨i,hi⟩:=aos.1 h3
 exact⟨⟨e,k,i,h1,h2,hi,h4⟩,g⟩
theorem Va.eq (F:Va P T) {k1 k2:IntKind} {b c d:Int} (m:Nat) (w:aG):(Op.equalIn (m+2) T (.agg #[.int k1 a,.int k2 b]) (.agg #[.int k1 c,.int k2 d])).run P w=.ok (decide (a=c)&&decide (b=d)) w:=by
 obtain⟨e,k,i,h1,h2,h3,h4⟩:=F.h
 have l1:I2 P e (.int k1 a) (.int k1 c) (decide (a=c)):=QO h2
 have l2:I2 P e (.int k2 b) (.int k2 d) (decide (b=d)):=QO h2
 have p1:(part e #[.int k1 a,.int k2 b] 0).run P w=.ok (.int k1 a) w:=mM l1.1 J w
 have p2:(part e #[.int k1 c,.int k2 d] 0).run P w=.ok (.int k1 c) w:=mM l1.1 J w
 have p3:(part e #[.int k1 a,.int k2 b] 1).run P w=.ok (.int k2 b) w:=mM l1.1 J w
 have p4:(part e #[.int k1 c,.int k2 d] 1).run P w=.ok (.int k2 d) w:=mM l1.1 J w
 rw[run_equalIn_array w (m+1) _ _ h1 h3,h4,show List.range 2=[0,1] from rfl]
 simp only[Op.eqItems,Sem.run_bind,Sem.run_ite,Sem.run_pure,aqd,p1,p2,p3,p4,l1.2 m w,l2.2 m w,Result.andThen_ok]
 by_cases e1:a=c<;>by_cases e2:b=d<;>simp[e1,e2]
section
variable {n:Nat} {ops:Array Oper} {f:aO} {w:aG} {K:aO→aG→Prop} {x y c:Operand} {d:Nat} {ty T T2:TypeId} {ps:String} {af:Array Edge}
end
abbrev K2 (p:Int×Int):Value:=.agg #[.int .i64 p.1,.int .i64 p.2]
abbrev KV:=List ((Int×Int)×Int)
structure DH (P:Program) (kt:TypeId):Prop where
 u:∃d,P.underlying kt=some d
 eq:∀a b w,(Op.equal kt (K2 a) (K2 b)).run P w=.ok (decide (a=b)) w
 B_:∀e a w,(Instr.checkKey e 10000 kt (K2 a)).run P w=.ok () w
theorem LO (a b:Int×Int):(decide (a.1=b.1)&&decide (a.2=b.2))=decide (a=b):=by
 rw[aoj];simp[Prod.ext_iff]
theorem BC {kk:IntKind} (h:P.underlying t=some (.int k)) (e:Bool) (m:Nat) (w:aG):(Instr.checkKey e (m+1) t (.int kk a)).run P w=.ok () w:=by
 simp[Instr.checkKey,underlying,h]
theorem agP (h:Rp P T=[some (0,0),some (1,0)]):∃f g,(P.fieldsOf T).toList=[f,g]∧f.name≠ "_"∧g.name≠ "_"∧f.offset=0∧g.offset=1∧(∃k,P.underlying f.type=some (.int k))∧∃k,P.underlying g.type=some (.int k):=by
 unfold Rp at h
 rcases hl:(P.fieldsOf T).toList with _|⟨f,_|⟨g,_|⟨q,r⟩⟩⟩
 ·rw[hl] at h;simp at h
 ·rw[hl] at h;simp at h
 ·rw[hl] at h
  simp only[aoq,List.map_nil,ao9,and_true] at h
  obtain⟨h1,h2⟩:=h
  have side:∀(q:Field) (o:Nat),(if q.name= "_" then none else (ng P q.type).map fun k=>(q.offset,k))=some (o,0)→q.name≠ "_"∧q.offset=o∧∃k,P.underlying q.type=some (.int k):=by
   intro q o hq
   split at hq
   ·cases hq
   ·rename_i hn
    obtain⟨k,hk,he⟩:=aop.1 hq
    simp only[aoI] at he
    obtain⟨rfl,rfl⟩:=he
    exact⟨hn,J,G4 hk⟩
  obtain⟨a1,a2,a3⟩:=side f 0 h1
  obtain⟨b1,b2,b3⟩:=side g 1 h2
  exact⟨f,g,J,a1,b1,a2,b2,a3,b3⟩
 ·rw[hl] at h;simp at h
theorem zr (F:P1 P kt [some (0,0),some (1,0)]):DH P kt where
 u:=⟨_,F.u⟩
 eq a b w:=by
  have h:=F.eq (xs:=#[.int .i64 a.1,.int .i64 a.2]) (ys:=#[.int .i64 b.1,.int .i64 b.2]) (rs:=[decide (a.1=b.1),decide (a.2=b.2)]) ⟨⟨_,_,_,J,J,J⟩,⟨_,_,_,J,J,J⟩,trivial⟩ 9998 w
  rw[show Op.equal kt (K2 a) (K2 b)=Op.equalIn (9998+2) kt (K2 a) (K2 b) from rfl,h,←LO]
  simp
 B_ e a w:=by
  obtain⟨f,g,hl,h1,h2,h3,h4,⟨k1,h5⟩,⟨k2,h6⟩⟩:=agP F.k
  have p1:(part f.type #[.int .i64 a.1,.int .i64 a.2] 0).run P w=.ok (.int .i64 a.1) w:=mM (Be h5 J) J w
  have p2:(part g.type #[.int .i64 a.1,.int .i64 a.2] 1).run P w=.ok (.int .i64 a.2) w:=mM (Be h6 J) J w
  have c1:=BC (P:=P) (kk:=.i64) (a:=a.1) h5 e 9998 w
  have c2:=BC (P:=P) (kk:=.i64) (a:=a.2) h6 e 9998 w
  show (Instr.checkKey e (9999+1) kt (.agg #[.int .i64 a.1,.int .i64 a.2])).run P w=_
  rw[show (9999:Nat)=9998+1 from rfl]
  generalize 9998=q at c1 c2 ⊢
  unfold Instr.checkKey
  simp only[Sem.run_bind,run_underlying F.u,Result.andThen_ok]
  rw[←Array.forIn_toList,hl]
  simp only[List.forIn_cons,List.forIn_nil,aqv,h1,h2,h3,h4,not_false_eq_true,apG,Sem.run_bind,p1,p2,Result.andThen_ok,Sem.run_pure,c1,c2]
theorem QP (F:Va P kt):DH P kt where
 u:=by obtain⟨e,k,i,h1,_⟩:=F.h;exact⟨_,h1⟩
 eq a b w:=by rw[show Op.equal kt (K2 a) (K2 b)=Op.equalIn (9998+2) kt (K2 a) (K2 b) from rfl,F.eq 9998 w,LO]
 B_ e a w:=by
  obtain⟨t,k,i,h1,h2,h3,h4⟩:=F.h
  have p1:(part t #[.int .i64 a.1,.int .i64 a.2] 0).run P w=.ok (.int .i64 a.1) w:=mM (Be h2 J) J w
  have p2:(part t #[.int .i64 a.1,.int .i64 a.2] 1).run P w=.ok (.int .i64 a.2) w:=mM (Be h2 J) J w
  have c1:=BC (P:=P) (kk:=.i64) (a:=a.1) h2 e 9998 w
  have c2:=BC (P:=P) (kk:=.i64) (a:=a.2) h2 e 9998 w
  show (Instr.checkKey e (9999+1) kt (.agg #[.int .i64 a.1,.int .i64 a.2])).run P w=_
  have hs:(sizeOf t).run P w=.ok 1 w:=by rw[run_sizeOf w h3,h4]
  rw[show (9999:Nat)=9998+1 from rfl]
  generalize 9998=q at c1 c2 ⊢
  unfold Instr.checkKey
  simp only[Sem.run_bind,run_underlying h1,Result.andThen_ok,Std.Legacy.Range.forIn_eq_forIn_range',Std.Legacy.Range.size,aqR,Nat.add_one_sub_one,Nat.div_one]
  rw[show List.range' 0 2=[0,1] from rfl]
  simp only[List.forIn_cons,List.forIn_nil,Sem.run_bind,hs,p1,p2,aqA,Nat.one_mul,Result.andThen_ok,Sem.run_pure,c1,c2]
theorem get_map {es:Array MapEntry} {clock:Nat} (hb:w.heap[r]? =some (.map es clock)):(getObj r).run P w=.ok (.map es clock) w:=by
 simp[getObj,Sem.run,hb]
theorem DX {es:Array MapEntry} {clock:Nat} (o:Obj) (hb:w.heap[r]? =some (.map es clock)):(setObj r o).run P w=.ok () {w with heap:=w.heap.setIfInBounds r o}:=by
 simp[setObj,Sem.run,hb]
theorem A0 {o o':Obj} (hb:w.heap[r]? =some o):(w.heap.setIfInBounds r o')[r]? =some o'∧∀r',r'≠r→(w.heap.setIfInBounds r o')[r']? =w.heap[r']?:=by
 have ef:r<w.heap.size:=(aor.1 hb).1
 exact⟨by simp[ef],fun r' gB=>by simp[Ne.symm gB]⟩
def getM:KV→Int×Int→Option Int
 |[],_=>none
 |x::xs,k=>if k=x.1 then some x.2 else getM xs k
def jx:KV→Int×Int→Int→KV
 |[],k,v=>[(k,v)]
 |x::xs,k,v=>if k=x.1 then (k,v)::xs else x::jx xs k v
theorem WS (m:KV) (k k':Int×Int) (v:Int):getM (jx m k v) k'=if k'=k then some v else getM m k':=by
 induction m with
 |nil=>simp[jx,getM]
 |cons x xs ih=>
  unfold jx
  by_cases h:k=x.1
  ·subst h
   simp only[apG,getM]
   by_cases h':k'=x.1<;>simp[h']
  ·rw[an8 h]
   simp only[getM,ih]
   by_cases h':k'=x.1
   ·rw[an4 h',an4 h',an8 (by rw[h'];exact fun e=>h e.symm)]
   ·rw[an8 h',an8 h']
def pB:KV→Int×Int→Nat→Option (Nat×Value)
 |[],_,_=>none
 |x::xs,k,i=>if k=x.1 then some (i,.int .i64 x.2) else pB xs k (i+1)
theorem JU:∀(m:KV) (k:Int×Int) (i:Nat),(pB m k i).map (·.2)=(getM m k).map fun v=>Value.int .i64 v
 |[],_,_=>rfl
 |x::xs,k,i=>by
  unfold pB getM
  split
  ·rfl
  ·exact JU xs k<|i+1
def kA (es:List MapEntry) (m:KV):Prop:=es.map (fun e=>(e.key,e.val))=m.map fun x=>(K2 x.1,Value.int .i64 x.2)
theorem PV {kt:TypeId} (F:DH P kt) (k:Int×Int) (w:aG):∀(m:KV) (es:List MapEntry) (i:Nat),kA es m→(Instr.findAsking kt (K2 k) es i).run P w=.ok (pB m k i) w
 |[],es,i,h=>by
  have:es=[]:=by simpa [kA] using h
  subst this;simp[Instr.findAsking,pB]
 |x::xs,es,i,h=>by
  match es,h with
  |e::es,h=>
   simp only[kA,aoq,ao9,aoI] at h
   obtain⟨⟨h1,h2⟩,h3⟩:=h
   have ih:=PV F k w xs es (i+1) h3
   by_cases hk:k=x.1
   ·simp[Instr.findAsking,pB,h1,h2,F.eq,hk]
   ·simp[Instr.findAsking,pB,h1,h2,F.eq,hk,ih]
  |[],h=>simp[kA] at h
theorem EP (d:TypeDesc) (cs:Array Value) (e:MapEntry) (es:List MapEntry) (i:Nat):Instr.findNow d (.agg cs) (e::es) i=none:=by
 have:Instr.sameNow d (.agg cs) e.key=none:=by
  cases d<;>cases e.key<;>rfl
 simp[Instr.findNow,this]
theorem MW {kt:TypeId} (F:DH P kt) (k:Int×Int) (w:aG) {m:KV} {es:List MapEntry} (h:kA es m):(Instr.findKey kt (K2 k) es).run P w=.ok (pB m k 0) w:=by
 obtain⟨d,hd⟩:=F.u
 cases es with
 |nil=>
  have:m=[]:=by simpa [kA] using h.symm
  subst this
  simp[Instr.findKey,run_underlying hd,Result.andThen,Instr.findNow,pB]
 |cons e es=>
  have h0:Instr.findNow d (K2 k) (e::es) 0=none:=EP d _ e es 0
  simp[Instr.findKey,run_underlying hd,Result.andThen,h0,PV F k w m _ 0 h]
theorem HD:∀(m:KV) (es:List MapEntry) (k:Int×Int) (i j:Nat) (v:Value),kA es m→pB m k i=some (j,v)→∃q e,j=i+q∧es[q]? =some e∧e.key=K2 k∧∀(c:Nat) (u:Int),kA (es.modify q fun e=>{e with key:=K2 k,val:=.int .i64 u}) (jx m k u)
 |[],_,_,_,_,_,_,h=>by cases h
 |x::xs,es,k,i,j,v,hr,h=>by
  match es,hr with
  |[],hr=>simp[kA] at hr
  |e::es,hr=>
   simp only[kA,aoq,ao9,aoI] at hr
   obtain⟨⟨h1,h2⟩,h3⟩:=hr
   unfold pB at h
   split at h
   ·rename_i hk
    simp only[aod,aoI] at h
    refine⟨0,e,h.1.symm,J,by rw[h1,hk],fun c u=>?_⟩
    unfold jx
    rw[an4 hk]
    simp[kA,h3]
   ·rename_i hk
    obtain⟨q,e',JC,nC,EE,ED⟩:=HD xs es k (i+1) j v h3 h
    refine⟨q+1,e',by omega,by simpa using nC,EE,fun c u=>?_⟩
    have:=ED c u
    unfold jx
    rw[an8 hk]
    simp only[kA,List.modify_succ_cons,aoq,ao9,aoI]
    exact⟨⟨h1,h2⟩,this⟩
theorem HE:∀(m:KV) (es:List MapEntry) (k:Int×Int) (i:Nat),kA es m→pB m k i=none→∀(c:Nat) (u:Int),kA (es++[⟨K2 k,.int .i64 u,c⟩]) (jx m k u)
 |[],es,k,_,hr,_,c,u=>by
  have:es=[]:=by simpa [kA] using hr
  subst this;simp[kA,jx]
 |x::xs,es,k,i,hr,h,c,u=>by
  match es,hr with
  |[],hr=>simp[kA] at hr
  |e::es,hr=>
   simp only[kA,aoq,ao9,aoI] at hr
   obtain⟨⟨h1,h2⟩,h3⟩:=hr
   unfold pB at h
   split at h
   ·cases h
   ·rename_i hk
    have:=HE xs es k (i+1) h3 h c u
    unfold jx
    rw[an8 hk]
    simp only[kA,aqp,aoq,ao9,aoI]
    exact⟨⟨h1,h2⟩,this⟩
def cb (b:Nat) (m:KV):Item:=
 ⟨some b,fun _ w=>∃es clock,w.heap[b]? =some (.map es clock)∧kA es.toList m∧∀x∈m,aK x.2,fun h _ hb=>by
  obtain⟨es,c,h1,h2⟩:=h
  exact⟨es,c,(hb b rfl).trans h1,h2⟩⟩
theorem aaI {m:KV} (h:∀x∈m,aK x.2) {k:Int×Int} {v:Int} (hv:getM m k=some v):aK v:=by
 induction m with
 |nil=>cases hv
 |cons x xs ih=>
  unfold getM at hv
  split at hv
  ·cases hv;exact h x (by simp)
  ·exact ih (fun y hy=>h y<|by simp[hy]) hv
theorem OL {m:KV} (h:∀x∈m,aK x.2) (k:Int×Int) {v:Int} (hv:aK v):∀x∈jx m k v,aK x.2:=by
 induction m with
 |nil=>intro x hx;simp[jx] at hx;subst hx;exact hv
 |cons y ys ih=>
  intro x hx
  unfold jx at hx
  split at hx
  ·rcases aoh.1 hx with rfl|hx
   ·exact hv
   ·exact h x<|by simp[hx]
  ·rcases aoh.1 hx with rfl|hx
   ·exact h x<|by simp
   ·exact ih (fun z hz=>h z<|by simp[hz]) x hx
structure I1 (P:Program) (T:TypeId):Prop where
 h:∃kt et,P.underlying T=some (.map kt et)∧DH P kt∧∀w,(zeroValue et).run P w=.ok (.int .i64 0) w
theorem Wc {et:TypeId} {k b:Nat} {a:Bool} (h:P.underlying T=some (.map kt et)) (K:DH P kt) (F:ep P et k a b (.int .i64 0)):I1 P T:=⟨kt,et,h,K,F.um⟩
section
variable {n:Nat} {ops:Array Oper} {f:aO} {w:aG} {K:aO→aG→Prop} {x y c:Operand} {d:Nat} {ty T T2:TypeId} {ps:String} {af:Array Edge} {M0:bY} {w0:aG} {l:List Item} {m:KV} {b:Nat}
theorem mm (H:HI M0 w0 w l) (h:∀b w',Ext w w'→HI M0 w0 w' (cb b []::l)→K (cg f d (.map (some b))) w'):SO P n ops ⟨some d,.makeMap T none,ty,ps,af,none⟩ f w K:=
 SO.value (v:=.map (some w.heap.size)) (w':=w.alloc (.map #[] 0)) (by simp[execOp,run_makeMap]) (h _ _ (Ext.alloc w _)
  (H.new (Ext.alloc w _) w.heap.size rfl (an3 _) (by simp) ⟨#[],0,heap_alloc_new w _,rfl,fun _ h=>(by cases h)⟩))
theorem X9 {k:Int×Int} (F:I1 P T) (H:HI M0 w0 w l) (i:Nat) (hi:l[i]? =some (cb b m)) (ox:bD n x=true) (oy:bD n y=true) (hx:ev f x=.map (some b)) (hy:ev f y=K2 k)
  (h:aK ((getM m k).getD 0)→K (cg f d (.tuple #[.int .i64 ((getM m k).getD 0),.bool (getM m k).isSome])) w):SO P n ops ⟨some d,.lookup T x y true,ty,ps,af,none⟩ f w K:=by
 obtain⟨kt,et,h1,h2,h3⟩:=F.h
 obtain⟨es,clock,g1,g2,g3⟩:=H.at_ i hi
 have hI:aK ((getM m k).getD 0):=by
  cases hg:getM m k with
  |none=>unfold aK;simp
  |some v=>exact aaI g3 hg
 refine SO.value (v:=.tuple #[.int .i64 ((getM m k).getD 0),.bool (getM m k).isSome]) (w':=w) ?_<|h hI
 have hf:=JU m k 0
 have hr:=MW h2 k w g2
 simp only[execOp,aJ ox,aJ oy,hx,hy,Instr.lookup,Sem.run_bind,run_underlying h1,get_map g1,h2.B_,hr,Result.andThen_ok,Sem.run_pure]
 cases hq:pB m k 0 with
 |none=>
  have hg:getM m k=none:=by rw[hq] at hf;simpa using hf.symm
  simp[hq,hg,h3 w]
 |some p=>
  obtain⟨j,v⟩:=p
  rw[hq] at hf
  cases hg:getM m k with
  |none=>rw[hg] at hf;cases hf
  |some u=>
   rw[hg] at hf
   simp only[aoV,aod] at hf
   subst hf
   simp
theorem X5 {dd:Option Nat} {k:Int×Int} {v:Int} (F:I1 P T) (H:HI M0 w0 w l) (i:Nat) (hi:l[i]? =some (cb b m)) (ox:bD n x=true) (oy:bD n y=true) (oc:bD n c=true) (hx:ev f x=.map (some b)) (hy:ev f y=K2 k) (hc:ev f c=.int .i64 v) (hv:aK v)
  (h:∀w',HI M0 w0 w' (l.set i (cb b (jx m k v)))→K (cW f dd undef) w'):SO P n ops ⟨dd,.mapUpdate T x y c,ty,ps,af,none⟩ f w K:=by
 obtain⟨kt,et,h1,h2,h3⟩:=F.h
 obtain⟨es,clock,g1,g2,g3⟩:=H.at_ i hi
 have hr:=MW h2 k w g2
 have ef:b<w.heap.size:=(aor.1 g1).1
 have fin:∀(o:Obj),(∀M w',w'.heap[b]? =some o→(cb b (jx m k v)).holds M w')→
   HI M0 w0 {w with heap:=w.heap.setIfInBounds b o} (l.set i (cb b (jx m k v))):=by
  intro o ho
  refine H.uk i hi J J J (by simp) (an3 _) (fun q hq gB=>?_) (fun q hq=>?_)<|ho _ _ (A0 g1).1
  ·exact(A0 g1).2 q fun e=>gB (by rw[e];rfl)
  ·cases hq
   exact⟨by simpa using ef,.inl rfl⟩
 cases hq:pB m k 0 with
 |none=>
  refine SO.skip (w':={w with heap:=w.heap.setIfInBounds b (.map (es.push ⟨K2 k,.int .i64 v,clock⟩) (clock+1))}) ?_ (h _<|fin _ ?_)
  ·simp[execOp,aJ ox,aJ oy,aJ oc,hx,hy,hc,Instr.mapUpdate,run_underlying h1,get_map g1,h2.B_,hr,hq,DX _ g1]
  ·intro M w' hw
   exact⟨_,_,hw,by rw[Array.toList_push];exact HE m es.toList k 0 g2 hq clock v,OL g3 k hv⟩
 |some p=>
  obtain⟨j,u⟩:=p
  obtain⟨q,e,JC,nC,EE,ED⟩:=HD m es.toList k 0 j u g2 hq
  obtain rfl:j=q:=by omega
  have he:es[j]? =some e:=by simpa using nC
  have hsb:(Instr.keyThatStays e.key (K2 k)).run P w=.ok (K2 k) w:=by
   rw[EE];simp[Instr.keyThatStays,Instr.sameBits]
  refine SO.skip (w':={w with heap:=w.heap.setIfInBounds b (.map (es.modify j fun e=>{e with key:=K2 k,val:=.int .i64 v}) clock)}) ?_ (h _<|fin _ ?_)
  ·simp[execOp,aJ ox,aJ oy,aJ oc,hx,hy,hc,Instr.mapUpdate,run_underlying h1,get_map g1,h2.B_,hr,hq,he,hsb,DX _ g1]
  ·intro M w' hw
   exact⟨_,_,hw,by rw[Array.toList_modify];exact ED clock v,OL g3 k hv⟩
end
end
end Go.Ew
namespace Go.Ew
end Go.Ew
namespace Go.Ew
variable {s:bh} {j i k:Nat} {c:UInt8} {m v val:Int}
abbrev jw:=Bool×bh×Int
abbrev aN:=Int×Int×Bool×Int×Int
abbrev cR:=List (List jw)
def tS (c:UInt8):Bool:=!(decide (((c.toNat:Nat):Int)<97))&&!(decide ((122:Int)<((c.toNat:Nat):Int)))
def gT (s:bh):Bool:=s.data.toList.all tS&&decide (1≤s.size)&&decide (s.size≤8)
theorem PL (h:s[((j:Nat):Int).toNat]? =some c):s.data.toList[((j:Nat):Int).toNat]? =some c:=by
 rw[dq] at h ⊢
 rw[aph]
 have hj:j<s.size:=by
  refine aoK fun hn=>?_
  rw[getElem?_neg s j hn] at h;cases h
 rw[getElem?_pos s j hj] at h
 rw[Array.getElem?_eq_getElem hj]
 exact h
theorem O4 (h:s[((j:Nat):Int).toNat]? =some c) (h1:tS c=false):false=gT s:=by
 unfold gT;rw[Nt (PL h) h1];rfl
theorem L4 (h:(s.data.toList.take j).all tS=true) (hj:s.size≤j):s.data.toList.all tS=true:=by
 rwa [an_ (by rw[aoM];exact hj)] at h
theorem acg (h:decide (((c.toNat:Nat):Int)<97)=true):tS c=false:=by unfold tS;rw[h];rfl
theorem ach (h:decide ((122:Int)<((c.toNat:Nat):Int))=true):tS c=false:=by unfold tS;rw[h];simp
theorem aaf (h:decide (((c.toNat:Nat):Int)<97)=false) (h1:decide ((122:Int)<((c.toNat:Nat):Int))=false):tS c=true:=by unfold tS;rw[h,h1];rfl
theorem vo {α:Type} {h:List (List α)} {x:List α} (hx:h[((j:Nat):Int).toNat]? =some x):(h.take (j+1)).flatten=(h.take j).flatten++x:=by
 rw[nO hx];simp
theorem uJ {α:Type} {h:List (List α)} {x:List α} (hx:h[((j:Nat):Int).toNat]? =some x):((h.take j).flatten).length+x.length≤h.flatten.length:=by
 have h1:h.flatten=(h.take (j+1)).flatten++(h.drop (j+1)).flatten:=by rw[←aqt,ao2]
 rw[h1,vo hx];simp
def Ag (o:jw):Bool:=gT o.2.1
def iM (h:cR):Bool:=h.flatten.all Ag&&decide (h.flatten.length≤4096)
theorem Vy {h:cR} {x:jw} (hx:h.flatten[i]? =some x) (h1:gT x.2.1=false):false=iM h:=by
 unfold iM;rw[Nt hx h1];rfl
theorem Sq {h:cR} (hs:(h.flatten.take j).all Ag=true) (hj:h.flatten.length≤j):decide ((h.flatten.length:Int)≤4096)=iM h:=by
 unfold iM;rw[mg hj] at hs;rw[hs,aoY,apk];omega
def Ae (o:jw):Bool:=decide (o.2.1.size≤20)
def iJ (h:cR) (m:Int):Bool:=decide ((h.length:Int)≤m)&&decide ((h.flatten.length:Int)≤m)&&h.flatten.all Ae
theorem Jb {h:cR}:iJ h m=true↔(h.length:Int)≤m∧(h.flatten.length:Int)≤m∧∀o∈h.flatten,o.2.1.size≤20:=by
 unfold iJ
 rw[ez,ez,an2,an2,an9,and_assoc]
 unfold Ae
 simp only[an2]
theorem Sb {h:cR} (hm:m<(h.length:Int)):false=iJ h m:=by unfold iJ;rw[an' aj];rfl
theorem Sa {h:cR} (hm:m<(h.flatten.length:Int)):false=iJ h m:=by unfold iJ;rw[show decide ((h.flatten.length:Int)≤m)=false from an' aj];simp
theorem R' {h:cR} {x:jw} (hx:h.flatten[i]? =some x) (h1:20<(x.2.1.size:Int)):false=iJ h m:=by
 unfold iJ;rw[Nt hx (show Ae x=false from an' aj)];simp
theorem Sc {h:cR} (h1:¬m<(h.length:Int)) (h2:¬m<(h.flatten.length:Int)) (hs:(h.flatten.take j).all Ae=true) (hj:h.flatten.length≤j):true=iJ h m:=by
 unfold iJ;rw[mg hj] at hs;rw[hs,an6 aj,an6 aj];rfl
def G_ (s:bh) (t:bh):Bool:=decide (t=s)
def gE (l:List bh) (s:bh):Int:=eF (G_ s) l
def IX (vs:List bh) (s:bh):List bh:=if gE vs s<0 then vs++[s] else vs
def LX (vs:List bh) (s:bh):Int:=if gE vs s<0 then (vs.length:Int) else gE vs s
abbrev zf:=List bh×List aN
def uP (i:Nat) (st:zf) (x:jw×Nat):zf:=(IX st.1 x.1.2.1,st.2++[(((i:Nat):Int),((x.2:Nat):Int),x.1.1,LX st.1 x.1.2.1,x.1.2.2)])
def jJ (i:Nat) (st:zf) (ops:List jw) (k:Nat):zf:=((ops.take k).zipIdx).foldl (uP i) st
def Lx (i:Nat) (st:zf) (ops:List jw):zf:=jJ i st ops ops.length
def iD (h:cR) (j:Nat):zf:=((h.take j).zipIdx).foldl (fun st x=>Lx x.2 st x.1) ([],[])
theorem AR {α:Type} {l:List α} {x:α} (hx:l[((k:Nat):Int).toNat]? =some x):(l.take (k+1)).zipIdx=(l.take k).zipIdx++[(x,k)]:=by
 have hk:k<l.length:=by rw[dq] at hx;exact(dJ.1 hx).1
 rw[nO hx,List.zipIdx_append]
 simp;omega
theorem AX (i:Nat) (st:zf) (ops:List jw):jJ i st ops 0=st:=rfl
theorem xb {st:zf} {ops:List jw} {x:jw} (hx:ops[((k:Nat):Int).toNat]? =some x):jJ i st ops (k+1)=uP i (jJ i st ops k) (x,k):=by
 unfold jJ;rw[AR hx,ap1];rfl
theorem zb {h:cR} {x:List jw} (hx:h[((j:Nat):Int).toNat]? =some x):iD h (j+1)=Lx j (iD h j) x:=by
 unfold iD;rw[AR hx,ap1];rfl
theorem fy {α:Type} {h:List (List α)} {x:List α} (hx:h[((j:Nat):Int).toNat]? =some x):h.getD j []=x:=by
 rw[dq] at hx;rw[il,hx];rfl
theorem BH {h:cR} (hj:j<h.length) (hk:(h.getD j []).length≤k):jJ j (iD h j) (h.getD j []) k=iD h (j+1):=by
 have hx:h[((j:Nat):Int).toNat]? =some h[j]:=by rw[dq];exact dW hj
 rw[zb hx,fy hx] at *
 unfold Lx jJ
 rw[an_ hk,ao1]
theorem Ij (i:Nat) (st:zf) (ops:List jw):∀k,k≤ops.length→(jJ i st ops k).2.length=st.2.length+k∧(jJ i st ops k).1.length≤st.1.length+k
 |0,_=>by rw[AX];omega
 |k+1,h=>by
  have ih:=Ij i st ops k aj
  have hx:ops[((k:Nat):Int).toNat]? =some ops[k]:=by rw[dq];exact dW aj
  rw[xb hx]
  have e1:(uP i (jJ i st ops k) (ops[k],k)).2.length=(jJ i st ops k).2.length+1:=by unfold uP;simp
  have e2:(uP i (jJ i st ops k) (ops[k],k)).1.length≤(jJ i st ops k).1.length+1:=by unfold uP IX;simp only;split<;>simp
  omega
theorem BF (h:cR):∀j,j≤h.length→(iD h j).2.length=((h.take j).flatten).length∧(iD h j).1.length≤((h.take j).flatten).length
 |0,_=>by simp[iD]
 |j+1,hj=>by
  have ih:=BF h j aj
  have hx:h[((j:Nat):Int).toNat]? =some h[j]:=by rw[dq];exact dW aj
  rw[zb hx,vo hx,fJ]
  have:=Ij j (iD h j) h[j] h[j].length<|an3 _
  unfold Lx
  omega
theorem pX {h:cR} {x:List jw} (hx:h[((j:Nat):Int).toNat]? =some x) (hk:k<x.length):
  (jJ j (iD h j) x k).2.length+1≤h.flatten.length∧(jJ j (iD h j) x k).1.length+1≤h.flatten.length:=by
 have hj:j<h.length:=by rw[dq] at hx;exact(dJ.1 hx).1
 have h1:=BF h j aj
 have h2:=Ij j (iD h j) x k aj
 have h3:=uJ hx
 omega
def yW (h:cR):List bh:=(iD h h.length).1
def gq (h:cR):List aN:=(iD h h.length).2
theorem JV (h:cR):(gq h).length=h.flatten.length:=by
 have:=(BF h h.length<|an3 _).1
 rwa [ao1] at this
def mu (h:cR):List bh:=if iM h then yW h else []
def cS (h:cR):List aN:=if iM h then gq h else []
def lD (h:cR):Int:=if iM h then 0 else 1
theorem rX {h:cR} (hr:iM h=true):mu h=yW h∧cS h=gq h∧lD h=0:=by unfold mu cS lD;simp[hr]
theorem xr {h:cR} (hr:iM h=false):mu h=[]∧cS h=[]∧lD h=1:=by unfold mu cS lD;simp[hr]
theorem OY (h:cR):(cS h).length≤h.flatten.length:=by
 unfold cS;split
 ·rw[JV];exact an3 _
 ·simp
theorem xg {st:zf} {ops:List jw} {x:jw} (hx:ops[((k:Nat):Int).toNat]? =some x) (hf:gE (jJ i st ops k).1 x.2.1<0):
  (jJ i st ops k).1++[x.2.1]=(jJ i st ops (k+1)).1∧(jJ i st ops k).2++[(((i:Nat):Int),((k:Nat):Int),x.1,((jJ i st ops k).1.length:Int),x.2.2)]=(jJ i st ops (k+1)).2:=by
 rw[xb hx];unfold uP IX LX;rw[an4 hf,an4 hf];exact⟨rfl,rfl⟩
theorem xf {st:zf} {ops:List jw} {x:jw} (hx:ops[((k:Nat):Int).toNat]? =some x) (hf:¬gE (jJ i st ops k).1 x.2.1<0):
  (jJ i st ops k).1=(jJ i st ops (k+1)).1∧(jJ i st ops k).2++[(((i:Nat):Int),((k:Nat):Int),x.1,gE (jJ i st ops k).1 x.2.1,x.2.2)]=(jJ i st ops (k+1)).2:=by
 rw[xb hx];unfold uP IX LX;rw[an8 hf,an8 hf];exact⟨rfl,rfl⟩
def kS (v val:Int) (x:aN):Bool:=x.2.2.1&&decide (x.2.2.2.1=v)&&decide (x.2.2.2.2=val)
def gv (aE:List aN) (v val:Int):Int:=eF (kS v val) aE
def xY (aE:List aN) (j:Nat) (x:aN):Bool:=x.2.2.1&&(decide (x.2.2.2.2=0)||decide (max (gv aE x.2.2.2.1 x.2.2.2.2) 0<((j:Nat):Int)))
def nN (aE:List aN) (j:Nat):Bool:=(aE[j]?).any (xY aE j)
def HF (aE:List aN):Option Nat:=(List.range aE.length).find? (nN aE)
def da (aE:List aN):Int×Int×Int:=match HF aE with
 |none=>(0,0,0)
 |some j=>match aE[j]? with
  |none=>(0,0,0)
  |some x=>if x.2.2.2.2=0 then (((j:Nat):Int),((j:Nat):Int),5) else (max (gv aE x.2.2.2.1 x.2.2.2.2) 0,((j:Nat):Int),4)
theorem aaP {aE:List aN} (h:∀k,k<j→nN aE k=false) (hj:aE.length≤j):HF aE=none:=by
 unfold HF;rw[apw]
 intro k hk
 rw[an7] at hk
 rw[h k aj];simp
theorem Ps {aE:List aN} (h:∀k,k<j→nN aE k=false) (hj:j<aE.length) (hb:nN aE j=true):HF aE=some j:=by
 unfold HF
 rw[aqe]
 refine⟨hb,List.range j,(List.range<|aE.length-j-1).map (fun i=>j+1+i),?_,fun a ha=>by rw[h a (an7.1 ha)];rfl⟩
 have:aE.length=j+(1+(aE.length-j-1)):=by omega
 rw[this,nQ,nQ]
 simp[aqN]
theorem Dy {aE:List aN} {x:aN} (hx:aE[((j:Nat):Int).toNat]? =some x):nN aE j=xY aE j x:=by
 rw[dq] at hx;unfold nN;rw[hx];rfl
theorem BE {aE:List aN} {x:aN} (h:∀k,k<j→nN aE k=false) (hx:aE[((j:Nat):Int).toNat]? =some x) (hb:xY aE j x=false):∀k,k<j+1→nN aE k=false:=by
 intro k hk
 rcases apI.1 hk with h1|rfl
 ·exact h k h1
 ·rw[Dy hx];exact hb
theorem uN {aE:List aN} (h:∀k,k<j→nN aE k=false) (hj:aE.length≤j):da aE=(0,0,0):=by
 unfold da;rw[aaP h hj]
theorem uM {aE:List aN} {x:aN} (h:∀k,k<j→nN aE k=false) (hx:aE[((j:Nat):Int).toNat]? =some x) (hw:x.2.2.1=true) (h0:x.2.2.2.2=0):da aE=(((j:Nat):Int),((j:Nat):Int),5):=by
 have hj:j<aE.length:=by rw[dq] at hx;exact(dJ.1 hx).1
 have hb:nN aE j=true:=by rw[Dy hx];unfold xY;simp[hw,h0]
 unfold da;rw[Ps h hj hb]
 rw[dq] at hx
 simp only[hx,h0,apG]
theorem sR {aE:List aN} {j:Nat} {x:aN} (h:∀k,k<j→nN aE k=false) (hx:aE[((j:Nat):Int).toNat]? =some x) (hw:x.2.2.1=true) (h0:¬x.2.2.2.2=0)
  (h1:max (gv aE x.2.2.2.1 x.2.2.2.2) 0<((j:Nat):Int)):da aE=(max (gv aE x.2.2.2.1 x.2.2.2.2) 0,((j:Nat):Int),4):=by
 have hj:j<aE.length:=by rw[dq] at hx;exact(dJ.1 hx).1
 have hb:nN aE j=true:=by rw[Dy hx];unfold xY;simp[hw,h1]
 unfold da;rw[Ps h hj hb]
 rw[dq] at hx
 simp only[hx,h0,aoU]
theorem Nh {aE:List aN} {x:aN} (hw:x.2.2.1=false):xY aE j x=false:=by unfold xY;rw[hw];rfl
theorem Ni {aE:List aN} {x:aN} (h0:¬x.2.2.2.2=0) (h1:¬max (gv aE x.2.2.2.1 x.2.2.2.2) 0<((j:Nat):Int)):xY aE j x=false:=by
 unfold xY;rw[an' h0,an' h1];simp
theorem RQ {aE:List aN} {x:aN} (hx:aE[((j:Nat):Int).toNat]? =some x) (h1:x.2.2.1=true) (h2:decide (x.2.2.2.1=v)=true) (h3:decide (x.2.2.2.2=val)=true) (hs:(aE.take j).any (kS v val)=false):((j:Nat):Int)=gv aE v val:=
 uA hx hs (by unfold kS;rw[h1,h2,h3];rfl)
theorem Ol {aE:List aN} (hs:(aE.take j).any (kS v val)=false) (h:aE.length≤j):(-1:Int)=gv aE v val:=ve hs h
theorem aay {x:aN} (h:x.2.2.1=false):kS v val x=false:=by unfold kS;rw[h];rfl
theorem O_ {x:aN} (h:decide (x.2.2.2.1=v)=false):kS v val x=false:=by unfold kS;rw[h];simp
theorem O9 {x:aN} (h:decide (x.2.2.2.2=val)=false):kS v val x=false:=by unfold kS;rw[h];simp
def tO (aE:List aN) (j:Nat) (m:KV):Prop:=∀p:Int×Int,getM m p=((aE.take j).findIdx? (kS p.1 p.2)).map fun i=>((i:Nat):Int)
theorem HA (aE:List aN):tO aE 0 []:=by intro p;simp[getM]
theorem CZ {aE:List aN} {p:aN→Bool} (h:(aE.take j).findIdx? p=some i):eF p aE=((i:Nat):Int):=by
 unfold eF
 have:aE.findIdx? p=some i:=by
  conv=>lhs;rw[←ao2 j aE]
  rw[aqW,h];rfl
 rw[this]
theorem JA {aE:List aN} {p:aN→Bool} {x:aN} (hx:aE[((j:Nat):Int).toNat]? =some x) (hp:p x=true) (h:(aE.take j).findIdx? p=none):eF p aE=((j:Nat):Int):=by
 refine(uA hx ?_ hp).symm
 rw[apH] at h
 rw[apN]
 intro y hy;rw[h y hy];simp
theorem JS {aE:List aN} {p:aN→Bool} {x:aN} (hx:aE[((j:Nat):Int).toNat]? =some x):
  (aE.take (j+1)).findIdx? p=((aE.take j).findIdx? p).or (if p x then some j else none):=by
 have hj:j<aE.length:=by rw[dq] at hx;exact(dJ.1 hx).1
 rw[nO hx,aqW,ic,ao7 aj]
 congr 1
 cases hp:p x<;>simp[List.findIdx?_cons,hp]
theorem EO {aE:List aN} {m:KV} {x:aN} (h:tO aE j m) (hx:aE[((j:Nat):Int).toNat]? =some x) (hw:x.2.2.1=false):tO aE (j+1) m:=by
 intro p
 rw[h p,JS hx,show kS p.1 p.2 x=false from by unfold kS;rw[hw];rfl]
 simp
theorem Hz {aE:List aN} {m:KV} {x:aN} (h:tO aE j m) (hx:aE[((j:Nat):Int).toNat]? =some x) (hw:x.2.2.1=true) (hn:getM m (x.2.2.2.1,x.2.2.2.2)=none):tO aE (j+1) (jx m (x.2.2.2.1,x.2.2.2.2) ((j:Nat):Int)):=by
 intro p
 rw[WS,JS hx]
 by_cases e:p=(x.2.2.2.1,x.2.2.2.2)
 ·subst e
  rw[h] at hn
  have Ms:(aE.take j).findIdx? (kS x.2.2.2.1 x.2.2.2.2)=none:=by simpa using hn
  rw[an4 rfl]
  simp only[Ms,show kS x.2.2.2.1 x.2.2.2.2 x=true from by unfold kS;simp[hw]]
  simp
 ·rw[an8 e,h p,show kS p.1 p.2 x=false from by
   unfold kS;rw[hw]
   simp only[aoY,aqj,aob]
   by_cases e1:x.2.2.2.1=p.1
   ·exact .inr fun e2=>e (by rw[Prod.ext_iff];exact⟨e1.symm,e2.symm⟩)
   ·exact .inl e1]
  simp
theorem A1 {aE:List aN} {j:Nat} {m:KV} {x:aN} (h:tO aE j m) (hx:aE[((j:Nat):Int).toNat]? =some x) (hs:(getM m (x.2.2.2.1,x.2.2.2.2)).isSome=true):
  (getM m (x.2.2.2.1,x.2.2.2.2)).getD 0=max (gv aE x.2.2.2.1 x.2.2.2.2) 0∧max (gv aE x.2.2.2.1 x.2.2.2.2) 0<((j:Nat):Int):=by
 rw[h] at hs ⊢
 cases hf:(aE.take j).findIdx? (kS x.2.2.2.1 x.2.2.2.2) with
 |none=>simp[hf] at hs
 |some i=>
  have hi:i<j:=by
   have:=(aom.1 hf).1
   rw[ic] at this;omega
  have:=CZ hf
  unfold gv
  rw[this]
  simp only[hf,aoV,apR]
  omega
theorem OE {aE:List aN} {m:KV} {x:aN} (h:tO aE j m) (hx:aE[((j:Nat):Int).toNat]? =some x) (hw:x.2.2.1=true) (hs:(getM m (x.2.2.2.1,x.2.2.2.2)).isSome=false):
  getM m (x.2.2.2.1,x.2.2.2.2)=none∧gv aE x.2.2.2.1 x.2.2.2.2=((j:Nat):Int):=by
 have h0:getM m (x.2.2.2.1,x.2.2.2.2)=none:=by simpa using hs
 refine⟨h0,?_⟩
 rw[h] at h0
 have h1:(aE.take j).findIdx? (kS x.2.2.2.1 x.2.2.2.2)=none:=by simpa using h0
 exact JA hx (by unfold kS;simp[hw]) h1
end Go.Ew
namespace Go.Ew
open Go.RowKit
section
variable {P:Program} {n:Nat} {ops:Array Oper} {f:aO} {w:aG} {K:aO→aG→Prop} {x y:Operand} {d:Nat} {ty T T2 e:TypeId} {ps:String} {af:Array Edge} {M:bY} {B:Nat} {a:Option Addr} {k c:Nat} {s t:Int}
theorem w8 {i:Int} (h0:0≤i) (h1:i≤255):IntKind.u8.wrap i=i∧(((BitVec.ofInt 8 i).toNat:Nat):Int)=i:=by
 constructor
 ·unfold IntKind.wrap
  simp[IntKind.bits,IntKind.signed]
  omega
 ·rw[apV]
  show ((i%256).toNat:Int)=i
  omega
end
end Go.Ew
namespace Go.Ew
open Go.RowKit
section
variable {P:Program} {n:Nat} {ops:Array Oper} {f:aO} {w:aG} {K:aO→aG→Prop} {x:Operand} {d:Nat} {ty:TypeId} {ps:String} {af:Array Edge} {a:Addr}
theorem nc (ox:bD n x=true) (hx:ev f x=.pointer (some a)) (h:K (cg f d (.pointer (some a))) w):SO P n ops ⟨some d,.nilCheck x,ty,ps,af,none⟩ f w K:=
 SO.value (v:=.pointer (some a)) (w':=w) (by simp[execOp,aJ ox,hx]) h
theorem mf0 {f:aO}:([]:List Operand).map (ev f)=[]:=rfl
theorem X_ {f:aO} {x:Operand} {v:Value} {L:List Operand} {V:List Value} (h:ev f x=v) (t:L.map (ev f)=V):(x::L).map (ev f)=v::V:=by rw[aoq,h,t]
theorem mf2 {fn:Fn} {C:List Operand} {V:List Value} (oc:GP n C=true) (hC:C.map (ev f)=V) (h:K (cg f d (.func fn #[] V.toArray)) w):SO P n ops ⟨some d,.makeFunc fn #[] C.toArray,ty,ps,af,none⟩ f w K:=by
 refine mf oc ?_
 rw[hC];exact h
end
theorem M8 {α0 α1 α2 α3 α4 α5 α6 α7 α8 α9 β:Type} (f:α0→α1→α2→α3→α4→α5→α6→α7→α8→α9→β) {x0 y0:α0} {x1 y1:α1} {x2 y2:α2} {x3 y3:α3} {x4 y4:α4} {x5 y5:α5} {x6 y6:α6} {x7 y7:α7} {x8 y8:α8} {x9 y9:α9} (h0:x0=y0) (h1:x1=y1) (h2:x2=y2) (h3:x3=y3) (h4:x4=y4) (h5:x5=y5) (h6:x6=y6) (h7:x7=y7) (h8:x8=y8) (h9:x9=y9):f x0 x1 x2 x3 x4 x5 x6 x7 x8 x9=f y0 y1 y2 y3 y4 y5 y6 y7 y8 y9:=by
 subst h0;subst h1;subst h2;subst h3;subst h4;subst h5;subst h6;subst h7;subst h8;subst h9;rfl
end Go.Ew
namespace Go.Ew
open Go.RowKit
theorem u4 {α:Type} {p:α→Bool} {l:List α} (h:l.Nodup):(l.filter p).Nodup:=aqD List.filter_sublist h
def oE (l:dh) (cn:Nat→Option Nat) (L:Nat→Bool) (j:Nat):Bool:=(Nat.ble l.length j||L j)&&(match cn j with|none=>true|some i=>!L i)
def Fo (l:dh) (cn:Nat→Option Nat) (aE:Nat→Value→List Item) (m:Nat) (L:Nat→Bool) (V:Nat→Value):List Item:=((List.range m).filter (oE l cn L)).flatMap fun j=>aE j (V j)
def waits (T:List Nat) (i j:Nat):Bool:=Nat.testBit (T.getD i 0) j
def Fw (T:List Nat) (o:Oper):Nat→Nat
 |0=>0
 |j+1=>bif kZ o j then Fw T o j ||| (2^j ||| T.getD j 0) else Fw T o j
def X2 (l:dh) (T:List Nat):Bool:=(List.range l.length).all fun i=>match l[i]? with|some o=>Nat.beq (T.getD i 0) (Fw T o i)|none=>true
theorem Fv {T:List Nat} {o:Oper} {m:Nat}:∀i,Nat.testBit (Fw T o i) m=true→∃j,j<i∧kZ o j=true∧(m=j∨waits T j m=true)
 |0,h=>by simp[Fw] at h
 |i+1,h=>by
  unfold Fw at h
  cases ho:kZ o i with
  |false=>
   rw[ho] at h
   obtain⟨j,h1,h2⟩:=Fv i h
   exact⟨j,by omega,h2⟩
  |true=>
   rw[ho] at h
   have h:Nat.testBit (Fw T o i ||| (2^i ||| T.getD i 0)) m=true:=h
   rw[Nat.testBit_or,Nat.testBit_or,aoc,aoc,Nat.testBit_two_pow] at h
   rcases h with h|h|h
   ·obtain⟨j,h1,h2⟩:=Fv i h
    exact⟨j,by omega,h2⟩
   ·exact⟨i,by omega,ho,.inl (aoN h).symm⟩
   ·exact⟨i,by omega,ho,.inr h⟩
theorem AT {l:dh} {T:List Nat} (hT:X2 l T=true) {L:Nat→Bool} (hC:∀j o,L j=true→l[j]? =some o→∀q,kZ o q=true→L q=true) (hL:∀j,L j=true→j<l.length):
  ∀(n i:Nat) (o:Oper),i≤n→l[i]? =some o→(∀j,kZ o j=true→L j=true)→∀m,waits T i m=true→L m=true
 |n,i,o,sJ,ho,hd,m,hm=>by
  have jL:=(dJ.1 ho).1
  have h1:=an9.1 hT i<|an7.2 jL
  rw[ho] at h1
  have h1:=apc h1
  unfold waits at hm
  rw[h1] at hm
  obtain⟨j,hj,Yu,Aw⟩:=Fv i hm
  have xM:=hd j Yu
  rcases Aw with rfl|Aw
  ·exact xM
  ·have xF:=hL j xM
   have qP:l[j]? =some l[j]:=dW xF
   cases n with
   |zero=>omega
   |succ n=>exact AT hT hC hL n j l[j] aj qP (hC j l[j] xM qP) m Aw
def QJ (l:dh) (cn:Nat→Option Nat) (T:List Nat) (m i:Nat) (o:Oper) (D:List Nat):Bool:=
 nodupB D&&D.all (fun j=>Nat.blt j m&&(Nat.ble l.length j||waits T i j)&&(match cn j with|none=>true|some c=>Nat.beq c i||(Nat.blt c l.length&&waits T c i)))&&(List.range m).all (fun j=>match cn j with|none=>true|some c=>!Nat.beq c i||D.contains j)
def G9 (cn:Nat→Option Nat) (i:Nat) (D:List Nat):List Nat:=D.filter fun j=>match cn j with|none=>true|some c=>!Nat.beq c i
def X3 (n:Nat) (l:dh) (cn:Nat→Option Nat) (T:List Nat) (m:Nat) (Ds:List (List Nat)):Bool:=
 X2 l T&&ri 0 l&&nodupB (jn l.length l)&&(jn l.length l).all (fun d=>Nat.blt d n)&&Nat.ble l.length m&&(List.range l.length).all fun i=>match l[i]? with|some o=>QJ l cn T m i o (Ds.getD i [])|none=>true
section
variable {P:Program} {n:Nat} {l:dh} {cn:Nat→Option Nat} {aE:Nat→Value→List Item} {m:Nat} {T:List Nat} {Ds:List (List Nat)} {Φ:Nat→Value→Prop} {f0:aO} {M0:bY} {w0:aG} {base:List Item}
def GStep (P:Program) (n:Nat) (l:dh) (cn:Nat→Option Nat) (T:List Nat) (aE:Nat→Value→List Item) (Φ:Nat→Value→Prop) (f0:aO) (M0:bY) (w0:aG) (base:List Item) (i:Nat) (o:Oper) (D:List Nat):Prop:=
 ∀(f:aO) (w:aG) (V:Nat→Value) (r:List Item),(∀t,(jn l.length l).contains t=false→f t=f0 t)→(∀j x,l[j]? =some x→x.dst.isSome=true→waits T i j=true→f (jb l j)=V j∧Φ j (V j))→(∀j x,l[j]? =some x→x.dst.isSome=true→(j=i∨waits T j i=true)→f (jb l j)=f0 (jb l j))→
  HI M0 w0 w (base++(D.flatMap (fun j=>aE j (V j))++r))→SO P n l.toArray o f w (fun f' w'=>∃v,f'=cW f o.dst v∧Φ i v∧HI M0 w0 w' (base++(((G9 cn i D).flatMap fun j=>aE j (V j))++(aE i v++r))))
def yi (P:Program) (n:Nat) (l:dh) (cn:Nat→Option Nat) (T:List Nat) (aE:Nat→Value→List Item) (Φ:Nat→Value→Prop) (f0:aO) (M0:bY) (w0:aG) (base:List Item) (Ds:List (List Nat)):Nat→dh→Prop
 |_,[]=>True
 |i,o::r=>GStep P n l cn T aE Φ f0 M0 w0 base i o (Ds.getD i [])∧yi P n l cn T aE Φ f0 M0 w0 base Ds (i+1) r
theorem yi.at_:∀(r:dh) (i:Nat),yi P n l cn T aE Φ f0 M0 w0 base Ds i r→∀j o,r[j]? =some o→GStep P n l cn T aE Φ f0 M0 w0 base (i+j) o (Ds.getD (i+j) [])
 |[],_,_,j,o,h=>by simp at h
 |x::r,i,h,0,o,hj=>by
  simp only[aoe,aod] at hj
  subst hj
  exact h.1
 |x::r,i,h,j+1,o,hj=>by
  simp only[aon] at hj
  have:=yi.at_ r (i+1) h.2 j o hj
  rwa [show i+1+j=i+(j+1) from by omega] at this
def JG (l:dh) (cn:Nat→Option Nat) (aE:Nat→Value→List Item) (m:Nat) (Φ:Nat→Value→Prop) (f0:aO) (M0:bY) (w0:aG) (base:List Item) (L:Nat→Bool) (f:aO) (w:aG):Prop:=
 ∃V:Nat→Value,(∀t,(jn l.length l).contains t=false→f t=f0 t)∧(∀j x,l[j]? =some x→x.dst.isSome=true→f (jb l j)=if L j=true then V j else f0 (jb l j))∧(∀j,j<l.length→L j=true→Φ j (V j))∧(∀j o,L j=true→l[j]? =some o→∀q,kZ o q=true→L q=true)∧HI M0 w0 w (base++Fo l cn aE m L V)
theorem drg {id:Nat} {Q:Exit→Act→aG→Prop} {f:aO} {w:aG} (cn:Nat→Option Nat) (T:List Nat) (aE:Nat→Value→List Item) (m:Nat) (Ds:List (List Nat)) (Φ:Nat→Value→Prop) (base:List Item) (V0:Nat→Value) (hm:P.follows .mixedOrders=true) (qq:X3 n l cn T m Ds=true)
  (hH:HI M0 w0 w (base++((List.range m).filter (fun j=>Nat.ble l.length j)).flatMap fun j=>aE j (V0 j))) (sN:∀j i,cn j=some i→i<l.length)
  (hS:yi P n l cn T aE Φ f M0 w0 base Ds 0 l)
  (vR:∀(f':aO) (w':aG) (V:Nat→Value),(∀t,(jn l.length l).contains t=false→f' t=f t)→(∀j x,l[j]? =some x→x.dst.isSome=true→f' (jb l j)=V j∧Φ j (V j))→HI M0 w0 w' (base++((List.range m).filter (fun j=>(cn j).isNone)).flatMap fun j=>aE j (V j))→Q .normal (cj n f') w'):
  WC P n (.region id l.toArray true) Q f w:=by
 simp only[X3,ez] at qq
 obtain⟨⟨⟨⟨⟨aea,hE⟩,hN⟩,hn⟩,hlm⟩,hU⟩:=qq
 have hlm:l.length≤m:=apb hlm
 have ac4:∀V,Fo l cn aE m (fun _=>false) V=((List.range m).filter (fun j=>Nat.ble l.length j)).flatMap fun j=>aE j (V j):=by
  intro V
  unfold Fo
  congr 1
  refine aqg fun j hj=>?_
  unfold oE
  cases cn j<;>simp
 refine drj (JG l cn aE m Φ f M0 w0 base) hm hE ⟨V0,fun _ _=>rfl,fun j x _ _=>(by simp),fun j _ h=>(by cases h),fun j o h=>(by cases h),?_⟩ ?_ ?_
 ·rw[ac4]
  exact hH.ext (Ext.drew w)
 ·rintro L f' w' i o qp uc aed YE ⟨V,hs,hv,hφ,hC,hH⟩
  have jL:=(dJ.1 qp).1
  have Yj:∀j,waits T i j=true→L j=true:=fun j hj=>AT aea hC aed i i o (an3 _) qp YE j hj
  have Wp:∀c oc,L c=true→l[c]? =some oc→∀j,waits T c j=true→L j=true:=fun c oc TN Tm j hj=>AT aea hC aed c c oc (an3 _) Tm (hC c oc TN Tm) j hj
  have oP:=yi.at_ l 0 hS i o qp
  simp only[aoJ] at oP
  have hu:=an9.1 hU i<|an7.2 jL
  rw[qp] at hu
  simp only[QJ,ez] at hu
  obtain⟨⟨TP,hDu⟩,hDc⟩:=hu
  have TP:=oN _ TP
  generalize hD:Ds.getD i []=D at oP TP hDu hDc
  have YT:∀j∈D,j<m∧oE l cn L j=true:=by
   intro j hj
   have:=an9.1 hDu j hj
   simp only[ez,aoc,aqa] at this
   obtain⟨⟨h1,h2⟩,h3⟩:=this
   refine⟨h1,?_⟩
   unfold oE
   rw[ez,aoc]
   refine⟨h2.imp (fun h=>h) (Yj j),?_⟩
   revert h3
   cases Pk:cn j with
   |none=>intro _;rfl
   |some c=>
    intro h3
    simp only[aoc] at h3
    show (!L c)=true
    rcases h3 with h3|h3
    ·rw[apc h3,uc];rfl
    ·cases TN:L c with
     |false=>rfl
     |true=>
      exfalso
      simp only[ez,aqa] at h3
      have:=Wp c l[c] TN (dW h3.1) i h3.2
      rw[uc] at this;cases this
  have hiD:i∉D:=by
   intro hi
   have:=(YT i hi).2
   unfold oE at this
   rw[uc,show Nat.ble l.length i=false from by
    cases hb:Nat.ble l.length i with
    |false=>rfl
    |true=>have:=apb hb;omega] at this
   simp at this
  
  have af4:((List.range m).filter (oE l cn L)).Perm (D++((List.range m).filter fun j=>oE l cn L j&&!D.contains j)):=by
   refine(List.perm_ext_iff_of_nodup (u4 aqm) ?_).2 fun j=>?_
   ·rw[apL]
    refine⟨TP,u4 aqm,fun a ha b hb JP=>?_⟩
    subst JP
    have:=(aoi.1 hb).2
    simp[ha] at this
   ·simp only[aoi,an7,aot,ez,ao4,aqo,aob]
    constructor
    ·rintro⟨h1,h2⟩
     by_cases hj:j∈D
     ·exact .inl hj
     ·exact .inr ⟨h1,h2,hj⟩
    ·rintro(h|⟨h1,h2, -⟩)
     ·exact YT j h
     ·exact⟨h1,h2⟩
  have hH2:HI M0 w0 w' (base++(D.flatMap (fun j=>aE j (V j))++((List.range m).filter fun j=>oE l cn L j&&!D.contains j).flatMap fun j=>aE j (V j))):=by
   refine hH.perm ?_
   unfold Fo
   rw[←apP]
   exact List.Perm.append_left _<|af4.symm.flatMap_right _
  refine(oP f' w' V _ hs (fun j x yP Hj Yu=>?_) (fun j x yP Hj nD=>?_) hH2).mono fun f2 w2 hK=>?_
  ·have:=hv j x yP Hj
   rw[an4 (Yj j Yu)] at this
   exact⟨this,hφ j (dJ.1 yP).1 (Yj j Yu)⟩
  ·have:=hv j x yP Hj
   have xM:L j=false:=by
    rcases nD with rfl|nD
    ·exact uc
    ·cases xM:L j with
     |false=>rfl
     |true=>have:=Wp j x xM yP i nD;rw[uc] at this;cases this
   rw[xM] at this
   simpa using this
  ·obtain⟨v,rfl,aiL,hH3⟩:=hK
   refine⟨fun j=>if j=i then v else V j,fun t ht=>?_,fun j x yP Hj=>?_,fun j hj xM=>?_,fun j oj xM qP q hq=>?_,?_⟩
   ·cases vk:o.dst with
    |none=>exact hs t ht
    |some di=>
     have gB:t≠di:=by
      rintro rfl
      have:=qM (k:=l.length) qp jL vk
      rw[←aoF,ht] at this
      cases this
     rw[show cW f' (some di) v=cg f' di v from rfl,jD f' v gB]
     exact hs t ht
   ·dsimp only
    by_cases nD:j=i
    ·subst nD
     rw[qp] at yP;cases yP
     obtain⟨di,vk⟩:=aos.1 Hj
     rw[an4 (by simp),an4 rfl,Pz qp vk,vk]
     exact iY f' di v
    ·have h1:=hv j x yP Hj
     obtain⟨dj,EH⟩:=aos.1 Hj
     have h2:cW f' o.dst v (jb l j)=f' (jb l j):=by
      cases vk:o.dst with
      |none=>rfl
      |some di=>
       rw[Pz yP EH]
       exact jD f' v<|aeJ hN qp yP vk EH<|fun e=>nD e.symm
     rw[h2,h1];simp[nD]
   ·dsimp only at xM ⊢
    by_cases nD:j=i
    ·subst nD;rw[an4 rfl];exact aiL
    ·rw[an8 nD]
     rw[an' nD,apy] at xM
     exact hφ j hj xM
   ·dsimp only at xM ⊢
    by_cases nD:j=i
    ·subst nD
     rw[qp] at qP;cases qP
     rw[YE q hq];rfl
    ·rw[an' nD,apy] at xM
     rw[hC j oj xM qP q hq];rfl
   ·refine hH3.perm ?_
    have EJ:∀j,oE l cn (fun k=>L k||decide (k=i)) j=true↔(j=i∨(oE l cn L j=true∧∀c,cn j=some c→c≠i)):=by
     intro j
     unfold oE
     simp only[ez,aoc,an2]
     constructor
     ·rintro⟨h1,h2⟩
      by_cases nD:j=i
      ·exact .inl nD
      ·refine .inr ⟨⟨h1.imp (fun h=>h) fun h=>h.resolve_right nD,?_⟩,?_⟩
       ·revert h2
        cases cn j with
        |none=>intro _;rfl
        |some c=>intro h2;simp at h2 ⊢;exact h2.1
       ·intro c hc
        rw[hc] at h2
        simp at h2
        exact h2.2
     ·rintro(rfl|⟨⟨h1,h2⟩,h3⟩)
      ·refine⟨.inr (.inr rfl),?_⟩
       cases Pk:cn j with
       |none=>rfl
       |some c=>
        have rN:=sN j c Pk
        have Tm:l[c]? =some l[c]:=dW rN
        have Ym:=an9.1 hU c<|an7.2 rN
        rw[Tm] at Ym
        simp only[QJ,ez] at Ym
        have sJ:=an9.1 Ym.2 j<|an7.2 aj
        rw[Pk] at sJ
        have sJ:j∈Ds.getD c []:=by
         have hb:Nat.beq c c=true:=Nat.beq_refl c
         simp only[hb,aqr,apZ,aqo,an2] at sJ
         exact sJ
        have EH:=an9.1 Ym.1.2 j sJ
        simp only[ez,aoc] at EH
        have vg:waits T c j=true:=by
         rcases EH.1.2 with h|h
         ·have:=apb h;omega
         ·exact h
        have aje:c≠j:=by
         rintro rfl
         have:=Yj c vg
         rw[uc] at this;cases this
        show (!(L c||decide (c=j)))=true
        rw[an' aje,apy]
        cases TN:L c with
        |false=>rfl
        |true=>have:=Wp c l[c] TN Tm j vg;rw[uc] at this;cases this
      ·refine⟨h1.imp (fun h=>h) .inl,?_⟩
       revert h2 h3
       cases cn j with
       |none=>intro _ _;rfl
       |some c=>
        intro h3 h2
        simp at h2 ⊢
        exact⟨h2,h3 c rfl⟩
    have Tl:((List.range m).filter (oE l cn fun k=>L k||decide (k=i))).Perm (G9 cn i D++([i]++((List.range m).filter fun j=>oE l cn L j&&!D.contains j))):=by
     refine(List.perm_ext_iff_of_nodup (u4 aqm) ?_).2 fun j=>?_
     ·rw[apL]
      refine⟨u4 TP,?_,fun a ha b hb JP=>?_⟩
      ·rw[List.singleton_append,ao8]
       refine⟨fun hi=>?_,u4 aqm⟩
       have:=(aoi.1 hi).2
       simp only[ez] at this
       have h1:=this.1
       unfold oE at h1
       rw[uc,show Nat.ble l.length i=false from by
        cases hb:Nat.ble l.length i with
        |false=>rfl
        |true=>have:=apb hb;omega] at h1
       simp at h1
      ·subst JP
       have haD:=(aoi.1 ha).1
       rcases aoh.1 hb with rfl|hb
       ·exact hiD haD
       ·have:=(aoi.1 hb).2
        simp[haD] at this
     ·rw[aoi,EJ,an7,aot,aot,apj,aoi]
      unfold G9
      rw[aoi,an7]
      simp only[ez,ao4,aqo,aob]
      have oA:(match cn j with|none=>true|some c=>!Nat.beq c i)=true↔∀c,cn j=some c→c≠i:=by
       cases Pk:cn j with
       |none=>simp
       |some c=>
        simp only[ao4,aod]
        constructor
        ·rintro h d rfl rfl
         rw[Nat.beq_refl] at h;cases h
        ·intro h
         cases hb:Nat.beq c i with
         |false=>rfl
         |true=>exact absurd (apc hb) (h c rfl)
      rw[oA]
      constructor
      ·rintro⟨h1,h2|⟨h2,h3⟩⟩
       ·exact .inr (.inl h2)
       ·by_cases hjD:j∈D
        ·exact .inl ⟨hjD,h3⟩
        ·exact .inr (.inr ⟨h1,h2,hjD⟩)
      ·rintro(⟨h1,h2⟩|rfl|⟨h1,h2,h3⟩)
       ·exact⟨(YT j h1).1,.inr ⟨(YT j h1).2,h2⟩⟩
       ·exact⟨by omega,.inl rfl⟩
       ·refine⟨h1,.inr ⟨h2,fun c hc hci=>?_⟩⟩
        subst hci
        have sJ:=an9.1 hDc j<|an7.2 h1
        rw[hc] at sJ
        have hb:Nat.beq c c=true:=Nat.beq_refl c
        simp only[hb,aqr,apZ,aqo,an2] at sJ
        exact h3 sJ
    refine List.Perm.append_left _ ?_
    unfold Fo
    refine(Tl.flatMap_right _).trans ?_
    rw[apP,apP,List.flatMap_singleton]
    dsimp only
    rw[an4 rfl]
    have TG:∀A:List Nat,i∉A→A.flatMap (fun j=>aE j (if j=i then v else V j))=A.flatMap fun j=>aE j (V j):=by
     intro A hA
     induction A with
     |nil=>rfl
     |cons a A ihA=>
      rw[apD,apD,ihA fun h=>hA (aow _ h),an8 fun (e:a=i)=>hA (e▸aoO)]
    rw[TG (G9 cn i D) (fun h=>hiD (aoi.1 h).1),TG]
    intro hi
    have:=(aoi.1 hi).2
    simp only[ez] at this
    have h1:=this.1
    unfold oE at h1
    rw[uc,show Nat.ble l.length i=false from by
     cases hb:Nat.ble l.length i with
     |false=>rfl
     |true=>have:=apb hb;omega] at h1
    simp at h1
 ·rintro f' w' ⟨V,hs,hv,hφ, -,hH⟩
  refine vR f' w' V hs (fun j x yP Hj=>?_) ?_
  ·have xF:=(dJ.1 yP).1
   have:=hv j x yP Hj
   rw[an4 (an6 xF)] at this
   exact⟨this,hφ j xF (an6 xF)⟩
  ·have:Fo l cn aE m (fun k=>decide (k<l.length)) V=((List.range m).filter (fun j=>(cn j).isNone)).flatMap fun j=>aE j (V j):=by
    unfold Fo
    congr 1
    refine aqg fun j hj=>?_
    unfold oE
    have h1:(Nat.ble l.length j||decide (j<l.length))=true:=by
     rw[aoc,an2]
     by_cases h:j<l.length
     ·exact .inr h
     ·exact .inl (Nat.ble_eq_true_of_le aj)
    rw[h1,aoY]
    cases Pk:cn j with
    |none=>rfl
    |some c=>
     have:=sN j c Pk
     simp[this]
   rw[←this];exact hH
end
def vP:Value→Addr
 | .pointer (some a)=>a
 |_=>⟨0,0,none⟩
theorem af9 {HK:List (Option Nat)} {N:Nat} (h:HK.all (fun c=>match c with|none=>true|some i=>Nat.blt i N)=true):∀j i,HK.getD j none=some i→i<N:=by
 intro j i hj
 rw[il] at hj
 cases hc:HK[j]? with
 |none=>rw[hc] at hj;cases hj
 |some c=>
  rw[hc] at hj
  have hj:c=some i:=hj
  subst hj
  have:=an9.1 h _<|dz hc
  simpa using this
theorem W4 {P:Program} {n:Nat} {l:dh} {id:Nat} {Q:Exit→Act→aG→Prop} {f:aO} {w:aG} {M0:bY} {w0:aG} (HK:List (Option Nat)) (T:List Nat) (Bq:List (Value→List Item)) (Ds:List (List Nat)) (ΦL:List (Value→Prop)) (base:List Item)
  (hm:P.follows .mixedOrders=true) (qq:X3 n l (fun j=>HK.getD j none) T Bq.length Ds=true) (hc:HK.all (fun c=>match c with|none=>true|some i=>Nat.blt i l.length)=true)
  (hH:HI M0 w0 w (base++((Bq.drop l.length).flatMap fun g=>g undef)))
  (hS:yi P n l (fun j=>HK.getD j none) T (fun j=>Bq.getD j (fun _=>[])) (fun j=>ΦL.getD j (fun _=>True)) f M0 w0 base Ds 0 l)
  (vR:∀(f':aO) (w':aG) (V:Nat→Value),(∀t,(jn l.length l).contains t=false→f' t=f t)→(∀j x,l[j]? =some x→x.dst.isSome=true→f' (jb l j)=V j∧(ΦL.getD j (fun _=>True)) (V j))→HI M0 w0 w' (base++((List.range Bq.length).filter (fun j=>(HK.getD j none).isNone)).flatMap fun j=>(Bq.getD j (fun _=>[])) (V j))→Q .normal (cj n f') w'):
  WC P n (.region id l.toArray true) Q f w:=by
 have hlm:l.length≤Bq.length:=by
  simp only[X3,ez] at qq
  exact apb qq.1.2
 refine drg (fun j=>HK.getD j none) T (fun j=>Bq.getD j<|fun _=>[]) Bq.length Ds (fun j=>ΦL.getD j<|fun _=>True) base (fun _=>undef) hm qq ?_ (af9 hc) hS vR
 have key:∀(L:List (Value→List Item)) (k s:Nat),((List.range' s L.length).filter (fun j=>Nat.ble k j)).flatMap (fun j=>((List.replicate s (fun _=>[]))++L).getD j (fun _=>[]) undef)=(L.drop (k-s)).flatMap fun g=>g undef:=by
  intro L
  induction L with
  |nil=>intro k s;simp
  |cons g L ih=>
   intro k s
   have aiT:List.replicate s (fun _:Value=>([]:List Item))++g::L=(List.replicate s (fun _:Value=>([]:List Item))++[g])++L:=by simp
   have uC:∀j∈List.range' (s+1) L.length,(List.replicate s (fun _:Value=>([]:List Item))++g::L).getD j (fun _=>[]) undef=(List.replicate (s+1) (fun _:Value=>([]:List Item))++L).getD j (fun _=>[]) undef:=by
    intro j hj
    have hj:=(List.mem_range'_1.1 hj).1
    rw[il,il,aiT,nH (by simp;omega),nH (by simp;omega)]
    simp
   have YB:∀A:List Nat,(∀j∈A,j∈List.range' (s+1) L.length)→A.flatMap (fun j=>(List.replicate s (fun _:Value=>([]:List Item))++g::L).getD j (fun _=>[]) undef)=A.flatMap fun j=>(List.replicate (s+1) (fun _:Value=>([]:List Item))++L).getD j (fun _=>[]) undef:=by
    intro A hA
    induction A with
    |nil=>rfl
    |cons a A ihA=>rw[apD,apD,ihA fun j hj=>hA j (aow _ hj),uC a (hA a aoO)]
   rw[iS,List.range'_succ,List.filter_cons]
   by_cases hk:Nat.ble k s=true
   ·have JJ:=apb hk
    rw[an4 hk,apD,YB _ fun j hj=>(aoi.1 hj).1,ih k (s+1),show k-s=0 from by omega,show k-(s+1)=0 from by omega,aqG,aqG,apD]
    congr 1
    rw[il,nH (by simp)]
    simp
   ·have JJ:¬k≤s:=fun h=>hk<|Nat.ble_eq_true_of_le h
    rw[an8 hk,YB _ fun j hj=>(aoi.1 hj).1,ih k (s+1),show k-s=(k-(s+1))+1 from by omega,List.drop_succ_cons]
 have:=key Bq l.length 0
 rw[List.replicate_zero,List.nil_append,aqR,←List.range_eq_range'] at this
 rw[this]
 exact hH
theorem acf {α:Type} [GT α] {B:Nat} {e:TypeId} {v:Value} {xs:List α} {M:bY} {w:aG} {g j:Nat} {x:α} (h:(own B e v xs).holds M w) (hv:v.ownBlock=some g) (hx:xs[j]? =some x):gP M w ⟨g,j*GT.size α,none⟩ x:=by
 obtain⟨cs,h1,h2⟩:=h
 rcases h1.2 with ⟨rfl,h3⟩|⟨g',cap,cur,rfl,h3,h4,h5,h6,h7,h8⟩
 ·cases hv
 ·obtain rfl:g'=g:=an5 hv
  have kn:(⟨g',0,none⟩:Addr).add (j*GT.size α)=⟨g',j*GT.size α,none⟩:=by unfold Addr.add;split<;>simp_all
  obtain⟨c,yS,Ay⟩:=bz.at_ h2 j x hx
  refine⟨c,yS,fun i u hu=>?_⟩
  have rZ:=h1.cells (g:=g') J (j*GT.size α+i) u<|Ay i u hu
  rwa [←add_add,kn] at rZ
theorem kl {α:Type} [GT α] {B:Nat} {e:TypeId} {v:Value} {xs:List α} {M:bY} {w:aG} (h:(own B e v xs).holds M w):xs.length≤9223372036854775807:=by
 obtain⟨cs,h1,h2⟩:=h
 rcases h1.2 with ⟨rfl,h3⟩|⟨g',cap,cur,rfl,h3,h4,h5,h6,h7,h8⟩
 ·omega
 ·have:maxLen=9223372036854775807:=rfl
  omega
end Go.Ew
namespace Go.Ew
open Go.RowKit
def agV (m k:Nat):Bool:=Nat.beq (Nat.land 1 (Nat.shiftRight m k)) 1
def mask (T:List Nat) (j:Nat) (V:Nat→Value) (k:Nat):Value:=bif (Nat.beq k j||agV (T.getD j 0) k) then V k else undef
section
variable {P:Program} {n:Nat} {l:dh} {cn:Nat→Option Nat} {aE:Nat→(Nat→Value)→List Item} {m:Nat} {T:List Nat} {Ds:List (List Nat)} {Φ:Nat→Value→Prop} {f0:aO} {M0:bY} {w0:aG} {base:List Item}
def U7 (P:Program) (n:Nat) (l:dh) (cn:Nat→Option Nat) (T:List Nat) (aE:Nat→(Nat→Value)→List Item) (Φ:Nat→Value→Prop) (f0:aO) (M0:bY) (w0:aG) (base:List Item) (i:Nat) (o:Oper) (D:List Nat):Prop:=
 ∀(f:aO) (w:aG) (V:Nat→Value) (r:List Item),(∀t,(jn l.length l).contains t=false→f t=f0 t)→(∀j x,l[j]? =some x→x.dst.isSome=true→waits T i j=true→f (jb l j)=V j∧Φ j (V j))→(∀j x,l[j]? =some x→x.dst.isSome=true→(j=i∨waits T j i=true)→f (jb l j)=f0 (jb l j))→
  HI M0 w0 w (base++(D.flatMap (fun j=>aE j (mask T j V))++r))→SO P n l.toArray o f w (fun f' w'=>∃v,f'=cW f o.dst v∧Φ i v∧HI M0 w0 w' (base++(((G9 cn i D).flatMap fun j=>aE j (mask T j V))++(aE i (mask T i (fun k=>if k=i then v else V k))++r))))
def Ed (P:Program) (n:Nat) (l:dh) (cn:Nat→Option Nat) (T:List Nat) (aE:Nat→(Nat→Value)→List Item) (Φ:Nat→Value→Prop) (f0:aO) (M0:bY) (w0:aG) (base:List Item) (Ds:List (List Nat)):Nat→dh→Prop
 |_,[]=>True
 |i,o::r=>U7 P n l cn T aE Φ f0 M0 w0 base i o (Ds.getD i [])∧Ed P n l cn T aE Φ f0 M0 w0 base Ds (i+1) r
theorem Ed.at_:∀(r:dh) (i:Nat),Ed P n l cn T aE Φ f0 M0 w0 base Ds i r→∀j o,r[j]? =some o→U7 P n l cn T aE Φ f0 M0 w0 base (i+j) o (Ds.getD (i+j) [])
 |[],_,_,j,o,h=>by simp at h
 |x::r,i,h,0,o,hj=>by
  simp only[aoe,aod] at hj
  subst hj
  exact h.1
 |x::r,i,h,j+1,o,hj=>by
  simp only[aon] at hj
  have:=Ed.at_ r (i+1) h.2 j o hj
  rwa [show i+1+j=i+(j+1) from by omega] at this
end
end Go.Ew
namespace Go.Ew
open Go.RowKit
variable {v:Value}
section
variable {P:Program} {n:Nat} {ops:Array Oper} {f:aO} {w:aG} {K:aO→aG→Prop} {x y:Operand} {d:Nat} {ty T e:TypeId} {ps:String} {af:Array Edge} {M0:bY} {w0:aG} {l:List Item} {bytes:Nat} {z:Value} {agg:Bool} {kk:IntKind}
theorem L6 {fn:Fn} (ox:bD n x=true) (hx:ev f x=v) (h:K (cg f d (.func fn #[v] #[])) w):SO P n ops ⟨some d,.makeFunc fn #[x] #[],ty,ps,af,none⟩ f w K:=
 SO.value (v:=.func fn #[v] #[]) (by simp[execOp,Instr.makeFunc,aJ ox,hx]) h
theorem M9 {fx:Operand} {g:FuncId} {b:Value} {L:List Operand} {vs:List Value} {Nr:Array TypeId} {R:Value→aG→Prop} (G:cx P g)
  (ofx:bD n fx=true) (ol:GP n L=true) (hfx:ev f fx=.func (.func g) #[b] #[]) (hL:L.map (ev f)=vs)
  (hc:Calls P g (b::vs).toArray w (cm R)) (h:∀v w',R v w'→K (cg f d v) w'):
  SO P n ops ⟨some d,.call {callee:=.value fx,args:=L.toArray,argTypes:=Nr},ty,ps,af,none⟩ f w K:=by
 obtain⟨fn,c,hf,hb,hn⟩:=G
 subst hL
 exact SO.enter (g:=g) (args:=(b::L.map (ev f)).toArray) (w':=w) (by
  simp only[execOp,resolve,ap7,yX ol,aJ ofx,hfx]
  simp[Deferred.ofValue,invoke,xX hf hb hn]) (hc.mono fun e w' hr=>by
   obtain⟨v,rfl,hv⟩:=hr
   exact⟨v,rfl,h v w' hv⟩)
theorem bsB {len:Nat} {L:List (Nat×Operand)} {V:List (Nat×Value)} {cells:Array Value} (H:HI M0 w0 w l) (ol:GP n (L.map (·.2))=true) (hL:(L.map fun p=>(p.1,ev f p.2))=V)
  (hb:∀w,(Instr.buildSlice T len V.toArray).run P w=.ok (.slice (some ⟨w.heap.size,0,none⟩) len len) (w.alloc (.cells cells e)))
  (h:∀g w',Ext w w'→HI M0 w0 w' (box g cells e::l)→K (cg f d (.slice (some ⟨g,0,none⟩) len len)) w'):
  SO P n ops ⟨some d,.buildSlice T len L.toArray,ty,ps,af,none⟩ f w K:=by
 subst hL
 refine SO.value (v:=.slice (some ⟨w.heap.size,0,none⟩) len len) (w':=w.alloc (.cells cells e)) ?_<|h _ _ (Ext.alloc w _) ?_
 ·have he:(L.map fun p=>(p.1,(cj n f).eval p.2))=L.map fun p=>(p.1,ev f p.2):=by
   apply aoP
   intro p hp
   rw[aJ (an9.1 ol p.2 (aoE.2 ⟨p,hp,rfl⟩))]
  simp only[execOp,ap7]
  have:=hb w
  rw[←he] at this
  simp[this]
 ·exact H.new (Ext.alloc w _) w.heap.size J (an3 _) (by simp)<|heap_alloc_new w _
theorem OP {α:Type} [GT α] {B:Nat} {a:Option Addr} {k c:Nat} {xs:List α} {M:bY} (hO:(own B e (.slice a k c) xs).holds M w) (h:a.isNone=true):xs=[]:=by
 obtain⟨cs,h1,h2⟩:=hO
 rcases h1.2 with ⟨h3,h4⟩|⟨g,cap,cur,h3,h4⟩
 ·exact ao5.1 h4
 ·cases h3;cases h
theorem Mj {g len c:Nat} {i:Int} (ox:bD n x=true) (oy:bD n y=true) (hx:ev f x=.slice (some ⟨g,0,none⟩) len c) (hy:ev f y=.int kk i) (k:Nat) (hi:i=((k:Nat):Int)) (hl:k<len) (hu:P.underlying T=some (.slice e)) (F:ep P e 1 agg bytes z)
  (h:K (cg f d (.pointer (some ⟨g,k,none⟩))) w):SO P n ops ⟨some d,.indexAddr T x y,ty,ps,af,none⟩ f w K:=by
 have kn:(⟨g,0,none⟩:Addr).add (k*1)=⟨g,k,none⟩:=by unfold Addr.add;split<;>simp_all
 refine SO.value (v:=.pointer (some ⟨g,k,none⟩)) ?_ h
 subst hi
 have hb:(0:Int)≤((k:Nat):Int)∧((k:Nat):Int)<(len:Int):=by omega
 simp only[execOp,aJ ox,aJ oy,hx,hy]
 simp[Instr.indexAt,asIntOf,gp hu,hb,F.iK]
 rw[an4 hl,show (⟨g,0,none⟩:Addr).add k=⟨g,k,none⟩ by rw[←kn,aqd]]
end
theorem bl.anyM {α:Type} [GT α] [Flat α] {M M':bY} {e:TypeId} {w w':aG} {v:Value} {xs:List α} (h:bl M e w xs v w'):bl M' e w xs v w':=by
 obtain⟨hx,hb,cs,h1,h2⟩:=h
 exact⟨hx,hb,cs,h1,bz.flat h2⟩
theorem Vw {w:aG} {B B':Nat} {e:TypeId} {sz n:Nat} {cs:List Value} (h:w.ownsRow B e sz v n cs) (hB:B'≤B):w.ownsRow B' e sz v n cs:=by
 refine⟨h.1,?_⟩
 rcases h.2 with h2|⟨g,cap,cur,h1,h2,h3⟩
 ·exact .inl h2
 ·exact .inr ⟨g,cap,cur,h1,Nat.le_trans hB h2,h3⟩
theorem Vv {w w':aG} {B:Nat} {e:TypeId} {sz n:Nat} {cs:List Value} (h:w.ownsRow B e sz v n cs) (hb:∀b,v.ownBlock=some b→w'.heap[b]? =w.heap[b]?):w'.ownsRow B e sz v n cs:=by
 refine⟨h.1,?_⟩
 rcases h.2 with h2|⟨g,cap,cur,h1,h2,h3,h4⟩
 ·exact .inl h2
 ·exact .inr ⟨g,cap,cur,h1,h2,by rw[hb g (by rw[h1];rfl)];exact h3,h4⟩
theorem bl.base {α:Type} [GT α] {M:bY} {e:TypeId} {w w' w0:aG} {v:Value} {xs:List α} (h:bl M e w xs v w') (x:Ext w0 w):bl M e w0 xs v w':=by
 obtain⟨hx,hb,cs,h1,h2⟩:=h
 exact⟨x.trans hx,hb,cs,Vw h1 x.size,h2⟩
theorem bl.Md {α:Type} [GT α] [Flat α] {M:bY} {e:TypeId} {w w' w0:aG} {v:Value} {xs:List α} (h:bl M e w0 xs v w) (x:Ext w w'):bl M e w0 xs v w':=by
 obtain⟨hx,hb,cs,h1,h2⟩:=h
 exact⟨hx.trans x,fun b vm=>aox (hb b vm) x.size,cs,Vv h1 fun b vm=>x.block b (hb b vm),bz.flat h2⟩
theorem bl.rvN {α:Type} [GT α] [Flat α] {M:bY} {e:TypeId} {w w' w0:aG} {v:Value} {xs:List α} (h:bl M e w xs v w') (x:Ext w0 w):RV (fun b=>b<w0.heap.size) w' v xs:=by
 obtain⟨hx,hb,cs,h1,h2⟩:=h
 have:bl (fun b=>b<w.heap.size) e w xs v w':=⟨hx,hb,cs,h1,bz.flat h2⟩
 exact(this.rv fun b hb=>hb).lift (Up.less fun b _ hb=>aox hb x.size)
theorem Lz {α:Type} [GT α] {M0:bY} {w0 zT w:aG} {l:List Item} {v:Value} {xs:List α} (h:RV (fun b=>b<w0.heap.size) w v xs) (H:HI M0 zT w0 l):RV (MS M0 l) w v xs:=h.lift (Up.less fun b _ hb=>H.mb b hb)
theorem abY {α:Type} [GT α] {M0:bY} {w0 zT w:aG} {l:List Item} {v:Value} {xs:List α} (h:RV (fun b=>b<w0.heap.size) w v xs) (H:HI M0 zT w0 l):RV (fun b=>b<zT.heap.size) w v xs:=h.lift (Up.less fun b _ hb=>aox hb H.below.size)
end Go.Ew
namespace Go.Ew
variable {aE:List aN}
theorem WZ (aE:List aN):(HF aE=none∧(∀k,nN aE k=false))∨∃j,j<aE.length∧HF aE=some j∧nN aE j=true∧∀k,k<j→nN aE k=false:=by
 unfold HF
 cases h:(List.range aE.length).find? (nN aE) with
 |none=>
  left
  refine⟨J,fun k=>?_⟩
  rw[apw] at h
  by_cases hk:k<aE.length
  ·simpa using h k (an7.2 hk)
  ·unfold nN;rw[aof aj];rfl
 |some j=>
  right
  rw[aqe] at h
  obtain⟨hb,as,bs,he,ha⟩:=h
  have hj:j<aE.length:=by
   have:j∈List.range aE.length:=by rw[he];simp
   exact an7.1 this
  have hlen:as.length=j:=by
   have h1:(List.range aE.length)[as.length]? =some j:=by rw[he];simp
   have h2:as.length<aE.length:=by
    have:=an0 List.length he
    simp at this;omega
   rw[aoL h2] at h1
   exact an5 h1
  refine⟨j,hj,J,hb,fun k hk=>?_⟩
  have h1:(List.range aE.length)[k]? =as[k]?:=by rw[he,oB aj]
  rw[aoL aj,dW aj] at h1
  have:=ha as[k]<|aqn _
  rw[←an5 h1] at this
  simpa using this
theorem Uq (h:(da aE).2.2=0):HF aE=none∧∀k,nN aE k=false:=by
 rcases WZ aE with h1|⟨j,hj,hf,hb,hl⟩
 ·exact h1
 ·exfalso
  unfold da at h
  rw[hf] at h
  simp only[dW hj] at h
  split at h<;>simp at h
theorem PH (h:(da aE).2.2=0):(da aE).1=0∧(da aE).2.1=0:=by
 unfold da;rw[(Uq h).1];exact⟨rfl,rfl⟩
theorem ZD {aE:List aN} {j:Nat} {x:aN} (hx:aE[((j:Nat):Int).toNat]? =some x) (hw:x.2.2.1=true):0≤gv aE x.2.2.2.1 x.2.2.2.2∧gv aE x.2.2.2.1 x.2.2.2.2≤((j:Nat):Int):=by
 have hp:kS x.2.2.2.1 x.2.2.2.2 x=true:=by unfold kS;simp[hw]
 cases hf:(aE.take j).findIdx? (kS x.2.2.2.1 x.2.2.2.2) with
 |none=>have:=JA hx hp hf;unfold gv;rw[this];omega
 |some i=>
  have:=CZ hf
  have hi:=(aom.1 hf).1
  rw[ic] at hi
  unfold gv;rw[this];omega
theorem xW (h:(da aE).2.2=0) {j:Nat} {x:aN} (hx:aE[((j:Nat):Int).toNat]? =some x) (hw:x.2.2.1=true):x.2.2.2.2≠0∧gv aE x.2.2.2.1 x.2.2.2.2=((j:Nat):Int):=by
 have hb:=(Uq h).2 j
 rw[Dy hx] at hb
 unfold xY at hb
 rw[hw,aoY,apA,aob,aob] at hb
 have:=ZD hx hw
 omega
theorem XL {aE:List aN} {v val:Int} (h:0≤gv aE v val):∃x,aE[(gv aE v val).toNat]? =some x∧kS v val x=true:=by
 unfold gv eF at h ⊢
 cases hf:aE.findIdx? (kS v val) with
 |none=>rw[hf] at h;simp at h
 |some i=>
  obtain⟨hi,hp, -⟩:=aom.1 hf
  exact⟨aE[i],by simp[hi],hp⟩
theorem O' {v val:Int} {x:aN}:kS v val x=true↔x.2.2.1=true∧x.2.2.2.1=v∧x.2.2.2.2=val:=by unfold kS;simp[and_assoc]
end Go.Ew
namespace Go.Ew
variable {aE:List aN} {j:Nat} {x:aN} {m:KV}
def rP (aE:List aN) (x:aN):Int:=if x.2.2.1 then -3 else if x.2.2.2.2=0 then -1 else if 0≤gv aE x.2.2.2.1 x.2.2.2.2 then max (gv aE x.2.2.2.1 x.2.2.2.2) 0 else -2
def gD (aE:List aN):aA:=aE.map (rP aE)
def uQ (aE:List aN) (j:Nat):KV:=((aE.take j).zipIdx).foldl (fun m x=>if x.1.2.2.1 then jx m (x.1.2.2.2.1,x.1.2.2.2.2) ((x.2:Nat):Int) else m) []
def xP (m:KV) (x:aN):Int:=if x.2.2.1 then -3 else if x.2.2.2.2=0 then -1 else if (getM m (x.2.2.2.1,x.2.2.2.2)).isSome then (getM m (x.2.2.2.1,x.2.2.2.2)).getD 0 else -2
def gK (aE:List aN):aA:=aE.map (xP (uQ aE aE.length))
theorem zp (hx:aE[((j:Nat):Int).toNat]? =some x) (hw:x.2.2.1=true):jx (uQ aE j) (x.2.2.2.1,x.2.2.2.2) ((j:Nat):Int)=uQ aE (j+1):=by
 unfold uQ;rw[AR hx,ap1];simp[hw]
theorem Bn (hx:aE[((j:Nat):Int).toNat]? =some x) (hw:x.2.2.1=false):uQ aE j=uQ aE (j+1):=by
 unfold uQ;rw[AR hx,ap1];simp[hw]
def Dg (m:KV) (aE:List aN) (j:Nat):aA:=(aE.take j).map (xP m)++List.replicate (aE.length-j) 0
theorem TY (m:KV) (aE:List aN):List.replicate aE.length 0=Dg m aE 0:=by unfold Dg;simp
theorem jU {v:Int} (hx:aE[((j:Nat):Int).toNat]? =some x) (hv:v=xP m x):(Dg m aE j).set j v=Dg m aE (j+1):=by
 have hj:j<aE.length:=by rw[dq] at hx;exact(dJ.1 hx).1
 unfold Dg
 have h1:aE.length-j=(aE.length-(j+1))+1:=by omega
 rw[nO hx,api,h1,aoW,apd _ _ (by simp;omega)]
 have h2:j-((aE.take j).map (xP m)).length=0:=by simp;omega
 rw[h2,apU,hv]
 simp
theorem WW (h:aE.length≤j):Dg m aE j=aE.map (xP m):=by
 unfold Dg;rw[an_ h,show aE.length-j=0 from by omega];simp
theorem KO (hw:x.2.2.1=true):(-3:Int)=xP m x:=by unfold xP;simp[hw]
theorem KR (hw:x.2.2.1=false) (h0:x.2.2.2.2=0):(-1:Int)=xP m x:=by unfold xP;simp[hw,h0]
theorem KP (hw:x.2.2.1=false) (h0:¬x.2.2.2.2=0) (hs:(getM m (x.2.2.2.1,x.2.2.2.2)).isSome=true):(getM m (x.2.2.2.1,x.2.2.2.2)).getD 0=xP m x:=by unfold xP;simp[hw,h0,hs]
theorem KQ (hw:x.2.2.1=false) (h0:¬x.2.2.2.2=0) (hs:(getM m (x.2.2.2.1,x.2.2.2.2)).isSome=false):(-2:Int)=xP m x:=by unfold xP;simp only[hw,h0,hs];rfl
theorem Hq (hw:x.2.2.1=true):(-3:Int)=rP aE x:=by unfold rP;simp[hw]
theorem Ht (hw:x.2.2.1=false) (h0:x.2.2.2.2=0):(-1:Int)=rP aE x:=by unfold rP;simp[hw,h0]
theorem Hr (hw:x.2.2.1=false) (h0:¬x.2.2.2.2=0) (hs:decide (0≤gv aE x.2.2.2.1 x.2.2.2.2)=true):max (gv aE x.2.2.2.1 x.2.2.2.2) 0=rP aE x:=by unfold rP;simp only[hw,h0,aoN hs];rfl
theorem Hs (hw:x.2.2.1=false) (h0:¬x.2.2.2.2=0) (hs:decide (0≤gv aE x.2.2.2.1 x.2.2.2.2)=false):(-2:Int)=rP aE x:=by unfold rP;simp only[hw,h0,apF hs];rfl
theorem iI {v:Int} (hx:aE[((j:Nat):Int).toNat]? =some x) (hv:v=rP aE x):(aE.take j).map (rP aE)++[v]=(aE.take (j+1)).map (rP aE):=by
 rw[nO hx,api,hv];rfl
theorem G6 {aE:List aN} (h:(da aE).2.2=0):∀j,j≤aE.length→tO aE j (uQ aE j)
 |0,_=>HA aE
 |j+1,hj=>by
  have ih:=G6 h j aj
  have hx:aE[((j:Nat):Int).toNat]? =some aE[j]:=by rw[dq];exact dW aj
  cases hw:(aE[j]).2.2.1 with
  |false=>rw[←Bn hx hw];exact EO ih hx hw
  |true=>
   rw[←zp hx hw]
   refine Hz ih hx hw ?_
   rw[ih]
   have hg:=(xW h hx hw).2
   cases hf:(aE.take j).findIdx? (kS (aE[j]).2.2.2.1 (aE[j]).2.2.2.2) with
   |none=>simp[hf]
   |some i=>
    exfalso
    have h1:=CZ hf
    have h2:=(aom.1 hf).1
    rw[ic] at h2
    unfold gv at hg
    omega
theorem aeA {aE:List aN} (h:(da aE).2.2=0) (x:aN):xP (uQ aE aE.length) x=rP aE x:=by
 have hF:=G6 h aE.length (an3 _) (x.2.2.2.1,x.2.2.2.2)
 rw[ao1] at hF
 unfold xP rP gv eF
 rw[hF]
 dsimp only
 cases hf:aE.findIdx? (kS x.2.2.2.1 x.2.2.2.2) with
 |none=>simp
 |some i=>simp
theorem IF (h:(da aE).2.2=0):gK aE=gD aE:=by
 unfold gK gD
 exact aoP fun x _=>aeA h x
end Go.Ew
namespace Go.Ew
theorem TU (aE:List aN):(gK aE).length=aE.length:=by unfold gK;simp
theorem De (aE:List aN):(gD aE).length=aE.length:=by unfold gD;simp
theorem NZ {aE:List aN} {x:aN} {t:Int} (ht:t=rP aE x):(x.2.2.1==decide (t= -3))=true∧(t= -1→x.2.2.2.2=0)∧ -3≤t∧t<(aE.length:Int)∧
  (0≤t→∃y,aE[t.toNat]? =some y∧y.2.2.1=true∧y.2.2.2.1=x.2.2.2.1∧y.2.2.2.2=x.2.2.2.2∧x.2.2.2.2≠0)∧
  (t= -2→∀y∈aE,y.2.2.1=true→y.2.2.2.1=x.2.2.2.1→y.2.2.2.2≠x.2.2.2.2):=by
 have hr:=wC (p:=kS x.2.2.2.1 x.2.2.2.2) (r:=aE)
 have ef:0≤gv aE x.2.2.2.1 x.2.2.2.2→gv aE x.2.2.2.1 x.2.2.2.2<(aE.length:Int):=by
  intro h0
  obtain⟨y,hy, -⟩:=XL h0
  have:=(dJ.1 hy).1
  omega
 subst ht
 unfold rP
 by_cases hw:x.2.2.1=true
 ·simp only[hw,apG]
  refine⟨by simp,fun h=>aj,by omega,by omega,fun h=>aj,fun h=>aj⟩
 ·have yM:x.2.2.1=false:=by simpa using hw
  simp only[yM,aq8,aoU]
  by_cases h0:x.2.2.2.2=0
  ·simp only[h0,apG]
   refine⟨by simp,fun _=>(by first|trivial|rfl),by omega,by omega,fun h=>aj,fun h=>aj⟩
  ·simp only[h0,aoU]
   by_cases hp:0≤gv aE x.2.2.2.1 x.2.2.2.2
   ·simp only[hp,apG]
    have hl:=ef hp
    obtain⟨y,hy,hyp⟩:=XL hp
    obtain⟨y1,y2,y3⟩:=O'.1 hyp
    have e:max (gv aE x.2.2.2.1 x.2.2.2.2) 0=gv aE x.2.2.2.1 x.2.2.2.2:=by omega
    rw[e]
    refine⟨?_,fun h=>aj,by omega,hl,fun _=>⟨y,hy,y1,y2,y3,h0⟩,fun h=>aj⟩
    rw[an' aj];rfl
   ·simp only[hp,aoU]
    refine⟨J,fun h=>aj,by omega,by omega,fun h=>aj,fun _ y hy hyw hyv hyn=>?_⟩
    apply hp
    unfold gv eF
    cases hf:aE.findIdx? (kS x.2.2.2.1 x.2.2.2.2) with
    |none=>
     rw[apH] at hf
     have:=hf y hy
     rw[O'.2 ⟨hyw,hyv,hyn⟩] at this
     cases this
    |some i=>simp
end Go.Ew
namespace Go.Ew
variable {n:Nat} {i j:Int} {p:hQ}
def ib (n:Nat) (p:Nat→Bool):Row:=(((List.range n).filter p).map fun k=>((k:Nat):Int)).foldl ei (eh ((n:Nat):Int))
theorem qB (n:Nat):words ((n:Nat):Int)=(n+63)/64:=by unfold words;omega
theorem jF (n:Nat) (p:Nat→Bool):(ib n p).length=words ((n:Nat):Int):=by unfold ib;rw[wg,pY]
theorem Wm (h0:0≤i) (h:i<((n:Nat):Int)):jz (eh ((n:Nat):Int)) i=true:=Mi h0 (by rw[pY,qB];omega)
theorem iZ (n:Nat) (p:Nat→Bool) (i:Int):fk (ib n p) i=(decide (0≤i)&&decide (i<((n:Nat):Int))&&p i.toNat):=by
 unfold ib
 rw[AA,FF,apZ,aoj]
 simp only[aoB,aoE,aoi,an7,ez,an2]
 constructor
 ·rintro⟨z,⟨k,⟨hk,hp⟩,rfl⟩,rfl, -⟩
  exact⟨⟨by omega,by omega⟩,by simpa using hp⟩
 ·rintro⟨⟨h0,h1⟩,hp⟩
  exact⟨i,⟨i.toNat,⟨by omega,hp⟩,by omega⟩,J,Wm h0 h1⟩
theorem zZ {r:Row} {p:Nat→Bool} (hl:r.length=words ((n:Nat):Int)) (h:∀k:Nat,fk r ((k:Nat):Int)=(decide (k<n)&&p k)):r=ib n p:=by
 refine Z5 (by rw[hl,jF]) fun k=>?_
 rw[h,iZ]
 simp
theorem kL {p q:Nat→Bool} (h:∀k,k<n→p k=q k):ib n p=ib n q:=
 zZ (jF n p) fun k=>by
  rw[iZ]
  by_cases hk:k<n
  ·simp[hk,h k hk]
  ·simp[hk]
theorem CR (n:Nat):eh ((n:Nat):Int)=ib n fun _=>false:=zZ (pY _) fun k=>by rw[FF];simp
theorem uV {p:Nat→Bool} (h0:0≤j) (h1:j<((n:Nat):Int)):ei (ib n p) j=ib n fun k=>p k||decide (k=j.toNat):=by
 refine zZ (by rw[kG,jF]) fun k=>?_
 rw[Da,iZ]
 have sJ:jz (ib n p) j=true:=Mi h0<|by rw[jF,qB];omega
 rw[sJ,aq_,aoj]
 simp only[aoc,ez,an2,dq]
 constructor
 ·rintro(⟨⟨h2,h3⟩,h4⟩|h2)
  ·exact⟨by omega,.inl h4⟩
  ·exact⟨by omega,.inr aj⟩
 ·rintro⟨h2,h3|h3⟩
  ·exact .inl ⟨⟨by omega,by omega⟩,h3⟩
  ·exact .inr aj
def cE (n:Nat) (p:hQ):Rows:=(List.range n).map fun i=>ib n (p i)
theorem mj (n:Nat) (p:hQ):(cE n p).length=n:=by unfold cE;simp
theorem mV {n:Nat} {p:hQ} {i:Nat} {x:Row} (h:(cE n p)[i]? =some x):i<n∧x=ib n (p i):=by
 unfold cE at h
 rw[aoa] at h
 cases hr:(List.range n)[i]? with
 |none=>rw[hr] at h;cases h
 |some k=>
  rw[hr] at h
  obtain⟨h1,h2⟩:=dJ.1 hr
  simp at h1 h2
  subst h2
  exact⟨h1,(an5 h).symm⟩
theorem sj {i:Nat} (h:i<n):(cE n p)[i]? =some (ib n (p i)):=by
 unfold cE;rw[aoa,aoL h];rfl
theorem CS {rs:Rows} (hl:rs.length=n) (h:∀i,i<n→rs[i]? =some (ib n (p i))):rs=cE n p:=by
 apply aoz
 intro i
 by_cases hi:i<n
 ·rw[h i hi,sj hi]
 ·rw[aof aj,aof (by rw[mj];omega)]
theorem dH {q:hQ} (h:∀i j,i<n→j<n→p i j=q i j):cE n p=cE n q:=
 CS (mj n p) fun i hi=>by rw[sj hi,kL fun j hj=>h i j hi hj]
theorem yG (n:Nat):vN ((n:Nat):Int)=cE n fun _ _=>false:=by
 refine CS (by rw[pZ];simp) fun i hi=>?_
 unfold vN
 rw[apO,an4 (by simpa using hi),CR]
theorem xz {i:Nat} {q:Nat→Bool}:(cE n p).set i (ib n q)=cE n fun a b=>if a=i then q b else p a b:=by
 refine CS (by rw[an1,mj]) fun k hk=>?_
 rw[apa]
 by_cases e:i=k
 ·subst e
  rw[an4 rfl,an4 (by rw[mj];exact hk)]
  congr 1
  exact kL fun j _=>by simp
 ·rw[an8 e,sj hk]
  congr 1
  exact kL fun j _=>by rw[an8 fun e2=>e e2.symm]
theorem tf (h0:0≤i) (h:i<((n:Nat):Int)):rowAt (cE n p) i=ib n (p i.toNat):=sh (sj aj)
theorem Cr (hi:kE ((n:Nat):Int) [i,j]=true):rB (cE n p) (i,j)=cE n fun a b=>p a b||(decide (a=i.toNat)&&decide (b=j.toNat)):=by
 obtain⟨⟨h1,h2⟩,h3,h4⟩:=jo.1 hi
 unfold rB
 dsimp only
 rw[tf h1 h2,uV h3 h4,xz]
 refine dH fun a b ha hb=>?_
 by_cases e:a=i.toNat
 ·subst e;simp
 ·simp[e]
theorem JO {n:Nat} {p:hQ} {i j:Int}:eI ((n:Nat):Int) (cE n p) i j=(kE ((n:Nat):Int) [i,j]&&p i.toNat j.toNat):=by
 unfold eI
 cases h:kE ((n:Nat):Int) [i,j] with
 |false=>rfl
 |true=>
  obtain⟨⟨h1,h2⟩,h3,h4⟩:=jo.1 h
  rw[tf h1 h2,iZ,an6 h3,an6 h4];rfl
theorem Qj (hi:kE ((n:Nat):Int) [i,j]=true):j9 ((n:Nat):Int) (cE n p) i j=cE n fun a b=>p a b||(decide (a=i.toNat)&&decide (b=j.toNat)):=by
 rw[(pW hi).2.1,Cr hi]
theorem aaA {i j:Nat}:kE ((n:Nat):Int) [((i:Nat):Int),((j:Nat):Int)]=(decide (i<n)&&decide (j<n)):=by
 rw[acS,aoj]
 simp only[ez,an2]
 omega
theorem uI {i j:Nat} (hi:i<n) (hj:j<n):eI ((n:Nat):Int) (cE n p) ((i:Nat):Int) ((j:Nat):Int)=p i j:=by
 rw[JO,aaA];simp[hi,hj]
theorem S4:∀x∈cE n p,x.length=words ((n:Nat):Int):=by
 intro x hx
 obtain⟨i,hi⟩:=aok.1 hx
 rw[(mV hi).2,jF]
theorem Bi (h:n≤4096):∀x∈cE n p,x.length≤1000000000:=by
 intro x hx
 rw[S4 x hx,qB];omega
end Go.Ew
namespace Go.Ew
variable {aE:List aN} {i t:Int} {x:aN}
abbrev Br:aN:=(0,0,false,0,0)
def j2 (aE:List aN) (i:Nat):Int:=(aE.getD i Br).1
def kM (aE:List aN) (i:Nat):Int:=(aE.getD i Br).2.1
theorem Jy (h:aE[i.toNat]? =some x):aE.getD i.toNat Br=x:=by rw[il,h];rfl
theorem gI (h:aE[i.toNat]? =some x):j2 aE i.toNat=x.1:=by unfold j2;rw[Jy h]
theorem Ir (h:aE[i.toNat]? =some x):kM aE i.toNat=x.2.1:=by unfold kM;rw[Jy h]
structure ik (aE:List aN):Prop where
 first:0<aE.length→kM aE 0=0
 next:∀i,i+1<aE.length→(j2 aE (i+1)=j2 aE i∧kM aE (i+1)=kM aE i+1)∨(j2 aE i<j2 aE (i+1)∧kM aE (i+1)=0)
section
variable {aE:List aN} (o:ik aE)
include o
theorem ik.le:∀(d i:Nat),i+d<aE.length→j2 aE i≤j2 aE (i+d)
 |0,i,h=>ari _
 |d+1,i,h=>by
  have h1:=ik.le d i aj
  have h2:=o.next (i+d) aj
  rw[show i+(d+1)=i+d+1 from rfl];omega
theorem ik.mono {i j:Nat} (JL:i≤j) (h:j<aE.length):j2 aE i≤j2 aE j:=by
 have:=o.le (j-i) i aj
 rwa [show i+(j-i)=j from by omega] at this
theorem ik.place:∀(d i:Nat),i+d<aE.length→j2 aE i=j2 aE (i+d)→kM aE (i+d)=kM aE i+((d:Nat):Int)
 |0,i,h,_=>by simp
 |d+1,i,h,hs=>by
  have h1:=o.mono (i:=i) (j:=i+d) aj aj
  have h2:=o.mono (i:=i+d) (j:=i+(d+1)) aj h
  have h3:=o.next (i+d) aj
  have e:i+(d+1)=i+d+1:=rfl
  rw[e] at hs h2 ⊢
  have ih:=ik.place d i aj aj
  omega
theorem ik.Ak:∀i,i<aE.length→0≤kM aE i
 |0,h=>by rw[o.first h];exact ari _
 |i+1,h=>by
  have:=ik.Ak i aj
  have:=o.next i h
  omega
theorem ik.back:∀i,i<aE.length→kM aE i≤((i:Nat):Int)∧∀k,((i:Nat):Int)-kM aE i≤((k:Nat):Int)→k≤i→j2 aE k=j2 aE i
 |0,h=>by
  rw[o.first h]
  exact⟨by omega,fun k _ hk=>by rw[show k=0 from by omega]⟩
 |i+1,h=>by
  obtain⟨h1,h2⟩:=ik.back i aj
  have h0:=o.Ak (i+1) h
  rcases o.next i h with ⟨hs,hp⟩|⟨hs,hp⟩
  ·refine⟨by omega,fun k hk Au=>?_⟩
   by_cases e:k=i+1
   ·rw[e]
   ·rw[hs];exact h2 k aj aj
  ·refine⟨by omega,fun k hk Au=>?_⟩
   rw[show k=i+1 from by omega]
theorem ik.ahead {i j:Nat} (hi:i<aE.length) (hj:j<aE.length) (hs:j2 aE i=j2 aE j):(kM aE i<kM aE j↔i<j):=by
 rcases Nat.le_total i j with h|h
 ·have:=o.place (j-i) i aj<|by rw[show i+(j-i)=j from by omega];exact hs
  rw[show i+(j-i)=j from by omega] at this
  omega
 ·have:=o.place (i-j) j aj<|by rw[show j+(i-j)=i from by omega];exact hs.symm
  rw[show j+(i-j)=i from by omega] at this
  omega
end
theorem VU (o:ik aE) (h0:aE.length=0→x.2.1=0) (h:∀n,aE.length=n+1→(x.1=j2 aE n∧x.2.1=kM aE n+1)∨(j2 aE n<x.1∧x.2.1=0)):ik (aE++[x]):=by
 have hold:∀i,i<aE.length→(aE++[x]).getD i Br=aE.getD i Br:=by
  intro i hi
  rw[il,il,oB hi]
 have FW:(aE++[x]).getD aE.length Br=x:=by
  rw[il,nH (an3 _)];simp
 refine⟨fun hl=>?_,fun i hi=>?_⟩
 ·by_cases e:aE.length=0
  ·have:=FW
   rw[e] at this
   unfold kM;rw[this];exact h0 e
  ·have:=o.first aj
   unfold kM at this ⊢
   rw[hold 0 aj];exact this
 ·rw[fJ,apX] at hi
  by_cases e:i+1<aE.length
  ·have:=o.next i e
   unfold j2 kM at this ⊢
   rw[hold i aj,hold (i+1) e];exact this
  ·have e2:aE.length=i+1:=by omega
   have:=h i e2
   unfold j2 kM at this ⊢
   rw[hold i aj,←e2,FW]
   rcases this with ⟨a,b⟩|⟨a,b⟩
   ·exact .inl ⟨a,b⟩
   ·exact .inr ⟨a,b⟩
def NK (aE:List aN) (j:Nat):Prop:=∀x∈aE,x.1<((j:Nat):Int)
theorem Wg {n:Nat} (h:aE.length=n+1):aE.getD n Br∈aE:=by
 rw[il,dW aj]
 exact aqn _
theorem Ou {j:Nat} {st:zf} {ops:List jw} (o:ik st.2) (hb:NK st.2 j):∀k,k≤ops.length→
  ik (jJ j st ops k).2∧NK (jJ j st ops k).2 (j+1)∧(0<k→∃n,(jJ j st ops k).2.length=n+1∧j2 (jJ j st ops k).2 n=((j:Nat):Int)∧kM (jJ j st ops k).2 n=((k:Nat):Int)-1)
 |0,_=>by
  rw[AX]
  exact⟨o,fun x hx=>by have:=hb x hx;omega,fun h=>aj⟩
 |k+1,hk=>by
  obtain⟨ho,B2,Yw⟩:=Ou (ops:=ops) o hb k aj
  have hx:ops[((k:Nat):Int).toNat]? =some ops[k]:=by rw[dq];exact dW aj
  rw[xb hx]
  unfold uP
  dsimp only
  refine⟨VU ho (fun h0=>?_) (fun n hn=>?_),?_,fun _=>⟨(jJ j st ops k).2.length,by simp,?_,?_⟩⟩
  ·show ((k:Nat):Int)=0
   by_cases cC:0<k
   ·obtain⟨n,h1, -⟩:=Yw cC
    omega
   ·omega
  ·show (((j:Nat):Int)=_∧((k:Nat):Int)=_)∨(_<((j:Nat):Int)∧((k:Nat):Int)=0)
   by_cases cC:0<k
   ·obtain⟨n',h1,h2,h3⟩:=Yw cC
    obtain rfl:n=n':=by omega
    exact .inl ⟨h2.symm,by rw[h3];omega⟩
   ·right
    have cC:k=0:=by omega
    subst cC
    rw[AX] at hn ⊢
    exact⟨hb _ (Wg hn),J⟩
  ·intro x hxm
   rcases aot.1 hxm with h|h
   ·exact B2 x h
   ·rw[apj] at h
    subst h
    show ((j:Nat):Int)<_
    omega
  ·unfold j2
   rw[il,nH (an3 _)];simp
  ·unfold kM
   rw[il,nH (an3 _)]
   simp
theorem Nu (h:cR):∀j,j≤h.length→ik (iD h j).2∧NK (iD h j).2 j
 |0,_=>⟨⟨fun h=>(by simp[iD] at h),fun i hi=>(by simp[iD] at hi)⟩,fun x hx=>(by simp[iD] at hx)⟩
 |j+1,hj=>by
  obtain⟨ho,hb⟩:=Nu h j aj
  have hx:h[((j:Nat):Int).toNat]? =some h[j]:=by rw[dq];exact dW aj
  rw[zb hx]
  have:=Ou (ops:=h[j]) ho hb _<|an3 _
  exact⟨this.1,this.2.1⟩
theorem T9 (h:cR):ik (gq h):=(Nu h h.length (an3 _)).1
theorem OX (h:cR):ik (cS h):=by
 unfold cS;split
 ·exact T9 h
 ·exact⟨fun h=>(by simp at h),fun i hi=>(by simp at hi)⟩
def DB (aE:List aN) (i j:Nat):Bool:=decide (i<j)&&decide (j<aE.length)&&decide (j2 aE i=j2 aE j)
def oK (aE:List aN):Rows:=cE aE.length (DB aE)
def zm (aE:List aN) (t:Int):Rows:=cE aE.length fun a b=>decide (t<((a:Nat):Int))&&DB aE a b
theorem QC (aE:List aN) (t:Int) (h:(aE.length:Int)-2=t):vN (aE.length:Int)=zm aE t:=by
 rw[yG]
 refine dH fun a b ha hb=>?_
 unfold DB
 rw[aoj]
 simp only[ez,an2,aq8,false_iff]
 omega
theorem VF (h:t<0):zm aE t=oK aE:=by
 refine dH fun a b ha hb=>?_
 rw[an6 aj];rfl
theorem kY (h0:0≤t) (h1:t+1<(aE.length:Int)) (hs:j2 aE t.toNat=j2 aE (t+1).toNat) {x:Row} (hx:(zm aE t)[(t+1).toNat]? =some x):
  (zm aE t).set t.toNat (ei x (t+1))=zm aE (t-1):=by
 unfold zm at *
 obtain⟨h2,rfl⟩:=mV hx
 rw[uV aj h1,xz]
 refine dH fun a b ha hb=>?_
 have e:(t+1).toNat=t.toNat+1:=by omega
 rw[e] at hs ⊢
 by_cases ea:a=t.toNat
 ·subst ea
  rw[an4 rfl]
  unfold DB
  rw[aoj]
  simp only[ez,aoc,an2]
  constructor
  ·rintro(⟨_,⟨h3,h4⟩,h5⟩|h3)
   ·exact⟨by omega,⟨by omega,h4⟩,by rw[hs,h5]⟩
   ·subst h3;exact⟨by omega,⟨by omega,by omega⟩,hs⟩
  ·rintro⟨_,⟨h3,h4⟩,h5⟩
   by_cases e2:b=t.toNat+1
   ·exact .inr e2
   ·exact .inl ⟨by omega,⟨by omega,h4⟩,by rw[←hs,h5]⟩
 ·rw[an8 ea,show decide (t<((a:Nat):Int))=decide (t-1<((a:Nat):Int)) from by rw[apk];omega]
theorem GI (o:ik aE) (h0:0≤t) (h1:t+1<(aE.length:Int)) (hs:¬j2 aE t.toNat=j2 aE (t+1).toNat):zm aE t=zm aE (t-1):=by
 refine dH fun a b ha hb=>?_
 have e:(t+1).toNat=t.toNat+1:=by omega
 rw[e] at hs
 by_cases ea:a=t.toNat
 ·subst ea
  rw[an' aj,aq3]
  symm
  unfold DB
  rw[aqj]
  right
  rw[aqj]
  by_cases wb:t.toNat<b
  ·right
   rw[aob]
   intro he
   have g1:=o.mono (i:=t.toNat) (j:=t.toNat+1) aj aj
   have g2:=o.mono (i:=t.toNat+1) (j:=b) aj aj
   omega
  ·left
   rw[an' aj];rfl
 ·rw[show decide (t<((a:Nat):Int))=decide (t-1<((a:Nat):Int)) from by rw[apk];omega]
def cz (aE:List aN) (t:Int):aA:=if 0≤t∧t<(aE.length:Int) then (List.range ((kM aE t.toNat).toNat+1)).map fun q=>(t-kM aE t.toNat)+((q:Nat):Int) else []
def u1 (f:Int) (q:Nat):aA:=(List.range q).map fun k=>f+((k:Nat):Int)
theorem N1 (f:Int) (q:Nat):u1 f q++[f+((q:Nat):Int)]=u1 f (q+1):=by unfold u1;rw[apq,api];rfl
theorem QF (f:Int) (q:Nat):(u1 f q).length=q:=by unfold u1;simp
theorem FA (h:¬(0≤t∧t<(aE.length:Int))):([]:aA)=cz aE t:=by unfold cz;rw[an8 h]
theorem SH {q:Nat} (h0:0≤t) (h:t<(aE.length:Int)) (hx:aE[t.toNat]? =some x) (hp:0≤x.2.1) (hq:((q:Nat):Int)=x.2.1+1):u1 (t-x.2.1) q=cz aE t:=by
 unfold cz u1
 rw[an4 ⟨h0,h⟩,Ir hx,show x.2.1.toNat+1=q from by omega]
theorem Z' (aE:List aN):(oK aE).length=aE.length:=mj _ _
theorem VE {i:Nat} {x:Row} (h:(zm aE t)[i]? =some x):x.length=words ((aE.length:Nat):Int):=by rw[(mV h).2,jF]
theorem NM {n:Nat} (h:n≤4096):words ((n:Nat):Int)≤64:=by rw[qB];omega
end Go.Ew
namespace Go.Ew
variable {rs:Rows} {j n i:Nat} {p:hQ} {x:Row}
def DZ (n:Int) (r:Row):Bool:=decide (((r.length:Nat):Int)=((words n:Nat):Int))&&(List.range (64*r.length)).all fun k=>decide (((k:Nat):Int)<n)||!fk r ((k:Nat):Int)
def bJ (n:Int) (rs:Rows):Bool:=CQ n&&decide (((rs.length:Nat):Int)=n)&&rs.all (DZ n)
theorem Sl {n:Int} {r:Row} {j:Int} (hl:((r.length:Nat):Int)=((words n:Nat):Int)) (h:∀k:Int,n≤k→k<j→fk r k=false) (hj:64*((r.length:Nat):Int)≤j):DZ n r=true:=by
 unfold DZ
 rw[an6 hl,aoY,an9]
 intro k hk
 have:=an7.1 hk
 by_cases hn:((k:Nat):Int)<n
 ·rw[an6 hn];rfl
 ·rw[h _ aj aj];simp
theorem Qt {n:Int} (h0:0≤n) (h1:n≤4096) (h2:((rs.length:Nat):Int)=n) (hs:(rs.take j).all (DZ n)=true) (hj:rs.length≤j):true=bJ n rs:=by
 unfold bJ;rw[mg hj] at hs;rw[sD.2 ⟨h0,h1⟩,an6 h2,hs];rfl
theorem lH (h:n≤4096):bJ ((n:Nat):Int) (cE n p)=true:=by
 refine(Qt (j:=(cE n p).length) aj aj (by rw[mj]) ?_<|an3 _).symm
 rw[ao1,an9]
 intro x hx
 obtain⟨i,hi⟩:=aok.1 hx
 obtain⟨h1,rfl⟩:=mV hi
 refine Sl (j:=64*(((ib n<|p i).length:Nat):Int)) (by rw[jF]) (fun k hk Av=>?_)<|ari _
 rw[iZ,an' (show ¬k<((n:Nat):Int) from by omega)];simp
def cP (n:Int) (rs:Rows):Option Nat:=(List.range n.toNat).find? fun i=>eI n rs ((i:Nat):Int) ((i:Nat):Int)
theorem WX {p:Nat→Bool} (hj:j<n) (hp:p j=true) (hl:∀k,k<j→p k=false):(List.range n).find? p=some j:=by
 rw[aqe]
 refine⟨hp,List.range j,(List.range<|n-j-1).map (fun i=>j+1+i),?_,fun a ha=>by rw[hl a (an7.1 ha)];rfl⟩
 have:n=j+(1+(n-j-1)):=by omega
 conv=>lhs;rw[this]
 rw[nQ,nQ]
 simp[aqN]
theorem T6 {p:Nat→Bool} (hj:n≤j) (hl:∀k,k<j→p k=false):(List.range n).find? p=none:=by
 rw[apw]
 intro k hk
 rw[hl k (by have:=an7.1 hk;omega)];simp
theorem L7 {n:Int} (hj:((j:Nat):Int)<n) (hp:eI n rs ((j:Nat):Int) ((j:Nat):Int)=true) (hl:∀k,k<j→eI n rs ((k:Nat):Int) ((k:Nat):Int)=false):cP n rs=some j:=WX aj hp hl
theorem Ju {n:Int} (hj:n≤((j:Nat):Int)) (hl:∀k,k<j→eI n rs ((k:Nat):Int) ((k:Nat):Int)=false):cP n rs=none:=T6 aj hl
theorem RA {p:Nat→Bool} (hl:∀k,k<j→p k=false) (h:p j=false):∀k,k<j+1→p k=false:=by
 intro k hk
 rcases apI.1 hk with h1|rfl
 ·exact hl k h1
 ·exact h
def yo (rs:Rows) (i:Nat):List (Int×Int):=(cY (rowAt rs ((i:Nat):Int))).map fun j=>(((i:Nat):Int),j)
def ly (rs:Rows) (i:Nat):List (Int×Int):=(List.range i).flatMap (yo rs)
def iW (n:Int) (rs:Rows):List (Int×Int):=ly rs n.toNat
theorem CJ (rs:Rows) (i:Nat):ly rs (i+1)=ly rs i++yo rs i:=by unfold ly;rw[apq,apP];simp
theorem G1 (n:Nat) (q:Nat→Bool):cY (ib n q)=((List.range n).filter q).map fun k=>((k:Nat):Int):=by
 rw[←S6]
 unfold KG
 congr 1
 have hl:=jF n q
 rw[qB] at hl
 have e:64*(ib n q).length=n+(64*(ib n q).length-n):=by omega
 rw[e,nQ,apx]
 have e2:((List.range (64*(ib n q).length-n)).map fun i=>n+i).filter (fun k=>fk (ib n q) ((k:Nat):Int))=[]:=by
  rw[ao']
  intro k hk
  obtain⟨i, -,rfl⟩:=aoE.1 hk
  rw[iZ,an' (show ¬(((n+i:Nat):Nat):Int)<((n:Nat):Int) from by omega)];simp
 rw[e2,aps]
 apply aqg
 intro k hk
 have:=an7.1 hk
 rw[iZ]
 simp[this]
theorem A7 (h:i<n):yo (cE n p) i=((List.range n).filter (p i)).map fun j=>(((i:Nat):Int),((j:Nat):Int)):=by
 unfold yo
 rw[tf aj aj,dq,G1,aqh];rfl
theorem yH {z:Int×Int}:z∈iW ((n:Nat):Int) (cE n p)↔∃a b,a<n∧b<n∧p a b=true∧z=(((a:Nat):Int),((b:Nat):Int)):=by
 unfold iW ly
 rw[arf]
 constructor
 ·rintro⟨a,ha,hz⟩
  have ha:=an7.1 ha
  rw[dq] at ha
  rw[A7 ha] at hz
  obtain⟨b,hb,rfl⟩:=aoE.1 hz
  rw[aoi,an7] at hb
  exact⟨a,b,ha,hb.1,hb.2,J⟩
 ·rintro⟨a,b,ha,hb,hp,rfl⟩
  refine⟨a,an7.2 (by simpa using ha),?_⟩
  rw[A7 ha]
  exact aoE.2 ⟨b,aoi.2 ⟨an7.2 hb,hp⟩,J⟩
def LH (n:Nat) (p:hQ):Nat:=((List.range n).map fun a=>((List.range n).filter (p a)).length).sum
theorem SK:(iW ((n:Nat):Int) (cE n p)).length=LH n p:=by
 unfold iW ly LH
 rw[List.length_flatMap,dq]
 congr 1
 apply aoP
 intro a ha
 rw[A7 (an7.1 ha),aoo]
theorem N2 {n:Nat} {p:hQ}:(iW ((n:Nat):Int) (cE n p)).length≤n*n:=by
 rw[SK];unfold LH
 have:∀l:List Nat,(l.map fun a=>((List.range n).filter (p a)).length).sum≤l.length*n:=by
  intro l
  induction l with
  |nil=>simp
  |cons a l ih=>
   have h1:=ao3 (p a)<|List.range n
   rw[apM] at h1
   simp only[aoq,aqO,iS,aoT,Nat.one_mul];omega
 have h:=this<|List.range n
 rwa [apM] at h
theorem Si {rs:Rows} (hr:∀x∈rs,x.length≤64) (i:Nat):(yo rs i).length≤4096:=by
 unfold yo
 rw[aoo]
 have h1:=nf<|rowAt rs ((i:Nat):Int)
 have:(rowAt rs ((i:Nat):Int)).length≤64:=by
  unfold rowAt
  rw[il]
  cases h:rs[((i:Nat):Int).toNat]? with
  |none=>simp
  |some x=>exact hr x (dz h)
 omega
theorem Ez {rs:Rows} (hr:∀x∈rs,x.length≤64):∀i,(ly rs i).length≤4096*i
 |0=>by simp[ly]
 |i+1=>by
  have:=Ez hr i
  have:=Si hr i
  rw[CJ,fJ];omega
theorem Vu (hx:rs[((i:Nat):Int).toNat]? =some x):yo rs i=(cY x).map fun j=>(((i:Nat):Int),j):=by unfold yo;rw[sh hx]
theorem SM {q:Nat} {y:Int} (hy:(cY x)[((q:Nat):Int).toNat]? =some y):(ly rs i++((cY x).take q).map fun j=>(((i:Nat):Int),j))++[(((i:Nat):Int),y)]=ly rs i++((cY x).take (q+1)).map fun j=>(((i:Nat):Int),j):=by
 rw[nO hy,api,aoA];rfl
theorem VS {q:Nat} (hx:rs[((i:Nat):Int).toNat]? =some x) (hq:(cY x).length≤q):(ly rs i++((cY x).take q).map fun j=>(((i:Nat):Int),j))=ly rs (i+1):=by
 rw[mg hq,CJ,Vu hx]
theorem SL {n:Int} (h:n≤((i:Nat):Int)) (hi:((i:Nat):Int)≤n∨i=0):ly rs i=iW n rs:=by
 unfold iW;rw[show n.toNat=i from by omega]
theorem SI {aE:List aN} (o:ik aE) {t:Int} (h0:0≤t) (h:t<(aE.length:Int)):(((cz aE t).length:Nat):Int)=kM aE t.toNat+1:=by
 have:=o.Ak t.toNat aj
 unfold cz;rw[an4 ⟨h0,h⟩];simp;omega
theorem aaa {aE:List aN} (o:ik aE) {t:Int} (h0:0≤t) (h:t<(aE.length:Int)) {q:Nat} {x:Int} (hx:(cz aE t)[q]? =some x):0≤x∧x≤t∧x<(aE.length:Int)∧j2 aE x.toNat=j2 aE t.toNat∧kM aE x.toNat=((q:Nat):Int)∧x=t-kM aE t.toNat+((q:Nat):Int):=by
 obtain⟨b1,b2⟩:=o.back t.toNat aj
 have b0:=o.Ak t.toNat aj
 unfold cz at hx
 rw[an4 ⟨h0,h⟩,aoa] at hx
 cases hr:(List.range ((kM aE t.toNat).toNat+1))[q]? with
 |none=>rw[hr] at hx;cases hx
 |some k=>
  rw[hr] at hx
  obtain⟨h1,h2⟩:=dJ.1 hr
  simp only[apM] at h1
  rw[aqC] at h2
  subst h2
  have hx:(t-kM aE t.toNat)+((q:Nat):Int)=x:=an5 hx
  have hs:=b2 x.toNat aj aj
  refine⟨by omega,by omega,by omega,hs,?_,hx.symm⟩
  have:=o.place (t.toNat-x.toNat) x.toNat aj<|by rw[show x.toNat+(t.toNat-x.toNat)=t.toNat from by omega];exact hs
  rw[show x.toNat+(t.toNat-x.toNat)=t.toNat from by omega] at this
  omega
theorem aap (h:n≤4096):∀x∈cE n p,x.length≤64:=by
 intro x hx
 obtain⟨i,hi⟩:=ap4 hx
 obtain⟨-,rfl⟩:=mV hi
 have h1:=jF n<|p i
 have:=Ff (n:=((n:Nat):Int)) aj
 omega
end Go.Ew
namespace Go.Ew
variable {n:Nat}
theorem Vx {r:Row} (h:DZ ((n:Nat):Int) r=true):r=ib n fun k=>fk r ((k:Nat):Int):=by
 unfold DZ at h
 rw[ez,an2,an9] at h
 refine zZ aj fun k=>?_
 by_cases hk:k<n
 ·simp[hk]
 ·rw[an' hk,aq3]
  by_cases h2:k<64*r.length
  ·have:=h.2 k<|an7.2 h2
   rw[an' (show ¬((k:Nat):Int)<((n:Nat):Int) from by omega),apZ] at this
   simpa using this
  ·exact(xK<|by unfold jz;exact an' aj).symm
theorem mh {n:Int} {rs:Rows} (h:bJ n rs=true):∃(m:Nat) (p:hQ),n=((m:Nat):Int)∧m≤4096∧rs=cE m p:=by
 unfold bJ at h
 rw[ez,ez,an2,an9] at h
 obtain⟨⟨h1,h2⟩,h3⟩:=h
 have h1:=sD.1 h1
 refine⟨n.toNat,fun i j=>fk (rs.getD i []) ((j:Nat):Int),by omega,by omega,CS aj fun i hi=>?_⟩
 have hx:rs[i]? =some rs[i]:=dW aj
 have e:rs.getD i []=rs[i]:=by rw[il,hx];rfl
 rw[hx,e]
 have:=Vx (n:=n.toNat) (r:=rs[i])<|by rw[show ((n.toNat:Nat):Int)=n from by omega];exact h3 _ (aqn _)
 rw[←this]
theorem bQ {n:Int} {rs:Rows} (h:bJ n rs=true):((rs.length:Nat):Int)=n∧(∀x∈rs,x.length≤1000000000)∧n≤4096∧0≤n∧∀x∈rs,x.length≤64:=by
 obtain⟨m,p,rfl,hm,rfl⟩:=mh h
 exact⟨by rw[mj],Bi hm,by omega,by omega,aap hm⟩
def vM (a b:Rows) (n:Nat):Rows:=(List.range n).map fun i=>jK (rowAt a ((i:Nat):Int)) (rowAt b ((i:Nat):Int))
theorem LQ (a b:Rows) (n:Nat):(vM a b n).length=n:=by unfold vM;simp
theorem SQ (a b:Rows) (n:Nat):vM a b (n+1)=vM a b n++[jK (rowAt a ((n:Nat):Int)) (rowAt b ((n:Nat):Int))]:=by unfold vM;rw[apq,api];rfl
def tj (an bn:Int):Int:=if an=bn then an else 0
def mi (an:Int) (ar:Rows) (bn:Int) (br:Rows):Rows:=if an=bn then vM ar br an.toNat else []
def xp (an bn:Int):Int:=if an=bn then 0 else 1
theorem LS {an bn:Int} {ar br:Rows} (h:¬an=bn):tj an bn=0∧mi an ar bn br=[]∧xp an bn=1:=by unfold tj mi xp;simp[h]
theorem Ad {an bn:Int} {ar br:Rows} (h:an=bn):tj an bn=an∧mi an ar bn br=vM ar br an.toNat∧xp an bn=0:=by unfold tj mi xp;simp[h]
def u3 (a b:Rows) (n j:Nat):Rows:=vM a b j++List.replicate (n-j) []
theorem N5 (a b:Rows) (n:Nat):List.replicate n []=u3 a b n 0:=by unfold u3 vM;simp
theorem QG {a b:Rows} {j:Nat} {x y:Row} (hj:j<n) (hx:a[((j:Nat):Int).toNat]? =some x) (hy:b[((j:Nat):Int).toNat]? =some y):(u3 a b n j).set j (jK x y)=u3 a b n (j+1):=by
 unfold u3
 rw[SQ,sh hx,sh hy]
 have hl:=LQ a b j
 rw[apd _ _ aj,hl,aoZ,show n-j=n-(j+1)+1 from by omega,aoW,apU]
 simp
theorem QH {a b:Rows} {j:Nat} (hj:n≤j) (h:j≤n):u3 a b n j=vM a b n:=by
 obtain rfl:n=j:=by omega
 unfold u3;simp
theorem It (p q:Nat→Bool):jK (ib n p) (ib n q)=ib n fun k=>p k||q k:=by
 refine zZ (by rw[Bb,jF,jF];omega) fun k=>?_
 rw[aaD,iZ,iZ]
 by_cases hk:k<n<;>simp[hk]
theorem SR (p q:hQ):vM (cE n p) (cE n q) n=cE n fun a b=>p a b||q a b:=by
 refine CS (LQ _ _ _) fun i hi=>?_
 unfold vM
 rw[aoa,aoL hi]
 simp only[aoV]
 rw[tf aj aj,tf aj aj,dq,It]
theorem SJ {p:hQ} {z:Int×Int} {q:Nat} (h:(iW ((n:Nat):Int) (cE n p))[q]? =some z):0≤z.1∧z.1<((n:Nat):Int)∧0≤z.2∧z.2<((n:Nat):Int)∧p z.1.toNat z.2.toNat=true:=by
 obtain⟨a,b,ha,hb,hp,rfl⟩:=yH.1 (dz h)
 exact⟨by omega,by omega,by omega,by omega,by simpa using hp⟩
end Go.Ew
namespace Go.Ew
theorem kX {n:Int} {rs:Rows} (h:bJ n rs=true):0≤n:=(bQ h).2.2.2.1
section
variable {n:Int} {rs:Rows} {i j:Int} (h:bJ n rs=true) (hi:kE n [i,j]=true)
include h hi
theorem Se:bJ (iu n i j) (j9 n rs i j)=true:=by
 obtain⟨m,p,rfl,hm,rfl⟩:=mh h
 rw[(pW (rs:=cE m p) hi).1,Qj hi]
 exact lH hm
end
theorem NS {n:Int} {rs:Rows} (h:bJ n rs=true):(iW n rs).length≤16777216:=by
 obtain⟨m,p,rfl,hm,rfl⟩:=mh h
 have h1:=N2 (n:=m) (p:=p)
 have h2:m*m≤4096*4096:=Nat.mul_le_mul hm hm
 omega
end Go.Ew
namespace Go.Ew
variable {l:List Item} {i j q:Nat} {a b xs:Row} {n:Int}
theorem S' {B e:Nat} {iv fv:Value} (hj:l[j]? =some (own B e fv b)) (hi:i<l.length) (gB:i≠j∨(iv=fv∧b=a)) (EB:xs.length=a.length) (Mk:xs=qe a.length a b a q) (hq:q≤b.length) (hlen:b.length≤a.length):
  ∃ys:Row,(l.set i (own B e iv xs))[j]? =some (own B e fv ys)∧ys.length=b.length∧∀x,ys[((q:Nat):Int).toNat]? =some x→b.getD q 0#64=x:=by
 by_cases h:i=j
 ·subst h
  rcases gB with h|⟨rfl,rfl⟩
  ·exact absurd J h
  ·refine⟨xs,by rw[aol hi],EB,fun x hx=>?_⟩
   rw[Mk] at hx
   exact(Ba hx).symm
 ·exact⟨b,by rw[aoD h,hj],J,fun x hx=>wQ hx⟩
theorem S_ {x y:bp} (hs:xs=qe a.length a b a q) (hx:b.getD q 0#64=x) (hy:xs[((q:Nat):Int).toNat]? =some y):xs.set ((q:Nat):Int).toNat (y ||| x)=qe a.length a b a (q+1):=by
 subst hs
 have e1:=Ba hy
 rw[dq]
 exact FC<|by rw[e1];unfold tk;rw[hx]
theorem Wk (hs:xs=qe a.length a b a q) (hlen:b.length≤a.length) (hq:b.length≤q):xs=jK a b:=by
 rw[hs]
 refine xo aj<|fun i h1 h2=>?_
 unfold tk
 rw[sr (show b.length≤i by omega)];simp
theorem Lu {it:Item} (hi:i<l.length):(l.set i it)[i]? =some it:=aol hi
theorem set_set {l:List Item} {i:Nat} {x y:Item}:(l.set i x).set i y=l.set i y:=List.set_set ..
theorem ZY {x:Item} (h:l[i]? =some x):l.set i x=l:=by
 apply aoz
 intro m
 rw[apa]
 split
 ·rename_i e
  subst e
  split
  ·exact h.symm
  ·rename_i hl
   rw[aof aj]
 ·rfl
def AZ (z:Int×Int):Int×Int:=(z.2,z.1)
def gJ (n:Int) (rs:Rows):Rows:=foldM n ((iW n rs).map AZ)
theorem Qs {rs:Rows} (h:bJ n rs=true) {z:Int×Int} (hz:(iW n rs)[q]? =some z):0≤z.1∧z.1<n∧0≤z.2∧z.2<n:=by
 obtain⟨m,p,rfl,hm,rfl⟩:=mh h
 obtain⟨h1,h2,h3,h4, -⟩:=SJ hz
 exact⟨h1,h2,h3,h4⟩
theorem xa {ps:List (Int×Int)} {x:Row} (h:(foldM n ps)[i]? =some x) {k:Int} (h0:0≤k) (h1:k<n):0≤k/64∧k/64<((x.length:Nat):Int)∧(k/64).toNat<x.length∧jz x k=true:=by
 have hr:=TZ h
 have hw:x.length=(n.toNat+63)/64:=by rw[hr,←qB,show ((n.toNat:Nat):Int)=n from by omega]
 refine⟨by omega,by omega,by omega,Mi h0 aj⟩
theorem RY {l:List (Int×Int)} {z:Int×Int} {xs:Rows} {x:Row} {u:bp} (hs:xs=foldM n ((l.map AZ).take j)) (hz:l[((j:Nat):Int).toNat]? =some z) (hx:xs[z.2.toNat]? =some x) (hu:x[(z.1/64).toNat]? =some u) (h0:0≤z.1) (h1:z.1<n):
  xs.set z.2.toNat (x.set (z.1/64).toNat (u ||| ko (z.1%64)))=foldM n ((l.map AZ).take (j+1)):=by
 have hr:=(xa (hs▸hx) h0 h1).2.2.2
 rw[Rn (p:=(z.2,z.1)) (by rw[aoa,hz];rfl),←hs,OD hr hu]
 exact Ik hx
theorem Vi {rs xs:Rows} (hs:xs=foldM n (((iW n rs).map AZ).take j)) (hj:(iW n rs).length≤j):xs=gJ n rs:=by
 rw[hs,mg (by rw[aoo];exact hj)];rfl
theorem RX (n:Int) (l:List (Int×Int)):List.replicate n.toNat (eh n)=foldM n ((l.map AZ).take 0):=rfl
theorem Ci (n:Int) (rs:Rows):(gJ n rs).length=n.toNat:=Dh _ _
end Go.Ew
namespace Go.Ew
variable {m:Nat} {p:hQ}
theorem Hu {m:Nat}:∀(l:List (Int×Int)) (p:hQ),(∀z∈l,kE ((m:Nat):Int) [z.1,z.2]=true)→l.foldl rB (cE m p)=cE m fun a b=>p a b||l.any fun z=>decide (a=z.1.toNat)&&decide (b=z.2.toNat)
 |[],p,_=>by
  show cE m p=_
  exact dH fun a b _ _=>by simp
 |z::l,p,h=>by
  rw[aqx,show z=(z.1,z.2) from rfl,Cr (h z aoO),Hu l _ fun y hy=>h y (aow _ hy)]
  exact dH fun a b _ _=>by simp[Bool.or_assoc]
theorem Ro {l:List (Int×Int)} (h:∀z∈l,kE ((m:Nat):Int) [z.1,z.2]=true):foldM ((m:Nat):Int) l=cE m fun a b=>l.any fun z=>decide (a=z.1.toNat)&&decide (b=z.2.toNat):=by
 unfold foldM
 rw[yG,Hu l _ h]
 exact dH fun a b _ _=>by simp
theorem VR:∀z∈iW ((m:Nat):Int) (cE m p),kE ((m:Nat):Int) [z.1,z.2]=true:=by
 intro z hz
 obtain⟨a,b,ha,hb, -,rfl⟩:=yH.1 hz
 exact jo.2 ⟨⟨by omega,by omega⟩,by omega,by omega⟩
theorem US {a b:Nat} (ha:a<m) (hb:b<m):((iW ((m:Nat):Int) (cE m p)).any fun z=>decide (a=z.1.toNat)&&decide (b=z.2.toNat))=p a b:=by
 rw[aoj,aoB]
 constructor
 ·rintro⟨z,hz,h⟩
  obtain⟨c,d,hc,hd,hp,rfl⟩:=yH.1 hz
  simp only[dq,ez,an2] at h
  rw[h.1,h.2];exact hp
 ·intro hp
  exact⟨_,yH.2 ⟨a,b,ha,hb,hp,J⟩,by simp⟩
theorem I7:gJ ((m:Nat):Int) (cE m p)=cE m fun a b=>p b a:=by
 unfold gJ
 rw[Ro]
 ·refine dH fun a b ha hb=>?_
  rw[List.any_map,←US (p:=p) hb ha]
  congr 1
  funext z
  simp only[Function.comp,AZ]
  exact Bool.and_comm _ _
 ·intro z hz
  obtain⟨y,hy,rfl⟩:=aoE.1 hz
  have:=jo.1<|VR y hy
  exact jo.2 ⟨this.2,this.1⟩
section
variable {n:Int} {rs:Rows} (h:bJ n rs=true)
include h
theorem Gw:bJ n (gJ n rs)=true:=by
 obtain⟨m,p,rfl,hm,rfl⟩:=mh h
 rw[I7];exact lH hm
end
end Go.Ew
namespace Go.Ew
variable {n:Int} {mr xs:Rows} {i j k:Nat} {x y:Row} {p:hQ}
theorem nP (h:bJ n mr=true) (hx:mr[i]? =some x):x.length=words n:=by
 obtain⟨m,p,rfl,hm,rfl⟩:=mh h
 rw[(mV hx).2,jF]
theorem OQ (h:bJ n mr=true) (hs:xs=mr.take j++List.replicate (n.toNat-j) (eh n)) (hj:j<mr.length) (hx:xs[((j:Nat):Int).toNat]? =some x):x=eh n:=by
 rw[dq,hs,nH (by rw[ic];omega),ic,ao7 aj,aoZ] at hx
 have:=dz hx
 exact(List.mem_replicate.1 this).2
theorem aac (h:bJ n mr=true) (hs:xs=mr.take j++List.replicate (n.toNat-j) (eh n)) (hy:mr[((j:Nat):Int).toNat]? =some y) (hx:xs[((j:Nat):Int).toNat]? =some x):y.length=x.length:=by
 have hj:=(dJ.1 hy).1
 rw[OQ h hs (by simpa using hj) hx,pY,nP h hy]
theorem aab (h:bJ n mr=true) (hs:xs=mr.take j++List.replicate (n.toNat-j) (eh n)) (hy:mr[((j:Nat):Int).toNat]? =some y) (hx:xs[((j:Nat):Int).toNat]? =some x):0<x.length:=by
 have hj:=(dJ.1 hy).1
 have hl:=(bQ h).1
 rw[OQ h hs (by simpa using hj) hx,pY]
 have h0:1≤n:=by rw[dq] at hj;omega
 unfold words;omega
theorem VT (h:bJ n mr=true) (hs:xs=mr.take j++List.replicate (n.toNat-j) (eh n)) (hy:mr[((j:Nat):Int).toNat]? =some y):xs.set ((j:Nat):Int).toNat y=mr.take (j+1)++List.replicate (n.toNat-(j+1)) (eh n):=by
 have hj:=(dJ.1 hy).1
 have hl:=(bQ h).1
 rw[nO hy]
 rw[dq] at hj ⊢
 have ef:(mr.take j).length=j:=by rw[ic];omega
 rw[hs,apd _ _ aj,ef,aoZ,show n.toNat-j=n.toNat-(j+1)+1 from by omega,aoW,apU]
 simp
theorem aad (h:bJ n mr=true) (hs:xs=mr.take j++List.replicate (n.toNat-j) (eh n)) (hj:mr.length≤j):xs=mr:=by
 have hl:=(bQ h).1
 rw[hs,mg hj,show n.toNat-j=0 from by omega];simp
def fW (rs:Rows) (i j:Nat):Bool:=fk (rs.getD i []) ((j:Nat):Int)
theorem Cx {rs:Rows} (h:bJ n rs=true):rs=cE n.toNat (fW rs):=by
 obtain⟨m,p,rfl,hm,rfl⟩:=mh h
 rw[dq]
 refine dH fun i j hi hj=>?_
 unfold fW
 rw[il,sj hi]
 show p i j=fk (ib m (p i)) _
 rw[iZ];simp[hj]
def wM (p:hQ):Nat→hQ
 |0,a,b=>p a b
 |k+1,a,b=>wM p k a b||(wM p k a k&&wM p k k b)
def wR (p:hQ) (k i a b:Nat):Bool:=if a<i then wM p (k+1) a b else wM p k a b
theorem ZN (p:hQ) (k b:Nat):wM p (k+1) k b=wM p k k b:=by
 show (wM p k k b||(wM p k k k&&wM p k k b))=wM p k k b
 cases wM p k k b<;>simp
theorem ZL (p:hQ) (n k:Nat):cE n (wM p k)=cE n (wR p k 0):=dH fun a b _ _=>by unfold wR;simp
theorem abr (p:hQ) {n:Nat} (h:n≤i):cE n (wR p k i)=cE n (wM p (k+1)):=dH fun a b ha _=>by unfold wR;rw[an4 aj]
theorem RT {n:Nat} (hx:(cE n (wR p k i))[i]? =some x):x=ib n (wM p k i):=by
 rw[(mV hx).2]
 exact kL fun b _=>by unfold wR;rw[an8 aj]
theorem ZM {n:Nat} (hy:(cE n (wR p k i))[k]? =some y):y=ib n (wM p k k):=by
 rw[(mV hy).2]
 exact kL fun b _=>by
  unfold wR;split
  ·exact ZN p k b
  ·rfl
theorem abq {n:Nat} (hs:xs=cE n (wR p k i)) (hx:xs[i]? =some x) (hy:xs[k]? =some y) (hk:k<n) (h:fk x ((k:Nat):Int)=true):xs.set i (jK x y)=cE n (wR p k (i+1)):=by
 subst hs
 rw[RT hx] at h ⊢
 rw[ZM hy,It,xz]
 rw[iZ] at h
 have tz:wM p k i k=true:=by simpa [hk] using h
 refine dH fun a b _ _=>?_
 by_cases e:a=i
 ·subst e
  rw[an4 rfl]
  unfold wR
  rw[an4 aj]
  show _=(wM p k a b||(wM p k a k&&wM p k k b))
  rw[tz,aoY]
 ·rw[an8 e]
  unfold wR
  by_cases h2:a<i
  ·rw[an4 h2,an4 aj]
  ·rw[an8 h2,an8 aj]
theorem afz {n:Nat} (hs:xs=cE n (wR p k i)) (hx:xs[i]? =some x) (hk:k<n) (h:fk x ((k:Nat):Int)=false):xs=cE n (wR p k (i+1)):=by
 subst hs
 rw[RT hx,iZ] at h
 have tz:wM p k i k=false:=by simpa [hk] using h
 refine dH fun a b _ _=>?_
 unfold wR
 by_cases h2:a<i
 ·rw[an4 h2,an4 aj]
 ·by_cases e:a=i
  ·subst e
   rw[an8 h2,an4 aj]
   show _=(wM p k a b||(wM p k a k&&wM p k k b))
   rw[tz];simp
  ·rw[an8 h2,an8 aj]
def ff (n:Int) (rs:Rows):Rows:=cE n.toNat (wM (fW rs) n.toNat)
theorem K_ {n q:Nat} (hx:(cE n (wR p k i))[q]? =some x):x.length=words ((n:Nat):Int):=by rw[(mV hx).2,jF]
end Go.Ew
namespace Go.Ew
variable {p:hQ} {a b n:Nat}
inductive TC (n:Nat) (p:hQ):Nat→bY
 |one {a b:Nat}:a<n→b<n→p a b=true→TC n p a b
 |cons {a b c:Nat}:a<n→b<n→p a b=true→TC n p b c→TC n p a c
section
variable {n:Nat} {p q:hQ} {a b c:Nat}
theorem TC.lt (h:TC n p a b):a<n∧b<n:=by
 induction h with
 |one h1 h2 _=>exact⟨h1,h2⟩
 |cons h1 _ _ _ ih=>exact⟨h1,ih.2⟩
theorem TC.trans (h:TC n p a b) (k:TC n p b c):TC n p a c:=by
 induction h with
 |one h1 h2 h3=>exact .cons h1 h2 h3 k
 |cons h1 h2 h3 _ ih=>exact .cons h1 h2 h3 (ih k)
theorem TC.mono (h:TC n p a b) (Hd:∀x y,x<n→y<n→p x y=true→q x y=true):TC n q a b:=by
 induction h with
 |one h1 h2 h3=>exact .one h1 h2 (Hd _ _ h1 h2 h3)
 |cons h1 h2 h3 _ ih=>exact .cons h1 h2 (Hd _ _ h1 h2 h3) ih
theorem TC.least {R:Nat→bY} (h:TC n p a b) (h1:∀x y,x<n→y<n→p x y=true→R x y) (h2:∀x y z,x<n→y<n→z<n→R x y→R y z→R x z):R a b:=by
 induction h with
 |one k1 k2 k3=>exact h1 _ _ k1 k2 k3
 |cons k1 k2 k3 k4 ih=>exact h2 _ _ _ k1 k2 k4.lt.2 (h1 _ _ k1 k2 k3) ih
theorem TC.last (h:TC n p a c):p a c=true∨∃b,TC n p a b∧p b c=true:=by
 induction h with
 |one _ _ h3=>exact .inl h3
 |cons h1 h2 h3 _ ih=>
  rcases ih with h|⟨b,h4,h5⟩
  ·exact .inr ⟨_,.one h1 h2 h3,h⟩
  ·exact .inr ⟨b,.cons h1 h2 h3 h4,h5⟩
end
theorem AU {n:Nat} {p:hQ}:∀k,k≤n→∀a b,a<n→b<n→wM p k a b=true→TC n p a b
 |0,_,a,b,ha,hb,h=>.one ha hb h
 |k+1,hk,a,b,ha,hb,h=>by
  have h:(wM p k a b||(wM p k a k&&wM p k k b))=true:=h
  rw[aoc,ez] at h
  rcases h with h|⟨h1,h2⟩
  ·exact AU k aj a b ha hb h
  ·exact(AU k aj a k ha aj h1).trans (AU k aj k b aj hb h2)
theorem Oo {k:Nat}:wM p (k+1) a b=true↔wM p k a b=true∨(wM p k a k=true∧wM p k k b=true):=by
 show (wM p k a b||(wM p k a k&&wM p k k b))=true↔_
 rw[aoc,ez]
theorem P8 {p:hQ} {a b:Nat}:∀k,p a b=true→wM p k a b=true
 |0,h=>h
 |k+1,h=>Oo.2 (.inl (P8 k h))
theorem Cf {p:hQ}:∀k a b c,c<k→wM p k a c=true→wM p k c b=true→wM p k a b=true
 |0,_,_,_,h,_,_=>absurd h (apW _)
 |k+1,a,b,c,h,h1,h2=>by
  have ih:=fun a b c=>Cf (p:=p) k a b c
  rw[Oo] at h1 h2 ⊢
  by_cases hc:c<k
  ·rcases h1 with h1|⟨h1,h3⟩
   ·rcases h2 with h2|⟨h2,h4⟩
    ·exact .inl (ih _ _ _ hc h1 h2)
    ·exact .inr ⟨ih _ _ _ hc h1 h2,h4⟩
   ·rcases h2 with h2|⟨h2,h4⟩
    ·exact .inr ⟨h1,ih _ _ _ hc h3 h2⟩
    ·exact .inr ⟨h1,h4⟩
  ·have:c=k:=by omega
   subst this
   have e1:wM p c a c=true:=by
    rcases h1 with h1|⟨h1,_⟩<;>exact h1
   have e2:wM p c c b=true:=by
    rcases h2 with h2|⟨_,h2⟩<;>exact h2
   exact .inr ⟨e1,e2⟩
def cl (n:Nat) (p:hQ) (a b:Nat):Bool:=wM p n a b
theorem pP (ha:a<n) (hb:b<n):cl n p a b=true↔TC n p a b:=
 ⟨AU n (an3 _) a b ha hb,fun h=>h.least (R:=fun x y=>cl n p x y=true) (fun x y _ _ hp=>P8 n hp) fun x y z _ hy _ h1 h2=>Cf n x z y hy h1 h2⟩
theorem Gg {q:hQ} (h:∀a b,a<n→b<n→p a b=q a b) (ha:a<n) (hb:b<n):cl n p a b=cl n q a b:=by
 rw[aoj,pP ha hb,pP ha hb]
 exact⟨fun k=>k.mono fun x y hx hy hp=>by rw[←h x y hx hy];exact hp,fun k=>k.mono fun x y hx hy hp=>by rw[h x y hx hy];exact hp⟩
theorem vA (h:p a b=true):cl n p a b=true:=P8 n h
theorem xV {c:Nat} (hb:b<n) (h1:cl n p a b=true) (h2:cl n p b c=true):cl n p a c=true:=Cf n a c b hb h1 h2
theorem jG (ha:a<n) (hb:b<n):fW (cE n p) a b=p a b:=by
 unfold fW
 rw[il,sj ha]
 show fk (ib n (p a)) _=_
 rw[iZ];simp[hb]
theorem ES:ff ((n:Nat):Int) (cE n p)=cE n (cl n p):=by
 unfold ff
 rw[dq]
 exact dH fun a b ha hb=>Gg (fun x y hx hy=>jG hx hy) ha hb
theorem oV {n:Int} {rs:Rows} (h:bJ n rs=true):bJ n (ff n rs)=true:=by
 obtain⟨m,p,rfl,hm,rfl⟩:=mh h
 rw[ES];exact lH hm
def BM (p:hQ) (i j a b:Nat):Bool:=p a b||((decide (a=i)||p a i)&&(decide (b=j)||p j b))
theorem BK {i j:Nat}:BM p i j a b=true↔p a b=true∨((a=i∨p a i=true)∧(b=j∨p j b=true)):=by
 unfold BM;simp
theorem UX (h:∀i j k,i<n→j<n→k<n→p i j=true→p j k=true→p i k=true) {i j:Nat} (hi:i<n) (hj:j<n) (ha:a<n) (hb:b<n):
  cl n (fun x y=>p x y||(decide (x=i)&&decide (y=j))) a b=BM p i j a b:=by
 rw[aoj,pP ha hb]
 constructor
 ·intro k
  refine k.least (R:=fun x y=>BM p i j x y=true) (fun x y hx hy hp=>?_) fun x y z hx hy hz h1 h2=>?_
  ·simp only[aoc,ez,an2] at hp
   exact BK.2<|hp.imp id fun ⟨h1,h2⟩=>⟨.inl h1,.inl h2⟩
  ·rw[BK] at h1 h2 ⊢
   rcases h1 with h1|⟨h1,h3⟩
   ·rcases h2 with h2|⟨h2,h4⟩
    ·exact .inl (h _ _ _ hx hy hz h1 h2)
    ·refine .inr ⟨.inr ?_,h4⟩
     rcases h2 with rfl|h2
     ·exact h1
     ·exact h _ _ _ hx hy hi h1 h2
   ·rcases h2 with h2|⟨h2,h4⟩
    ·refine .inr ⟨h1,.inr ?_⟩
     rcases h3 with rfl|h3
     ·exact h2
     ·exact h _ _ _ hj hy hz h3 h2
    ·exact .inr ⟨h1,h4⟩
 ·intro k
  have up:∀x y,x<n→y<n→p x y=true→TC n (fun x y=>p x y||(decide (x=i)&&decide (y=j))) x y:=fun x y hx hy hp=>.one hx hy (by simp[hp])
  rcases BK.1 k with k|⟨h1,h2⟩
  ·exact up _ _ ha hb k
  ·have m:TC n (fun x y=>p x y||(decide (x=i)&&decide (y=j))) i j:=.one hi hj (by simp)
   have m2:TC n (fun x y=>p x y||(decide (x=i)&&decide (y=j))) a j:=by
    rcases h1 with rfl|h1
    ·exact m
    ·exact(up _ _ ha hi h1).trans m
   rcases h2 with rfl|h2
   ·exact m2
   ·exact m2.trans (up _ _ hj hb h2)
def ie (n:Int) (rs:Rows) (i j:Int):Rows:=if kE n [i,j] then (if eI n rs i j then rs else cE n.toNat (BM (fW rs) i.toNat j.toNat)) else []
theorem RE {i j:Int} (hi:kE ((n:Nat):Int) [i,j]=true) (h:∀i j k,i<n→j<n→k<n→p i j=true→p j k=true→p i k=true):
  ie ((n:Nat):Int) (cE n p) i j=cE n (cl n fun a b=>p a b||(decide (a=i.toNat)&&decide (b=j.toNat))):=by
 have hr:=jo.1 hi
 unfold ie
 rw[an4 hi,JO,hi,aoY,dq]
 split
 ·rename_i hp
  refine dH fun a b ha hb=>?_
  rw[UX h aj aj ha hb,aoj,BK]
  refine⟨.inl,fun k=>?_⟩
  rcases k with k|⟨h1,h2⟩
  ·exact k
  ·have m2:p a j.toNat=true:=by
    rcases h1 with rfl|h1
    ·exact hp
    ·exact h _ _ _ ha aj aj h1 hp
   rcases h2 with rfl|h2
   ·exact m2
   ·exact h _ _ _ ha aj hb m2 h2
 ·refine dH fun a b ha hb=>?_
  rw[UX h aj aj ha hb]
  unfold BM
  rw[jG ha hb,jG ha aj,jG aj hb]
theorem Oi {n:Int} {rs:Rows} {i j:Int} (h:bJ n rs=true):bJ (iu n i j) (ie n rs i j)=true:=by
 unfold iu ie
 split
 ·split
  ·exact h
  ·obtain⟨m,p,rfl,hm,rfl⟩:=mh h
   rw[dq];exact lH hm
 ·rfl
def rD (l:List Nat):aA:=l.map fun k=>((k:Nat):Int)
def vY (n:Nat) (f:Nat→Bool):aA:=rD ((List.range n).filter f)
theorem wO {f:Nat→Bool} {z:Int}:z∈vY n f↔∃k,k<n∧f k=true∧z=((k:Nat):Int):=by
 unfold vY rD
 simp only[aoE,aoi,an7]
 constructor
 ·rintro⟨k,⟨h1,h2⟩,rfl⟩;exact⟨k,h1,h2,rfl⟩
 ·rintro⟨k,h1,h2,rfl⟩;exact⟨k,⟨h1,h2⟩,rfl⟩
theorem O6 (n:Nat) (f:Nat→Bool):(vY n f).length≤n:=by
 unfold vY rD
 rw[aoo]
 have:=ao3 f<|List.range n
 simpa using this
theorem yI (n:Nat) (f:Nat→Bool):cY (ib n f)=vY n f:=G1 n f
end Go.Ew
