/- Engine, part P: function values that are handed in; blocks that are only read; small words on lists. -/
import Derived.Test.YtgjakhpjmapelaaGreatDoorQwnA
import Derived.WalkKit
import Derived.ProofKit
import Derived.OpenShut
import Derived.ReadAgain
import Derived.ChangeStays
import Derived.Below
import Derived.ChangeSame
import Derived.ArgAppend
import Derived.Laws.CopyRow
import Derived.LaidMore
import Derived.Stop.Joined
import Derived.Laws.StructEq
import Derived.ChangeKeysEq
import Derived.MapKept
import Derived.Laws.BytesArg
set_option linter.unusedVariables false
set_option linter.unusedSimpArgs false
set_option linter.unusedSectionVars false
namespace Go.Ew
open Go.RowKit
variable {k:Nat}
def ro (b:Nat) (cs:Array Value) (t:TypeId):Item:=⟨none,fun M w=>w.heap[b]? =some (.cells cs t (0,0))∧¬M b,fun h u _=>by
 have hb:b<_:=(apU.1 h.1).1
 have:=u.2 b hb h.2
 exact⟨this.1.trans h.1,this.2⟩⟩
section
variable {P:Program} {n:Nat} {ops:Array Oper} {f:aR} {w w0 w':aJ} {K:aR→aJ→Prop} {M0:cg} {l:List Item}
variable {d:Nat} {T ty e:TypeId} {ps:String} {af:Array Edge} {x y:Operand} {v:Value}
theorem wS {bb off:Nat} {cs:Array Value} {t:TypeId} {k bytes:Nat} {agg:Bool} {z:Value} (H:HI M0 w0 w l) (i:Nat) (hi:l[i]? =some (ro bb cs t)) (F:ez P T k agg bytes z) (ox:bM n x=true) (hx:ev f x=.pointer (some ⟨bb,off,none⟩))
  (hk:agg=false→k=1) (hl:((cs.toList.drop off).take k).length=k) (h:K (cq f d (ta agg ((cs.toList.drop off).take k))) w):SO P n ops ⟨some d,.load T x,ty,ps,af,none⟩ f w K:=by
 have hb:w.heap[bb]? =some (.cells cs t (0,0)):=(H.at_ i hi).1
 refine SO.value (v:=ta agg ((cs.toList.drop off).take k)) ?_ h
 have hc:∀j u,((cs.toList.drop off).take k)[j]? =some u→w.cell? ((⟨bb,off,none⟩:Addr).add j)=some u:=by
  intro j u hu
  rw[show (⟨bb,off,none⟩:Addr).add j=⟨bb,off+j,none⟩ from by unfold Addr.add;split<;>simp_all,cell_of_row w bb (off+j) cs t (0,0) hb]
  have hj:j<k:=by
   have:=(dZ.1 hu).1
   omega
  rw[apS,apo hj,ap6] at hu
  simpa using hu
 simp[execOp,aP ox,hx,Instr.loadAt,Instr.sureAddr,r9 F hk hl hc]
theorem lr {bb off:Nat} {cs:Array Value} {t:TypeId} {bytes:Nat} {z:Value} (H:HI M0 w0 w l) (i:Nat) (hi:l[i]? =some (ro bb cs t)) (F:ez P T 1 false bytes z) (ox:bM n x=true) (hx:ev f x=.pointer (some ⟨bb,off,none⟩))
  (hl:((cs.toList.drop off).take 1).length=1) (h:K (cq f d (ta false ((cs.toList.drop off).take 1))) w):SO P n ops ⟨some d,.load T x,ty,ps,af,none⟩ f w K:=wS H i hi F ox hx (fun _=>rfl) hl h
end
def FP {α:Type} [GT α] (P:Program) (g:FuncId) (ae:List Value) (M:cg) (w:aJ) (xs:List α) (p:α→Bool):Prop:=
 cD P g∧∀w1 v x,x∈xs→Ext w w1→RV M w1 v x→Calls P g ([v]++ae).toArray w1 (ck fun u w2=>u=.bool (p x)∧Ext w1 w2)
theorem FP.sub {α:Type} [GT α] {P:Program} {g:FuncId} {ae:List Value} {M M':cg} {w w':aJ} {xs:List α} {p:α→Bool} (h:FP P g ae M w xs p) (e:Ext w w') (hM:∀b,M b→M' b):FP P g ae M' w' xs p:=
 ⟨h.1,fun w1 v x hx e' hv=>h.2 w1 v x hx (e.trans e') (hv.lift (Up.less fun b _ hb=>hM b hb))⟩
theorem VF {M0:cg} {l:List Item}:∀b,M0 b→MS M0 l b:=fun _ h=>.inl h
theorem nX {α:Type} {r:List α} {x:α} (h:r[((k:Nat):Int).toNat]? =some x):r.take (k+1)=r.take k++[x]:=by
 rw[dS] at h
 rw[apW,h];rfl
theorem l_ {α:Type} {r:List α} (h:r.length≤k):r.take k=r:=apu h
theorem oF {α:Type} {r:List α} {x:α} {p:α→Bool} (h:r[((k:Nat):Int).toNat]? =some x) (h1:(r.take k).any p=false) (h2:p x=false):(r.take (k+1)).any p=false:=by
 rw[nX h];simp[h1,h2]
def eM {α:Type} (p:α→Bool) (r:List α):Int:=match r.findIdx? p with|some i=>i|none=> -1
theorem uT {α:Type} {r:List α} {x:α} {p:α→Bool} (h:r[((k:Nat):Int).toNat]? =some x) (h1:(r.take k).any p=false) (h2:p x=true):(k:Int)=eM p r:=by
 rw[dS] at h
 obtain⟨hk,hx⟩:=dZ.1 h
 have:r.findIdx? p=some k:=by
  rw[apK]
  refine⟨hk,by rw[hx];exact h2,fun j hj=>?_⟩
  have hm:r[j]∈r.take k:=by
   rw[List.mem_take_iff_getElem]
   exact⟨j,by omega,J⟩
  have:=aq9.1 h1 _ hm
  simpa using this
 simp[eM,this]
theorem vI {α:Type} {r:List α} {p:α→Bool} (h1:(r.take k).any p=false) (h2:r.length≤k):(-1:Int)=eM p r:=by
 rw[l_ h2] at h1
 have:r.findIdx? p=none:=by
  rw[ark]
  intro x hx
  simpa using aq9.1 h1 x hx
 simp[eM,this]
theorem uU {α:Type} {p:α→Bool} {r:List α}:decide ((0:Int)≤eM p r)=r.any p:=by
 unfold eM
 cases h:r.findIdx? p with
 |none=>
  rw[ark] at h
  have:r.any p=false:=aq9.2<|by intro x hx;simp[h x hx]
  simp[this]
 |some i=>
  rw[apK] at h
  obtain⟨hi,hp,_⟩:=h
  have:r.any p=true:=apO.2 ⟨_,arH hi,hp⟩
  simp[this]
theorem xp {α:Type} {p:α→Bool} {r:List α}: -1≤eM p r∧eM p r≤r.length:=by
 unfold eM
 cases h:r.findIdx? p with
 |none=>simp only[];omega
 |some i=>
  rw[apK] at h
  obtain⟨hi,_⟩:=h
  simp only[];omega
theorem bg {α:Type} [GT α] {M:cg} {w:aJ} {a:Option Addr} {n c:Nat} {xs:List α} (h:RV M w (.slice a n c) xs):xs.length≤9223372036854775807:=by
 obtain⟨a',m,c',e,h2,h3,h4, -⟩:=RV.list.1 h
 injection e with e1 e2 e3
 unfold maxLen at h4
 omega
def bo {α:Type} [GT α] (M:cg) (e:TypeId) (w0:aJ) (xs:List α) (v:Value) (w:aJ):Prop:=
 Ext w0 w∧(∀b,v.ownBlock=some b→b<w.heap.size)∧(own w0.heap.size e v xs).holds (fun b=>M b∨v.ownBlock=some b) w
section
variable {M0:cg} {w0 w w':aJ} {l:List Item} {α:Type} [GT α] {v:Value} {xs:List α} {e:TypeId}
theorem HI.eU (H:HI M0 w0 w l) (h:bo (MS M0 l) e w xs v w'):HI M0 w0 w' (own w0.heap.size e v xs::l):=by
 obtain⟨hx,hb,cs,h1,h2⟩:=h
 have z7:∀(B:Nat),B≤w.heap.size→w'.ownsRow B e (GT.size α) v xs.length cs:=by
  intro B hB
  refine⟨h1.1,?_⟩
  rcases h1.2 with h3|⟨g,cap,cur,rfl,h3,h4⟩
  ·exact .inl h3
  ·exact .inr ⟨g,cap,cur,J,Nat.le_trans hB h3,h4⟩
 have vN:∀b,v.ownBlock=some b→w.heap.size≤b:=fun b wU=>(h1.lt b wU).1
 cases hv:v.ownBlock with
 |none=>
  refine(H.ext hx).put hv ⟨cs,z7 _ H.below.size,bC.lift (Up.less ?_) h2⟩
  intro b Cv hM
  exact .inl hM
 |some b=>
  refine H.new hx b hv (vN b hv) (hb b hv) ⟨cs,z7 _ H.below.size,bC.lift (Up.less ?_) h2⟩
  rintro c hc (hM|⟨it,hit,ael⟩)
  ·exact .inl (.inl hM)
  ·rcases apD.1 hit with rfl|hit
   ·exact .inr ael
   ·exact .inl (.inr ⟨it,hit,ael⟩)
theorem HI.dx (H:HI M0 w0 w l) (i:Nat) (hi:l[i]? =some (own w0.heap.size e v xs)):bo M0 e w0 xs v w:=by
 obtain⟨cs,h1,h2⟩:=H.at_ i hi
 refine⟨H.below,fun b hb=>(xm H hi b hb).2,cs,h1,bC.lift (Up.less ?_) h2⟩
 rintro b _ (hM|hb)
 ·exact .inl hM
 ·exact .inr ⟨_,dO hi,hb⟩
theorem fV {M:cg} (h:Ext w0 w):bo M e w0 ([]:List α) (.slice none 0 0) w:=⟨h,fun b hb=>(by cases hb),[],World.ownsRow_nil w _ e _,rfl⟩
theorem bo.rv {M:cg} (h:bo M e w xs v w') (hM:∀b,M b→b<w.heap.size):RV M w' v xs:=by
 obtain⟨_,hb,ho⟩:=h
 refine AB ho (fun b _ vS=>.inl vS)<|fun b wU hMb=>?_
 obtain⟨cs,h1,_⟩:=ho
 have:=(h1.lt b wU).1
 have:=hM b hMb
 omega
end
section
variable {α:Type} {β:Type} {γ:Type} {δ:Type} {ε:Type} {ζ:Type} {V:Type} {a a':α} {b b':β} {c c':γ} {d d':δ} {e e':ε} {z z':ζ}
theorem iD (f:α→V) (h1:a=a'):f a=f a':=by rw[h1]
theorem nN (f:α→β→V) (h1:a=a') (h2:b=b'):f a b=f a' b':=by rw[h1,h2]
theorem rD (f:α→β→γ→V) (h1:a=a') (h2:b=b') (h3:c=c'):f a b c=f a' b' c':=by rw[h1,h2,h3]
theorem Vb (f:α→β→γ→δ→V) (h1:a=a') (h2:b=b') (h3:c=c') (h4:d=d'):f a b c d=f a' b' c' d':=by rw[h1,h2,h3,h4]
end
theorem mY {α:Type} [GT α] {M0:cg} {l:List Item} {it:Item} {w:aJ} {v:Value} {x:α} (hn:it.jR=none) (h:RV (MS M0 (it::l)) w v x):RV (MS M0 l) w v x:=by rwa [aG hn] at h
end Go.Ew
namespace Go.Ew
open Go.RowKit Go.WideShapes Go.ChangeShapes
abbrev Oa:Nat→Prop:=fun _=>False
section
variable {P:Program} {t e:TypeId}
theorem Vg {W:aJ} {a:Addr} {n:Nat} {cs:List Value} (h:W.cells? 0 a n=some cs):∀j v,cs[j]? =some v→W.cell? (a.add j)=some v:=by
 intro j v hv
 simp only[World.cells?,aqH,aq0] at h
 have hl:=mapM_some_length h
 have hj:j<cs.length:=(dZ.1 hv).1
 rw[arh] at hl
 have:=mapM_some_get h j j<|by rw[aqm aq]
 rw[this,hv]
theorem Fk {α:Type} {Q:Nat→α→Prop}:∀n:Nat,(∀i,i<n→∃y,Q i y)→∃l:List α,l.length=n∧∀(i:Nat) (y:α),l[i]? =some y→Q i y
 |0,_=>⟨[],rfl,fun i y h=>by simp at h⟩
 |n+1,h=>by
  obtain⟨l,hl,hq⟩:=Fk n fun i hi=>h i aq
  obtain⟨y,hy⟩:=h n aq
  refine⟨l++[y],by simp[hl],fun i z hz=>?_⟩
  by_cases hi:i<l.length
  ·rw[pt hi] at hz;exact hq i z hz
  ·rw[oM aq] at hz
   have Kg:i-l.length=0:=by
    have:=(dZ.1 hz).1
    simp at this;omega
   rw[Kg] at hz
   simp at hz
   subst hz
   rw[show i=n from by omega]
   exact hy
section
variable {H:Type} {enc:TypeId×Value→H} {W:aJ} {base:Nat} {v:Value} {d:DataW H} {ps:List MemPlace}
theorem ER {W':aJ} {T:TypeId→Prop} (K:Kids P T) (hz:∀t e,T t→P.underlying t=some (.slice e)→0<P.cellsOf e) (e:Ext W W') {sp:Nat→Bool}:
  ∀{ts:List TypeId} {vs:List Value} {ds:List (DataW H)} {ps:List MemPlace},(∀t∈ts,T t)→DataW.TrodAll enc P W 0 (fun _=>true) true ts vs ds ps→(∀p∈ps,sp p.block=true)→DataW.TrodAll enc P W' 0 sp true ts vs ds ps
 |[],[],[],_,_,h,_=>h
 |t::_,v::_,_::_,_,hT,⟨p,q,⟨n,h1⟩,h2,hp⟩,hs=>by
  refine⟨p,q,⟨n,?_⟩,ER K hz e (fun t ht=>hT t<|apD.2<|Or.inr ht) h2 (fun x hx=>hs x<|by rw[hp];exact aqA _ hx),hp⟩
  have hr:=DataW.trod_respare K hz n _ _ _ (hT _<|apD.2<|Or.inl J) h1 (spare':=sp)<|fun x hx=>hs x<|by rw[hp];exact aqG _ hx
  exact DataW.trod_carry n _ _ _ hr fun x hx=>Below.same e.toBelow (DataW.trod_lt n _ _ _ h1 x hx)
 |[],[],_::_,_,_,h,_=>h.elim
 |[],_::_,_,_,_,h,_=>h.elim
 |_::_,[],_,_,_,h,_=>h.elim
 |_::_,_::_,[],_,_,h,_=>h.elim
theorem TQ {f:Func} {s:ChangeSpec} {apart fresh handsOn again:Bool} {W W':aJ} {args:Array Value} {ds gs:List (DataW H)} {before:List MemPlace} {tb:TypeId}
  (K:Kids P (·<P.types.size)) (hz:∀t e,t<P.types.size→P.underlying t=some (.slice e)→0<P.cellsOf e) (hts:∀t∈f.params.toList,t<P.types.size)
  (YW:s.vars=[]) (hW:DataW.Whole enc P f.params.toList s.vars apart W args.toList ds gs before) (e:Ext W W') (hrt:f.resultTypes=#[tb]) (hu:P.underlying tb=some .bool)
  (h1:(s.fn H (ds++gs)).results=[.lit (.bool true)]) (h2:(s.fn H (ds++gs)).args=ds) (h3:(s.fn H (ds++gs)).vars=[]):
  s.post enc P f apart fresh handsOn again W args (.bool true) W':=by
 have eH:∀p∈before,p.block<W.heap.size:=fun p hp=>hW.lt p hp
 have hW2:=hW
 obtain⟨p,q,hA,hV,Hx,hfz,lX⟩:=hW2
 rw[YW] at hV
 have hq:gs=[]∧q=[]:=by
  cases gs with
  |nil=>exact⟨rfl,hV⟩
  |cons _ _=>exact hV.elim
 obtain⟨rfl,rfl⟩:=hq
 rw[aql] at Hx
 subst Hx
 have hold:∀x∈before,(fun b=>decide (b<W.heap.size)) x.block=true:=fun x hx=>by simpa using eH x hx
 have adU:∀(b:Nat) (sp:Nat→Bool) (hd:Bool),DataW.TrodAll enc P W' b sp hd f.resultTypes.toList ((Value.bool true).resultList f.resultTypes.size) (s.fn H (ds++[])).results []:=by
  intro b sp hd
  rw[h1,hrt]
  exact trodAll_mk1<|shut_bool hu _
 have RE:∀sp:Nat→Bool,(∀x∈before,sp x.block=true)→DataW.TrodAll enc P W' 0 sp true f.params.toList args.toList (s.fn H (ds++[])).args before:=by
  intro sp hsp
  rw[h2]
  exact ER K hz e hts hA hsp
 have hvs:∀sp:Nat→Bool,DataW.TrodVars enc P W' sp s.vars (s.fn H (ds++[])).vars []:=by
  intro sp
  rw[h3,YW]
  rfl
 refine⟨ds,[],before,[],before,[],hW,adU _ _ _,RE _ hold,hvs _,World.keptBut_mono (fun x hx=>⟨hx,.inr (.inl hx)⟩) (e.frame (·∈before)),fun _=>?_⟩
 refine⟨ok_one (by rw[hrt]) rfl (okWide_bool_mk hu _),(s.fn H<|ds++[]).results++(s.fn H<|ds++[]).args,(s.fn H<|ds++[]).vars,([]++before)++[],⟨[]++before,[],trodAll_append (RE _<|fun _ _=>rfl) (adU _ _ _),hvs _,J,?_,?_⟩,?_⟩
 ·intro b off hp
  have tj:MemPlace.cell b off∈before:=by simpa using hp
  rw[Below.frozen e.toBelow (eH _ tj)]
  exact hfz b off tj
 ·intro ha
  simpa using lX ha
 ·intro x hx _
  simpa using hx
end
end
end Go.Ew
namespace Go.Ew
open Go.RowKit
def Q8 (Φ:List (Nat→Nat→Value→aJ→Prop)) (i lo hi:Nat):Value→aJ→Prop:=Φ.getD i (fun _ _ _ _=>True) lo hi
structure VL (P:Program) (n:Nat) (l:dz) (k:Nat) (Φ:List (Nat→Nat→Value→aJ→Prop)) (f0:aR) (w0:aJ) (i:Nat) (o:Oper):Prop where
 go:∀f w,(∀t,(jt k l).contains t=false→f t=f0 t)→Ext w0 w→(∀j,kY o j=true→Nat.blt j k=true→∃lo hi,w0.heap.size≤lo∧hi≤w.heap.size∧Q8 Φ j lo hi (f (jk l j)) w)→
  SO P n l.toArray o f w (fun f' w'=>∃v,f'=de f o.dst v∧Ext w w'∧Q8 Φ i w.heap.size w'.heap.size v w')
 mono:∀lo hi v w w',Ext w w'→Q8 Φ i lo hi v w→Q8 Φ i lo hi v w'
def xJ (P:Program) (n:Nat) (l:dz) (k:Nat) (Φ:List (Nat→Nat→Value→aJ→Prop)) (f0:aR) (w0:aJ):Nat→dz→Prop
 |_,[]=>True
 |i,o::r=>(Nat.blt i k=true→VL P n l k Φ f0 w0 i o)∧xJ P n l k Φ f0 w0 (i+1) r
section
variable {P:Program} {n:Nat} {l:dz} {k:Nat} {Φ:List (Nat→Nat→Value→aJ→Prop)} {f0:aR} {w0:aJ}
theorem xJ.at_:∀(r:dz) (i:Nat),xJ P n l k Φ f0 w0 i r→∀j o,r[j]? =some o→Nat.blt (i+j) k=true→VL P n l k Φ f0 w0 (i+j) o
 |[],_,_,j,o,h,_=>by simp at h
 |x::r,i,h,0,o,hj,hk=>by
  simp only[apC,apy] at hj
  subst hj
  exact h.1 hk
 |x::r,i,h,j+1,o,hj,hk=>by
  simp only[apI] at hj
  have:=xJ.at_ r (i+1) h.2 j o hj<|by rw[show i+1+j=i+(j+1) from by omega];exact hk
  rwa [show i+1+j=i+(j+1) from by omega] at this
theorem xJ.rest {i:Nat} (h:Nat.ble k i=true):∀r,xJ P n l k Φ f0 w0 i r:=by
 intro r
 induction r generalizing i with
 |nil=>exact trivial
 |cons o r ih=>
  simp only[ar_] at h
  exact⟨fun hk=>by simp only[art] at hk;omega,ih (by simp only[ar_];omega)⟩
section
variable {M0:cg} {Aq w w':aJ} {l:List Item} {v:Value} {z:Value} {T:TypeId} {lo hi:Nat}
def Sk (b:Nat) (cs:Array Value) (t:TypeId) (lo hi:Nat) (w:aJ):Prop:=lo≤b∧b<hi∧w.heap[b]? =some (.cells cs t (0,0))
theorem Sk.ext {b:Nat} {cs:Array Value} {t:TypeId} (h:Sk b cs t lo hi w) (e:Ext w w'):Sk b cs t lo hi w':=
 ⟨h.1,h.2.1,(e.block b (apU.1 h.2.2).1).trans h.2.2⟩
theorem HI.laid {b:Nat} {cs:Array Value} {t:TypeId} (H:HI M0 Aq w l) (x:Ext w w') (hb:w.heap.size≤b) (h:w'.heap[b]? =some (.cells cs t (0,0))):HI M0 Aq w' (box b cs t::l):=
 H.new x b rfl hb (apU.1 h).1 h
end
section
variable {x:Operand} {v:Value} {ops:Array Oper} {f:aR} {w:aJ} {K:aR→aJ→Prop} {d:Nat} {ty T:TypeId} {ps:String} {af:Array Edge} {bytes size:Nat} {agg:Bool} {z:Value}
end
end
end Go.Ew
namespace Go.Ew
open Go.RowKit
variable {i:Nat}
inductive Kd where
 |v
 |n
 |s (a j:Nat)
def adv:Kd→Option Nat
 | .s a _=>some a
 |_=>none
def Rn (Ks:List Kd) (i:Nat):Kd:=Ks.getD i .v
def IQ (Φ:List (Value→Prop)) (i:Nat):Value→Prop:=Φ.getD i (fun _=>True)
def An (Z:List (Array Value×TypeId)) (i:Nat):Array Value×TypeId:=Z.getD i (#[],0)
def ZX (P:Program) (n:Nat) (l:dz) (Ks:List Kd) (Φ:List (Value→Prop)) (Z:List (Array Value×TypeId)) (f0:aR) (w0:aJ) (i:Nat) (o:Oper):Prop:=
 match Rn Ks i with
 | .v=>o.dst.isSome=true∧∀f w,(∀t,(jt l.length l).contains t=false→f t=f0 t)→Ext w0 w→(∀j,kY o j=true→(∃x,l[j]? =some x∧x.dst.isSome=true)→IQ Φ j (f (jk l j)))→
   SO P n l.toArray o f w (fun f' w'=>∃v,f'=de f o.dst v∧w'=w∧IQ Φ i v)
 | .n=>o.dst.isSome=true∧∀f w,(∀t,(jt l.length l).contains t=false→f t=f0 t)→Ext w0 w→(∀j,kY o j=true→(∃x,l[j]? =some x∧x.dst.isSome=true)→IQ Φ j (f (jk l j)))→
   SO P n l.toArray o f w (fun f' w'=>f'=de f o.dst (.pointer (some ⟨w.heap.size,0,none⟩))∧w'=w.alloc (.cells (An Z i).1 (An Z i).2)∧IQ Φ i (.pointer (some ⟨w.heap.size,0,none⟩)))
 | .s a j=>o.dst=none∧kY o a=true∧kY o j=true∧(∃x,l[a]? =some x∧x.dst.isSome=true)∧(∃x,l[j]? =some x∧x.dst.isSome=true)∧(match Rn Ks a with| .n=>True|_=>False)∧(∀v,IQ Φ j v→v.cells.size=(An Z a).1.size)∧
   ∀f w b cur,Ext w0 w→f (jk l a)=.pointer (some ⟨b,0,none⟩)→w.heap[b]? =some (.cells cur (An Z a).2 (0,0))→cur.size=(An Z a).1.size→IQ Φ j (f (jk l j))→
   SO P n l.toArray o f w (fun f' w'=>f'=f∧w'=w.setRow b (f (jk l j)).cells)
def Iu (P:Program) (n:Nat) (l:dz) (Ks:List Kd) (Φ:List (Value→Prop)) (Z:List (Array Value×TypeId)) (f0:aR) (w0:aJ):Nat→dz→Prop
 |_,[]=>True
 |i,o::r=>ZX P n l Ks Φ Z f0 w0 i o∧Iu P n l Ks Φ Z f0 w0 (i+1) r
section
variable {P:Program} {n:Nat} {l:dz} {Ks:List Kd} {Φ:List (Value→Prop)} {Z:List (Array Value×TypeId)} {f0:aR} {w0:aJ}
theorem Iu.at_:∀(r:dz) (i:Nat),Iu P n l Ks Φ Z f0 w0 i r→∀j o,r[j]? =some o→ZX P n l Ks Φ Z f0 w0 (i+j) o
 |[],_,_,j,o,h=>by simp at h
 |x::r,i,h,0,o,hj=>by
  simp only[apC,apy] at hj
  subst hj
  exact h.1
 |x::r,i,h,j+1,o,hj=>by
  simp only[apI] at hj
  have:=Iu.at_ r (i+1) h.2 j o hj
  rwa [show i+1+j=i+(j+1) from by omega] at this
def af9 (l:dz) (Ks:List Kd) (Z:List (Array Value×TypeId)) (L:Nat→Bool) (f:aR) (i:Nat) (cur:Array Value):Prop:=
 cur.size=(An Z i).1.size∧(∀s j,Ks[s]? =some (.s i j)→L s=true→cur=(f (jk l j)).cells)∧((∀s j,Ks[s]? =some (.s i j)→L s=false)→cur=(An Z i).1)
theorem afj (hN:nodupB (jt l.length l)=true) {j:Nat} {oi oj:Oper} (hi:l[i]? =some oi) (hj:l[j]? =some oj) {di dj:Nat} (vR:oi.dst=some di) (E_:oj.dst=some dj) (gI:i≠j):dj≠di:=by
 rintro rfl
 have lX:=pc _ hN
 unfold jt at lX
 rw[aqh] at lX
 exact gI<|il (·.dst) l lX i j oi oj hi hj (by simp[vR])<|by simp[vR,E_]
theorem P' {o:Oper} (hi:l[i]? =some o) {d:Nat} (hd:o.dst=some d):jk l i=d:=by unfold jk;rw[hi];simp[hd]
end
theorem af9.zero {l:dz} {Ks:List Kd} {Z:List (Array Value×TypeId)} {f:aR} {cur:Array Value} (h:af9 l Ks Z (fun _=>true) f i cur) (hn:(Ks.filterMap adv).contains i=false):cur=(An Z i).1:=by
 refine h.2.2 fun s j hs=>?_
 exfalso
 have:i∈Ks.filterMap adv:=apR.2 ⟨_,dO hs,J⟩
 rw[←ap2,hn] at this
 cases this
section
variable {P:Program} {n:Nat} {ops:Array Oper} {f:aR} {w ws:aJ} {K:aR→aJ→Prop} {x y:Operand} {d:Nat} {ty T e:TypeId} {ps:String} {af:Array Edge} {v:Value} {M:cg} {kk:IntKind} {bytes:Nat} {z:Value} {ad:Addr} {size:Nat} {agg:Bool}
end
end Go.Ew
namespace Go.Ew
open Go.RowKit
def C9 (Φ:List ((cg)→Value→aJ→Prop)) (i:Nat):(cg)→Value→aJ→Prop:=Φ.getD i (fun _ _ _=>True)
def af2 (N N':cg) (w w':aJ):Prop:=w.heap.size≤w'.heap.size∧(∀c,c<w.heap.size→¬N c→w'.heap[c]? =w.heap[c]?)∧∀c,c<w.heap.size→N' c→N c
def ZY (P:Program) (n:Nat) (l:dz) (Ks:List Kd) (Φ:List ((cg)→Value→aJ→Prop)) (Z:List (Array Value×TypeId)) (f0:aR) (w0:aJ) (i:Nat) (o:Oper):Prop:=
 (∀N N' v w w',af2 N N' w w'→C9 Φ i N v w→C9 Φ i N' v w')∧
 match Rn Ks i with
 | .v=>o.dst.isSome=true∧∀f w N,(∀t,(jt l.length l).contains t=false→f t=f0 t)→Ext w0 w→(∀c,N c→w0.heap.size≤c∧c<w.heap.size)→(∀j,kY o j=true→(∃x,l[j]? =some x∧x.dst.isSome=true)→C9 Φ j N (f (jk l j)) w)→
   SO P n l.toArray o f w (fun f' w'=>∃v,f'=de f o.dst v∧Ext w w'∧C9 Φ i N v w')
 | .n=>o.dst.isSome=true∧(∀N v w,C9 Φ i N v w)∧∀f w N,(∀t,(jt l.length l).contains t=false→f t=f0 t)→Ext w0 w→(∀c,N c→w0.heap.size≤c∧c<w.heap.size)→(∀j,kY o j=true→(∃x,l[j]? =some x∧x.dst.isSome=true)→C9 Φ j N (f (jk l j)) w)→
   SO P n l.toArray o f w (fun f' w'=>f'=de f o.dst (.pointer (some ⟨w.heap.size,0,none⟩))∧w'=w.alloc (.cells (An Z i).1 (An Z i).2))
 | .s a j=>o.dst=none∧kY o a=true∧kY o j=true∧(∃x,l[a]? =some x∧x.dst.isSome=true)∧(∃x,l[j]? =some x∧x.dst.isSome=true)∧a≠j∧(match Rn Ks a with| .n=>True|_=>False)∧(∀N v w,C9 Φ j N v w→v.cells.size=(An Z a).1.size)∧
   ∀f w N b cur,Ext w0 w→f (jk l a)=.pointer (some ⟨b,0,none⟩)→w.heap[b]? =some (.cells cur (An Z a).2 (0,0))→cur.size=(An Z a).1.size→C9 Φ j N (f (jk l j)) w→
   SO P n l.toArray o f w (fun f' w'=>f'=f∧w'=w.setRow b (f (jk l j)).cells)
def Iv (P:Program) (n:Nat) (l:dz) (Ks:List Kd) (Φ:List ((cg)→Value→aJ→Prop)) (Z:List (Array Value×TypeId)) (f0:aR) (w0:aJ):Nat→dz→Prop
 |_,[]=>True
 |i,o::r=>ZY P n l Ks Φ Z f0 w0 i o∧Iv P n l Ks Φ Z f0 w0 (i+1) r
section
variable {P:Program} {n:Nat} {l:dz} {Ks:List Kd} {Φ:List ((cg)→Value→aJ→Prop)} {Z:List (Array Value×TypeId)} {f0:aR} {w0:aJ}
theorem Iv.at_:∀(r:dz) (i:Nat),Iv P n l Ks Φ Z f0 w0 i r→∀j o,r[j]? =some o→ZY P n l Ks Φ Z f0 w0 (i+j) o
 |[],_,_,j,o,h=>by simp at h
 |x::r,i,h,0,o,hj=>by
  simp only[apC,apy] at hj
  subst hj
  exact h.1
 |x::r,i,h,j+1,o,hj=>by
  simp only[apI] at hj
  have:=Iv.at_ r (i+1) h.2 j o hj
  rwa [show i+1+j=i+(j+1) from by omega] at this
end
section
variable {α:Type} [GT α] {M N N':cg} {w0 w w':aJ} {v:Value} {x:α}
end
end Go.Ew
namespace Go.Ew
open Go.RowKit
def FP2 {α β:Type} [GT α] [GT β] (P:Program) (g:FuncId) (ae:List Value) (M:cg) (w:aJ) (xs:List α) (ys:List β) (q:α→β→Bool):Prop:=
 cD P g∧∀w1 v x u y,x∈xs→y∈ys→Ext w w1→RV M w1 v x→RV M w1 u y→Calls P g ([v,u]++ae).toArray w1 (ck fun r w2=>r=.bool (q x y)∧Ext w1 w2)
theorem FP2.sub {α β:Type} [GT α] [GT β] {P:Program} {g:FuncId} {ae:List Value} {M M':cg} {w w':aJ} {xs:List α} {ys:List β} {q:α→β→Bool} (h:FP2 P g ae M w xs ys q) (e:Ext w w') (hM:∀b,M b→M' b):FP2 P g ae M' w' xs ys q:=
 ⟨h.1,fun w1 v x u y hx hy e' hv hu=>h.2 w1 v x u y hx hy (e.trans e') (hv.lift (Up.less fun b _ hb=>hM b hb)) (hu.lift (Up.less fun b _ hb=>hM b hb))⟩
end Go.Ew
namespace Go.Ew
open Go.RowKit
structure SV where
 a:Option Addr
 n:Nat
 c:Nat
def SV.v (s:SV):Value:=.slice s.a s.n s.c
instance gSV:GT SV where
 size:=1
 agg:=false
 rep _ _ cs s:=cs=[s.v]
 len h:=by rw[h];rfl
 one h:=by rw[h];simp[Value.oneCell',SV.v]
 single _:=rfl
 pos:=by decide
 lift h _:=h
theorem RV.sv {M:cg} {w:aJ} {v:Value} {s:SV}:RV M w v s↔v=s.v:=by
 constructor
 ·rintro⟨cs,rfl,rfl⟩;rfl
 ·rintro rfl;exact⟨_,rfl,rfl⟩
section
variable {α:Type} [GT α] {B:Nat} {e E:TypeId} {ss:List SV} {xs:List (List α)} {l l':List Item} {M0:cg} {w0 w w':aJ} {s:SV} {x y:List α} {i:Nat}
def bJ (B:Nat) (e:TypeId) (ss:List SV) (xs:List (List α)):List Item:=List.zipWith (fun s x=>own B e s.v x) ss xs
def Ay (ss:List SV) (xs:List (List α)):List Item:=List.zipWith (fun s x=>sf s.v x) ss xs
theorem pW (hs:ss[i]? =some s) (hx:xs[i]? =some x):(l++bJ B e ss xs)[l.length+i]? =some (own B e s.v x):=by
 rw[oM aq,show l.length+i-l.length=i from by omega]
 unfold bJ
 rw[ard,hs,hx]
theorem aav (hs:ss[i]? =some s):(l++bJ B e ss xs).set (l.length+i) (own B e s.v y)=l++bJ B e ss (xs.set i y):=by
 rw[aqK _ _ aq,show l.length+i-l.length=i from by omega]
 congr 1
 unfold bJ
 apply apX
 intro j
 rw[aqI,ard,ard,aqI,List.length_zipWith]
 by_cases e:i=j
 ·subst e
  have hl:=(dZ.1 hs).1
  by_cases hx:i<xs.length
  ·rw[apo rfl,apo rfl,apo aq,apo hx,hs]
  ·rw[apo rfl,apo rfl,apr aq,apr hx,hs]
 ·rw[apr e,apr e]
theorem S2 (h:ss.length=xs.length):bJ B e (ss++[s]) (xs++[x])=bJ B e ss xs++[own B e s.v x]:=by
 unfold bJ
 rw[List.zipWith_append h];rfl
theorem HI.perm (H:HI M0 w0 w l) (hp:l'.Perm l):HI M0 w0 w l':=
 H.pick l' (fun it hit=>hp.mem_iff.1 hit) ((hp.filterMap _).nodup_iff.2 H.nodup)
theorem HI.acN (H:HI M0 w0 w (own B e s.v x::(l++bJ B e ss xs))) (h:ss.length=xs.length):HI M0 w0 w (l++bJ B e (ss++[s]) (xs++[x])):=by
 rw[S2 h,←apY]
 exact H.perm<|List.perm_append_singleton _ _
theorem Nw {A B:Type} {f g:A→Option B}:∀{l:List A},(∀a∈l,f a=g a)→l.filterMap f=l.filterMap g
 |[],_=>rfl
 |a::l,h=>by rw[aqa,aqa,h a ap',Nw fun b hb=>h b (apT _ hb)]
theorem Nv {A:Type}:∀t:List A,(List.range t.length).filterMap (fun i=>t[i]?)=t
 |[]=>rfl
 |a::t=>by
  rw[jb,List.range_succ_eq_map,aqa,asp]
  have:((fun i=>(a::t)[i]?)∘Nat.succ)=fun i=>t[i]?:=by funext i;rfl
  rw[this,Nv t];rfl
theorem HI.aQ {t:List Item} (H:HI M0 w0 w (l++t)) (is:List Nat) (hn:is.Nodup) (hb:is.all (fun i=>Nat.blt i l.length)=true) (he:is.filterMap (fun i=>l[i]?)=l'):HI M0 w0 w (l'++t):=by
 refine H.bX (is++(List.range t.length).map (l.length+·)) ?_ ?_
 ·rw[aq7]
  refine⟨hn,?_,?_⟩
  ·rw[List.nodup_iff_pairwise_ne,List.pairwise_map]
   exact List.Pairwise.imp (fun h=>by omega) arG
  ·intro a ha b vS Fa
   subst Fa
   obtain⟨j, -,rfl⟩:=ap4.1 vS
   have:=aps.1 hb _ ha
   have:l.length+j<l.length:=by simpa using this
   omega
 ·rw[arA,←he]
  congr 1
  ·refine Nw fun i hi=>?_
   have:=aps.1 hb _ hi
   rw[pt (by simpa using this)]
  ·rw[asp]
   have:((fun i=>(l++t)[i]?)∘(l.length+·))=fun i=>t[i]?:=by
    funext i
    simp only[Function.comp]
    rw[oM aq,show l.length+i-l.length=i from by omega]
   rw[this]
   exact Nv t
theorem HI.HJ:∀(ss:List SV) (xs:List (List α)) (l:List Item),HI M0 w0 w (l++bJ B e ss xs)→HI M0 w0 w (l++Ay ss xs)
 |[],xs,l,H=>H
 |s::ss,[],l,H=>H
 |s::ss,x::xs,l,H=>by
  have h1:(l++bJ B e (s::ss) (x::xs))[l.length]? =some (own B e s.v x):=by rw[oM (apn _),aqq];rfl
  have H1:=H.freeze l.length h1
  have h2:(l++bJ B e (s::ss) (x::xs)).set l.length (sf s.v x)=(l++[sf s.v x])++bJ B e ss xs:=by
   rw[aqK _ _ (apn _),aqq,apY];rfl
  rw[h2] at H1
  have H2:=HI.HJ ss xs _ H1
  rwa [apY] at H2
theorem Fj {M:cg}:∀{ss:List SV} {xs:List (List α)} {cs:List Value},ss.length=xs.length→(∀(i:Nat) (s:SV) (x:List α),ss[i]? =some s→xs[i]? =some x→RV M w s.v x)→bC M w cs ss→bC M w cs xs
 |[],[],cs,_,_,h=>h
 |s::ss,x::xs,cs,hl,hr,⟨c1,c2,h1,h2,h3⟩=>by
  refine⟨c1,c2,h1,⟨s.v,h2,RV.list.1 (hr 0 s x J J)⟩,Fj (by simpa using hl) (fun i s' x' hs hx=>hr (i+1) s' x' hs hx) h3⟩
 |[],_::_,_,h,_,_=>by cases h
 |_::_,[],_,h,_,_=>by cases h
theorem HI.deep {v:Value} (H:HI M0 w0 w (own B E v ss::(l++bJ B e ss xs))) (hl:ss.length=xs.length):HI M0 w0 w (own B E v xs::l):=by
 have H1:HI M0 w0 w (own B E v ss::(l++Ay ss xs)):=HI.HJ ss xs (own B E v ss::l) H
 obtain⟨cs,h1,h2⟩:=H1.at_ 0 rfl
 have key:∀(i:Nat) (s:SV) (x:List α),ss[i]? =some s→xs[i]? =some x→RV (MS M0 (own B E v ss::(l++Ay ss xs))) w s.v x:=by
  intro i s x hs hx
  refine H1.all (sf s.v x) (apT _<|aqA _ ?_)
  unfold Ay
  exact dO (i:=i)<|by rw[ard,hs,hx]
 have H2:=H1.wx (nJ:=own B E v xs) 0 rfl rfl rfl rfl (apn _) (apn _) (fun _ _ _=>rfl) (fun b hb=>⟨(H1.jD _ (ap') b hb).2,.inl hb⟩) (by
  refine⟨cs,?_,bC.lift (M:=MS M0 (own B E v ss::(l++Ay ss xs))) (Up.less ?_) (Fj hl key h2)⟩
  ·rw[←hl];exact h1
  ·rintro b _ (hb|⟨it,hit,hb⟩)
   ·exact .inl hb
   ·rcases apD.1 hit with rfl|hit
    ·exact .inr ⟨_,ap',hb⟩
    ·exact .inr ⟨it,apT _ hit,hb⟩)
 refine H2.pick _ (fun it hit=>?_) ?_
 ·rcases apD.1 hit with rfl|hit
  ·exact ap'
  ·exact apT _<|aqG _ hit
 ·refine arV ?_ H2.nodup
  refine List.Sublist.filterMap _ ?_
  exact(List.sublist_append_left l _).cons_cons _
theorem HI.join (H:HI M0 w0 w l) (H':HI (MS M0 l) w w' l'):HI M0 w0 w' (l'++l):=by
 have hM:∀b,MS (MS M0 l) l' b↔MS M0 (l'++l) b:=by
  intro b
  constructor
  ·rintro((h|⟨it,hit,hb⟩)|⟨it,hit,hb⟩)
   ·exact .inl h
   ·exact .inr ⟨it,aqA _ hit,hb⟩
   ·exact .inr ⟨it,aqG _ hit,hb⟩
  ·rintro(h|⟨it,hit,hb⟩)
   ·exact .inl (.inl h)
   ·rcases apM.1 hit with hit|hit
    ·exact .inr ⟨it,hit,hb⟩
    ·exact .inl (.inr ⟨it,hit,hb⟩)
 refine⟨H.below.trans H'.below,H.m0,?_,?_,?_⟩
 ·intro it hit b hb
  rcases apM.1 hit with hit|hit
  ·exact⟨Nat.le_trans H.below.size (H'.jD it hit b hb).1,(H'.jD it hit b hb).2⟩
  ·exact⟨(H.jD it hit b hb).1,apV (H.jD it hit b hb).2 H'.below.size⟩
 ·rw[arA,aq7]
  refine⟨H'.nodup,H.nodup,fun b hb c hc hbc=>?_⟩
  subst hbc
  obtain⟨i,hi,Cr⟩:=apR.1 hb
  obtain⟨j,hj,wV⟩:=apR.1 hc
  have h1:=(H'.jD i hi b Cr).1
  have h2:=(H.jD j hj b wV).2
  omega
 ·intro it hit
  rcases apM.1 hit with hit|hit
  ·exact it.lift (H'.all it hit) (Up.less fun b _ hb=>(hM b).2 hb) fun _ _=>rfl
  ·refine it.lift (H.all it hit) ⟨H'.below.size,fun c hc hMc=>⟨H'.below.block c hc,fun hb=>?_⟩⟩ fun b hb=>H'.below.block b (H.jD it hit b hb).2
   rcases (hM c).2 hb with hb|⟨i,hi,Cr⟩
   ·exact hMc hb
   ·have:=(H'.jD i hi c Cr).1;omega
theorem HI.weaken (H:HI M0 w0 w l) (hl:l'.map (·.jR)=l.map (·.jR)) (hh:∀(i:Nat) it nJ,l[i]? =some it→l'[i]? =some nJ→∀M,it.holds M w→nJ.holds M w):HI M0 w0 w l':=by
 have hlen:l'.length=l.length:=by simpa using apj List.length hl
 have uW:∀(i:Nat) nJ,l'[i]? =some nJ→∃it,l[i]? =some it∧it.jR=nJ.jR:=by
  intro i nJ hi
  have h1:=apj (fun z=>z[i]?) hl
  simp only[apx,hi,aqC] at h1
  cases od:l[i]? with
  |none=>rw[od] at h1;cases h1
  |some it=>rw[od] at h1;exact⟨it,rfl,(apm h1).symm⟩
 have hMS:∀b,MS M0 l' b→MS M0 l b:=by
  rintro b (h|⟨nJ,hit,hb⟩)
  ·exact .inl h
  ·obtain⟨i,hi⟩:=apG.1 hit
   obtain⟨it,h1,h2⟩:=uW i nJ hi
   exact .inr ⟨it,dO h1,h2.trans hb⟩
 refine⟨H.below,H.m0,?_,?_,?_⟩
 ·intro nJ hit b hb
  obtain⟨i,hi⟩:=apG.1 hit
  obtain⟨it,h1,h2⟩:=uW i nJ hi
  exact H.jD it (dO h1) b<|h2.trans hb
 ·have:∀m:List Item,m.filterMap (·.jR)=(m.map (·.jR)).filterMap id:=by intro m;rw[asp];rfl
  rw[this,hl,←this];exact H.nodup
 ·intro nJ hit
  obtain⟨i,hi⟩:=apG.1 hit
  obtain⟨it,h1,h2⟩:=uW i nJ hi
  have:=hh i it nJ h1 hi _<|H.all it (dO h1)
  exact nJ.lift this (Up.less fun b _ hb=>hMS b hb) fun _ _=>rfl
theorem Pp {β:Type} [GT β] {B B':Nat} {v:Value} {ys:List β} {M:cg} (hB:B'≤B) (h:(own B e v ys).holds M w):(own B' e v ys).holds M w:=by
 obtain⟨cs,h1,h2⟩:=h
 refine⟨cs,⟨h1.1,?_⟩,h2⟩
 rcases h1.2 with h3|⟨g,cap,cur,rfl,h3,h4⟩
 ·exact .inl h3
 ·exact .inr ⟨g,cap,cur,J,Nat.le_trans hB h3,h4⟩
def Lt (M:cg) (E e:TypeId) (w0:aJ) (ss:List SV) (xs:List (List α)) (v:Value) (w:aJ):Prop:=ss.length=xs.length∧HI M w0 w (own w0.heap.size E v ss::bJ w0.heap.size e ss xs)
theorem HI.G9 {v:Value} (H:HI M0 w0 w l) (h:Lt (MS M0 l) E e w ss xs v w'):HI M0 w0 w' (own w0.heap.size E v ss::(l++bJ w0.heap.size e ss xs)):=by
 have H1:=H.join h.2
 have H2:HI M0 w0 w' ((own w0.heap.size E v ss::bJ w0.heap.size e ss xs)++l):=by
  refine H1.weaken ?_ ?_
  ·simp only[aqW,apP]
   congr 2
   unfold bJ
   rw[List.map_zipWith,List.map_zipWith];rfl
  ·intro i it nJ hi p9 M hh
   have hB:w0.heap.size≤w.heap.size:=H.below.size
   cases i with
   |zero=>
    simp only[arJ,apC,apy] at hi p9
    subst hi;subst p9;exact Pp hB hh
   |succ i=>
    simp only[arJ,apI] at hi p9
    have hlen:∀B,(bJ B e ss xs).length=min ss.length xs.length:=by intro B;unfold bJ;simp
    by_cases jU:i<min ss.length xs.length
    ·rw[pt (by rw[hlen];exact jU)] at hi p9
     unfold bJ at hi p9
     rw[ard,eB aq,eB aq] at hi p9
     simp only[apy] at hi p9
     subst hi;subst p9;exact Pp hB hh
    ·rw[oM (by rw[hlen];omega),hlen] at hi p9
     rw[hi] at p9
     cases p9;exact hh
 refine H2.perm ?_
 exact List.Perm.cons _ List.perm_append_comm
theorem uN (H:HI M0 w0 w (l++bJ B e ss xs)) (hl:ss.length=xs.length) {i:Nat} (hi:i<ss.length):∃(a:Option Addr) (x:List α) (c:Nat),ss[i]? =some (⟨a,x.length,c⟩:SV)∧xs[i]? =some x:=by
 have hs:ss[i]? =some ss[i]:=eB hi
 have hx:xs[i]? =some (xs[i]'aq):=eB aq
 obtain⟨cs,h1,h2⟩:=H.at_ _ (pW (l:=l) (B:=B) (e:=e) hs hx)
 have hn:ss[i].n=(xs[i]'aq).length:=by
  rcases h1.2 with ⟨h3,h4⟩|⟨g,cap,cur,h3, -⟩
  ·rw[h4];unfold SV.v at h3;injection h3
  ·unfold SV.v at h3;injection h3
 refine⟨ss[i].a,xs[i]'aq,ss[i].c,?_,hx⟩
 rw[hs,←hn]
theorem HI.Ax {M:cg} {it:Item} (H:HI M0 w0 w ((l++bJ B e ss xs).set (l.length+i) (own B e s.v y))) (hs:ss[i]? =some s):HI M0 w0 w (l++bJ B e ss (xs.set i y)):=by
 rw[aav hs] at H;exact H
theorem acL (H:HI M0 w0 w (l++bJ B e ss xs)) (hs:ss[i]? =some s) (hx:xs[i]? =some x):RV (fun _=>False) w s.v x:=
 AB (H.at_ _ (pW (l:=l) (B:=B) (e:=e) hs hx)) (fun _ _ h=>h.elim) (fun _ _ h=>h.elim)
end
section
variable {P:Program} {n:Nat} {ops:Array Oper} {f:aR} {w:aJ} {K:aR→aJ→Prop} {M:cg} {ad:Addr} {T:TypeId} {bytes:Nat} {z:Value} {x:Operand} {d:Nat} {ty:TypeId} {ps:String} {af:Array Edge}
theorem JU {s:SV} (hA:ik M w ad s) (F:ez P T 1 false bytes z) (ox:bM n x=true) (hx:ev f x=.pointer (some ad)) (h:K (cq f d s.v) w):
  SO P n ops ⟨some d,.load T x,ty,ps,af,none⟩ f w K:=nI hA F ox hx fun v hv=>by rw[RV.sv.1 hv];exact h
end
end Go.Ew
namespace Go.Ew
open Go.RowKit
def nS {α:Type} [GT α] (B:Nat) (e:TypeId) (v:Value) (xs:List α):Item:=
 ⟨v.ownBlock,fun M w=>∃cs,bC M w cs xs∧((v=.slice none 0 0∧xs=[])∨∃g o c cur,v=.slice (some ⟨g,o,none⟩) xs.length c∧B≤g∧w.heap[g]? =some (.cells cur e (0,0))∧xs.length≤c∧c≤maxLen∧o+c*GT.size α≤cur.size∧(cur.toList.drop o).take (xs.length*GT.size α)=cs),fun {M M' w w'} h u hb=>by
  obtain⟨cs,h2,h1⟩:=h
  refine⟨cs,bC.lift u h2,?_⟩
  rcases h1 with h3|⟨g,o,c,cur,rfl,h4,h5,h6⟩
  ·exact .inl h3
  ·exact .inr ⟨g,o,c,cur,rfl,h4,(hb g rfl).trans h5,h6⟩⟩
theorem Pq {α:Type} [GT α] {B:Nat} {e:TypeId} {v:Value} {xs:List α} {M:cg} {w:aJ} (h:(own B e v xs).holds M w):(nS B e v xs).holds M w:=by
 obtain⟨cs,h1,h2⟩:=h
 refine⟨cs,h2,?_⟩
 rcases h1.2 with ⟨rfl,h3⟩|⟨g,cap,cur,rfl,h3,h4,h5,h6,h7,h8⟩
 ·exact .inl ⟨J,aqM h3⟩
 ·exact .inr ⟨g,0,cap,cur,J,h3,h4,h5,h6,by omega,by rw[arY];exact h8⟩
section
variable {P:Program} {n:Nat} {ops:Array Oper} {f:aR} {w:aJ} {K:aR→aJ→Prop} {x y:Operand} {d:Nat} {ty T e:TypeId} {ps:String} {af:Array Edge} {v u:Value} {M M0:cg} {w0:aJ} {l:List Item} {bytes:Nat} {z:Value} {B:Nat} {kk:IntKind} {agg:Bool} {α:Type} [GT α] {xs ys:List α}
theorem HI.toQ (H:HI M0 w0 w l) (i:Nat) (hi:l[i]? =some (own B e v xs)):HI M0 w0 w (l.set i (nS B e v xs)):=by
 have jU:=(dZ.1 hi).1
 refine H.weaken ?_ ?_
 ·apply apX
  intro j
  rw[apx,apx]
  by_cases h:i=j
  ·subst h;rw[apH jU,hi];rfl
  ·rw[ap1 h]
 ·intro j it nJ hj rP M hh
  by_cases h:i=j
  ·subst h
   rw[apH jU] at rP
   rw[hi] at hj
   cases hj;cases rP
   exact Pq hh
  ·rw[ap1 h,hj] at rP;cases rP;exact hh
theorem iaQ {i:Int} (hO:(nS B e v xs).holds M w) (ox:bM n x=true) (oy:bM n y=true) (hx:ev f x=v) (hy:ev f y=.int kk i) (hi:0≤i∧i<xs.length) (hu:P.underlying T=some (.slice e)) (F:ez P e (GT.size α) agg bytes z)
  (h:∀ad xv,xs[i.toNat]? =some xv→ik M w ad xv→K (cq f d (.pointer (some ad))) w):SO P n ops ⟨some d,.indexAddr T x y,ty,ps,af,none⟩ f w K:=by
 obtain⟨cs,h2,h1⟩:=hO
 rcases h1 with ⟨_,h3⟩|⟨g,o,c,cur,rfl,h3,h4,h5,h6,h7,h8⟩
 ·rw[h3] at hi;simp at hi;omega
 ·have eH:i.toNat<xs.length:=by omega
  have lE:∀j,(⟨g,o,none⟩:Addr).add j=⟨g,o+j,none⟩:=fun j=>by unfold Addr.add;split<;>simp_all
  refine SO.value (v:=.pointer (some ⟨g,o+i.toNat*GT.size α,none⟩)) ?_<|h _ xs[i.toNat] (eB eH) ?_
  ·have hb:0≤i∧i<(xs.length:Int):=by omega
   simp[execOp,aP ox,aP oy,hx,hy,Instr.indexAt,asIntOf,gO hu,hb,F.jA,lE]
  ·obtain⟨c',zt,AW⟩:=bC.at_ h2 i.toNat xs[i.toNat] (eB eH)
   refine⟨c',zt,fun j u hu=>?_⟩
   have ve:=AW j u hu
   have agM:(⟨g,o+i.toNat*GT.size α,none⟩:Addr).add j=⟨g,o+i.toNat*GT.size α+j,none⟩:=by unfold Addr.add;split<;>simp_all
   rw[agM,cell_of_row w g _ cur e (0,0) h4]
   rw[←h8] at ve
   obtain⟨h9,h10⟩:=dZ.1 ve
   rw[aqO (by rw[iH] at h9;omega),ap6,←ar4] at ve
   rw[←ve,aqB]
theorem slQ {lo:Int} {rL:Operand} (H:HI M0 w0 w l) (i:Nat) (hi:l[i]? =some (nS B e v xs)) (ox:bM n x=true) (ol:bM n rL=true) (hx:ev f x=v) (hl:ev f rL=.int kk lo) (hb:0≤lo∧lo≤xs.length) (hu:P.underlying T=some (.slice e)) (F:ez P e (GT.size α) agg bytes z)
  (h:∀a c,HI M0 w0 w (l.set i (nS B e (.slice a (xs.drop lo.toNat).length c) (xs.drop lo.toNat)))→K (cq f d (.slice a (xs.drop lo.toNat).length c)) w):
  SO P n ops ⟨some d,.slice T x (some rL) none none,ty,ps,af,none⟩ f w K:=by
 have hO:=H.at_ i hi
 have jU:=(dZ.1 hi).1
 obtain⟨cs,h2,h1⟩:=hO
 have hlen:(xs.drop lo.toNat).length=xs.length-lo.toNat:=by simp
 obtain⟨ao,cc,rfl,hcc⟩:∃ao cc,v=.slice ao xs.length cc∧xs.length≤cc:=by
  rcases h1 with ⟨rfl,h3⟩|⟨g,o,c,cur,rfl,h3,h4,h5,h6⟩
  ·exact⟨none,0,by rw[h3];rfl,by rw[h3];exact apn _⟩
  ·exact⟨_,_,J,h5⟩
 refine SO.value (v:=.slice (if cc=lo.toNat then ao else ao.map (·.add (lo.toNat*GT.size α))) (xs.length-lo.toNat) (cc-lo.toNat)) (w':=w) ?_ ?_
 ·have vQ:P.underlying T=some (.slice (P.elem T)):=by rw[hu];simp[Program.elem,hu]
  have uY:P.elem T=e:=by simp[Program.elem,hu]
  simp[execOp,aP ox,aP ol,hx,hl,Instr.sliceAt,gO hu]
  have:=run_slice_l (P:=P) (w:=w) T ao xs.length cc vQ kk lo hb.1 aq
  rw[uY,F.jA] at this
  simp[this,sliced]
 ·rw[hlen] at h
  refine h _ _ ?_
  have hblk:∀(aa:Option Addr) (c1 c2 c3 c4:Nat) (f2:Addr→Addr),(∀q,(f2 q).block=q.block)→Value.ownBlock (.slice (aa.map f2) c1 c2)=Value.ownBlock (.slice aa c3 c4):=by
   intro aa c1 c2 c3 c4 f2 hf
   cases aa with
   |none=>rfl
   |some q=>show some _=some _;rw[hf]
  refine H.weaken ?_ ?_
  ·apply apX
   intro j
   rw[apx,apx]
   by_cases hj:i=j
   ·subst hj
    rw[apH jU,hi]
    show some (Value.ownBlock _)=some (Value.ownBlock _)
    split
    ·cases ao<;>rfl
    ·rw[hblk ao _ _ xs.length cc _ (fun q=>wg q _)]
   ·rw[ap1 hj]
  ·intro j it nJ hj rP M' hh
   by_cases nL:i=j
   ·subst nL
    rw[apH jU] at rP
    rw[hi] at hj
    cases hj;cases rP
    obtain⟨ds,k2,k1⟩:=hh
    rcases k1 with ⟨k3,k4⟩|⟨g,o,c,cur,k3,k4,k5,k6,k7,k8,k9⟩
    ·have e1:lo.toNat=0:=by rw[k4] at hb;simp at hb;omega
     subst k4
     injection k3 with k3a k3b k3c
     subst k3a;subst k3c
     refine⟨[],by simp;rfl,.inl ⟨?_,by simp⟩⟩
     rw[e1];rfl
    ·injection k3 with k3a k3b k3c
     subst k3a;subst k3c
     have lE:∀j,(⟨g,o,none⟩:Addr).add j=⟨g,o+j,none⟩:=fun j=>by unfold Addr.add;split<;>simp_all
     refine⟨ds.drop (lo.toNat*GT.size α),?_,.inr ?_⟩
     ·have:∀(k:Nat) (xs:List α) (cs:List Value),k≤xs.length→bC M' w cs xs→bC M' w (cs.drop (k*GT.size α)) (xs.drop k):=by
       intro k
       induction k with
       |zero=>intro xs cs _ hc;simpa using hc
       |succ k ih=>
        intro xs cs hk hc
        cases xs with
        |nil=>simp at hk
        |cons q xs=>
         obtain⟨c1,c2,rfl,m1,m2⟩:=hc
         have:=ih xs c2 (by simpa using hk) m2
         rw[List.drop_succ_cons,show (k+1)*GT.size α=c1.length+k*GT.size α from by rw[GT.len m1,aqd];omega,←aqj,List.drop_left]
         exact this
      exact this _ _ _ aq k2
     ·by_cases sg:cc=lo.toNat
      ·rw[apo sg]
       have hz:xs.drop lo.toNat=[]:=aqX aq
       refine⟨g,o,cc-lo.toNat,cur,by rw[hlen],k4,k5,by rw[hlen];omega,by omega,?_,?_⟩
       ·have:(cc-lo.toNat)*GT.size α≤cc*GT.size α:=aqr _ aq
        omega
       ·rw[hz,←k9]
        rw[gC,arR,arl,aqX]
        rw[iH]
        have:xs.length*GT.size α≤lo.toNat*GT.size α:=aqr _ aq
        omega
      ·rw[apr sg]
       refine⟨g,o+lo.toNat*GT.size α,cc-lo.toNat,cur,by rw[hlen];simp[lE],k4,k5,by rw[hlen];omega,by omega,?_,?_⟩
       ·have:lo.toNat*GT.size α+(cc-lo.toNat)*GT.size α=cc*GT.size α:=by rw[←aqd];congr 1;omega
        omega
       ·rw[←k9,hlen,asj,aqj]
        congr 1
        rw[←Nat.sub_mul]
   ·rw[ap1 nL,hj] at rP;cases rP;exact hh
theorem apQ (H:HI M0 w0 w l) (i:Nat) (hi:l[i]? =some (nS B e v xs)) (hB:B=w0.heap.size) (ox:bM n x=true) (oy:bM n y=true) (hx:ev f x=v) (hy:ev f y=u)
  (hs:Src (MS M0 l) w u ys) (gI:0<ys.length) (hu:P.underlying T=some (.slice e)) (F:ez P e (GT.size α) agg bytes z) (hz:z.cells.size=GT.size α) (hl:(xs.length+ys.length)*bytes≤140737488355328) (od:xs.length+ys.length≤9223372036854775807)
  (h:∀a c w',HI M0 w0 w' (l.set i (nS B e (.slice a (xs++ys).length c) (xs++ys)))→K (cq f d (.slice a (xs++ys).length c)) w'):
  SO P n ops ⟨some d,.call {callee:=.builtin .append,args:=#[x,y],argTypes:=#[T,T]},ty,ps,af,none⟩ f w K:=by
 subst hB
 obtain⟨cs,h2,h1⟩:=H.at_ i hi
 obtain⟨a0,c0,rfl,Gb⟩:=hs
 obtain⟨inf,tk,ux,vM,DH⟩:=F.info
 have eH:∀b,v.ownBlock=some b→w0.heap.size≤b∧b<w.heap.size:=H.jD _<|dO hi
 obtain⟨ad,rfl,ds,uy,DL⟩:∃ad,a0=some ad∧∃cs,bC (MS M0 l) w cs ys∧∀j u,cs[j]? =some u→w.cell? (ad.add j)=some u:=by
  rcases Gb with h0|h0
  ·omega
  ·exact h0
 have sg:=bC.length h2
 have zr:=bC.length uy
 have P1:∀(v':Value) (w':aJ) (B':Nat) (qs:List α) (M':cg) (es:List Value),w0.heap.size≤B'→w'.ownsRow B' e (GT.size α) v' qs.length es→bC M' w' es qs→(nS w0.heap.size e v' qs).holds M' w':=by
  intro v' w' B' qs M' es hB' ho hc
  refine Pq ⟨es,⟨ho.1,?_⟩,hc⟩
  rcases ho.2 with h3|⟨g,cap,cur,rfl,h3,h4⟩
  ·exact .inl h3
  ·exact .inr ⟨g,cap,cur,J,Nat.le_trans hB' h3,h4⟩
 obtain⟨a',c',w',kU,rQ,Cu,agH⟩:∃a' c' w',(Builtin.append_ #[T,T] ty #[v,.slice (some ad) ys.length c0]).run P w=.ok (.slice a' (xs.length+ys.length) c') w'∧w.grownBy w' v.ownBlock∧
   ((Value.slice a' (xs.length+ys.length) c').ownBlock=v.ownBlock∨∀b,(Value.slice a' (xs.length+ys.length) c').ownBlock=some b→w.heap.size≤b∧b<w'.heap.size)∧
   ∀M',Up (MS M0 l) w M' w'→(nS w0.heap.size e (.slice a' (xs++ys).length c') (xs++ys)).holds M' w':=by
  rcases h1 with ⟨rfl,rfl⟩|⟨g,o,c,cur,rfl,h3,h4,h5,h6,h7,h8⟩
  ·obtain⟨v',w',r1,r2,r3,_,r4⟩:=run_append_own_at (P:=P) w w0.heap.size T ty e inf z (GT.size α) bytes hu tk ux vM DH hz GT.pos (.slice none 0 0) 0 [] (World.ownsRow_nil w _ e _) ad ys.length c0 ds zr DL (bC.BB uy) (by simp only[maxLen];simp at od;omega) (by simpa using hl) H.below.size
   obtain⟨a',c',rfl⟩:=wz r2
   refine⟨a',c',w',by simpa using r1,r3,?_,fun M' rb=>?_⟩
   ·rcases r4 with hb|hb
    ·exact .inl (by simpa using hb)
    ·refine .inr fun b wU=>⟨?_,(r2.lt b<|by simpa using wU).2⟩
     simp only[gC,ap_] at wU hb
     rw[hb] at wU;cases wU;exact apn _
   ·refine P1 _ _ w0.heap.size _ M' ds (apn _) ?_ ?_
    ·simpa using r2
    ·simpa using bC.lift rb uy
  ·by_cases Rv:xs.length+ys.length≤c
   ·have Xc:o+xs.length*GT.size α+ds.length≤cur.size:=by
     have:(xs.length+ys.length)*GT.size α≤c*GT.size α:=aqr _ Rv
     rw[aqd] at this
     omega
    have hf:=run_firstCells_some (P:=P) w inf.size ys.length ad ys.length c0 ds (by rw[vM];exact zr) DL
    rw[vM] at hf
    have re:=run_storeCells_at P g (o+xs.length*GT.size α) e ds 0 cur w h4 (by simpa using Xc)<|bC.BB uy
    simp only[ap3] at re
    have lE:∀j,(⟨g,o,none⟩:Addr).add j=⟨g,o+j,none⟩:=fun j=>by unfold Addr.add;split<;>simp_all
    have kU:(Builtin.append_ #[T,T] ty #[.slice (some ⟨g,o,none⟩) xs.length c,.slice (some ad) ys.length c0]).run P w=.ok (.slice (some ⟨g,o,none⟩) (xs.length+ys.length) c) (w.setRow g (cur.toList.take (o+xs.length*GT.size α)++ds++cur.toList.drop (o+xs.length*GT.size α+ds.length)).toArray):=by
     simp[Builtin.append_,gO hu,sizeOf,typeInfo,tk,Builtin.lenOf,Rv,hf,vM,lE,re]
    refine⟨_,_,_,kU,⟨J,J,J,by simp,fun k _ hk=>setRow_other w g k _ (fun e=>hk<|by simp[Value.ownBlock,e])⟩,.inl rfl,fun M' rb=>?_⟩
    refine⟨cs++ds,bC.append (bC.lift rb h2) (bC.lift rb uy),.inr ⟨g,o,c,_,J,h3,setRow_heap w g cur _ e _ h4,by rw[gj];exact Rv,h6,?_,?_⟩⟩
    ·simp only[aqT,gj,iH,apJ,ap9]
     omega
    ·rw[gj,aqd,←zr]
     have aet:cur.toList.length=cur.size:=by simp
     have e1:(cur.toList.take (o+xs.length*GT.size α)).length=o+xs.length*GT.size α:=by rw[iH];omega
     show List.take _ (List.drop o (cur.toList.take (o+xs.length*GT.size α)++ds++cur.toList.drop (o+xs.length*GT.size α+ds.length)))=_
     rw[apY,ase aq,asj,show o+xs.length*GT.size α-o=xs.length*GT.size α from by omega,h8]
     rw[←apY,ar' (by rw[gj,sg])]
   ·have holds:∀j u,cs[j]? =some u→w.cell? ((⟨g,o,none⟩:Addr).add j)=some u:=by
     intro j u Y'
     have lE:(⟨g,o,none⟩:Addr).add j=⟨g,o+j,none⟩:=by unfold Addr.add;split<;>simp_all
     rw[lE,cell_of_row w g _ cur e (0,0) h4]
     rw[←h8] at Y'
     obtain⟨k1,k2⟩:=dZ.1 Y'
     rw[aqO (by rw[iH] at k1;omega),ap6] at Y'
     rw[←Y',aqB]
    obtain⟨v',w',r1,r2,r3⟩:=run_append_arg_grows (P:=P) w T ty e inf z (GT.size α) bytes hu tk ux vM DH hz GT.pos ⟨g,o,none⟩ xs.length c cs sg holds ad ys.length c0 ds zr DL aq (by simp only[maxLen];omega) hl
    obtain⟨a',c',rfl⟩:=wz r2
    refine⟨a',c',w',r1,⟨r3.os,r3.tape,r3.output,r3.size,fun k hk _=>r3.block k hk (by simp)⟩,.inr fun b wU=>r2.lt b wU,fun M' rb=>?_⟩
    refine P1 _ _ w.heap.size _ M' (cs++ds) H.below.size (by rw[gj];exact r2)<|bC.append (bC.lift rb h2)<|bC.lift rb uy
 refine SO.value (v:=.slice a' (xs.length+ys.length) c') (w':=w') ?_ ?_
 ·simp[execOp,resolve,invoke,builtin,aP ox,aP oy,hx,hy,kU]
 ·have:=h a' c' w'
  rw[gj] at this
  refine this ?_
  have hblk:∀b,(nS w0.heap.size e (.slice a' (xs.length+ys.length) c') (xs++ys)).jR=some b→b<w'.heap.size∧((nS w0.heap.size e v xs).jR=some b∨w.heap.size≤b):=by
   intro b hb
   rcases Cu with Cu|Cu
   ·have wW:v.ownBlock=some b:=Cu.symm.trans hb
    exact⟨apV (eH b wW).2 rQ.size,.inl wW⟩
   ·exact⟨(Cu b hb).2,.inr (Cu b hb).1⟩
  refine H.wx i hi rQ.os rQ.tape rQ.output rQ.size (sW _ kU) (fun c hc gI=>rQ.block c hc<|fun e=>gI e.symm) hblk ?_
  have h9:=agH (MS M0<|l.set i (nS w0.heap.size e (.slice a' (xs.length+ys.length) c')<|xs++ys)) ?_
  ·rw[gj] at h9;exact h9
  ·refine⟨rQ.size,fun b hb hM=>⟨rQ.block b hb (fun e=>hM<|.inr ⟨_,dO hi,e.symm⟩),?_⟩⟩
   rintro(DR|⟨it,hit,mi⟩)
   ·exact hM<|.inl DR
   ·rcases aqb hit with hit|rfl
    ·exact hM<|.inr ⟨it,hit,mi⟩
    ·rcases (hblk b mi).2 with h'|h'
     ·exact hM<|.inr ⟨_,dO hi,h'⟩
     ·omega
end
end Go.Ew
namespace Go.Ew
open Go.RowKit
section
variable {P:Program} {n:Nat} {ops:Array Oper} {f:aR} {w:aJ} {K:aR→aJ→Prop} {x y:Operand} {d:Nat} {ty T e:TypeId} {ps:String} {af:Array Edge} {v u:Value} {M M0:cg} {w0:aJ} {l:List Item} {bytes:Nat} {z:Value} {B:Nat}
theorem cpO {xs ys:List bw} (H:HI M0 w0 w l) (i:Nat) (hi:l[i]? =some (own B e v xs)) (hB:B=w0.heap.size) (ox:bM n x=true) (oy:bM n y=true) (hx:ev f x=v) (hy:ev f y=u)
  (hs:Src (MS M0 l) w u ys) (hu:P.underlying T=some (.slice e)) (F:ez P e 1 false bytes z) (hl:ys.length=xs.length) (hp:0<xs.length)
  (h:∀w',HI M0 w0 w' (l.set i (own B e v ys))→K (cq f d (.int .i64 (ys.length:Int))) w'):
  SO P n ops ⟨some d,.call {callee:=.builtin .copy,args:=#[x,y],argTypes:=#[T,T]},ty,ps,af,none⟩ f w K:=by
 subst hB
 obtain⟨cs,h1,h2⟩:=H.at_ i hi
 obtain⟨a0,c0,rfl,Gb⟩:=hs
 obtain⟨inf,tk,ux,vM,DH⟩:=F.info
 rcases h1.2 with ⟨rfl,h3⟩|⟨g',cap,cur,rfl,h3,h4,h5,h6,h7,h8⟩
 ·omega
 ·rcases Gb with h0|⟨ad,rfl,ds,uy,DL⟩
  ·omega
  ·have zr:ds.length=ys.length:=by have:=bC.length uy;simpa [GT.size] using this
   have pZ:cur.size=cap:=by rw[h7];simp[GT.size]
   have kU:=run_copy_row (P:=P) w T T ty e g' 0 xs.length cap ad ys.length c0 cur e ds hu (by rw[tk];simp[vM]) h4 (by rw[zr,hl];simp) DL aq<|bC.BB uy
   refine SO.value (v:=.int .i64 (ys.length:Int)) (w':=w.setRow g' (wr cur 0 ds)) ?_<|h _ ?_
   ·have AP:(Builtin.copy_ #[T,T] ty #[.slice (some ⟨g',0,none⟩) xs.length cap,.slice (some ad) ys.length c0]).run P w=.ok (.int .i64 (ys.length:Int)) (w.setRow g' (wr cur 0 ds)):=by
     rw[kU,←zr];rfl
    simp[execOp,resolve,invoke,builtin,aP ox,aP oy,hx,hy,AP]
   ·have DD:∀c,c<w.heap.size→(own w0.heap.size e (Value.slice (some ⟨g',0,none⟩) xs.length cap) xs).jR≠some c→(w.setRow g' (wr cur 0 ds)).heap[c]? =w.heap[c]?:=
     fun c hc gI=>setRow_other w g' c _ (fun e=>gI (by rw[e];rfl))
    have hblk:∀b,(own w0.heap.size e (Value.slice (some ⟨g',0,none⟩) xs.length cap) ys).jR=some b→b<(w.setRow g' (wr cur 0 ds)).heap.size∧((own w0.heap.size e (Value.slice (some ⟨g',0,none⟩) xs.length cap) xs).jR=some b∨w.heap.size≤b):=by
     intro b hb
     refine⟨?_,.inl hb⟩
     rw[size_setRow]
     exact(H.jD _ (dO hi) b hb).2
    refine H.wx i hi J J J (by simp) (apn _) DD hblk ?_
    refine⟨ds,⟨by simpa [GT.size] using zr,.inr ⟨g',cap,wr cur 0 ds,by rw[hl],h3,setRow_heap w g' cur _ e _ h4,by omega,h6,?_,?_⟩⟩,?_⟩
    ·simp only[wr,aqT,gj,iH,apJ,ap9]
     omega
    ·simp only[wr]
     rw[arl,List.nil_append,ap_,ar' (by simpa [GT.size] using zr)]
    ·have rb:Up (MS M0 l) w (MS M0 (l.set i (own w0.heap.size e (Value.slice (some ⟨g',0,none⟩) xs.length cap) ys))) (w.setRow g' (wr cur 0 ds)):=by
      refine⟨by simp,fun b hb hM=>⟨setRow_other w g' b _ (fun e=>hM<|.inr ⟨_,dO hi,by rw[e];rfl⟩),?_⟩⟩
      rintro(DR|⟨it,hit,mi⟩)
      ·exact hM<|.inl DR
      ·rcases aqb hit with hit|rfl
       ·exact hM<|.inr ⟨it,hit,mi⟩
       ·exact hM<|.inr ⟨_,dO hi,mi⟩
     exact bC.lift rb uy
end
theorem aa4 {α:Type} {ss:List SV} {xs:List (List α)} {i k L:Nat} {s s2:SV} {x x2:List α} (hs:ss[i]? =some s) (gS:ss[k]? =some s2) (hx:xs[i]? =some x) (iY:xs[k]? =some x2):L+i≠L+k∨(s.v=s2.v∧x2=x):=by
 by_cases h:i=k
 ·subst h
  right
  rw[hs] at gS;rw[hx] at iY
  cases gS;cases iY
  exact⟨J,J⟩
 ·left;omega
end Go.Ew
namespace Go.Ew
open Go.RowKit
def mj (a:Option Addr) (c lo:Nat):Option Addr:=if c=lo then a else a.map (·.add (lo*1))
def GD (xs:aE) (k:Nat):aE:=xs.take k++((xs.take k).take (xs.length-k)++xs.drop (k+min k (xs.length-k)))
theorem GR (g j:Nat):(⟨g,0,none⟩:Addr).add j=⟨g,j,none⟩:=by unfold Addr.add;split<;>simp_all
theorem rJ {M:cg} {w:aJ}:∀(k:Nat) {xs:aE} {cs:List Value},bC M w cs xs→bC M w (cs.take k) (xs.take k)∧bC M w (cs.drop k) (xs.drop k)
 |0,xs,cs,h=>⟨by rw[arl,arl];rfl,by simpa using h⟩
 |k+1,[],cs,h=>by
  rw[show cs=[] from h]
  exact⟨J,J⟩
 |k+1,x::xs,cs,h=>by
  obtain⟨c1,c2,rfl,h2,h3⟩:=h
  obtain⟨i1,i2⟩:=rJ k h3
  obtain⟨e,hx⟩:=h2
  subst e
  exact⟨⟨[.int .i64 x],c2.take k,J,⟨J,hx⟩,i1⟩,i2⟩
section
variable {P:Program} {n:Nat} {ops:Array Oper} {f:aR} {w:aJ} {K:aR→aJ→Prop} {x y:Operand} {d:Nat} {ty T e:TypeId} {ps:String} {af:Array Edge} {v u:Value} {M M0:cg} {w0:aJ} {l:List Item} {bytes:Nat} {z:Value} {B:Nat} {kk:IntKind} {agg:Bool} {xs ys:aE} {a:Option Addr} {k c:Nat}
theorem Da (hO:(own B e (.slice a k c) xs).holds M w):k=xs.length∧xs.length≤c:=by
 obtain⟨cs,h1,h2⟩:=hO
 rcases h1.2 with ⟨h3,h4⟩|⟨g,cap,cur,h3,h4,h5,h6,h7⟩
 ·cases h3;omega
 ·cases h3;exact⟨rfl,h6⟩
theorem Mm {α:Type} [GT α] {xs:List α} (hO:(own B e (.slice a k c) xs).holds M w):k=xs.length:=by
 obtain⟨cs,h1,h2⟩:=hO
 rcases h1.2 with ⟨h3,h4⟩|⟨g,cap,cur,h3,h4,h5,h6,h7⟩
 ·cases h3;omega
 ·cases h3;rfl
theorem acm {lo:Int} {rL:Operand} (hO:(own B e (.slice a k c) xs).holds M w) (ox:bM n x=true) (ol:bM n rL=true) (hx:ev f x=.slice a k c) (hl:ev f rL=.int kk lo) (hb:0≤lo∧lo≤xs.length) (hu:P.underlying T=some (.slice e)) (F:ez P e 1 agg bytes z)
  (h:K (cq f d (.slice (mj a c lo.toNat) (k-lo.toNat) (c-lo.toNat))) w):
  SO P n ops ⟨some d,.slice T x (some rL) none none,ty,ps,af,none⟩ f w K:=by
 obtain⟨hk,hc⟩:=Da hO
 refine SO.value (v:=.slice (mj a c lo.toNat) (k-lo.toNat) (c-lo.toNat)) (w':=w) ?_ h
 have vQ:P.underlying T=some (.slice (P.elem T)):=by rw[hu];simp[Program.elem,hu]
 have uY:P.elem T=e:=by simp[Program.elem,hu]
 simp[execOp,aP ox,aP ol,hx,hl,Instr.sliceAt,gO hu]
 have:=run_slice_l (P:=P) (w:=w) T a k c vQ kk lo hb.1 aq
 rw[uY,F.jA] at this
 simp[this,sliced,mj]
theorem acn {hi:Int} {px:Operand} (hO:(own B e (.slice a k c) xs).holds M w) (ox:bM n x=true) (oh:bM n px=true) (hx:ev f x=.slice a k c) (hh:ev f px=.int kk hi) (hb:0≤hi∧hi≤xs.length) (hu:P.underlying T=some (.slice e)) (F:ez P e 1 agg bytes z)
  (h:K (cq f d (.slice (mj a c 0) hi.toNat c)) w):
  SO P n ops ⟨some d,.slice T x none (some px) none,ty,ps,af,none⟩ f w K:=by
 obtain⟨hk,hc⟩:=Da hO
 refine SO.value (v:=.slice (mj a c 0) hi.toNat c) (w':=w) ?_ h
 have vQ:P.underlying T=some (.slice (P.elem T)):=by rw[hu];simp[Program.elem,hu]
 have uY:P.elem T=e:=by simp[Program.elem,hu]
 simp[execOp,aP ox,aP oh,hx,hh,Instr.sliceAt,gO hu]
 have:=run_slice_h (P:=P) (w:=w) T a k c vQ kk hi hb.1 aq
 rw[uY,F.jA] at this
 simp[this,sliced,mj]
theorem HI.Mh (H:HI M0 w0 w l) (i:Nat) {g cap:Nat} {cur:Array Value} {cs ds:List Value} {o:Nat} (hi:l[i]? =some (own w0.heap.size e (.slice (some ⟨g,0,none⟩) xs.length cap) xs))
  (h3:w0.heap.size≤g) (h4:w.heap[g]? =some (.cells cur e (0,0))) (h5:xs.length≤cap) (h6:cap≤maxLen) (h7:cur.size=cap) (h8:cur.toList.take xs.length=cs)
  (hc:bC (MS M0 l) w cs xs) (hd:bC (MS M0 l) w ds ys) (ho:o+ys.length≤xs.length):
  HI M0 w0 (w.setRow g (cur.toList.take o++ds++cur.toList.drop (o+ds.length)).toArray) (l.set i (own w0.heap.size e (.slice (some ⟨g,0,none⟩) xs.length cap) (xs.take o++(ys++xs.drop (o+ys.length))))):=by
 have zr:ds.length=ys.length:=by have:=bC.length hd;simpa [GT.size] using this
 have sg:cs.length=xs.length:=by have:=bC.length hc;simpa [GT.size] using this
 have Hz:(xs.take o++(ys++xs.drop (o+ys.length))).length=xs.length:=by simp;omega
 have aet:cur.toList.length=cap:=by simpa using h7
 have DD:∀q,q<w.heap.size→(own w0.heap.size e (Value.slice (some ⟨g,0,none⟩) xs.length cap) xs).jR≠some q→(w.setRow g (cur.toList.take o++ds++cur.toList.drop (o+ds.length)).toArray).heap[q]? =w.heap[q]?:=
  fun q hq gI=>setRow_other w g q _ (fun e=>gI (by rw[e];rfl))
 refine H.wx i hi J J J (by simp) (apn _) DD ?_ ?_
 ·intro b hb
  refine⟨?_,.inl hb⟩
  rw[size_setRow]
  exact(H.jD _ (dO hi) b hb).2
 ·have rb:Up (MS M0 l) w (MS M0 (l.set i (own w0.heap.size e (Value.slice (some ⟨g,0,none⟩) xs.length cap) (xs.take o++(ys++xs.drop (o+ys.length)))))) (w.setRow g (cur.toList.take o++ds++cur.toList.drop (o+ds.length)).toArray):=by
   refine⟨by simp,fun b hb hM=>⟨setRow_other w g b _ (fun e=>hM<|.inr ⟨_,dO hi,by rw[e];rfl⟩),?_⟩⟩
   rintro(DR|⟨it,hit,mi⟩)
   ·exact hM<|.inl DR
   ·rcases aqb hit with hit|rfl
    ·exact hM<|.inr ⟨it,hit,mi⟩
    ·exact hM<|.inr ⟨_,dO hi,mi⟩
  refine⟨cs.take o++(ds++cs.drop (o+ds.length)),⟨by simp[GT.size];omega,.inr ⟨g,cap,_,by rw[Hz],h3,setRow_heap w g cur _ e _ h4,by omega,h6,?_,?_⟩⟩,?_⟩
  ·simp only[aqT,gj,iH,apJ,GT.size]
   omega
  ·rw[Hz]
   show (cur.toList.take o++ds++cur.toList.drop (o+ds.length)).take (xs.length*1)=_
   rw[←h8,arx,apY,arE,arE,iH,aqk aq,aqS,aqS,asj,apu (by omega:ds.length≤xs.length-o),Nat.min_comm o xs.length,
    show xs.length-o-ds.length=xs.length-(o+ds.length) from by omega]
  ·have e9:xs.drop (o+ys.length)=xs.drop (o+ds.length):=by rw[zr]
   have q:=bC.lift rb (rJ (o+ds.length) hc).2
   exact bC.append (bC.lift rb (rJ o hc).1)<|bC.append (bC.lift rb hd)<|(apj (fun r=>bC _ _ _ r) e9).mpr q
theorem ak8 (H:HI M0 w0 w l) (i:Nat) (hi:l[i]? =some (own B e (.slice a k c) xs)) (hB:B=w0.heap.size) (ox:bM n x=true) (oy:bM n y=true) (hx:ev f x=.slice a k c) (hy:ev f y=u)
  (hs:Src (MS M0 l) w u ys) (hu:P.underlying T=some (.slice e)) (F:ez P e 1 agg bytes z) (hl:ys.length≤xs.length) (hp:0<ys.length)
  (h:∀w',HI M0 w0 w' (l.set i (own B e (.slice a k c) (ys++xs.drop ys.length)))→K (cq f d (.int .i64 (ys.length:Int))) w'):
  SO P n ops ⟨some d,.call {callee:=.builtin .copy,args:=#[x,y],argTypes:=#[T,T]},ty,ps,af,none⟩ f w K:=by
 subst hB
 obtain⟨cs,h1,h2⟩:=H.at_ i hi
 obtain⟨a0,c0,rfl,Gb⟩:=hs
 obtain⟨inf,tk,ux,vM,DH⟩:=F.info
 rcases h1.2 with ⟨h0,h3⟩|⟨g',c1,cur,h0,h3,h4,h5,h6,h7,h8⟩
 ·omega
 ·cases h0
  rcases Gb with h0|⟨ad,rfl,ds,uy,DL⟩
  ·omega
  ·have zr:ds.length=ys.length:=by have:=bC.length uy;simpa [GT.size] using this
   have pZ:cur.size=c:=by rw[h7];simp[GT.size]
   have kU:=run_copy_row (P:=P) w T T ty e g' 0 xs.length c ad ys.length c0 cur e ds hu (by rw[tk];simp[vM]) h4 (by rw[zr];simp[aqk hl]) DL aq<|bC.BB uy
   refine SO.value (v:=.int .i64 (ys.length:Int)) (w':=w.setRow g' (cur.toList.take 0++ds++cur.toList.drop (0+ds.length)).toArray) ?_<|h _ ?_
   ·have AP:(Builtin.copy_ #[T,T] ty #[.slice (some ⟨g',0,none⟩) xs.length c,.slice (some ad) ys.length c0]).run P w=.ok (.int .i64 (ys.length:Int)) (w.setRow g' (cur.toList.take 0++ds++cur.toList.drop (0+ds.length)).toArray):=by
     rw[kU,←zr];rfl
    simp[execOp,resolve,invoke,builtin,aP ox,aP oy,hx,hy,AP]
   ·rw[show ys++xs.drop ys.length=xs.take 0++(ys++xs.drop (0+ys.length)) from by simp]
    exact HI.Mh (ys:=ys) (ds:=ds) (o:=0) H i hi h3 h4 h5 h6 pZ (by simpa [GT.size] using h8) h2 uy aq
theorem ak9 (H:HI M0 w0 w l) (i:Nat) (hi:l[i]? =some (own B e (.slice a k c) xs)) (hB:B=w0.heap.size) (ox:bM n x=true) (oy:bM n y=true) {q:Nat} (hx:ev f x=.slice (mj a c q) (k-q) (c-q)) (hy:ev f y=.slice (mj a c 0) q c)
  (hu:P.underlying T=some (.slice e)) (F:ez P e 1 agg bytes z) (hq:0<q∧q<xs.length)
  (h:∀w',HI M0 w0 w' (l.set i (own B e (.slice a k c) (GD xs q)))→K (cq f d (.int .i64 ((min q (xs.length-q):Nat):Int))) w'):
  SO P n ops ⟨some d,.call {callee:=.builtin .copy,args:=#[x,y],argTypes:=#[T,T]},ty,ps,af,none⟩ f w K:=by
 subst hB
 obtain⟨cs,h1,h2⟩:=H.at_ i hi
 obtain⟨inf,tk,ux,vM,DH⟩:=F.info
 rcases h1.2 with ⟨h0,h3⟩|⟨g',c1,cur,h0,h3,h4,h5,h6,h7,h8⟩
 ·omega
 ·cases h0
  have pZ:cur.size=c:=by rw[h7];simp[GT.size]
  have lE:∀j,(⟨g',0,none⟩:Addr).add j=⟨g',j,none⟩:=GR g'
  have Um:mj (some ⟨g',0,none⟩) c q=some ⟨g',q,none⟩:=by unfold mj;rw[apr aq,arx];show some (Addr.add _ q)=_;rw[lE]
  have hcB:mj (some ⟨g',0,none⟩) c 0=some ⟨g',0,none⟩:=by unfold mj;rw[apr aq];show some (Addr.add _<|0*1)=_;rw[lE]
  rw[Um] at hx;rw[hcB] at hy
  have sg:cs.length=xs.length:=by have:=bC.length h2;simpa [GT.size] using this
  have hd:bC (MS M0 l) w ((cs.take q).take (xs.length-q)) ((xs.take q).take (xs.length-q)):=(rJ _ (rJ q h2).1).1
  have tl:((cs.take q).take (xs.length-q)).length=min q (xs.length-q):=by simp;omega
  have kU:=run_copy_row (P:=P) w T T ty e g' q (xs.length-q) (c-q) ⟨g',0,none⟩ q c cur e ((cs.take q).take (xs.length-q)) hu (by rw[tk];simp[vM]) h4 (by rw[tl]) (by
   intro j v hv
   have yr:=(dZ.1 hv).1
   rw[tl] at yr
   rw[aqO aq,aqO aq,←h8,aqO (by simp[GT.size];omega)] at hv
   rw[lE,cell_of_row w g' _ cur e (0,0) h4,←hv,aqB]) (by rw[tl];omega) (bC.BB hd)
  refine SO.value (v:=.int .i64 ((min q (xs.length-q):Nat):Int)) (w':=w.setRow g' (cur.toList.take q++(cs.take q).take (xs.length-q)++cur.toList.drop (q+((cs.take q).take (xs.length-q)).length)).toArray) ?_<|h _ ?_
  ·have AP:(Builtin.copy_ #[T,T] ty #[.slice (some ⟨g',q,none⟩) (xs.length-q) (c-q),.slice (some ⟨g',0,none⟩) q c]).run P w=.ok (.int .i64 ((min q (xs.length-q):Nat):Int)) (w.setRow g' (cur.toList.take q++(cs.take q).take (xs.length-q)++cur.toList.drop (q+((cs.take q).take (xs.length-q)).length)).toArray):=by
    rw[kU,tl];rfl
   simp[execOp,resolve,invoke,builtin,aP ox,aP oy,hx,hy,AP]
  ·have:=HI.Mh (ys:=(xs.take q).take (xs.length-q)) (o:=q) H i hi h3 h4 h5 h6 pZ (by simpa [GT.size] using h8) h2 hd<|by simp;omega
   rw[show ((xs.take q).take (xs.length-q)).length=min q (xs.length-q) from by simp;omega] at this
   exact this
end
end Go.Ew
namespace Go.Ew
open Go.RowKit
def FPH (P:Program) (g:FuncId) (ae:List Value) (M:cg) (w:aJ) (it:aE→Item) (r:List Item) (xs:aE) (p:Int→Bool):Prop:=
 cD P g∧∀w1 ys,HI M w w1 ([it ys]++r)→∀x,x∈xs→aK x→Calls P g ([Value.int .i64 x]++ae).toArray w1 (ck fun u w2=>u=.bool (p x)∧Ext w1 w2)
theorem FPH.fp {P:Program} {g:FuncId} {ae:List Value} {M M':cg} {w w1:aJ} {it:aE→Item} {r:List Item} {xs ys:aE} {p:Int→Bool} (h:FPH P g ae M w it r xs p) (H:HI M w w1 ([it ys]++r)):FP P g ae M' w1 xs p:=
 ⟨h.1,fun w2 v x hx e hv=>by
  obtain⟨cs,⟨e1,hi⟩,e2⟩:=hv
  rw[e1] at e2
  cases e2
  exact h.2 w2 ys (H.ext e) x hx hi⟩
theorem KN (v:Value):∀n,(Builtin.zeroCells #[v] n).toList=List.replicate n v:=by
 intro n
 unfold Builtin.zeroCells
 apply apX
 intro i
 simp only[Array.toList_map,apx,Array.toList_range,aq_]
 by_cases h:i<n
 ·rw[aqm (by simpa using h),apo h]
  simp[Nat.mod_one]
 ·rw[apz (by simpa using h),apr h];rfl
section
variable {P:Program} {n:Nat} {ops:Array Oper} {f:aR} {w:aJ} {K:aR→aJ→Prop} {x y:Operand} {d:Nat} {ty T e:TypeId} {ps:String} {af:Array Edge} {v u:Value} {M M0:cg} {w0:aJ} {l:List Item} {bytes:Nat} {B:Nat} {kk:IntKind} {agg:Bool} {xs ys:aE} {a:Option Addr} {k c:Nat}
theorem ago {hi:Int} {px:Operand} (H:HI M0 w0 w l) (i:Nat) (p9:l[i]? =some (own B e (.slice a k c) xs)) (ox:bM n x=true) (oh:bM n px=true) (hx:ev f x=.slice a k c) (hh:ev f px=.int kk hi) (hb:0≤hi∧hi≤xs.length) (hu:P.underlying T=some (.slice e)) (F:ez P e 1 agg bytes (.int .i64 0))
  (h:HI M0 w0 w (l.set i (own B e (.slice a (xs.take hi.toNat).length c) (xs.take hi.toNat)))→K (cq f d (.slice a (xs.take hi.toNat).length c)) w):
  SO P n ops ⟨some d,.slice T x none (some px) none,ty,ps,af,none⟩ f w K:=by
 have hO:=H.at_ i p9
 have jU:=(dZ.1 p9).1
 have hlen:(xs.take hi.toNat).length=hi.toNat:=by simp;omega
 have Gn:mj a c 0=a:=by
  unfold mj
  split
  ·rfl
  ·obtain⟨cs,h1,h2⟩:=hO
   rcases h1.2 with ⟨h3,h4⟩|⟨g,cap,cur,h3,h4⟩
   ·cases h3;rfl
   ·cases h3
    show some (Addr.add _ (0*1))=_
    rw[GR]
 refine acn hO ox oh hx hh hb hu F ?_
 rw[Gn]
 rw[hlen] at h
 refine h ?_
 refine H.weaken ?_ ?_
 ·apply apX
  intro j
  rw[apx,apx]
  by_cases hj:i=j
  ·subst hj;rw[apH jU,p9];cases a<;>rfl
  ·rw[ap1 hj]
 ·intro j it nJ hj rP M Uf
  by_cases qM:i=j
  ·subst qM
   rw[apH jU] at rP
   rw[p9] at hj
   cases hj;cases rP
   obtain⟨cs,h1,h2⟩:=Uf
   have sg:=bC.length h2
   refine⟨cs.take hi.toNat,⟨by rw[hlen];simp only[GT.size] at sg ⊢;rw[iH];omega,?_⟩,(rJ _ h2).1⟩
   rcases h1.2 with ⟨h3,h4⟩|⟨g,cap,cur,h3,h4,h5,h6,h7,h8,h9⟩
   ·cases h3
    refine .inl ⟨by rw[show hi.toNat=0 from by omega],by rw[hlen];omega⟩
   ·cases h3
    refine .inr ⟨g,c,cur,by rw[hlen],h4,h5,by omega,h7,h8,?_⟩
    rw[←h9,hlen,aqS]
    congr 1
    simp only[GT.size];omega
  ·rw[ap1 qM,hj] at rP;cases rP;exact Uf
theorem clO (H:HI M0 w0 w l) (i:Nat) (hi:l[i]? =some (own B e (.slice a k c) xs)) (hB:B=w0.heap.size) (ox:bM n x=true) {q:Nat} (hx:ev f x=.slice (mj a c q) (k-q) (c-q))
  (hu:P.underlying T=some (.slice e)) (F:ez P e 1 agg bytes (.int .i64 0)) (hq:q≤xs.length)
  (h:∀w',HI M0 w0 w' (l.set i (own B e (.slice a k c) (xs.take q++(List.replicate (xs.length-q) 0++[]))))→K f w'):
  SO P n ops ⟨none,.call {callee:=.builtin .clear,args:=#[x],argTypes:=#[T]},ty,ps,af,none⟩ f w K:=by
 subst hB
 have hO:=H.at_ i hi
 have jU:=(dZ.1 hi).1
 obtain⟨hk,hc⟩:=Da hO
 obtain⟨cs,h1,h2⟩:=hO
 by_cases nK:q=xs.length
 ·have hz:k-q=0:=by omega
  refine SO.value (d:=none) (v:=.tuple #[]) (w':=w) ?_<|h w ?_
  ·have AP:(Builtin.clear_ #[T] ty #[.slice (mj a c q) 0 (c-q)]).run P w=.ok (.tuple #[]) w:=by
    cases hca:mj a c q<;>simp[Builtin.clear_,run_underlying hu]
   rw[hz] at hx
   simp[execOp,resolve,invoke,builtin,aP ox,hx,AP]
  ·have e9:xs.take q++(List.replicate (xs.length-q) 0++[])=xs:=by rw[nK];simp
   rw[e9]
   have:l.set i (own w0.heap.size e (.slice a k c) xs)=l:=by
    apply apX
    intro j
    by_cases hj:i=j
    ·subst hj;rw[apH jU,hi]
    ·rw[ap1 hj]
   rw[this];exact H
 ·rcases h1.2 with ⟨h0,h3⟩|⟨g',c1,cur,h0,h3,h4,h5,h6,h7,h8⟩
  ·omega
  ·cases h0
   have pZ:cur.size=c:=by rw[h7];simp[GT.size]
   have Um:mj (some ⟨g',0,none⟩) c q=some ⟨g',q,none⟩:=by unfold mj;rw[apr aq,arx];show some (Addr.add _ q)=_;rw[GR]
   rw[Um] at hx
   have hz:bC (MS M0 l) w (List.replicate (xs.length-q) (Value.int .i64 0)) (List.replicate (xs.length-q) (0:Int)):=by
    have:∀m,bC (MS M0 l) w (List.replicate m (Value.int .i64 0)) (List.replicate m (0:Int)):=by
     intro m
     induction m with
     |zero=>rfl
     |succ m ih=>exact⟨[.int .i64 0],List.replicate m (.int .i64 0),by rw[aqf];rfl,⟨rfl,by unfold aK;omega⟩,ih⟩
    exact this _
   have re:=run_storeCells_at P g' q e (List.replicate (xs.length-q)<|Value.int .i64 0) 0 cur w h4 (by rw[oI];omega)<|bC.BB hz
   refine SO.value (d:=none) (v:=.tuple #[]) (w':=w.setRow g' (cur.toList.take q++List.replicate (xs.length-q) (Value.int .i64 0)++cur.toList.drop (q+(List.replicate (xs.length-q)<|Value.int .i64 0).length)).toArray) ?_<|h _ ?_
   ·obtain⟨m,hm⟩:∃m,xs.length-q=m+1:=⟨xs.length-q-1,by omega⟩
    have AP:(Builtin.clear_ #[T] ty #[.slice (some ⟨g',q,none⟩) (xs.length-q) (c-q)]).run P w=.ok (.tuple #[]) (w.setRow g' (cur.toList.take q++List.replicate (xs.length-q) (Value.int .i64 0)++cur.toList.drop (q+(List.replicate (xs.length-q) (Value.int .i64 0)).length)).toArray):=by
     have sh:(Builtin.zeroCells (Value.int .i64 0).cells (xs.length-q)).toList=List.replicate (xs.length-q) (Value.int .i64 0):=KN _ _
     rw[ap3] at re
     rw[hm] at re sh ⊢
     simp[Builtin.clear_,run_underlying hu,F.uK,sh,re]
    simp[execOp,resolve,invoke,builtin,aP ox,hx,AP]
   ·have:=HI.Mh (ys:=List.replicate (xs.length-q) 0) (ds:=List.replicate (xs.length-q) (Value.int .i64 0)) (o:=q) H i hi h3 h4 h5 h6 pZ (by simpa [GT.size] using h8) h2 hz<|by rw[oI];omega
    have e8:xs.drop (q+(List.replicate (xs.length-q) (0:Int)).length)=[]:=by rw[oI];exact aqX aq
    rw[e8] at this
    exact this
end
end Go.Ew
namespace Go.Ew
variable {i:Int}
def ku (i:Int):bw:=if 0≤i∧i≤63 then 1#64 <<< i.toNat else 0#64
theorem JL (h:aK i):((BitVec.ofInt 64 i).toNat:Int)=if 0≤i then i else i+18446744073709551616:=by
 rw[←zS,IntKind.wrap_u64];unfold aK at h;split<;>omega
theorem abJ (h:aK i) (h1:63<(BitVec.ofInt 64 i).toNat):0#64=ku i:=by
 unfold ku;rw[apr];have:=JL h;unfold aK at h;split at this<;>omega
theorem abI (h:aK i) (h1:¬63<(BitVec.ofInt 64 i).toNat):1#64 <<< ((BitVec.ofInt 64 i).toNat:Int).toNat=ku i:=by
 have h2:=JL h
 unfold ku;unfold aK at h
 split at h2
 ·rw[apo aq];congr 1;omega
 ·omega
def yA (w:bw) (i:Int):Bool:=decide (0≤i)&&w.getLsbD i.toNat
theorem abP (w:bw) (k:Nat) (hk:k<64):(w &&& 1#64 <<< k=0#64)↔w.getLsbD k=false:=by
 constructor
 ·intro h
  have:=apj (·.getLsbD k) h
  simpa [hk] using this
 ·intro h
  apply arq
  intro j hj
  simp only[arw,arX,BitVec.getLsbD_zero]
  by_cases Ke:j=k
  ·subst Ke;simp[h]
  ·by_cases eH:j<k
   ·simp[eH]
   ·have:j-k≠0:=by omega
    simp[this]
theorem aa_ (w:bw) (i:Int):(!decide (w &&& ku i=0#64))=yA w i:=by
 unfold ku yA
 by_cases h:0≤i∧i≤63
 ·rw[apo h,apF]
  have:=abP w i.toNat aq
  simp[this,h.1]
 ·rw[apr h]
  by_cases h0:0≤i
  ·have:w.getLsbD i.toNat=false:=BitVec.getLsbD_of_ge w _ aq
   simp[this]
  ·simp[h0]
abbrev Row:=List bw
def fy (r:Row) (i:Int):Bool:=decide (0≤i)&&(r.getD (i.toNat/64) 0#64).getLsbD (i.toNat%64)
def jH (r:Row) (i:Int):Bool:=decide (0≤i∧i<64*(r.length:Int))
theorem aa6 {r:Row} (h:0≤i):decide (i/64<(r.length:Int))=jH r i:=by
 unfold jH;congr 1;apply propext;omega
theorem adw {r:Row} (h:i<0):false=jH r i:=by
 unfold jH;simp;omega
theorem abb {r:Row} (h:jH r i=true) {x:bw} (hx:r[(i/64).toNat]? =some x):yA x (i%64)=fy r i:=by
 unfold jH at h;simp only[apl] at h
 unfold yA fy
 have e1:(i/64).toNat=i.toNat/64:=by omega
 have e2:(i%64).toNat=i.toNat%64:=by omega
 rw[e1] at hx
 rw[e2,gX,hx]
 simp[h.1,Int.emod_nonneg]
theorem yB {r:Row} (h:jH r i=false):false=fy r i:=by
 unfold jH at h;simp only[apA] at h
 unfold fy
 by_cases h0:0≤i
 ·rw[gX,apz aq];simp
 ·simp[h0]
def eo (r:Row) (i:Int):Row:=if jH r i then r.set (i.toNat/64) (r.getD (i.toNat/64) 0#64 ||| ku (i%64)) else r
theorem O' {r:Row} (h:jH r i=true) {x:bw} (hx:r[(i/64).toNat]? =some x):r.set (i/64).toNat (x ||| ku (i%64))=eo r i:=by
 unfold eo;rw[apo h]
 unfold jH at h;simp only[apl] at h
 have e1:(i/64).toNat=i.toNat/64:=by omega
 rw[e1] at hx
 rw[e1,gX,hx];rfl
theorem FJ {r:Row} (h:jH r i=false):r=eo r i:=by
 unfold eo;rw[apr (by simp[h])]
end Go.Ew
namespace Go.Ew
def XL (x:Nat):Nat→Nat
 |0=>0
 |k+1=>XL x k+(x.testBit k).toNat
def A3 (x:bw):Nat:=XL x.toNat 64
def rep (m:Nat):Nat→Nat
 |0=>0
 |n+1=>m+256*rep m n
def s1 (n x:Nat):Nat:=(x/2 &&& rep 0x55 n)+(x &&& rep 0x55 n)
def s2 (n x:Nat):Nat:=(x/4 &&& rep 0x33 n)+(x &&& rep 0x33 n)
def s3 (n x:Nat):Nat:=(x/16+x) &&& rep 0x0f n
def Lr (a:Nat):Nat:=(a/2 &&& 0x55)+(a &&& 0x55)
def Lq (a:Nat):Nat:=(a/4 &&& 0x33)+(a &&& 0x33)
theorem b3:∀a<256,Lq (Lr a)<69∧Lq (Lr a)%16<5∧Lq (Lr a)%16+Lq (Lr a)/16=XL a 8:=by decide +kernel
theorem d1 {a b:Nat} (h:a<256):(a+256*b)/256=b:=by omega
theorem d2 {a b c:Nat} (h:a<256) (h':b<256):(a+256*(b+256*c))/65536=c:=by omega
end Go.Ew
namespace Go.Ew
variable {r:Row}
def D4 (r:Row):Nat:=(r.map A3).sum
def agt (x y:bw):Bool:=decide (x &&& ~~~y=0#64)
def agi (a b:Row) (i:Nat):Bool:=agt (a.getD i 0#64) (b.getD i 0#64)
def agh (a b:Row) (k:Nat):Bool:=(List.range k).all (agi a b)
def LQ (a b:Row):Bool:=agh a b a.length
theorem xH {k:Nat} {x:bw} (h:r[((k:Nat):Int).toNat]? =some x):r.getD k 0#64=x:=by
 rw[dS] at h;rw[gX,h];rfl
theorem sQ {k:Nat} (h:r.length≤k):r.getD k 0#64=0#64:=by
 rw[gX,apz h];rfl
def words (n:Int):Nat:=((max n 0+63)/64).toNat
def ej (n:Int):Row:=List.replicate (words n) 0#64
theorem G_ (x:bw) (i j:Nat) (hi:i<64) (hj:j<64):(x ||| ku (i:Int)).getLsbD j=(x.getLsbD j||decide (j=i)):=by
 unfold ku
 rw[apo aq,BitVec.getLsbD_or,arX,dS]
 congr 1
 by_cases h:j=i
 ·subst h;simp[hi]
 ·by_cases h2:j<i
  ·simp[h,h2]
  ·have:j-i≠0:=by omega
   simp[h,h2,this,hj]
theorem kK (r:Row) (i:Int):(eo r i).length=r.length:=by unfold eo;split<;>simp
theorem PO (r:Row) (i j:Int):jH (eo r i) j=jH r j:=by unfold jH;rw[kK]
theorem L1 {i:Int} (h:jH r i=true) (k:Nat) (hk:k<r.length):(eo r i).getD k 0#64=if k=i.toNat/64 then r.getD k 0#64 ||| ku ((i.toNat%64:Nat):Int) else r.getD k 0#64:=by
 unfold eo;rw[apo h]
 unfold jH at h;simp only[apl] at h
 have e:i%64=((i.toNat%64:Nat):Int):=by omega
 simp only[gX]
 by_cases AT:k=i.toNat/64
 ·subst AT
  rw[apH hk,apo rfl,e];rfl
 ·rw[ap1 (fun e=>AT e.symm),apr AT]
theorem KY {i:Int}:fy (eo r i) i=jH r i:=by
 by_cases h:jH r i=true
 ·have h':=h
  unfold jH at h';simp only[apl] at h'
  have hm:i.toNat%64<64:=Nat.mod_lt _ aw
  rw[h];unfold fy
  rw[L1 h _ aq,apo rfl,G_ _ _ _ hm hm]
  simp[h'.1]
 ·have h2:jH (eo r i) i=false:=by rw[PO];simpa using h
  rw[←yB h2];simpa using h
theorem RD {r:Row} {i:Int} (h:fy r i=true):jH r i=true:=by
 cases h1:jH r i with
 |true=>rfl
 |false=>rw[←yB h1] at h;cases h
end Go.Ew
namespace Go.Ew
variable {n i j:Int} {x:Row} {m:Nat}
abbrev Rows:=List (List bw)
def Db (n k:Int):Bool:=decide (k<0)||decide (n≤k)
def kG (n:Int) (l:aE):Bool:=!l.any (Db n)
theorem ju {a b:Int}:kG n [a,b]=true↔(0≤a∧a<n)∧(0≤b∧b<n):=by
 unfold kG Db
 simp
theorem kj {a b:Int}:kG n [a,b]=false↔¬((0≤a∧a<n)∧(0≤b∧b<n)):=by
 rw[←ju];simp
def rowAt (rs:Rows) (i:Int):Row:=rs.getD i.toNat []
theorem sK {rs:Rows} (h:rs[i.toNat]? =some x):rowAt rs i=x:=by unfold rowAt;rw[gX,h];rfl
def rW (rs:Rows) (p:Int×Int):Rows:=rs.set p.1.toNat (eo (rowAt rs p.1) p.2)
theorem Oo (rs:Rows) (p:Int×Int):(rW rs p).length=rs.length:=by unfold rW;simp
theorem IJ {rs:Rows} (h:rs[i.toNat]? =some x):rs.set i.toNat (eo x j)=rW rs (i,j):=by unfold rW;rw[sK h]
def Df (n:Int):Bool:=decide (0≤n)&&decide (n≤4096)
theorem sY:Df n=true↔0≤n∧n≤4096:=by unfold Df;simp
theorem AI:Df n=false↔¬(0≤n∧n≤4096):=by rw[←sY];simp
def wB (n:Int):Rows:=List.replicate n.toNat (ej n)
def oQ (n:Int):Int:=if Df n then n else 0
def ja (n:Int):Rows:=if Df n then wB n else []
def sA (n:Int):Int:=if Df n then 0 else 1
theorem yi (h:Df n=true):oQ n=n∧ja n=wB n∧sA n=0:=by simp[oQ,ja,sA,h]
theorem xD (h:Df n=false):oQ n=0∧ja n=[]∧sA n=1:=by simp[oQ,ja,sA,h]
theorem qq (n:Int):(wB n).length=n.toNat:=by unfold wB;simp
def v8 {α:Type} (m k:Nat) (a b:α):List α:=List.replicate k a++List.replicate (m-k) b
theorem OO {α:Type} (m:Nat) (a b:α):List.replicate m b=v8 m 0 a b:=by simp[v8]
theorem R3 {α:Type} {k:Nat} {a b:α} (h:k<m):(v8 m k a b).set k a=v8 m (k+1) a b:=by
 unfold v8
 obtain⟨q,hq⟩:∃q,m-k=q+1:=⟨m-k-1,by omega⟩
 rw[hq,aqK _ _ (by simp),show m-(k+1)=q from by omega,oI,aqq,aqf,aru,List.replicate_succ',apY]
 rfl
theorem R4 {α:Type} {k:Nat} {a b:α} (h:k=m):v8 m k a b=List.replicate m a:=by subst h;simp[v8]
def foldM (n:Int) (ps:List (Int×Int)):Rows:=ps.foldl rW (wB n)
theorem wY:∀(ps:List (Int×Int)) (rs:Rows),(ps.foldl rW rs).length=rs.length
 |[],_=>rfl
 |p::ps,rs=>by rw[arP,wY ps,Oo]
theorem DV (n:Int) (ps:List (Int×Int)):(foldM n ps).length=n.toNat:=by unfold foldM;rw[wY,qq]
theorem RZ {ps:List (Int×Int)} {j:Nat} {p:Int×Int} (h:ps[((j:Nat):Int).toNat]? =some p):foldM n (ps.take (j+1))=rW (foldM n (ps.take j)) p:=by
 unfold foldM;rw[nX h,aq8];rfl
theorem GQ {α:Type} {l:List α} {q:α→Bool} {j:Nat} {x:α} (h:l[((j:Nat):Int).toNat]? =some x) (h1:(l.take j).all q=true) (h2:q x=true):(l.take (j+1)).all q=true:=by
 rw[nX h,List.all_append,h1];simp[h2]
theorem N2 {α:Type} {l:List α} {q:α→Bool} {i:Nat} {x:α} (h:l[i]? =some x) (h2:q x=false):l.all q=false:=by
 rw[List.all_eq_false];exact⟨x,dO h,by simp[h2]⟩
theorem S0 {rs:Rows} {p:Int×Int} (h:∀x∈rs,x.length=m):∀x∈rW rs p,x.length=m:=by
 intro x hx
 unfold rW at hx
 by_cases hi:p.1.toNat<rs.length
 ·rcases aqb hx with hx|rfl
  ·exact h x hx
  ·rw[kK]
   unfold rowAt
   rw[gX,eB hi]
   exact h _<|arH hi
 ·rw[List.set_eq_of_length_le aq] at hx
  exact h x hx
theorem zw {m:Nat}:∀(ps:List (Int×Int)) (rs:Rows),(∀x∈rs,x.length=m)→∀x∈ps.foldl rW rs,x.length=m
 |[],_,h=>h
 |p::ps,rs,h=>by rw[arP];exact zw ps _ (S0 h)
theorem qp (n:Int):(ej n).length=words n:=by unfold ej;simp
theorem UE {ps:List (Int×Int)} {i:Nat} (h:(foldM n ps)[i]? =some x):x.length=words n:=
 zw ps (wB n) (by
  intro x hx
  unfold wB at hx
  rw[List.eq_of_mem_replicate hx,qp]) x (dO h)
theorem FD (h:n≤4096):words n≤64:=by unfold words;omega
def iu (n:Int) (i j:Int):Int:=if kG n [i,j] then n else 0
def kg (n:Int) (rs:Rows) (i j:Int):Rows:=if kG n [i,j] then rW rs (i,j) else []
def lM (n:Int) (i j:Int):Int:=if kG n [i,j] then 0 else 1
def eO (n:Int) (rs:Rows) (i j:Int):Bool:=kG n [i,j]&&fy (rowAt rs i) j
theorem qm {rs:Rows} (h:kG n [i,j]=true):iu n i j=n∧kg n rs i j=rW rs (i,j)∧lM n i j=0:=by simp[iu,kg,lM,h]
theorem oW {rs:Rows} (h:kG n [i,j]=false):iu n i j=0∧kg n rs i j=[]∧lM n i j=1:=by simp[iu,kg,lM,h]
theorem nH {α:Type} {l:List α} {i:Nat} {x y:α} (h:l[i]? =some x) (e:l[i]? =some y):x=y:=apm (h.symm.trans e)
theorem adx:kG n [i,j]=(decide (0≤i)&&decide (i<n)&&decide (0≤j)&&decide (j<n)):=by
 rw[apF,ju];simp[and_assoc]
end Go.Ew
namespace Go.Ew
variable {r:Row} {i:Int}
theorem MV (h0:0≤i) (h:i<64*(r.length:Int)):jH r i=true:=by unfold jH;simp[h0,h]
theorem PQ (h:¬(0≤i∧i<64*(r.length:Int))):jH r i=false:=by unfold jH;simp;omega
theorem aba (h:¬(0≤i∧i<64*(r.length:Int))):false=fy r i:=yB (PQ h)
theorem aar (h:¬(0≤i∧i<64*(r.length:Int))):r=eo r i:=FJ (PQ h)
end Go.Ew
namespace Go.Ew
open Go.RowKit Go.WideShapes Go.ChangeShapes
def xU:List Nat:=[0,1,56,2,57,49,28,3,61,58,42,50,38,29,17,4,62,47,59,36,45,43,51,22,53,39,33,30,24,18,12,5,63,55,48,27,60,41,37,16,46,35,44,21,52,32,23,11,54,26,40,15,34,20,31,10,25,14,19,9,13,8,7,6]
def fY (g:Nat) (w:aJ):Prop:=∀i,i<64→w.cell? ⟨g,i,none⟩=some (.int .u8 ((xU.getD i 0:Nat):Int))
theorem fY.ext {g:Nat} {w w':aJ} (h:fY g w) (e:Ext w w'):fY g w':=by
 intro i hi
 have h1:=h i hi
 rw[Below.cell e.toBelow (p:=⟨g,i,none⟩) (qi h1)]
 exact h1
def wy (i:Nat):BitVec 8:=BitVec.ofNat 8 (xU.getD i 0)
theorem acf:∀i<64,xU.getD i 0<64:=by decide
theorem LO {i:Nat} (h:i<64):((wy i).toNat:Int)=((xU.getD i 0:Nat):Int):=by
 have:=acf i h
 unfold wy
 rw[BitVec.toNat_ofNat]
 omega
theorem fY.at_ {g:Nat} {w:aJ} {M:cg} (h:fY g w) {i:Nat} (hi:i<64):ik M w ⟨g,i,none⟩ (wy i):=by
 refine⟨[U8 (wy i)],J,fun j v hv=>?_⟩
 cases j with
 |zero=>
  simp at hv;subst hv
  rw[show (⟨g,i,none⟩:Addr).add 0=⟨g,i,none⟩ from rfl,h i hi,U8,LO hi]
 |succ j=>simp at hv
theorem ajd {g:Nat} {w0 w:aJ} {M:cg} (h:fY g w0) (e:Ext w0 w) {i:Nat} {ad:Addr} (ha:(⟨g,0,none⟩:Addr).add (i*1)=ad) (hi:i<64):ik M w ad (wy i):=by
 have:ad=⟨g,i,none⟩:=by
  rw[←ha,arx]
  unfold Addr.add
  split
  ·rename_i h;rw[h]
  ·simp
 rw[this]
 exact(h.ext e).at_ hi
theorem Om {P:Program} {g:Nat} {t e:TypeId} {name:String} {D:DataW Unit} {W:aJ} (hg:P.globalNamed name=some g) (ht:(P.globals[g]?).map (·.type)=some t)
  (hu:P.underlying t=some (.array 64 e)) (he:P.underlying e=some (.int .u8)) (hc:P.cellsOf e=1) (hD:D=.agg (xU.map fun k=>.lit (.int .u8 ((k:Nat):Int)))) (h:laidMetH P [(name,D)] W)
  (hp:laidMetH P [(name,D)] W↔laidMet P [(name,D)] W):fY g W:=by
 rw[hp] at h
 obtain⟨ps,⟨g0,t0,ZM,f0,p0,q0,hg0,ht0,iP,Nf,_⟩,_⟩:=h
 obtain rfl:=apm (hg.symm.trans hg0)
 obtain rfl:=apm (ht.symm.trans ht0)
 obtain⟨xs,m,rfl,hx,hlen,hn,vQ⟩:=DataW.trod_array hu Nf
 intro i hi
 have h1:=vQ i hi
 rw[hc,arx,eB (by omega:i<xs.length)] at h1
 obtain⟨k,e1,e2,_⟩:=DataW.trod_int he h1
 simp only[ap8] at hx
 have h2:(DataW.agg (xU.map fun k=>DataW.lit (Lit.int .u8 ((k:Nat):Int))):DataW Unit)=.agg (xs.map (·.1)):=by rw[←hD];exact hx.1
 injection h2 with h3
 have h4:=apj (fun l=>l[i]?) h3
 have hti:i<xU.length:=by simpa [xU] using hi
 simp only[apx,eB hti,eB (by omega:i<xs.length),aqC,e2,apy] at h4
 injection h4 with h5
 injection h5 with h6 h7
 have h8:xU.getD i 0=xU[i]:=by rw[gX,eB hti];rfl
 rw[h8,h7]
 have:=World.var?_cell hg0 iP i
 have AW:ZM[i]? =some (.int .u8 k):=by
  have:(ZM.toList.drop i).head?=some (.int .u8 k):=by
   have h9:((ZM.toList.drop i).take 1).head?=some (.int .u8 k):=by rw[e1];rfl
   cases hq:ZM.toList.drop i with
   |nil=>rw[hq] at h9;simp at h9
   |cons a b=>rw[hq] at h9;simpa using h9
  rw[List.head?_drop] at this
  simpa using this
 rw[AW] at this
 simpa using this
end Go.Ew
namespace Go.Ew
variable {x:bw}
def oS (x:bw):List Nat:=(List.range 64).filter fun k=>x.getLsbD k
def fJ (x:bw):Nat:=(oS x).headD 64
theorem v7 {p:Nat→Bool}:∀(n:Nat),(∃k<n,p k=true)→∃k,k<n∧p k=true∧(∀j,j<k→p j=false)∧∃l,(List.range n).filter p=k::l∧l=(List.range n).filter (fun i=>p i&&!decide (i=k))
 |0,⟨k,h,_⟩=>by omega
 |n+1,h=>by
  by_cases h1:∃k<n,p k=true
  ·obtain⟨k,hk,hp,hl,l,e1,e2⟩:=v7 n h1
   refine⟨k,by omega,hp,hl,l++[n].filter p,?_,?_⟩
   ·rw[aqs,aqQ,e1];rfl
   ·rw[aqs,aqQ,←e2]
    congr 1
    have:¬n=k:=by omega
    simp[List.filter_cons,this]
  ·obtain⟨k,hk,hp⟩:=h
   have zn:k=n:=by
    apply ap7
    intro gI
    exact h1 ⟨k,by omega,hp⟩
   subst zn
   have Hy:∀j,j<k→p j=false:=by
    intro j hj
    cases hb:p j with
    |false=>rfl
    |true=>exact absurd ⟨j,hj,hb⟩ h1
   have hf:(List.range k).filter p=[]:=by
    rw[aqv]
    intro j hj
    rw[apq] at hj
    simp[Hy j hj]
   have yx:(List.range k).filter (fun i=>p i&&!decide (i=k))=[]:=by
    rw[aqv]
    intro j hj
    rw[apq] at hj
    simp[Hy j hj]
   refine⟨k,by omega,hp,Hy,[],?_,?_⟩
   ·rw[aqs,aqQ,hf];simp[hp]
   ·rw[aqs,aqQ,yx];simp
theorem Vk {x:bw} (h:x≠0#64):∃k<64,x.getLsbD k=true:=by
 apply ap7
 intro hn
 apply h
 apply arq
 intro i hi
 rw[BitVec.getLsbD_zero]
 cases hb:x.getLsbD i with
 |false=>rfl
 |true=>exact absurd ⟨i,hi,hb⟩ hn
theorem least (h:x≠0#64):∃l,fJ x<64∧x.getLsbD (fJ x)=true∧(∀j,j<fJ x→x.getLsbD j=false)∧oS x=fJ x::l∧l=(List.range 64).filter (fun i=>x.getLsbD i&&!decide (i=fJ x)):=by
 obtain⟨k,hk,hp,hl,l,e1,e2⟩:=v7 64 (Vk h)
 have hf:fJ x=k:=by unfold fJ oS;rw[e1];rfl
 rw[hf]
 exact⟨l,hk,hp,hl,e1,e2⟩
theorem KB {k:Nat} (hp:x.getLsbD k=true) (hl:∀j,j<k→x.getLsbD j=false) (i:Nat):(∃j,j<i∧x.getLsbD j=true)↔k<i:=by
 constructor
 ·rintro⟨j,hj,h⟩
  rcases ar9 k i with h1|h1
  ·exact h1
  ·rw[hl j aq] at h;cases h
 ·intro h;exact⟨k,h,hp⟩
theorem TO (h:x≠0#64):x &&& -x=1#64 <<< fJ x:=by
 obtain⟨l,hk,hp,hl, -, -⟩:=least h
 apply arq
 intro i hi
 rw[arw,BitVec.getLsbD_neg,arX]
 simp only[KB hp hl i]
 by_cases h1:i=fJ x
 ·subst h1;simp[hp,hk]
 ·by_cases h2:i<fJ x
  ·simp[hl i h2,h2]
  ·have h3:fJ x<i:=by omega
   have h4:i-fJ x≠0:=by omega
   cases hx:x.getLsbD i<;>simp[h2,h3,h4,hi]
theorem clear (h:x≠0#64):oS x=fJ x::oS (x &&& (x-1#64)):=by
 obtain⟨l,hk,hp,hl,e1,e2⟩:=least h
 rw[e1,e2]
 congr 1
 unfold oS
 apply arz
 intro i hi
 rw[apq] at hi
 have e:x-1#64= ~~~(-x):=by
  rw[BitVec.not_neg,BitVec.sub_eq_add_neg]
 rw[arw,e,BitVec.getLsbD_not,BitVec.getLsbD_neg]
 simp only[KB hp hl i]
 by_cases h1:i=fJ x
 ·subst h1;simp[hp,hk]
 ·by_cases h2:i<fJ x
  ·simp[hl i h2]
  ·have h3:fJ x<i:=by omega
   cases hx:x.getLsbD i<;>simp[h1,h3,hi]
theorem Vi:∀k<64,((1#64 <<< k*285870213051353865#64) >>> 58).toNat<64∧xU.getD ((1#64 <<< k*285870213051353865#64) >>> 58).toNat 0=k:=by decide +kernel
theorem FC (h:x≠0#64):(((x &&& -x)*285870213051353865#64) >>> 58).toNat<64:=by
 obtain⟨l,hk, -⟩:=least h
 rw[TO h];exact(Vi _ hk).1
theorem VO (h:x≠0#64):((wy (((x &&& -x)*285870213051353865#64) >>> 58).toNat).toNat:Int)=((fJ x:Nat):Int):=by
 obtain⟨l,hk, -⟩:=least h
 rw[LO (FC h),TO h,(Vi _ hk).2]
theorem Hi:oS 0#64=[]:=by
 unfold oS
 rw[aqv]
 intro i _
 simp
theorem Fe:fJ 0#64=64:=by unfold fJ;rw[Hi];rfl
theorem zy (x:bw):fJ x≤64:=by
 by_cases h:x=0#64
 ·subst h;rw[Fe];exact apn _
 ·obtain⟨l,hk, -⟩:=least h;omega
end Go.Ew
namespace Go.Ew
def qG (j:Nat) (x:bw):aE:=(oS x).map fun k=>(j:Int)*64+((k:Nat):Int)
def sd (r:Row) (j:Nat):aE:=(List.range j).flatMap fun i=>qG i (r.getD i 0#64)
def cZ (r:Row):aE:=sd r r.length
theorem Ro (j:Nat):qG j 0#64=[]:=by unfold qG;rw[Hi];rfl
theorem Rp {j:Nat} {x:bw} (h:x≠0#64):qG j x=((j:Int)*64+((fJ x:Nat):Int))::qG j (x &&& (x-1#64)):=by
 unfold qG;rw[clear h];rfl
theorem MI (x:bw):(oS x).length≤64:=by
 unfold oS
 exact Nat.le_trans (aqn _ _)<|by simp
theorem Dq (j:Nat) (x:bw):(qG j x).length≤64:=by unfold qG;rw[apZ];exact MI x
theorem zV (r:Row) (j:Nat):sd r (j+1)=sd r j++qG j (r.getD j 0#64):=by
 unfold sd;rw[aqs,aq'];simp
theorem wC (r:Row):∀j,(sd r j).length≤64*j
 |0=>by simp[sd]
 |j+1=>by
  have:=wC r j
  have:=Dq j<|r.getD j 0#64
  rw[zV,gj];omega
theorem R9 {x:bw} (h:x≠0#64):(oS (x &&& (x-1#64))).length<(oS x).length:=by
 rw[clear h];simp
theorem np (r:Row):(cZ r).length≤64*r.length:=wC r _
end Go.Ew
namespace Go.Ew
variable {m j:Nat} {a b z:Row}
def tO (a b:Row) (i:Nat):bw:=a.getD i 0#64 ||| b.getD i 0#64
def jT (a b:Row):Row:=(List.range (max a.length b.length)).map (tO a b)
theorem Ty (a b:Row) (i:Nat):tO a b i=tO b a i:=BitVec.or_comm _ _
theorem Mo (a b:Row):jT a b=jT b a:=by
 unfold jT
 rw[Nat.max_comm]
 exact aqw fun i _=>Ty a b i
theorem Bz (a b:Row):(jT a b).length=max a.length b.length:=by unfold jT;simp
def qA (m:Nat) (a b z:Row) (j:Nat):Row:=(List.range m).map fun i=>if i<j then tO a b i else z.getD i 0#64
theorem zU (m:Nat) (a b z:Row) (j:Nat):(qA m a b z j).length=m:=by unfold qA;simp
theorem Dc (a b z:Row):z=qA z.length a b z 0:=by
 apply aqY
 ·rw[zU]
 ·intro i h1 h2
  unfold qA
  simp[gX,h1]
theorem By {x:bw} (h:(qA m a b z j)[((j:Nat):Int).toNat]? =some x):x=z.getD j 0#64:=by
 rw[dS] at h
 obtain⟨h1,h2⟩:=dZ.1 h
 rw[←h2]
 unfold qA
 simp
theorem FX {v:bw} (hv:v=tO a b j):(qA m a b z j).set j v=qA m a b z (j+1):=by
 apply aqY
 ·simp[zU]
 ·intro i h1 h2
  have hm:i<m:=by rw[zU] at h2;exact h2
  rw[ar5]
  unfold qA
  simp only[List.getElem_map,arU]
  by_cases Kf:j=i
  ·subst Kf;simp[hv]
  ·have:(i<j+1)↔(i<j):=by omega
   simp[Kf,this]
theorem yd (hm:m=max a.length b.length) (h:∀i,j≤i→i<m→z.getD i 0#64=tO a b i):qA m a b z j=jT a b:=by
 unfold qA jT
 subst hm
 apply aqw
 intro i hi
 rw[apq] at hi
 split
 ·rfl
 ·exact h i aq hi
theorem y' {i:Nat} (h:b.length≤i):a.getD i 0#64=tO a b i:=by
 unfold tO;rw[sQ h,BitVec.or_zero]
def Le (r:Row) (n:Nat):aE:=((List.range n).filter fun k=>fy r ((k:Nat):Int)).map fun k=>((k:Nat):Int)
theorem nZ (m k:Nat):List.range (m+k)=List.range m++(List.range k).map (fun i=>m+i):=by
 apply aqY
 ·simp
 ·intro i h1 h2
  simp only[arU]
  by_cases h:i<m
  ·rw[List.getElem_append_left (by simpa using h)];simp
  ·rw[List.getElem_append_right (by simpa using h)];simp;omega
theorem vT (r:Row) (j k:Nat) (hk:k<64):fy r (((64*j+k:Nat):Nat):Int)=(r.getD j 0#64).getLsbD k:=by
 unfold fy
 rw[dS,show (64*j+k)/64=j from by omega,show (64*j+k)%64=k from by omega]
 simp only[Bool.and_eq_right_iff_imp,apl]
 intro _;omega
theorem Hk (r:Row):∀j,Le r (64*j)=sd r j
 |0=>rfl
 |j+1=>by
  rw[zV,←Hk r j,show 64*(j+1)=64*j+64 from by omega]
  unfold Le qG oS
  rw[nZ,aqQ,aqW]
  congr 1
  rw[List.filter_map,List.map_map]
  have e:(List.range 64).filter ((fun k=>fy r ((k:Nat):Int))∘fun i=>64*j+i)=(List.range 64).filter fun k=>(r.getD j 0#64).getLsbD k:=by
   apply arz
   intro k hk
   rw[apq] at hk
   exact vT r j k hk
  rw[e]
  apply aqw
  intro k _
  show ((64*j+k:Nat):Int)=(j:Int)*64+((k:Nat):Int)
  omega
theorem TP (r:Row):Le r (64*r.length)=cZ r:=Hk r r.length
theorem TK {x:bw} {i:Int}:i∈qG j x↔∃k<64,x.getLsbD k=true∧i=(j:Int)*64+((k:Nat):Int):=by
 unfold qG oS
 simp only[ap4,apE,apq]
 constructor
 ·rintro⟨k,⟨h1,h2⟩,rfl⟩;exact⟨k,h1,h2,rfl⟩
 ·rintro⟨k,h1,h2,rfl⟩;exact⟨k,⟨h1,h2⟩,rfl⟩
theorem vF {r:Row} {i:Int}:i∈cZ r↔fy r i=true:=by
 unfold cZ sd
 simp only[asB,apq,TK]
 constructor
 ·rintro⟨j,hj,k,hk,hx,rfl⟩
  have:=vT r j k hk
  rw[show (j:Int)*64+((k:Nat):Int)=((64*j+k:Nat):Int) from by omega,this];exact hx
 ·intro h
  have hi:=RD h
  unfold jH at hi
  simp only[apl] at hi
  have hw:=vT r (i.toNat/64) (i.toNat%64) aq
  rw[show (((64*(i.toNat/64)+i.toNat%64:Nat):Nat):Int)=i from by omega,h] at hw
  exact⟨i.toNat/64,by omega,i.toNat%64,by omega,hw.symm,by omega⟩
end Go.Ew
namespace Go.Ew
theorem u0 (r:Row) {i:Int} (h:i<0):fy r i=false:=(aba aq).symm
theorem u1 (r:Row) (n:Nat):fy r ((n:Nat):Int)=(r.getD (n/64) 0#64).getLsbD (n%64):=by
 unfold fy;rw[dS];simp
theorem DO {r:Row} {i k:Int}:fy (eo r i) k=(fy r k||(decide (k=i)&&jH r i)):=by
 cases h:jH r i with
 |false=>rw[←FJ h];simp
 |true=>
  by_cases hk:k=i
  ·subst hk;rw[KY,h];simp
  ·simp only[hk,decide_false,asl,aqR]
   by_cases cG:k<0
   ·rw[u0 _ cG,u0 _ cG]
   ·obtain⟨n,rfl⟩:∃n:Nat,k=((n:Nat):Int):=⟨k.toNat,by omega⟩
    have h':=h
    unfold jH at h';simp only[apl] at h'
    rw[u1,u1]
    by_cases hw:n/64<r.length
    ·rw[L1 h _ hw]
     split
     ·rename_i e
      rw[G_ _ _ _ aq aq]
      have:¬n%64=i.toNat%64:=by omega
      simp[this]
     ·rfl
    ·rw[sQ (by rw[kK];omega),sQ aq]
theorem aaw {a b:Row} (hl:a.length=b.length) (h:∀n:Nat,fy a ((n:Nat):Int)=fy b ((n:Nat):Int)):a=b:=by
 apply aqY hl
 intro j h1 h2
 apply arq
 intro k hk
 have e1:=vT a j k hk
 have e2:=vT b j k hk
 rw[h,e2,gX,gX,eB h1,eB h2] at e1
 simpa using e1.symm
theorem wX:∀(l:aE) (r:Row),(l.foldl eo r).length=r.length
 |[],_=>rfl
 |i::l,r=>by rw[arP,wX l,kK]
theorem AZ:∀(l:aE) (r:Row) (k:Int),fy (l.foldl eo r) k=(fy r k||(l.any fun i=>decide (k=i)&&jH r i))
 |[],r,k=>by simp
 |i::l,r,k=>by
  rw[arP,AZ l,DO]
  simp only[PO,List.any_cons,Bool.or_assoc]
theorem F0 (n k:Int):fy (ej n) k=false:=by
 by_cases hk:k<0
 ·exact u0 _ hk
 ·obtain⟨m,rfl⟩:∃m:Nat,k=((m:Nat):Int):=⟨k.toNat,by omega⟩
  rw[u1]
  unfold ej
  rw[gX]
  by_cases h:m/64<words n
  ·simp[aq_,h]
  ·simp[aq_,h]
theorem aa' (a b:Row) (i:Int):fy (jT a b) i=(fy a i||fy b i):=by
 by_cases hk:i<0
 ·rw[u0 _ hk,u0 _ hk,u0 _ hk];rfl
 ·obtain⟨n,rfl⟩:∃n:Nat,i=((n:Nat):Int):=⟨i.toNat,by omega⟩
  rw[u1,u1,u1]
  by_cases h:n/64<max a.length b.length
  ·have:(jT a b).getD (n/64) 0#64=tO a b (n/64):=by
    rw[gX,eB (by rw[Bz];exact h)]
    unfold jT
    simp
   rw[this,tO,BitVec.getLsbD_or]
  ·rw[sQ (by rw[Bz];omega),sQ aq,sQ aq];simp
end Go.Ew
namespace Go.Ew
open Go.RowKit
variable {t T kt:TypeId} {k:IntKind} {a:Int} {w:aJ} {r:Nat}
theorem At.s1 {α β:Type} [GT α] [GT β] {M:cg} {w:aJ} {ad:Addr} {x:α×β} (h:At M w ad x):At M w (ad.add (GT.size α)) x.2:=h.snd
theorem At.s2 {α β γ:Type} [GT α] [GT β] [GT γ] {M:cg} {w:aJ} {ad:Addr} {x:α×β×γ} (h:At M w ad x):At M w (ad.add (GT.size α+GT.size β)) x.2.2:=by have h_:=h.s1.snd;rwa [add_add] at h_
theorem At.s3 {α β γ δ:Type} [GT α] [GT β] [GT γ] [GT δ] {M:cg} {w:aJ} {ad:Addr} {x:α×β×γ×δ} (h:At M w ad x):At M w (ad.add (GT.size α+GT.size β+GT.size γ)) x.2.2.2:=by have h_:=h.s2.snd;rwa [add_add] at h_
theorem At.s4 {α β γ δ ε:Type} [GT α] [GT β] [GT γ] [GT δ] [GT ε] {M:cg} {w:aJ} {ad:Addr} {x:α×β×γ×δ×ε} (h:At M w ad x):At M w (ad.add (GT.size α+GT.size β+GT.size γ+GT.size δ)) x.2.2.2.2:=by have h_:=h.s3.snd;rwa [add_add] at h_
theorem At.s5 {α β γ δ ε ζ:Type} [GT α] [GT β] [GT γ] [GT δ] [GT ε] [GT ζ] {M:cg} {w:aJ} {ad:Addr} {x:α×β×γ×δ×ε×ζ} (h:At M w ad x):At M w (ad.add (GT.size α+GT.size β+GT.size γ+GT.size δ+GT.size ε)) x.2.2.2.2.2:=by have h_:=h.s4.snd;rwa [add_add] at h_
theorem At.s6 {α β γ δ ε ζ η:Type} [GT α] [GT β] [GT γ] [GT δ] [GT ε] [GT ζ] [GT η] {M:cg} {w:aJ} {ad:Addr} {x:α×β×γ×δ×ε×ζ×η} (h:At M w ad x):At M w (ad.add (GT.size α+GT.size β+GT.size γ+GT.size δ+GT.size ε+GT.size ζ)) x.2.2.2.2.2.2:=by have h_:=h.s5.snd;rwa [add_add] at h_
theorem ik.s1 {α β:Type} [GT α] [GT β] {M:cg} {w:aJ} {ad:Addr} {x:α×β} (h:ik M w ad x):ik M w (ad.add (GT.size α)) x.2:=h.snd
theorem ik.s2 {α β γ:Type} [GT α] [GT β] [GT γ] {M:cg} {w:aJ} {ad:Addr} {x:α×β×γ} (h:ik M w ad x):ik M w (ad.add (GT.size α+GT.size β)) x.2.2:=by have h_:=h.s1.snd;rwa [add_add] at h_
theorem ik.s3 {α β γ δ:Type} [GT α] [GT β] [GT γ] [GT δ] {M:cg} {w:aJ} {ad:Addr} {x:α×β×γ×δ} (h:ik M w ad x):ik M w (ad.add (GT.size α+GT.size β+GT.size γ)) x.2.2.2:=by have h_:=h.s2.snd;rwa [add_add] at h_
theorem ik.s4 {α β γ δ ε:Type} [GT α] [GT β] [GT γ] [GT δ] [GT ε] {M:cg} {w:aJ} {ad:Addr} {x:α×β×γ×δ×ε} (h:ik M w ad x):ik M w (ad.add (GT.size α+GT.size β+GT.size γ+GT.size δ)) x.2.2.2.2:=by have h_:=h.s3.snd;rwa [add_add] at h_
theorem ik.s5 {α β γ δ ε ζ:Type} [GT α] [GT β] [GT γ] [GT δ] [GT ε] [GT ζ] {M:cg} {w:aJ} {ad:Addr} {x:α×β×γ×δ×ε×ζ} (h:ik M w ad x):ik M w (ad.add (GT.size α+GT.size β+GT.size γ+GT.size δ+GT.size ε)) x.2.2.2.2.2:=by have h_:=h.s4.snd;rwa [add_add] at h_
theorem ik.s6 {α β γ δ ε ζ η:Type} [GT α] [GT β] [GT γ] [GT δ] [GT ε] [GT ζ] [GT η] {M:cg} {w:aJ} {ad:Addr} {x:α×β×γ×δ×ε×ζ×η} (h:ik M w ad x):ik M w (ad.add (GT.size α+GT.size β+GT.size γ+GT.size δ+GT.size ε+GT.size ζ)) x.2.2.2.2.2.2:=by have h_:=h.s5.snd;rwa [add_add] at h_
section
variable {P:Program}
def Jm (P:Program) (t:TypeId) (v u:Value) (r:Bool):Prop:=(∀w,(isAgg t).run P w=.ok false w)∧∀d w,(Op.equalIn (d+1) t v u).run P w=.ok r w
theorem BC {d:TypeDesc} (h:P.underlying t=some d) (hd:(match d with| .struct _| .array _ _=>false|_=>true)=true) (w:aJ):(isAgg t).run P w=.ok false w:=by
 cases d<;>first|(cases hd;done)|simp[isAgg,underlying,h]
theorem Rj {kk:IntKind} {b:Int} (h:P.underlying t=some (.int k)):Jm P t (.int kk a) (.int kk b) (decide (a=b)):=
 ⟨BC h rfl,fun d w=>by rw[run_equalIn_int w d t kk k a b h];congr 1⟩
theorem agz {a b:Bool} (h:P.underlying t=some .bool):Jm P t (.bool a) (.bool b) (decide (a=b)):=
 ⟨BC h rfl,fun d w=>by rw[run_equalIn_bool' w d t a b h];congr 1⟩
theorem agy {a b:aY} (h:P.underlying t=some .string):Jm P t (.string a) (.string b) (decide (a=b)):=
 ⟨BC h rfl,fun d w=>by
  have e:(a.toList==b.toList)=decide (a=b):=by
   rw[←beq_toListBytes,apF]
   rcases a with ⟨x⟩
   rcases b with ⟨y⟩
   show (x==y)=true↔_
   simp
  rw[run_equalIn_string w d t a b h,e]⟩
theorem mO {cs:Array Value} {off:Nat} {v:Value} (h:∀w,(isAgg t).run P w=.ok false w) (hc:cs[off]? =some v) (w:aJ):(part t cs off).run P w=.ok v w:=by
 simp[part,h w,hc]
def nq (P:Program) (t:TypeId):Option Nat:=match P.underlying t with|some (.int _)=>some 0|some .bool=>some 1|some .string=>some 2|_=>none
def R1 (P:Program) (T:TypeId):List (Option (Nat×Nat)):=(P.fieldsOf T).toList.map fun f=>if f.name= "_" then none else (nq P f.type).map fun k=>(f.offset,k)
def Ee (xs ys:Array Value):List (Option (Nat×Nat))→List Bool→Prop
 |[],[]=>True
 |some (o,0)::ks,r::rs=>(∃kk a b,xs[o]? =some (.int kk a)∧ys[o]? =some (.int kk b)∧r=decide (a=b))∧Ee xs ys ks rs
 |some (o,1)::ks,r::rs=>(∃a b,xs[o]? =some (.bool a)∧ys[o]? =some (.bool b)∧r=decide (a=b))∧Ee xs ys ks rs
 |some (o,2)::ks,r::rs=>(∃a b,xs[o]? =some (.string a)∧ys[o]? =some (.string b)∧r=decide (a=b))∧Ee xs ys ks rs
 |_,_=>False
theorem Hn (h:nq P t=some 0):∃k,P.underlying t=some (.int k):=by
 unfold nq at h;split at h<;>simp_all
theorem Ri (h:nq P t=some 1):P.underlying t=some .bool:=by
 unfold nq at h;split at h<;>simp_all
theorem Rh (h:nq P t=some 2):P.underlying t=some .string:=by
 unfold nq at h;split at h<;>simp_all
theorem US {xs ys:Array Value}:∀{fs:List Field} {rs:List Bool} (d:Nat) (w:aJ),Ee xs ys (fs.map fun f=>if f.name= "_" then none else (nq P f.type).map fun k=>(f.offset,k)) rs→(Op.eqFields (d+1) xs ys fs).run P w=.ok (rs.all id) w
 |[],[],d,w,_=>by simp[Op.eqFields]
 |[],_::_,d,w,h=>by simp[Ee] at h
 |f::fs,rs,d,w,h=>by
  rw[apP] at h
  by_cases hn:f.name= "_"
  ·rw[apo hn] at h;cases rs<;>simp[Ee] at h
  ·rw[apr hn] at h
   have key:∀(a b:Value) (r:Bool) (YA:List Bool),Jm P f.type a b r→xs[f.offset]? =some a→ys[f.offset]? =some b→
     Ee xs ys (fs.map fun f=>if f.name= "_" then none else (nq P f.type).map fun k=>(f.offset,k)) YA→(Op.eqFields (d+1) xs ys (f::fs)).run P w=.ok ((r::YA).all id) w:=by
    intro a b r YA hl ha hb ht
    have ih:=US d w ht
    simp only[Op.eqFields,arN,hn,not_false_eq_true,aq0,Sem.run_bind,mO hl.1 ha w,mO hl.1 hb w,hl.2 d w,Result.andThen_ok]
    cases r
    ·simp
    ·simp[ih]
   cases hk:nq P f.type with
   |none=>rw[hk] at h;cases rs<;>simp[Ee] at h
   |some k=>
    rw[hk,aqC] at h
    cases rs with
    |nil=>simp[Ee] at h
    |cons r YA=>
     match k,hk,h with
     |0,hk,⟨⟨kk,a,b,ha,hb,hr⟩,ht⟩=>
      obtain⟨q,hq⟩:=Hn hk
      rw[hr];exact key _ _ _ _ (Rj hq) ha hb ht
     |1,hk,⟨⟨a,b,ha,hb,hr⟩,ht⟩=>rw[hr];exact key _ _ _ _ (agz (Ri hk)) ha hb ht
     |2,hk,⟨⟨a,b,ha,hb,hr⟩,ht⟩=>rw[hr];exact key _ _ _ _ (agy (Rh hk)) ha hb ht
     |(n+3),hk,h=>simp[Ee] at h
structure Qv (P:Program) (T:TypeId) (ks:List (Option (Nat×Nat))):Prop where
 u:P.underlying T=some (.struct (P.fieldsOf T))
 s:P.stoodInHeld T=false
 g:P.eqGuardType P.depth T=false
 k:R1 P T=ks
theorem Qv.eq {ks:List (Option (Nat×Nat))} (F:Qv P T ks) {xs ys:Array Value} {rs:List Bool} (h:Ee xs ys ks rs) (d:Nat) (w:aJ):(Op.equalIn (d+2) T (.agg xs) (.agg ys)).run P w=.ok (rs.all id) w:=by
 rw[run_equalIn_agg w (d+1) T xs ys F.u F.s]
 exact US d w<|by rw[←F.k] at h;exact h
structure VN (P:Program) (T:TypeId):Prop where
 h:∃e k i,P.underlying T=some (.array 2 e)∧P.underlying e=some (.int k)∧P.info? e=some i∧P.cellsOf e=1
 g:P.eqGuardType P.depth T=false
theorem arF {e:TypeId} (h1:P.underlying T=some (.array 2 e)) (h2:P.underlying e=some (.int k)) (h3:(P.info? e).isSome=true) (h4:P.cellsOf e=1) (g:P.eqGuardType P.depth T=false):VN P T:=by
 obtain⟨i,hi⟩:=apL.1 h3
 exact⟨⟨e,k,i,h1,h2,hi,h4⟩,g⟩
theorem VN.eq (F:VN P T) {k1 k2:IntKind} {b c d:Int} (m:Nat) (w:aJ):(Op.equalIn (m+2) T (.agg #[.int k1 a,.int k2 b]) (.agg #[.int k1 c,.int k2 d])).run P w=.ok (decide (a=c)&&decide (b=d)) w:=by
 obtain⟨e,k,i,h1,h2,h3,h4⟩:=F.h
 have l1:Jm P e (.int k1 a) (.int k1 c) (decide (a=c)):=Rj h2
 have l2:Jm P e (.int k2 b) (.int k2 d) (decide (b=d)):=Rj h2
 have p1:(part e #[.int k1 a,.int k2 b] 0).run P w=.ok (.int k1 a) w:=mO l1.1 J w
 have p2:(part e #[.int k1 c,.int k2 d] 0).run P w=.ok (.int k1 c) w:=mO l1.1 J w
 have p3:(part e #[.int k1 a,.int k2 b] 1).run P w=.ok (.int k2 b) w:=mO l1.1 J w
 have p4:(part e #[.int k1 c,.int k2 d] 1).run P w=.ok (.int k2 d) w:=mO l1.1 J w
 rw[run_equalIn_array w (m+1) _ _ h1 h3,h4,show List.range 2=[0,1] from rfl]
 simp only[Op.eqItems,Sem.run_bind,Sem.run_ite,Sem.run_pure,arx,p1,p2,p3,p4,l1.2 m w,l2.2 m w,Result.andThen_ok]
 by_cases e1:a=c<;>by_cases e2:b=d<;>simp[e1,e2]
section
variable {n:Nat} {ops:Array Oper} {f:aR} {w:aJ} {K:aR→aJ→Prop} {x y c:Operand} {d:Nat} {ty T T2:TypeId} {ps:String} {af:Array Edge}
end
abbrev K2 (p:Int×Int):Value:=.agg #[.int .i64 p.1,.int .i64 p.2]
abbrev KV:=List ((Int×Int)×Int)
structure Ed (P:Program) (kt:TypeId):Prop where
 u:∃d,P.underlying kt=some d
 eq:∀a b w,(Op.equal kt (K2 a) (K2 b)).run P w=.ok (decide (a=b)) w
 Cz:∀e a w,(Instr.checkKey e 10000 kt (K2 a)).run P w=.ok () w
theorem Mk (a b:Int×Int):(decide (a.1=b.1)&&decide (a.2=b.2))=decide (a=b):=by
 rw[apF];simp[Prod.ext_iff]
theorem B7 {kk:IntKind} (h:P.underlying t=some (.int k)) (e:Bool) (m:Nat) (w:aJ):(Instr.checkKey e (m+1) t (.int kk a)).run P w=.ok () w:=by
 simp[Instr.checkKey,underlying,h]
theorem ahq (h:R1 P T=[some (0,0),some (1,0)]):∃f g,(P.fieldsOf T).toList=[f,g]∧f.name≠ "_"∧g.name≠ "_"∧f.offset=0∧g.offset=1∧(∃k,P.underlying f.type=some (.int k))∧∃k,P.underlying g.type=some (.int k):=by
 unfold R1 at h
 rcases hl:(P.fieldsOf T).toList with _|⟨f,_|⟨g,_|⟨q,r⟩⟩⟩
 ·rw[hl] at h;simp at h
 ·rw[hl] at h;simp at h
 ·rw[hl] at h
  simp only[apP,List.map_nil,aqu,and_true] at h
  obtain⟨h1,h2⟩:=h
  have side:∀(q:Field) (o:Nat),(if q.name= "_" then none else (nq P q.type).map fun k=>(q.offset,k))=some (o,0)→q.name≠ "_"∧q.offset=o∧∃k,P.underlying q.type=some (.int k):=by
   intro q o hq
   split at hq
   ·cases hq
   ·rename_i hn
    obtain⟨k,hk,he⟩:=apN.1 hq
    simp only[ap8] at he
    obtain⟨rfl,rfl⟩:=he
    exact⟨hn,J,Hn hk⟩
  obtain⟨a1,a2,a3⟩:=side f 0 h1
  obtain⟨b1,b2,b3⟩:=side g 1 h2
  exact⟨f,g,J,a1,b1,a2,b2,a3,b3⟩
 ·rw[hl] at h;simp at h
theorem zY (F:Qv P kt [some (0,0),some (1,0)]):Ed P kt where
 u:=⟨_,F.u⟩
 eq a b w:=by
  have h:=F.eq (xs:=#[.int .i64 a.1,.int .i64 a.2]) (ys:=#[.int .i64 b.1,.int .i64 b.2]) (rs:=[decide (a.1=b.1),decide (a.2=b.2)]) ⟨⟨_,_,_,J,J,J⟩,⟨_,_,_,J,J,J⟩,trivial⟩ 9998 w
  rw[show Op.equal kt (K2 a) (K2 b)=Op.equalIn (9998+2) kt (K2 a) (K2 b) from rfl,h,←Mk]
  simp
 Cz e a w:=by
  obtain⟨f,g,hl,h1,h2,h3,h4,⟨k1,h5⟩,⟨k2,h6⟩⟩:=ahq F.k
  have p1:(part f.type #[.int .i64 a.1,.int .i64 a.2] 0).run P w=.ok (.int .i64 a.1) w:=mO (BC h5 J) J w
  have p2:(part g.type #[.int .i64 a.1,.int .i64 a.2] 1).run P w=.ok (.int .i64 a.2) w:=mO (BC h6 J) J w
  have c1:=B7 (P:=P) (kk:=.i64) (a:=a.1) h5 e 9998 w
  have c2:=B7 (P:=P) (kk:=.i64) (a:=a.2) h6 e 9998 w
  show (Instr.checkKey e (9999+1) kt (.agg #[.int .i64 a.1,.int .i64 a.2])).run P w=_
  rw[show (9999:Nat)=9998+1 from rfl]
  generalize 9998=q at c1 c2 ⊢
  unfold Instr.checkKey
  simp only[Sem.run_bind,run_underlying F.u,Result.andThen_ok]
  rw[←Array.forIn_toList,hl]
  simp only[List.forIn_cons,List.forIn_nil,arN,h1,h2,h3,h4,not_false_eq_true,aq0,Sem.run_bind,p1,p2,Result.andThen_ok,Sem.run_pure,c1,c2]
theorem Rm (F:VN P kt):Ed P kt where
 u:=by obtain⟨e,k,i,h1,_⟩:=F.h;exact⟨_,h1⟩
 eq a b w:=by rw[show Op.equal kt (K2 a) (K2 b)=Op.equalIn (9998+2) kt (K2 a) (K2 b) from rfl,F.eq 9998 w,Mk]
 Cz e a w:=by
  obtain⟨t,k,i,h1,h2,h3,h4⟩:=F.h
  have p1:(part t #[.int .i64 a.1,.int .i64 a.2] 0).run P w=.ok (.int .i64 a.1) w:=mO (BC h2 J) J w
  have p2:(part t #[.int .i64 a.1,.int .i64 a.2] 1).run P w=.ok (.int .i64 a.2) w:=mO (BC h2 J) J w
  have c1:=B7 (P:=P) (kk:=.i64) (a:=a.1) h2 e 9998 w
  have c2:=B7 (P:=P) (kk:=.i64) (a:=a.2) h2 e 9998 w
  show (Instr.checkKey e (9999+1) kt (.agg #[.int .i64 a.1,.int .i64 a.2])).run P w=_
  have hs:(sizeOf t).run P w=.ok 1 w:=by rw[run_sizeOf w h3,h4]
  rw[show (9999:Nat)=9998+1 from rfl]
  generalize 9998=q at c1 c2 ⊢
  unfold Instr.checkKey
  simp only[Sem.run_bind,run_underlying h1,Result.andThen_ok,Std.Legacy.Range.forIn_eq_forIn_range',Std.Legacy.Range.size,arS,Nat.add_one_sub_one,Nat.div_one]
  rw[show List.range' 0 2=[0,1] from rfl]
  simp only[List.forIn_cons,List.forIn_nil,Sem.run_bind,hs,p1,p2,arR,Nat.one_mul,Result.andThen_ok,Sem.run_pure,c1,c2]
theorem get_map {es:Array MapEntry} {clock:Nat} (hb:w.heap[r]? =some (.map es clock)):(getObj r).run P w=.ok (.map es clock) w:=by
 simp[getObj,Sem.run,hb]
theorem Es {es:Array MapEntry} {clock:Nat} (o:Obj) (hb:w.heap[r]? =some (.map es clock)):(setObj r o).run P w=.ok () {w with heap:=w.heap.setIfInBounds r o}:=by
 simp[setObj,Sem.run,hb]
theorem Bm {o o':Obj} (hb:w.heap[r]? =some o):(w.heap.setIfInBounds r o')[r]? =some o'∧∀r',r'≠r→(w.heap.setIfInBounds r o')[r']? =w.heap[r']?:=by
 have eH:r<w.heap.size:=(apU.1 hb).1
 exact⟨by simp[eH],fun r' gI=>by simp[Ne.symm gI]⟩
def getM:KV→Int×Int→Option Int
 |[],_=>none
 |x::xs,k=>if k=x.1 then some x.2 else getM xs k
def jB:KV→Int×Int→Int→KV
 |[],k,v=>[(k,v)]
 |x::xs,k,v=>if k=x.1 then (k,v)::xs else x::jB xs k v
theorem Xr (m:KV) (k k':Int×Int) (v:Int):getM (jB m k v) k'=if k'=k then some v else getM m k':=by
 induction m with
 |nil=>simp[jB,getM]
 |cons x xs ih=>
  unfold jB
  by_cases h:k=x.1
  ·subst h
   simp only[aq0,getM]
   by_cases h':k'=x.1<;>simp[h']
  ·rw[apr h]
   simp only[getM,ih]
   by_cases h':k'=x.1
   ·rw[apo h',apo h',apr (by rw[h'];exact fun e=>h e.symm)]
   ·rw[apr h',apr h']
def pQ:KV→Int×Int→Nat→Option (Nat×Value)
 |[],_,_=>none
 |x::xs,k,i=>if k=x.1 then some (i,.int .i64 x.2) else pQ xs k (i+1)
theorem Kq:∀(m:KV) (k:Int×Int) (i:Nat),(pQ m k i).map (·.2)=(getM m k).map fun v=>Value.int .i64 v
 |[],_,_=>rfl
 |x::xs,k,i=>by
  unfold pQ getM
  split
  ·rfl
  ·exact Kq xs k<|i+1
def kB (es:List MapEntry) (m:KV):Prop:=es.map (fun e=>(e.key,e.val))=m.map fun x=>(K2 x.1,Value.int .i64 x.2)
theorem Qs {kt:TypeId} (F:Ed P kt) (k:Int×Int) (w:aJ):∀(m:KV) (es:List MapEntry) (i:Nat),kB es m→(Instr.findAsking kt (K2 k) es i).run P w=.ok (pQ m k i) w
 |[],es,i,h=>by
  have:es=[]:=by simpa [kB] using h
  subst this;simp[Instr.findAsking,pQ]
 |x::xs,es,i,h=>by
  match es,h with
  |e::es,h=>
   simp only[kB,apP,aqu,ap8] at h
   obtain⟨⟨h1,h2⟩,h3⟩:=h
   have ih:=Qs F k w xs es (i+1) h3
   by_cases hk:k=x.1
   ·simp[Instr.findAsking,pQ,h1,h2,F.eq,hk]
   ·simp[Instr.findAsking,pQ,h1,h2,F.eq,hk,ih]
  |[],h=>simp[kB] at h
theorem Fg (d:TypeDesc) (cs:Array Value) (e:MapEntry) (es:List MapEntry) (i:Nat):Instr.findNow d (.agg cs) (e::es) i=none:=by
 have:Instr.sameNow d (.agg cs) e.key=none:=by
  cases d<;>cases e.key<;>rfl
 simp[Instr.findNow,this]
theorem Nx {kt:TypeId} (F:Ed P kt) (k:Int×Int) (w:aJ) {m:KV} {es:List MapEntry} (h:kB es m):(Instr.findKey kt (K2 k) es).run P w=.ok (pQ m k 0) w:=by
 obtain⟨d,hd⟩:=F.u
 cases es with
 |nil=>
  have:m=[]:=by simpa [kB] using h.symm
  subst this
  simp[Instr.findKey,run_underlying hd,Result.andThen,Instr.findNow,pQ]
 |cons e es=>
  have h0:Instr.findNow d (K2 k) (e::es) 0=none:=Fg d _ e es 0
  simp[Instr.findKey,run_underlying hd,Result.andThen,h0,Qs F k w m _ 0 h]
theorem HV:∀(m:KV) (es:List MapEntry) (k:Int×Int) (i j:Nat) (v:Value),kB es m→pQ m k i=some (j,v)→∃q e,j=i+q∧es[q]? =some e∧e.key=K2 k∧∀(c:Nat) (u:Int),kB (es.modify q fun e=>{e with key:=K2 k,val:=.int .i64 u}) (jB m k u)
 |[],_,_,_,_,_,_,h=>by cases h
 |x::xs,es,k,i,j,v,hr,h=>by
  match es,hr with
  |[],hr=>simp[kB] at hr
  |e::es,hr=>
   simp only[kB,apP,aqu,ap8] at hr
   obtain⟨⟨h1,h2⟩,h3⟩:=hr
   unfold pQ at h
   split at h
   ·rename_i hk
    simp only[apy,ap8] at h
    refine⟨0,e,h.1.symm,J,by rw[h1,hk],fun c u=>?_⟩
    unfold jB
    rw[apo hk]
    simp[kB,h3]
   ·rename_i hk
    obtain⟨q,e',JZ,nK,E9,E8⟩:=HV xs es k (i+1) j v h3 h
    refine⟨q+1,e',by omega,by simpa using nK,E9,fun c u=>?_⟩
    have:=E8 c u
    unfold jB
    rw[apr hk]
    simp only[kB,List.modify_succ_cons,apP,aqu,ap8]
    exact⟨⟨h1,h2⟩,this⟩
theorem HW:∀(m:KV) (es:List MapEntry) (k:Int×Int) (i:Nat),kB es m→pQ m k i=none→∀(c:Nat) (u:Int),kB (es++[⟨K2 k,.int .i64 u,c⟩]) (jB m k u)
 |[],es,k,_,hr,_,c,u=>by
  have:es=[]:=by simpa [kB] using hr
  subst this;simp[kB,jB]
 |x::xs,es,k,i,hr,h,c,u=>by
  match es,hr with
  |[],hr=>simp[kB] at hr
  |e::es,hr=>
   simp only[kB,apP,aqu,ap8] at hr
   obtain⟨⟨h1,h2⟩,h3⟩:=hr
   unfold pQ at h
   split at h
   ·cases h
   ·rename_i hk
    have:=HW xs es k (i+1) h3 h c u
    unfold jB
    rw[apr hk]
    simp only[kB,arJ,apP,aqu,ap8]
    exact⟨⟨h1,h2⟩,this⟩
def cj (b:Nat) (m:KV):Item:=
 ⟨some b,fun _ w=>∃es clock,w.heap[b]? =some (.map es clock)∧kB es.toList m∧∀x∈m,aK x.2,fun h _ hb=>by
  obtain⟨es,c,h1,h2⟩:=h
  exact⟨es,c,(hb b rfl).trans h1,h2⟩⟩
theorem abe {m:KV} (h:∀x∈m,aK x.2) {k:Int×Int} {v:Int} (hv:getM m k=some v):aK v:=by
 induction m with
 |nil=>cases hv
 |cons x xs ih=>
  unfold getM at hv
  split at hv
  ·cases hv;exact h x (by simp)
  ·exact ih (fun y hy=>h y<|by simp[hy]) hv
theorem Pj {m:KV} (h:∀x∈m,aK x.2) (k:Int×Int) {v:Int} (hv:aK v):∀x∈jB m k v,aK x.2:=by
 induction m with
 |nil=>intro x hx;simp[jB] at hx;subst hx;exact hv
 |cons y ys ih=>
  intro x hx
  unfold jB at hx
  split at hx
  ·rcases apD.1 hx with rfl|hx
   ·exact hv
   ·exact h x<|by simp[hx]
  ·rcases apD.1 hx with rfl|hx
   ·exact h x<|by simp
   ·exact ih (fun z hz=>h z<|by simp[hz]) x hx
structure Jl (P:Program) (T:TypeId):Prop where
 h:∃kt et,P.underlying T=some (.map kt et)∧Ed P kt∧∀w,(zeroValue et).run P w=.ok (.int .i64 0) w
theorem WT {et:TypeId} {k b:Nat} {a:Bool} (h:P.underlying T=some (.map kt et)) (K:Ed P kt) (F:ez P et k a b (.int .i64 0)):Jl P T:=⟨kt,et,h,K,F.uK⟩
section
variable {n:Nat} {ops:Array Oper} {f:aR} {w:aJ} {K:aR→aJ→Prop} {x y c:Operand} {d:Nat} {ty T T2:TypeId} {ps:String} {af:Array Edge} {M0:cg} {w0:aJ} {l:List Item} {m:KV} {b:Nat}
theorem mm (H:HI M0 w0 w l) (h:∀b w',Ext w w'→HI M0 w0 w' (cj b []::l)→K (cq f d (.map (some b))) w'):SO P n ops ⟨some d,.makeMap T none,ty,ps,af,none⟩ f w K:=
 SO.value (v:=.map (some w.heap.size)) (w':=w.alloc (.map #[] 0)) (by simp[execOp,run_makeMap]) (h _ _ (Ext.alloc w _)
  (H.new (Ext.alloc w _) w.heap.size rfl (apn _) (by simp) ⟨#[],0,heap_alloc_new w _,rfl,fun _ h=>(by cases h)⟩))
theorem YJ {k:Int×Int} (F:Jl P T) (H:HI M0 w0 w l) (i:Nat) (hi:l[i]? =some (cj b m)) (ox:bM n x=true) (oy:bM n y=true) (hx:ev f x=.map (some b)) (hy:ev f y=K2 k)
  (h:aK ((getM m k).getD 0)→K (cq f d (.tuple #[.int .i64 ((getM m k).getD 0),.bool (getM m k).isSome])) w):SO P n ops ⟨some d,.lookup T x y true,ty,ps,af,none⟩ f w K:=by
 obtain⟨kt,et,h1,h2,h3⟩:=F.h
 obtain⟨es,clock,g1,g2,g3⟩:=H.at_ i hi
 have hI:aK ((getM m k).getD 0):=by
  cases hg:getM m k with
  |none=>unfold aK;simp
  |some v=>exact abe g3 hg
 refine SO.value (v:=.tuple #[.int .i64 ((getM m k).getD 0),.bool (getM m k).isSome]) (w':=w) ?_<|h hI
 have hf:=Kq m k 0
 have hr:=Nx h2 k w g2
 simp only[execOp,aP ox,aP oy,hx,hy,Instr.lookup,Sem.run_bind,run_underlying h1,get_map g1,h2.Cz,hr,Result.andThen_ok,Sem.run_pure]
 cases hq:pQ m k 0 with
 |none=>
  have hg:getM m k=none:=by rw[hq] at hf;simpa using hf.symm
  simp[hq,hg,h3 w]
 |some p=>
  obtain⟨j,v⟩:=p
  rw[hq] at hf
  cases hg:getM m k with
  |none=>rw[hg] at hf;cases hf
  |some u=>
   rw[hg] at hf
   simp only[aqC,apy] at hf
   subst hf
   simp
theorem YF {dd:Option Nat} {k:Int×Int} {v:Int} (F:Jl P T) (H:HI M0 w0 w l) (i:Nat) (hi:l[i]? =some (cj b m)) (ox:bM n x=true) (oy:bM n y=true) (oc:bM n c=true) (hx:ev f x=.map (some b)) (hy:ev f y=K2 k) (hc:ev f c=.int .i64 v) (hv:aK v)
  (h:∀w',HI M0 w0 w' (l.set i (cj b (jB m k v)))→K (de f dd undef) w'):SO P n ops ⟨dd,.mapUpdate T x y c,ty,ps,af,none⟩ f w K:=by
 obtain⟨kt,et,h1,h2,h3⟩:=F.h
 obtain⟨es,clock,g1,g2,g3⟩:=H.at_ i hi
 have hr:=Nx h2 k w g2
 have eH:b<w.heap.size:=(apU.1 g1).1
 have fin:∀(o:Obj),(∀M w',w'.heap[b]? =some o→(cj b (jB m k v)).holds M w')→
   HI M0 w0 {w with heap:=w.heap.setIfInBounds b o} (l.set i (cj b (jB m k v))):=by
  intro o ho
  refine H.wx i hi J J J (by simp) (apn _) (fun q hq gI=>?_) (fun q hq=>?_)<|ho _ _ (Bm g1).1
  ·exact(Bm g1).2 q fun e=>gI (by rw[e];rfl)
  ·cases hq
   exact⟨by simpa using eH,.inl rfl⟩
 cases hq:pQ m k 0 with
 |none=>
  refine SO.skip (w':={w with heap:=w.heap.setIfInBounds b (.map (es.push ⟨K2 k,.int .i64 v,clock⟩) (clock+1))}) ?_ (h _<|fin _ ?_)
  ·simp[execOp,aP ox,aP oy,aP oc,hx,hy,hc,Instr.mapUpdate,run_underlying h1,get_map g1,h2.Cz,hr,hq,Es _ g1]
  ·intro M w' hw
   exact⟨_,_,hw,by rw[Array.toList_push];exact HW m es.toList k 0 g2 hq clock v,Pj g3 k hv⟩
 |some p=>
  obtain⟨j,u⟩:=p
  obtain⟨q,e,JZ,nK,E9,E8⟩:=HV m es.toList k 0 j u g2 hq
  obtain rfl:j=q:=by omega
  have he:es[j]? =some e:=by simpa using nK
  have hsb:(Instr.keyThatStays e.key (K2 k)).run P w=.ok (K2 k) w:=by
   rw[E9];simp[Instr.keyThatStays,Instr.sameBits]
  refine SO.skip (w':={w with heap:=w.heap.setIfInBounds b (.map (es.modify j fun e=>{e with key:=K2 k,val:=.int .i64 v}) clock)}) ?_ (h _<|fin _ ?_)
  ·simp[execOp,aP ox,aP oy,aP oc,hx,hy,hc,Instr.mapUpdate,run_underlying h1,get_map g1,h2.Cz,hr,hq,he,hsb,Es _ g1]
  ·intro M w' hw
   exact⟨_,_,hw,by rw[Array.toList_modify];exact E8 clock v,Pj g3 k hv⟩
end
end
end Go.Ew
namespace Go.Ew
end Go.Ew
namespace Go.Ew
variable {s:aY} {j i k:Nat} {c:UInt8} {m v val:Int}
abbrev jL:=Bool×aY×Int
abbrev aO:=Int×Int×Bool×Int×Int
abbrev dp:=List (List jL)
def wO (c:UInt8):Bool:=!(decide (((c.toNat:Nat):Int)<97))&&!(decide ((122:Int)<((c.toNat:Nat):Int)))
def mF (s:aY):Bool:=s.data.toList.all wO&&decide (1≤s.size)&&decide (s.size≤8)
theorem Ql (h:s[((j:Nat):Int).toNat]? =some c):s.data.toList[((j:Nat):Int).toNat]? =some c:=by
 rw[dS] at h ⊢
 rw[aqB]
 have hj:j<s.size:=by
  refine ap7 fun hn=>?_
  rw[getElem?_neg s j hn] at h;cases h
 rw[getElem?_pos s j hj] at h
 rw[Array.getElem?_eq_getElem hj]
 exact h
theorem PD (h:s[((j:Nat):Int).toNat]? =some c) (h1:wO c=false):false=mF s:=by
 unfold mF;rw[N2 (Ql h) h1];rfl
theorem MC (h:(s.data.toList.take j).all wO=true) (hj:s.size≤j):s.data.toList.all wO=true:=by
 rwa [apu (by rw[ap9];exact hj)] at h
theorem acY (h:decide (((c.toNat:Nat):Int)<97)=true):wO c=false:=by unfold wO;rw[h];rfl
theorem acZ (h:decide ((122:Int)<((c.toNat:Nat):Int))=true):wO c=false:=by unfold wO;rw[h];simp
theorem aaL (h:decide (((c.toNat:Nat):Int)<97)=false) (h1:decide ((122:Int)<((c.toNat:Nat):Int))=false):wO c=true:=by unfold wO;rw[h,h1];rfl
theorem vX {α:Type} {h:List (List α)} {x:List α} (hx:h[((j:Nat):Int).toNat]? =some x):(h.take (j+1)).flatten=(h.take j).flatten++x:=by
 rw[nX hx];simp
theorem u3 {α:Type} {h:List (List α)} {x:List α} (hx:h[((j:Nat):Int).toNat]? =some x):((h.take j).flatten).length+x.length≤h.flatten.length:=by
 have h1:h.flatten=(h.take (j+1)).flatten++(h.drop (j+1)).flatten:=by rw[←List.flatten_append,aqz]
 rw[h1,vX hx];simp
def AG (o:jL):Bool:=mF o.2.1
def jG (h:dp):Bool:=h.flatten.all AG&&decide (h.flatten.length≤4096)
theorem Wd {h:dp} {x:jL} (hx:h.flatten[i]? =some x) (h1:mF x.2.1=false):false=jG h:=by
 unfold jG;rw[N2 hx h1];rfl
theorem S8 {h:dp} (hs:(h.flatten.take j).all AG=true) (hj:h.flatten.length≤j):decide ((h.flatten.length:Int)≤4096)=jG h:=by
 unfold jG;rw[l_ hj] at hs;rw[hs,aqc,aqE];omega
def AE (o:jL):Bool:=decide (o.2.1.size≤20)
def jf (h:dp) (m:Int):Bool:=decide ((h.length:Int)≤m)&&decide ((h.flatten.length:Int)≤m)&&h.flatten.all AE
theorem Ju {h:dp}:jf h m=true↔(h.length:Int)≤m∧(h.flatten.length:Int)≤m∧∀o∈h.flatten,o.2.1.size≤20:=by
 unfold jf
 rw[eP,eP,apl,apl,aps,and_assoc]
 unfold AE
 simp only[apl]
theorem SU {h:dp} (hm:m<(h.length:Int)):false=jf h m:=by unfold jf;rw[apv aq];rfl
theorem SS {h:dp} (hm:m<(h.flatten.length:Int)):false=jf h m:=by unfold jf;rw[show decide ((h.flatten.length:Int)≤m)=false from apv aq];simp
theorem SR {h:dp} {x:jL} (hx:h.flatten[i]? =some x) (h1:20<(x.2.1.size:Int)):false=jf h m:=by
 unfold jf;rw[N2 hx (show AE x=false from apv aq)];simp
theorem SX {h:dp} (h1:¬m<(h.length:Int)) (h2:¬m<(h.flatten.length:Int)) (hs:(h.flatten.take j).all AE=true) (hj:h.flatten.length≤j):true=jf h m:=by
 unfold jf;rw[l_ hj] at hs;rw[hs,apt aq,apt aq];rfl
def Hs (s:aY) (t:aY):Bool:=decide (t=s)
def gE (l:List aY) (s:aY):Int:=eM (Hs s) l
def Jh (vs:List aY) (s:aY):List aY:=if gE vs s<0 then vs++[s] else vs
def Mw (vs:List aY) (s:aY):Int:=if gE vs s<0 then (vs.length:Int) else gE vs s
abbrev zM:=List aY×List aO
def u9 (i:Nat) (st:zM) (x:jL×Nat):zM:=(Jh st.1 x.1.2.1,st.2++[(((i:Nat):Int),((x.2:Nat):Int),x.1.1,Mw st.1 x.1.2.1,x.1.2.2)])
def jS (i:Nat) (st:zM) (ops:List jL) (k:Nat):zM:=((ops.take k).zipIdx).foldl (u9 i) st
def L4 (i:Nat) (st:zM) (ops:List jL):zM:=jS i st ops ops.length
def iN (h:dp) (j:Nat):zM:=((h.take j).zipIdx).foldl (fun st x=>L4 x.2 st x.1) ([],[])
theorem Bb {α:Type} {l:List α} {x:α} (hx:l[((k:Nat):Int).toNat]? =some x):(l.take (k+1)).zipIdx=(l.take k).zipIdx++[(x,k)]:=by
 have hk:k<l.length:=by rw[dS] at hx;exact(dZ.1 hx).1
 rw[nX hx,List.zipIdx_append]
 simp;omega
theorem Bi (i:Nat) (st:zM) (ops:List jL):jS i st ops 0=st:=rfl
theorem xT {st:zM} {ops:List jL} {x:jL} (hx:ops[((k:Nat):Int).toNat]? =some x):jS i st ops (k+1)=u9 i (jS i st ops k) (x,k):=by
 unfold jS;rw[Bb hx,aq8];rfl
theorem zI {h:dp} {x:List jL} (hx:h[((j:Nat):Int).toNat]? =some x):iN h (j+1)=L4 j (iN h j) x:=by
 unfold iN;rw[Bb hx,aq8];rfl
theorem fD {α:Type} {h:List (List α)} {x:List α} (hx:h[((j:Nat):Int).toNat]? =some x):h.getD j []=x:=by
 rw[dS] at hx;rw[gX,hx];rfl
theorem Cb {h:dp} (hj:j<h.length) (hk:(h.getD j []).length≤k):jS j (iN h j) (h.getD j []) k=iN h (j+1):=by
 have hx:h[((j:Nat):Int).toNat]? =some h[j]:=by rw[dS];exact eB hj
 rw[zI hx,fD hx] at *
 unfold L4 jS
 rw[apu hk,aqh]
theorem II (i:Nat) (st:zM) (ops:List jL):∀k,k≤ops.length→(jS i st ops k).2.length=st.2.length+k∧(jS i st ops k).1.length≤st.1.length+k
 |0,_=>by rw[Bi];omega
 |k+1,h=>by
  have ih:=II i st ops k aq
  have hx:ops[((k:Nat):Int).toNat]? =some ops[k]:=by rw[dS];exact eB aq
  rw[xT hx]
  have e1:(u9 i (jS i st ops k) (ops[k],k)).2.length=(jS i st ops k).2.length+1:=by unfold u9;simp
  have e2:(u9 i (jS i st ops k) (ops[k],k)).1.length≤(jS i st ops k).1.length+1:=by unfold u9 Jh;simp only;split<;>simp
  omega
theorem B_ (h:dp):∀j,j≤h.length→(iN h j).2.length=((h.take j).flatten).length∧(iN h j).1.length≤((h.take j).flatten).length
 |0,_=>by simp[iN]
 |j+1,hj=>by
  have ih:=B_ h j aq
  have hx:h[((j:Nat):Int).toNat]? =some h[j]:=by rw[dS];exact eB aq
  rw[zI hx,vX hx,gj]
  have:=II j (iN h j) h[j] h[j].length<|apn _
  unfold L4
  omega
theorem qo {h:dp} {x:List jL} (hx:h[((j:Nat):Int).toNat]? =some x) (hk:k<x.length):
  (jS j (iN h j) x k).2.length+1≤h.flatten.length∧(jS j (iN h j) x k).1.length+1≤h.flatten.length:=by
 have hj:j<h.length:=by rw[dS] at hx;exact(dZ.1 hx).1
 have h1:=B_ h j aq
 have h2:=II j (iN h j) x k aq
 have h3:=u3 hx
 omega
def zA (h:dp):List aY:=(iN h h.length).1
def eY (h:dp):List aO:=(iN h h.length).2
theorem zB (h:dp):(eY h).length=h.flatten.length:=by
 have:=(B_ h h.length<|apn _).1
 rwa [aqh] at this
def mo (h:dp):List aY:=if jG h then zA h else []
def cX (h:dp):List aO:=if jG h then eY h else []
def lG (h:dp):Int:=if jG h then 0 else 1
theorem tP {h:dp} (hr:jG h=true):mo h=zA h∧cX h=eY h∧lG h=0:=by unfold mo cX lG;simp[hr]
theorem yh {h:dp} (hr:jG h=false):mo h=[]∧cX h=[]∧lG h=1:=by unfold mo cX lG;simp[hr]
theorem Pw (h:dp):(cX h).length≤h.flatten.length:=by
 unfold cX;split
 ·rw[zB];exact apn _
 ·simp
theorem xW {st:zM} {ops:List jL} {x:jL} (hx:ops[((k:Nat):Int).toNat]? =some x) (hf:gE (jS i st ops k).1 x.2.1<0):
  (jS i st ops k).1++[x.2.1]=(jS i st ops (k+1)).1∧(jS i st ops k).2++[(((i:Nat):Int),((k:Nat):Int),x.1,((jS i st ops k).1.length:Int),x.2.2)]=(jS i st ops (k+1)).2:=by
 rw[xT hx];unfold u9 Jh Mw;rw[apo hf,apo hf];exact⟨rfl,rfl⟩
theorem xV {st:zM} {ops:List jL} {x:jL} (hx:ops[((k:Nat):Int).toNat]? =some x) (hf:¬gE (jS i st ops k).1 x.2.1<0):
  (jS i st ops k).1=(jS i st ops (k+1)).1∧(jS i st ops k).2++[(((i:Nat):Int),((k:Nat):Int),x.1,gE (jS i st ops k).1 x.2.1,x.2.2)]=(jS i st ops (k+1)).2:=by
 rw[xT hx];unfold u9 Jh Mw;rw[apr hf,apr hf];exact⟨rfl,rfl⟩
def lH (v val:Int) (x:aO):Bool:=x.2.2.1&&decide (x.2.2.2.1=v)&&decide (x.2.2.2.2=val)
def gG (aI:List aO) (v val:Int):Int:=eM (lH v val) aI
def Ai (aI:List aO) (j:Nat) (x:aO):Bool:=x.2.2.1&&(decide (x.2.2.2.2=0)||decide (max (gG aI x.2.2.2.1 x.2.2.2.2) 0<((j:Nat):Int)))
def oE (aI:List aO) (j:Nat):Bool:=(aI[j]?).any (Ai aI j)
def HX (aI:List aO):Option Nat:=(List.range aI.length).find? (oE aI)
def dC (aI:List aO):Int×Int×Int:=match HX aI with
 |none=>(0,0,0)
 |some j=>match aI[j]? with
  |none=>(0,0,0)
  |some x=>if x.2.2.2.2=0 then (((j:Nat):Int),((j:Nat):Int),5) else (max (gG aI x.2.2.2.1 x.2.2.2.2) 0,((j:Nat):Int),4)
theorem abo {aI:List aO} (h:∀k,k<j→oE aI k=false) (hj:aI.length≤j):HX aI=none:=by
 unfold HX;rw[aqP]
 intro k hk
 rw[apq] at hk
 rw[h k aq];simp
theorem P6 {aI:List aO} (h:∀k,k<j→oE aI k=false) (hj:j<aI.length) (hb:oE aI j=true):HX aI=some j:=by
 unfold HX
 rw[ary]
 refine⟨hb,List.range j,(List.range<|aI.length-j-1).map (fun i=>j+1+i),?_,fun a ha=>by rw[h a (apq.1 ha)];rfl⟩
 have:aI.length=j+(1+(aI.length-j-1)):=by omega
 rw[this,nZ,nZ]
 simp[ar4]
theorem Il {aI:List aO} {x:aO} (hx:aI[((j:Nat):Int).toNat]? =some x):oE aI j=Ai aI j x:=by
 rw[dS] at hx;unfold oE;rw[hx];rfl
theorem B9 {aI:List aO} {x:aO} (h:∀k,k<j→oE aI k=false) (hx:aI[((j:Nat):Int).toNat]? =some x) (hb:Ai aI j x=false):∀k,k<j+1→oE aI k=false:=by
 intro k hk
 rcases aq3.1 hk with h1|rfl
 ·exact h k h1
 ·rw[Il hx];exact hb
theorem xI {aI:List aO} (h:∀k,k<j→oE aI k=false) (hj:aI.length≤j):dC aI=(0,0,0):=by
 unfold dC;rw[abo h hj]
theorem u6 {aI:List aO} {x:aO} (h:∀k,k<j→oE aI k=false) (hx:aI[((j:Nat):Int).toNat]? =some x) (hw:x.2.2.1=true) (h0:x.2.2.2.2=0):dC aI=(((j:Nat):Int),((j:Nat):Int),5):=by
 have hj:j<aI.length:=by rw[dS] at hx;exact(dZ.1 hx).1
 have hb:oE aI j=true:=by rw[Il hx];unfold Ai;simp[hw,h0]
 unfold dC;rw[P6 h hj hb]
 rw[dS] at hx
 simp only[hx,h0,aq0]
theorem tq {aI:List aO} {j:Nat} {x:aO} (h:∀k,k<j→oE aI k=false) (hx:aI[((j:Nat):Int).toNat]? =some x) (hw:x.2.2.1=true) (h0:¬x.2.2.2.2=0)
  (h1:max (gG aI x.2.2.2.1 x.2.2.2.2) 0<((j:Nat):Int)):dC aI=(max (gG aI x.2.2.2.1 x.2.2.2.2) 0,((j:Nat):Int),4):=by
 have hj:j<aI.length:=by rw[dS] at hx;exact(dZ.1 hx).1
 have hb:oE aI j=true:=by rw[Il hx];unfold Ai;simp[hw,h1]
 unfold dC;rw[P6 h hj hb]
 rw[dS] at hx
 simp only[hx,h0,aqe]
theorem NR {aI:List aO} {x:aO} (hw:x.2.2.1=false):Ai aI j x=false:=by unfold Ai;rw[hw];rfl
theorem NS {aI:List aO} {x:aO} (h0:¬x.2.2.2.2=0) (h1:¬max (gG aI x.2.2.2.1 x.2.2.2.2) 0<((j:Nat):Int)):Ai aI j x=false:=by
 unfold Ai;rw[apv h0,apv h1];simp
theorem Sv {aI:List aO} {x:aO} (hx:aI[((j:Nat):Int).toNat]? =some x) (h1:x.2.2.1=true) (h2:decide (x.2.2.2.1=v)=true) (h3:decide (x.2.2.2.2=val)=true) (hs:(aI.take j).any (lH v val)=false):((j:Nat):Int)=gG aI v val:=
 uT hx hs (by unfold lH;rw[h1,h2,h3];rfl)
theorem OX {aI:List aO} (hs:(aI.take j).any (lH v val)=false) (h:aI.length≤j):(-1:Int)=gG aI v val:=vI hs h
theorem aa5 {x:aO} (h:x.2.2.1=false):lH v val x=false:=by unfold lH;rw[h];rfl
theorem PK {x:aO} (h:decide (x.2.2.2.1=v)=false):lH v val x=false:=by unfold lH;rw[h];simp
theorem PJ {x:aO} (h:decide (x.2.2.2.2=val)=false):lH v val x=false:=by unfold lH;rw[h];simp
def uh (aI:List aO) (j:Nat) (m:KV):Prop:=∀p:Int×Int,getM m p=((aI.take j).findIdx? (lH p.1 p.2)).map fun i=>((i:Nat):Int)
theorem HS (aI:List aO):uh aI 0 []:=by intro p;simp[getM]
theorem Dr {aI:List aO} {p:aO→Bool} (h:(aI.take j).findIdx? p=some i):eM p aI=((i:Nat):Int):=by
 unfold eM
 have:aI.findIdx? p=some i:=by
  conv=>lhs;rw[←aqz j aI]
  rw[asb,h];rfl
 rw[this]
theorem JX {aI:List aO} {p:aO→Bool} {x:aO} (hx:aI[((j:Nat):Int).toNat]? =some x) (hp:p x=true) (h:(aI.take j).findIdx? p=none):eM p aI=((j:Nat):Int):=by
 refine(uT hx ?_ hp).symm
 rw[ark] at h
 rw[aq9]
 intro y hy;rw[h y hy];simp
theorem Ko {aI:List aO} {p:aO→Bool} {x:aO} (hx:aI[((j:Nat):Int).toNat]? =some x):
  (aI.take (j+1)).findIdx? p=((aI.take j).findIdx? p).or (if p x then some j else none):=by
 have hj:j<aI.length:=by rw[dS] at hx;exact(dZ.1 hx).1
 rw[nX hx,asb,iH,aqk aq]
 congr 1
 cases hp:p x<;>simp[List.findIdx?_cons,hp]
theorem Ff {aI:List aO} {m:KV} {x:aO} (h:uh aI j m) (hx:aI[((j:Nat):Int).toNat]? =some x) (hw:x.2.2.1=false):uh aI (j+1) m:=by
 intro p
 rw[h p,Ko hx,show lH p.1 p.2 x=false from by unfold lH;rw[hw];rfl]
 simp
theorem HR {aI:List aO} {m:KV} {x:aO} (h:uh aI j m) (hx:aI[((j:Nat):Int).toNat]? =some x) (hw:x.2.2.1=true) (hn:getM m (x.2.2.2.1,x.2.2.2.2)=none):uh aI (j+1) (jB m (x.2.2.2.1,x.2.2.2.2) ((j:Nat):Int)):=by
 intro p
 rw[Xr,Ko hx]
 by_cases e:p=(x.2.2.2.1,x.2.2.2.2)
 ·subst e
  rw[h] at hn
  have M6:(aI.take j).findIdx? (lH x.2.2.2.1 x.2.2.2.2)=none:=by simpa using hn
  rw[apo rfl]
  simp only[M6,show lH x.2.2.2.1 x.2.2.2.2 x=true from by unfold lH;simp[hw]]
  simp
 ·rw[apr e,h p,show lH p.1 p.2 x=false from by
   unfold lH;rw[hw]
   simp only[aqc,ar8,apA]
   by_cases e1:x.2.2.2.1=p.1
   ·exact .inr fun e2=>e (by rw[Prod.ext_iff];exact⟨e1.symm,e2.symm⟩)
   ·exact .inl e1]
  simp
theorem Bn {aI:List aO} {j:Nat} {m:KV} {x:aO} (h:uh aI j m) (hx:aI[((j:Nat):Int).toNat]? =some x) (hs:(getM m (x.2.2.2.1,x.2.2.2.2)).isSome=true):
  (getM m (x.2.2.2.1,x.2.2.2.2)).getD 0=max (gG aI x.2.2.2.1 x.2.2.2.2) 0∧max (gG aI x.2.2.2.1 x.2.2.2.2) 0<((j:Nat):Int):=by
 rw[h] at hs ⊢
 cases hf:(aI.take j).findIdx? (lH x.2.2.2.1 x.2.2.2.2) with
 |none=>simp[hf] at hs
 |some i=>
  have hi:i<j:=by
   have:=(apK.1 hf).1
   rw[iH] at this;omega
  have:=Dr hf
  unfold gG
  rw[this]
  simp only[hf,aqC,arB]
  omega
theorem Pb {aI:List aO} {m:KV} {x:aO} (h:uh aI j m) (hx:aI[((j:Nat):Int).toNat]? =some x) (hw:x.2.2.1=true) (hs:(getM m (x.2.2.2.1,x.2.2.2.2)).isSome=false):
  getM m (x.2.2.2.1,x.2.2.2.2)=none∧gG aI x.2.2.2.1 x.2.2.2.2=((j:Nat):Int):=by
 have h0:getM m (x.2.2.2.1,x.2.2.2.2)=none:=by simpa using hs
 refine⟨h0,?_⟩
 rw[h] at h0
 have h1:(aI.take j).findIdx? (lH x.2.2.2.1 x.2.2.2.2)=none:=by simpa using h0
 exact JX hx (by unfold lH;simp[hw]) h1
end Go.Ew
namespace Go.Ew
open Go.RowKit
section
variable {P:Program} {n:Nat} {ops:Array Oper} {f:aR} {w:aJ} {K:aR→aJ→Prop} {x y:Operand} {d:Nat} {ty T T2 e:TypeId} {ps:String} {af:Array Edge} {M:cg} {B:Nat} {a:Option Addr} {k c:Nat} {s t:Int}
theorem w8 {i:Int} (h0:0≤i) (h1:i≤255):IntKind.u8.wrap i=i∧(((BitVec.ofInt 8 i).toNat:Nat):Int)=i:=by
 constructor
 ·unfold IntKind.wrap
  simp[IntKind.bits,IntKind.signed]
  omega
 ·rw[arb]
  show ((i%256).toNat:Int)=i
  omega
end
end Go.Ew
namespace Go.Ew
open Go.RowKit
section
variable {P:Program} {n:Nat} {ops:Array Oper} {f:aR} {w:aJ} {K:aR→aJ→Prop} {x:Operand} {d:Nat} {ty:TypeId} {ps:String} {af:Array Edge} {a:Addr}
theorem nc (ox:bM n x=true) (hx:ev f x=.pointer (some a)) (h:K (cq f d (.pointer (some a))) w):SO P n ops ⟨some d,.nilCheck x,ty,ps,af,none⟩ f w K:=
 SO.value (v:=.pointer (some a)) (w':=w) (by simp[execOp,aP ox,hx]) h
theorem mf0 {f:aR}:([]:List Operand).map (ev f)=[]:=rfl
theorem YK {f:aR} {x:Operand} {v:Value} {L:List Operand} {V:List Value} (h:ev f x=v) (t:L.map (ev f)=V):(x::L).map (ev f)=v::V:=by rw[apP,h,t]
theorem mf2 {fn:Fn} {ae:List Operand} {V:List Value} (oc:Ha n ae=true) (hC:ae.map (ev f)=V) (h:K (cq f d (.func fn #[] V.toArray)) w):SO P n ops ⟨some d,.makeFunc fn #[] ae.toArray,ty,ps,af,none⟩ f w K:=by
 refine mf oc ?_
 rw[hC];exact h
end
theorem NI {α0 α1 α2 α3 α4 α5 α6 α7 α8 α9 β:Type} (f:α0→α1→α2→α3→α4→α5→α6→α7→α8→α9→β) {x0 y0:α0} {x1 y1:α1} {x2 y2:α2} {x3 y3:α3} {x4 y4:α4} {x5 y5:α5} {x6 y6:α6} {x7 y7:α7} {x8 y8:α8} {x9 y9:α9} (h0:x0=y0) (h1:x1=y1) (h2:x2=y2) (h3:x3=y3) (h4:x4=y4) (h5:x5=y5) (h6:x6=y6) (h7:x7=y7) (h8:x8=y8) (h9:x9=y9):f x0 x1 x2 x3 x4 x5 x6 x7 x8 x9=f y0 y1 y2 y3 y4 y5 y6 y7 y8 y9:=by
 subst h0;subst h1;subst h2;subst h3;subst h4;subst h5;subst h6;subst h7;subst h8;subst h9;rfl
end Go.Ew
namespace Go.Ew
open Go.RowKit
theorem vC {α:Type} {p:α→Bool} {l:List α} (h:l.Nodup):(l.filter p).Nodup:=arV List.filter_sublist h
def oR (l:dz) (cn:Nat→Option Nat) (L:Nat→Bool) (j:Nat):Bool:=(Nat.ble l.length j||L j)&&(match cn j with|none=>true|some i=>!L i)
def FK (l:dz) (cn:Nat→Option Nat) (aI:Nat→Value→List Item) (m:Nat) (L:Nat→Bool) (V:Nat→Value):List Item:=((List.range m).filter (oR l cn L)).flatMap fun j=>aI j (V j)
def waits (T:List Nat) (i j:Nat):Bool:=Nat.testBit (T.getD i 0) j
def FT (T:List Nat) (o:Oper):Nat→Nat
 |0=>0
 |j+1=>bif kY o j then FT T o j ||| (2^j ||| T.getD j 0) else FT T o j
def YD (l:dz) (T:List Nat):Bool:=(List.range l.length).all fun i=>match l[i]? with|some o=>Nat.beq (T.getD i 0) (FT T o i)|none=>true
theorem FR {T:List Nat} {o:Oper} {m:Nat}:∀i,Nat.testBit (FT T o i) m=true→∃j,j<i∧kY o j=true∧(m=j∨waits T j m=true)
 |0,h=>by simp[FT] at h
 |i+1,h=>by
  unfold FT at h
  cases ho:kY o i with
  |false=>
   rw[ho] at h
   obtain⟨j,h1,h2⟩:=FR i h
   exact⟨j,by omega,h2⟩
  |true=>
   rw[ho] at h
   have h:Nat.testBit (FT T o i ||| (2^i ||| T.getD i 0)) m=true:=h
   rw[Nat.testBit_or,Nat.testBit_or,apw,apw,Nat.testBit_two_pow] at h
   rcases h with h|h|h
   ·obtain⟨j,h1,h2⟩:=FR i h
    exact⟨j,by omega,h2⟩
   ·exact⟨i,by omega,ho,.inl (ap5 h).symm⟩
   ·exact⟨i,by omega,ho,.inr h⟩
theorem Be {l:dz} {T:List Nat} (hT:YD l T=true) {L:Nat→Bool} (hC:∀j o,L j=true→l[j]? =some o→∀q,kY o q=true→L q=true) (hL:∀j,L j=true→j<l.length):
  ∀(n i:Nat) (o:Oper),i≤n→l[i]? =some o→(∀j,kY o j=true→L j=true)→∀m,waits T i m=true→L m=true
 |n,i,o,tj,ho,hd,m,hm=>by
  have jU:=(dZ.1 ho).1
  have h1:=aps.1 hT i<|apq.2 jU
  rw[ho] at h1
  have h1:=aqy h1
  unfold waits at hm
  rw[h1] at hm
  obtain⟨j,hj,Y6,AU⟩:=FR i hm
  have yC:=hd j Y6
  rcases AU with rfl|AU
  ·exact yC
  ·have yr:=hL j yC
   have rk:l[j]? =some l[j]:=eB yr
   cases n with
   |zero=>omega
   |succ n=>exact Be hT hC hL n j l[j] aq rk (hC j l[j] yC rk) m AU
def Rc (l:dz) (cn:Nat→Option Nat) (T:List Nat) (m i:Nat) (o:Oper) (D:List Nat):Bool:=
 nodupB D&&D.all (fun j=>Nat.blt j m&&(Nat.ble l.length j||waits T i j)&&(match cn j with|none=>true|some c=>Nat.beq c i||(Nat.blt c l.length&&waits T c i)))&&(List.range m).all (fun j=>match cn j with|none=>true|some c=>!Nat.beq c i||D.contains j)
def Hr (cn:Nat→Option Nat) (i:Nat) (D:List Nat):List Nat:=D.filter fun j=>match cn j with|none=>true|some c=>!Nat.beq c i
def YE (n:Nat) (l:dz) (cn:Nat→Option Nat) (T:List Nat) (m:Nat) (Ds:List (List Nat)):Bool:=
 YD l T&&rH 0 l&&nodupB (jt l.length l)&&(jt l.length l).all (fun d=>Nat.blt d n)&&Nat.ble l.length m&&(List.range l.length).all fun i=>match l[i]? with|some o=>Rc l cn T m i o (Ds.getD i [])|none=>true
section
variable {P:Program} {n:Nat} {l:dz} {cn:Nat→Option Nat} {aI:Nat→Value→List Item} {m:Nat} {T:List Nat} {Ds:List (List Nat)} {Φ:Nat→Value→Prop} {f0:aR} {M0:cg} {w0:aJ} {base:List Item}
def GStep (P:Program) (n:Nat) (l:dz) (cn:Nat→Option Nat) (T:List Nat) (aI:Nat→Value→List Item) (Φ:Nat→Value→Prop) (f0:aR) (M0:cg) (w0:aJ) (base:List Item) (i:Nat) (o:Oper) (D:List Nat):Prop:=
 ∀(f:aR) (w:aJ) (V:Nat→Value) (r:List Item),(∀t,(jt l.length l).contains t=false→f t=f0 t)→(∀j x,l[j]? =some x→x.dst.isSome=true→waits T i j=true→f (jk l j)=V j∧Φ j (V j))→(∀j x,l[j]? =some x→x.dst.isSome=true→(j=i∨waits T j i=true)→f (jk l j)=f0 (jk l j))→
  HI M0 w0 w (base++(D.flatMap (fun j=>aI j (V j))++r))→SO P n l.toArray o f w (fun f' w'=>∃v,f'=de f o.dst v∧Φ i v∧HI M0 w0 w' (base++(((Hr cn i D).flatMap fun j=>aI j (V j))++(aI i v++r))))
def yU (P:Program) (n:Nat) (l:dz) (cn:Nat→Option Nat) (T:List Nat) (aI:Nat→Value→List Item) (Φ:Nat→Value→Prop) (f0:aR) (M0:cg) (w0:aJ) (base:List Item) (Ds:List (List Nat)):Nat→dz→Prop
 |_,[]=>True
 |i,o::r=>GStep P n l cn T aI Φ f0 M0 w0 base i o (Ds.getD i [])∧yU P n l cn T aI Φ f0 M0 w0 base Ds (i+1) r
theorem yU.at_:∀(r:dz) (i:Nat),yU P n l cn T aI Φ f0 M0 w0 base Ds i r→∀j o,r[j]? =some o→GStep P n l cn T aI Φ f0 M0 w0 base (i+j) o (Ds.getD (i+j) [])
 |[],_,_,j,o,h=>by simp at h
 |x::r,i,h,0,o,hj=>by
  simp only[apC,apy] at hj
  subst hj
  exact h.1
 |x::r,i,h,j+1,o,hj=>by
  simp only[apI] at hj
  have:=yU.at_ r (i+1) h.2 j o hj
  rwa [show i+1+j=i+(j+1) from by omega] at this
def JG (l:dz) (cn:Nat→Option Nat) (aI:Nat→Value→List Item) (m:Nat) (Φ:Nat→Value→Prop) (f0:aR) (M0:cg) (w0:aJ) (base:List Item) (L:Nat→Bool) (f:aR) (w:aJ):Prop:=
 ∃V:Nat→Value,(∀t,(jt l.length l).contains t=false→f t=f0 t)∧(∀j x,l[j]? =some x→x.dst.isSome=true→f (jk l j)=if L j=true then V j else f0 (jk l j))∧(∀j,j<l.length→L j=true→Φ j (V j))∧(∀j o,L j=true→l[j]? =some o→∀q,kY o q=true→L q=true)∧HI M0 w0 w (base++FK l cn aI m L V)
theorem drg {id:Nat} {Q:Exit→Act→aJ→Prop} {f:aR} {w:aJ} (cn:Nat→Option Nat) (T:List Nat) (aI:Nat→Value→List Item) (m:Nat) (Ds:List (List Nat)) (Φ:Nat→Value→Prop) (base:List Item) (V0:Nat→Value) (hm:P.follows .mixedOrders=true) (qK:YE n l cn T m Ds=true)
  (hH:HI M0 w0 w (base++((List.range m).filter (fun j=>Nat.ble l.length j)).flatMap fun j=>aI j (V0 j))) (tm:∀j i,cn j=some i→i<l.length)
  (hS:yU P n l cn T aI Φ f M0 w0 base Ds 0 l)
  (wF:∀(f':aR) (w':aJ) (V:Nat→Value),(∀t,(jt l.length l).contains t=false→f' t=f t)→(∀j x,l[j]? =some x→x.dst.isSome=true→f' (jk l j)=V j∧Φ j (V j))→HI M0 w0 w' (base++((List.range m).filter (fun j=>(cn j).isNone)).flatMap fun j=>aI j (V j))→Q .normal (cp n f') w'):
  WC P n (.region id l.toArray true) Q f w:=by
 simp only[YE,eP] at qK
 obtain⟨⟨⟨⟨⟨aeK,hE⟩,hN⟩,hn⟩,hlm⟩,hU⟩:=qK
 have hlm:l.length≤m:=aqx hlm
 have adJ:∀V,FK l cn aI m (fun _=>false) V=((List.range m).filter (fun j=>Nat.ble l.length j)).flatMap fun j=>aI j (V j):=by
  intro V
  unfold FK
  congr 1
  refine arz fun j hj=>?_
  unfold oR
  cases cn j<;>simp
 refine drj (JG l cn aI m Φ f M0 w0 base) hm hE ⟨V0,fun _ _=>rfl,fun j x _ _=>(by simp),fun j _ h=>(by cases h),fun j o h=>(by cases h),?_⟩ ?_ ?_
 ·rw[adJ]
  exact hH.ext (Ext.drew w)
 ·rintro L f' w' i o qJ uA aeN Zd ⟨V,hs,hv,hφ,hC,hH⟩
  have jU:=(dZ.1 qJ).1
  have YV:∀j,waits T i j=true→L j=true:=fun j hj=>Be aeK hC aeN i i o (apn _) qJ Zd j hj
  have W6:∀c oc,L c=true→l[c]? =some oc→∀j,waits T c j=true→L j=true:=fun c oc Ut Kb j hj=>Be aeK hC aeN c c oc (apn _) Kb (hC c oc Ut Kb) j hj
  have re:=yU.at_ l 0 hS i o qJ
  simp only[ap_] at re
  have hu:=aps.1 hU i<|apq.2 jU
  rw[qJ] at hu
  simp only[Rc,eP] at hu
  obtain⟨⟨Uv,hDu⟩,hDc⟩:=hu
  have Uv:=pc _ Uv
  generalize hD:Ds.getD i []=D at re Uv hDu hDc
  have Zq:∀j∈D,j<m∧oR l cn L j=true:=by
   intro j hj
   have:=aps.1 hDu j hj
   simp only[eP,apw,art] at this
   obtain⟨⟨h1,h2⟩,h3⟩:=this
   refine⟨h1,?_⟩
   unfold oR
   rw[eP,apw]
   refine⟨h2.imp (fun h=>h) (YV j),?_⟩
   revert h3
   cases PY:cn j with
   |none=>intro _;rfl
   |some c=>
    intro h3
    simp only[apw] at h3
    show (!L c)=true
    rcases h3 with h3|h3
    ·rw[aqy h3,uA];rfl
    ·cases Ut:L c with
     |false=>rfl
     |true=>
      exfalso
      simp only[eP,art] at h3
      have:=W6 c l[c] Ut (eB h3.1) i h3.2
      rw[uA] at this;cases this
  have hiD:i∉D:=by
   intro hi
   have:=(Zq i hi).2
   unfold oR at this
   rw[uA,show Nat.ble l.length i=false from by
    cases hb:Nat.ble l.length i with
    |false=>rfl
    |true=>have:=aqx hb;omega] at this
   simp at this
  
  have agG:((List.range m).filter (oR l cn L)).Perm (D++((List.range m).filter fun j=>oR l cn L j&&!D.contains j)):=by
   refine(List.perm_ext_iff_of_nodup (vC arG) ?_).2 fun j=>?_
   ·rw[aq7]
    refine⟨Uv,vC arG,fun a ha b hb Fa=>?_⟩
    subst Fa
    have:=(apE.1 hb).2
    simp[ha] at this
   ·simp only[apE,apq,apM,eP,aqo,arI,apA]
    constructor
    ·rintro⟨h1,h2⟩
     by_cases hj:j∈D
     ·exact .inl hj
     ·exact .inr ⟨h1,h2,hj⟩
    ·rintro(h|⟨h1,h2, -⟩)
     ·exact Zq j h
     ·exact⟨h1,h2⟩
  have hH2:HI M0 w0 w' (base++(D.flatMap (fun j=>aI j (V j))++((List.range m).filter fun j=>oR l cn L j&&!D.contains j).flatMap fun j=>aI j (V j))):=by
   refine hH.perm ?_
   unfold FK
   rw[←aq']
   exact List.Perm.append_left _<|agG.symm.flatMap_right _
  refine(re f' w' V _ hs (fun j x zo HC Y6=>?_) (fun j x zo HC nL=>?_) hH2).mono fun f2 w2 hK=>?_
  ·have:=hv j x zo HC
   rw[apo (YV j Y6)] at this
   exact⟨this,hφ j (dZ.1 zo).1 (YV j Y6)⟩
  ·have:=hv j x zo HC
   have yC:L j=false:=by
    rcases nL with rfl|nL
    ·exact uA
    ·cases yC:L j with
     |false=>rfl
     |true=>have:=W6 j x yC zo i nL;rw[uA] at this;cases this
   rw[yC] at this
   simpa using this
  ·obtain⟨v,rfl,aju,hH3⟩:=hK
   refine⟨fun j=>if j=i then v else V j,fun t ht=>?_,fun j x zo HC=>?_,fun j hj yC=>?_,fun j oj yC rk q hq=>?_,?_⟩
   ·cases vR:o.dst with
    |none=>exact hs t ht
    |some di=>
     have gI:t≠di:=by
      rintro rfl
      have:=ra (k:=l.length) qJ jU vR
      rw[←ap2,ht] at this
      cases this
     rw[show de f' (some di) v=cq f' di v from rfl,jN f' v gI]
     exact hs t ht
   ·dsimp only
    by_cases nL:j=i
    ·subst nL
     rw[qJ] at zo;cases zo
     obtain⟨di,vR⟩:=apL.1 HC
     rw[apo (by simp),apo rfl,P' qJ vR,vR]
     exact jh f' di v
    ·have h1:=hv j x zo HC
     obtain⟨dj,E_⟩:=apL.1 HC
     have h2:de f' o.dst v (jk l j)=f' (jk l j):=by
      cases vR:o.dst with
      |none=>rfl
      |some di=>
       rw[P' zo E_]
       exact jN f' v<|afj hN qJ zo vR E_<|fun e=>nL e.symm
     rw[h2,h1];simp[nL]
   ·dsimp only at yC ⊢
    by_cases nL:j=i
    ·subst nL;rw[apo rfl];exact aju
    ·rw[apr nL]
     rw[apv nL,aqR] at yC
     exact hφ j hj yC
   ·dsimp only at yC ⊢
    by_cases nL:j=i
    ·subst nL
     rw[qJ] at rk;cases rk
     rw[Zd q hq];rfl
    ·rw[apv nL,aqR] at yC
     rw[hC j oj yC rk q hq];rfl
   ·refine hH3.perm ?_
    have Fb:∀j,oR l cn (fun k=>L k||decide (k=i)) j=true↔(j=i∨(oR l cn L j=true∧∀c,cn j=some c→c≠i)):=by
     intro j
     unfold oR
     simp only[eP,apw,apl]
     constructor
     ·rintro⟨h1,h2⟩
      by_cases nL:j=i
      ·exact .inl nL
      ·refine .inr ⟨⟨h1.imp (fun h=>h) fun h=>h.resolve_right nL,?_⟩,?_⟩
       ·revert h2
        cases cn j with
        |none=>intro _;rfl
        |some c=>intro h2;simp at h2 ⊢;exact h2.1
       ·intro c hc
        rw[hc] at h2
        simp at h2
        exact h2.2
     ·rintro(rfl|⟨⟨h1,h2⟩,h3⟩)
      ·refine⟨.inr (.inr rfl),?_⟩
       cases PY:cn j with
       |none=>rfl
       |some c=>
        have sg:=tm j c PY
        have Kb:l[c]? =some l[c]:=eB sg
        have YY:=aps.1 hU c<|apq.2 sg
        rw[Kb] at YY
        simp only[Rc,eP] at YY
        have tj:=aps.1 YY.2 j<|apq.2 aq
        rw[PY] at tj
        have tj:j∈Ds.getD c []:=by
         have hb:Nat.beq c c=true:=Nat.beq_refl c
         simp only[hb,arL,are,arI,apl] at tj
         exact tj
        have E_:=aps.1 YY.1.2 j tj
        simp only[eP,apw] at E_
        have vK:waits T c j=true:=by
         rcases E_.1.2 with h|h
         ·have:=aqx h;omega
         ·exact h
        have aj5:c≠j:=by
         rintro rfl
         have:=YV c vK
         rw[uA] at this;cases this
        show (!(L c||decide (c=j)))=true
        rw[apv aj5,aqR]
        cases Ut:L c with
        |false=>rfl
        |true=>have:=W6 c l[c] Ut Kb j vK;rw[uA] at this;cases this
      ·refine⟨h1.imp (fun h=>h) .inl,?_⟩
       revert h2 h3
       cases cn j with
       |none=>intro _ _;rfl
       |some c=>
        intro h3 h2
        simp at h2 ⊢
        exact⟨h2,h3 c rfl⟩
    have vJ:((List.range m).filter (oR l cn fun k=>L k||decide (k=i))).Perm (Hr cn i D++([i]++((List.range m).filter fun j=>oR l cn L j&&!D.contains j))):=by
     refine(List.perm_ext_iff_of_nodup (vC arG) ?_).2 fun j=>?_
     ·rw[aq7]
      refine⟨vC Uv,?_,fun a ha b hb Fa=>?_⟩
      ·rw[List.singleton_append,aqt]
       refine⟨fun hi=>?_,vC arG⟩
       have:=(apE.1 hi).2
       simp only[eP] at this
       have h1:=this.1
       unfold oR at h1
       rw[uA,show Nat.ble l.length i=false from by
        cases hb:Nat.ble l.length i with
        |false=>rfl
        |true=>have:=aqx hb;omega] at h1
       simp at h1
      ·subst Fa
       have haD:=(apE.1 ha).1
       rcases apD.1 hb with rfl|hb
       ·exact hiD haD
       ·have:=(apE.1 hb).2
        simp[haD] at this
     ·rw[apE,Fb,apq,apM,apM,aqD,apE]
      unfold Hr
      rw[apE,apq]
      simp only[eP,aqo,arI,apA]
      have oK:(match cn j with|none=>true|some c=>!Nat.beq c i)=true↔∀c,cn j=some c→c≠i:=by
       cases PY:cn j with
       |none=>simp
       |some c=>
        simp only[aqo,apy]
        constructor
        ·rintro h d rfl rfl
         rw[Nat.beq_refl] at h;cases h
        ·intro h
         cases hb:Nat.beq c i with
         |false=>rfl
         |true=>exact absurd (aqy hb) (h c rfl)
      rw[oK]
      constructor
      ·rintro⟨h1,h2|⟨h2,h3⟩⟩
       ·exact .inr (.inl h2)
       ·by_cases hjD:j∈D
        ·exact .inl ⟨hjD,h3⟩
        ·exact .inr (.inr ⟨h1,h2,hjD⟩)
      ·rintro(⟨h1,h2⟩|rfl|⟨h1,h2,h3⟩)
       ·exact⟨(Zq j h1).1,.inr ⟨(Zq j h1).2,h2⟩⟩
       ·exact⟨by omega,.inl rfl⟩
       ·refine⟨h1,.inr ⟨h2,fun c hc hci=>?_⟩⟩
        subst hci
        have tj:=aps.1 hDc j<|apq.2 h1
        rw[hc] at tj
        have hb:Nat.beq c c=true:=Nat.beq_refl c
        simp only[hb,arL,are,arI,apl] at tj
        exact h3 tj
    refine List.Perm.append_left _ ?_
    unfold FK
    refine(vJ.flatMap_right _).trans ?_
    rw[aq',aq',List.flatMap_singleton]
    dsimp only
    rw[apo rfl]
    have Ul:∀A:List Nat,i∉A→A.flatMap (fun j=>aI j (if j=i then v else V j))=A.flatMap fun j=>aI j (V j):=by
     intro A hA
     induction A with
     |nil=>rfl
     |cons a A ihA=>
      rw[aqV,aqV,ihA fun h=>hA (apT _ h),apr fun (e:a=i)=>hA (e▸ap')]
    rw[Ul (Hr cn i D) (fun h=>hiD (apE.1 h).1),Ul]
    intro hi
    have:=(apE.1 hi).2
    simp only[eP] at this
    have h1:=this.1
    unfold oR at h1
    rw[uA,show Nat.ble l.length i=false from by
     cases hb:Nat.ble l.length i with
     |false=>rfl
     |true=>have:=aqx hb;omega] at h1
    simp at h1
 ·rintro f' w' ⟨V,hs,hv,hφ, -,hH⟩
  refine wF f' w' V hs (fun j x zo HC=>?_) ?_
  ·have yr:=(dZ.1 zo).1
   have:=hv j x zo HC
   rw[apo (apt yr)] at this
   exact⟨this,hφ j yr (apt yr)⟩
  ·have:FK l cn aI m (fun k=>decide (k<l.length)) V=((List.range m).filter (fun j=>(cn j).isNone)).flatMap fun j=>aI j (V j):=by
    unfold FK
    congr 1
    refine arz fun j hj=>?_
    unfold oR
    have h1:(Nat.ble l.length j||decide (j<l.length))=true:=by
     rw[apw,apl]
     by_cases h:j<l.length
     ·exact .inr h
     ·exact .inl (Nat.ble_eq_true_of_le aq)
    rw[h1,aqc]
    cases PY:cn j with
    |none=>rfl
    |some c=>
     have:=tm j c PY
     simp[this]
   rw[←this];exact hH
end
def vP:Value→Addr
 | .pointer (some a)=>a
 |_=>⟨0,0,none⟩
theorem agL {Ic:List (Option Nat)} {N:Nat} (h:Ic.all (fun c=>match c with|none=>true|some i=>Nat.blt i N)=true):∀j i,Ic.getD j none=some i→i<N:=by
 intro j i hj
 rw[gX] at hj
 cases hc:Ic[j]? with
 |none=>rw[hc] at hj;cases hj
 |some c=>
  rw[hc] at hj
  have hj:c=some i:=hj
  subst hj
  have:=aps.1 h _<|dO hc
  simpa using this
theorem XD {P:Program} {n:Nat} {l:dz} {id:Nat} {Q:Exit→Act→aJ→Prop} {f:aR} {w:aJ} {M0:cg} {w0:aJ} (Ic:List (Option Nat)) (T:List Nat) (BP:List (Value→List Item)) (Ds:List (List Nat)) (ΦL:List (Value→Prop)) (base:List Item)
  (hm:P.follows .mixedOrders=true) (qK:YE n l (fun j=>Ic.getD j none) T BP.length Ds=true) (hc:Ic.all (fun c=>match c with|none=>true|some i=>Nat.blt i l.length)=true)
  (hH:HI M0 w0 w (base++((BP.drop l.length).flatMap fun g=>g undef)))
  (hS:yU P n l (fun j=>Ic.getD j none) T (fun j=>BP.getD j (fun _=>[])) (fun j=>ΦL.getD j (fun _=>True)) f M0 w0 base Ds 0 l)
  (wF:∀(f':aR) (w':aJ) (V:Nat→Value),(∀t,(jt l.length l).contains t=false→f' t=f t)→(∀j x,l[j]? =some x→x.dst.isSome=true→f' (jk l j)=V j∧(ΦL.getD j (fun _=>True)) (V j))→HI M0 w0 w' (base++((List.range BP.length).filter (fun j=>(Ic.getD j none).isNone)).flatMap fun j=>(BP.getD j (fun _=>[])) (V j))→Q .normal (cp n f') w'):
  WC P n (.region id l.toArray true) Q f w:=by
 have hlm:l.length≤BP.length:=by
  simp only[YE,eP] at qK
  exact aqx qK.1.2
 refine drg (fun j=>Ic.getD j none) T (fun j=>BP.getD j<|fun _=>[]) BP.length Ds (fun j=>ΦL.getD j<|fun _=>True) base (fun _=>undef) hm qK ?_ (agL hc) hS wF
 have key:∀(L:List (Value→List Item)) (k s:Nat),((List.range' s L.length).filter (fun j=>Nat.ble k j)).flatMap (fun j=>((List.replicate s (fun _=>[]))++L).getD j (fun _=>[]) undef)=(L.drop (k-s)).flatMap fun g=>g undef:=by
  intro L
  induction L with
  |nil=>intro k s;simp
  |cons g L ih=>
   intro k s
   have ajD:List.replicate s (fun _:Value=>([]:List Item))++g::L=(List.replicate s (fun _:Value=>([]:List Item))++[g])++L:=by simp
   have uW:∀j∈List.range' (s+1) L.length,(List.replicate s (fun _:Value=>([]:List Item))++g::L).getD j (fun _=>[]) undef=(List.replicate (s+1) (fun _:Value=>([]:List Item))++L).getD j (fun _=>[]) undef:=by
    intro j hj
    have hj:=(List.mem_range'_1.1 hj).1
    rw[gX,gX,ajD,oM (by simp;omega),oM (by simp;omega)]
    simp
   have Zb:∀A:List Nat,(∀j∈A,j∈List.range' (s+1) L.length)→A.flatMap (fun j=>(List.replicate s (fun _:Value=>([]:List Item))++g::L).getD j (fun _=>[]) undef)=A.flatMap fun j=>(List.replicate (s+1) (fun _:Value=>([]:List Item))++L).getD j (fun _=>[]) undef:=by
    intro A hA
    induction A with
    |nil=>rfl
    |cons a A ihA=>rw[aqV,aqV,ihA fun j hj=>hA j (apT _ hj),uW a (hA a ap')]
   rw[jb,List.range'_succ,List.filter_cons]
   by_cases hk:Nat.ble k s=true
   ·have Kc:=aqx hk
    rw[apo hk,aqV,Zb _ fun j hj=>(apE.1 hj).1,ih k (s+1),show k-s=0 from by omega,show k-(s+1)=0 from by omega,arY,arY,aqV]
    congr 1
    rw[gX,oM (by simp)]
    simp
   ·have Kc:¬k≤s:=fun h=>hk<|Nat.ble_eq_true_of_le h
    rw[apr hk,Zb _ fun j hj=>(apE.1 hj).1,ih k (s+1),show k-s=(k-(s+1))+1 from by omega,List.drop_succ_cons]
 have:=key BP l.length 0
 rw[List.replicate_zero,List.nil_append,arS,←List.range_eq_range'] at this
 rw[this]
 exact hH
theorem acX {α:Type} [GT α] {B:Nat} {e:TypeId} {v:Value} {xs:List α} {M:cg} {w:aJ} {g j:Nat} {x:α} (h:(own B e v xs).holds M w) (hv:v.ownBlock=some g) (hx:xs[j]? =some x):ik M w ⟨g,j*GT.size α,none⟩ x:=by
 obtain⟨cs,h1,h2⟩:=h
 rcases h1.2 with ⟨rfl,h3⟩|⟨g',cap,cur,rfl,h3,h4,h5,h6,h7,h8⟩
 ·cases hv
 ·obtain rfl:g'=g:=apm hv
  have lE:(⟨g',0,none⟩:Addr).add (j*GT.size α)=⟨g',j*GT.size α,none⟩:=by unfold Addr.add;split<;>simp_all
  obtain⟨c,zt,AW⟩:=bC.at_ h2 j x hx
  refine⟨c,zt,fun i u hu=>?_⟩
  have ve:=h1.cells (g:=g') J (j*GT.size α+i) u<|AW i u hu
  rwa [←add_add,lE] at ve
theorem kr {α:Type} [GT α] {B:Nat} {e:TypeId} {v:Value} {xs:List α} {M:cg} {w:aJ} (h:(own B e v xs).holds M w):xs.length≤9223372036854775807:=by
 obtain⟨cs,h1,h2⟩:=h
 rcases h1.2 with ⟨rfl,h3⟩|⟨g',cap,cur,rfl,h3,h4,h5,h6,h7,h8⟩
 ·omega
 ·have:maxLen=9223372036854775807:=rfl
  omega
end Go.Ew
namespace Go.Ew
open Go.RowKit
def ahv (m k:Nat):Bool:=Nat.beq (Nat.land 1 (Nat.shiftRight m k)) 1
def mask (T:List Nat) (j:Nat) (V:Nat→Value) (k:Nat):Value:=bif (Nat.beq k j||ahv (T.getD j 0) k) then V k else undef
section
variable {P:Program} {n:Nat} {l:dz} {cn:Nat→Option Nat} {aI:Nat→(Nat→Value)→List Item} {m:Nat} {T:List Nat} {Ds:List (List Nat)} {Φ:Nat→Value→Prop} {f0:aR} {M0:cg} {w0:aJ} {base:List Item}
def VK (P:Program) (n:Nat) (l:dz) (cn:Nat→Option Nat) (T:List Nat) (aI:Nat→(Nat→Value)→List Item) (Φ:Nat→Value→Prop) (f0:aR) (M0:cg) (w0:aJ) (base:List Item) (i:Nat) (o:Oper) (D:List Nat):Prop:=
 ∀(f:aR) (w:aJ) (V:Nat→Value) (r:List Item),(∀t,(jt l.length l).contains t=false→f t=f0 t)→(∀j x,l[j]? =some x→x.dst.isSome=true→waits T i j=true→f (jk l j)=V j∧Φ j (V j))→(∀j x,l[j]? =some x→x.dst.isSome=true→(j=i∨waits T j i=true)→f (jk l j)=f0 (jk l j))→
  HI M0 w0 w (base++(D.flatMap (fun j=>aI j (mask T j V))++r))→SO P n l.toArray o f w (fun f' w'=>∃v,f'=de f o.dst v∧Φ i v∧HI M0 w0 w' (base++(((Hr cn i D).flatMap fun j=>aI j (mask T j V))++(aI i (mask T i (fun k=>if k=i then v else V k))++r))))
def EK (P:Program) (n:Nat) (l:dz) (cn:Nat→Option Nat) (T:List Nat) (aI:Nat→(Nat→Value)→List Item) (Φ:Nat→Value→Prop) (f0:aR) (M0:cg) (w0:aJ) (base:List Item) (Ds:List (List Nat)):Nat→dz→Prop
 |_,[]=>True
 |i,o::r=>VK P n l cn T aI Φ f0 M0 w0 base i o (Ds.getD i [])∧EK P n l cn T aI Φ f0 M0 w0 base Ds (i+1) r
theorem EK.at_:∀(r:dz) (i:Nat),EK P n l cn T aI Φ f0 M0 w0 base Ds i r→∀j o,r[j]? =some o→VK P n l cn T aI Φ f0 M0 w0 base (i+j) o (Ds.getD (i+j) [])
 |[],_,_,j,o,h=>by simp at h
 |x::r,i,h,0,o,hj=>by
  simp only[apC,apy] at hj
  subst hj
  exact h.1
 |x::r,i,h,j+1,o,hj=>by
  simp only[apI] at hj
  have:=EK.at_ r (i+1) h.2 j o hj
  rwa [show i+1+j=i+(j+1) from by omega] at this
end
end Go.Ew
namespace Go.Ew
open Go.RowKit
variable {v:Value}
section
variable {P:Program} {n:Nat} {ops:Array Oper} {f:aR} {w:aJ} {K:aR→aJ→Prop} {x y:Operand} {d:Nat} {ty T e:TypeId} {ps:String} {af:Array Edge} {M0:cg} {w0:aJ} {l:List Item} {bytes:Nat} {z:Value} {agg:Bool} {kk:IntKind}
theorem ME {fn:Fn} (ox:bM n x=true) (hx:ev f x=v) (h:K (cq f d (.func fn #[v] #[])) w):SO P n ops ⟨some d,.makeFunc fn #[x] #[],ty,ps,af,none⟩ f w K:=
 SO.value (v:=.func fn #[v] #[]) (by simp[execOp,Instr.makeFunc,aP ox,hx]) h
theorem NJ {fx:Operand} {g:FuncId} {b:Value} {L:List Operand} {vs:List Value} {N0:Array TypeId} {ai:Value→aJ→Prop} (G:cD P g)
  (ofx:bM n fx=true) (ol:Ha n L=true) (hfx:ev f fx=.func (.func g) #[b] #[]) (hL:L.map (ev f)=vs)
  (hc:Calls P g (b::vs).toArray w (ck ai)) (h:∀v w',ai v w'→K (cq f d v) w'):
  SO P n ops ⟨some d,.call {callee:=.value fx,args:=L.toArray,argTypes:=N0},ty,ps,af,none⟩ f w K:=by
 obtain⟨fn,c,hf,hb,hn⟩:=G
 subst hL
 exact SO.enter (g:=g) (args:=(b::L.map (ev f)).toArray) (w':=w) (by
  simp only[execOp,resolve,aro,zC ol,aP ofx,hfx]
  simp[Deferred.ofValue,invoke,yM hf hb hn]) (hc.mono fun e w' hr=>by
   obtain⟨v,rfl,hv⟩:=hr
   exact⟨v,rfl,h v w' hv⟩)
theorem bsB {len:Nat} {L:List (Nat×Operand)} {V:List (Nat×Value)} {cells:Array Value} (H:HI M0 w0 w l) (ol:Ha n (L.map (·.2))=true) (hL:(L.map fun p=>(p.1,ev f p.2))=V)
  (hb:∀w,(Instr.buildSlice T len V.toArray).run P w=.ok (.slice (some ⟨w.heap.size,0,none⟩) len len) (w.alloc (.cells cells e)))
  (h:∀g w',Ext w w'→HI M0 w0 w' (box g cells e::l)→K (cq f d (.slice (some ⟨g,0,none⟩) len len)) w'):
  SO P n ops ⟨some d,.buildSlice T len L.toArray,ty,ps,af,none⟩ f w K:=by
 subst hL
 refine SO.value (v:=.slice (some ⟨w.heap.size,0,none⟩) len len) (w':=w.alloc (.cells cells e)) ?_<|h _ _ (Ext.alloc w _) ?_
 ·have he:(L.map fun p=>(p.1,(cp n f).eval p.2))=L.map fun p=>(p.1,ev f p.2):=by
   apply aqw
   intro p hp
   rw[aP (aps.1 ol p.2 (ap4.2 ⟨p,hp,rfl⟩))]
  simp only[execOp,aro]
  have:=hb w
  rw[←he] at this
  simp[this]
 ·exact H.new (Ext.alloc w _) w.heap.size J (apn _) (by simp)<|heap_alloc_new w _
theorem Pn {α:Type} [GT α] {B:Nat} {a:Option Addr} {k c:Nat} {xs:List α} {M:cg} (hO:(own B e (.slice a k c) xs).holds M w) (h:a.isNone=true):xs=[]:=by
 obtain⟨cs,h1,h2⟩:=hO
 rcases h1.2 with ⟨h3,h4⟩|⟨g,cap,cur,h3,h4⟩
 ·exact aqp.1 h4
 ·cases h3;cases h
theorem MW {g len c:Nat} {i:Int} (ox:bM n x=true) (oy:bM n y=true) (hx:ev f x=.slice (some ⟨g,0,none⟩) len c) (hy:ev f y=.int kk i) (k:Nat) (hi:i=((k:Nat):Int)) (hl:k<len) (hu:P.underlying T=some (.slice e)) (F:ez P e 1 agg bytes z)
  (h:K (cq f d (.pointer (some ⟨g,k,none⟩))) w):SO P n ops ⟨some d,.indexAddr T x y,ty,ps,af,none⟩ f w K:=by
 have lE:(⟨g,0,none⟩:Addr).add (k*1)=⟨g,k,none⟩:=by unfold Addr.add;split<;>simp_all
 refine SO.value (v:=.pointer (some ⟨g,k,none⟩)) ?_ h
 subst hi
 have hb:(0:Int)≤((k:Nat):Int)∧((k:Nat):Int)<(len:Int):=by omega
 simp only[execOp,aP ox,aP oy,hx,hy]
 simp[Instr.indexAt,asIntOf,gO hu,hb,F.jA]
 rw[apo hl,show (⟨g,0,none⟩:Addr).add k=⟨g,k,none⟩ by rw[←lE,arx]]
end
theorem bo.anyM {α:Type} [GT α] [Flat α] {M M':cg} {e:TypeId} {w w':aJ} {v:Value} {xs:List α} (h:bo M e w xs v w'):bo M' e w xs v w':=by
 obtain⟨hx,hb,cs,h1,h2⟩:=h
 exact⟨hx,hb,cs,h1,bC.flat h2⟩
theorem Wb {w:aJ} {B B':Nat} {e:TypeId} {sz n:Nat} {cs:List Value} (h:w.ownsRow B e sz v n cs) (hB:B'≤B):w.ownsRow B' e sz v n cs:=by
 refine⟨h.1,?_⟩
 rcases h.2 with h2|⟨g,cap,cur,h1,h2,h3⟩
 ·exact .inl h2
 ·exact .inr ⟨g,cap,cur,h1,Nat.le_trans hB h2,h3⟩
theorem Wa {w w':aJ} {B:Nat} {e:TypeId} {sz n:Nat} {cs:List Value} (h:w.ownsRow B e sz v n cs) (hb:∀b,v.ownBlock=some b→w'.heap[b]? =w.heap[b]?):w'.ownsRow B e sz v n cs:=by
 refine⟨h.1,?_⟩
 rcases h.2 with h2|⟨g,cap,cur,h1,h2,h3,h4⟩
 ·exact .inl h2
 ·exact .inr ⟨g,cap,cur,h1,h2,by rw[hb g (by rw[h1];rfl)];exact h3,h4⟩
theorem bo.base {α:Type} [GT α] {M:cg} {e:TypeId} {w w' w0:aJ} {v:Value} {xs:List α} (h:bo M e w xs v w') (x:Ext w0 w):bo M e w0 xs v w':=by
 obtain⟨hx,hb,cs,h1,h2⟩:=h
 exact⟨x.trans hx,hb,cs,Wb h1 x.size,h2⟩
theorem bo.MP {α:Type} [GT α] [Flat α] {M:cg} {e:TypeId} {w w' w0:aJ} {v:Value} {xs:List α} (h:bo M e w0 xs v w) (x:Ext w w'):bo M e w0 xs v w':=by
 obtain⟨hx,hb,cs,h1,h2⟩:=h
 exact⟨hx.trans x,fun b vS=>apV (hb b vS) x.size,cs,Wa h1 fun b vS=>x.block b (hb b vS),bC.flat h2⟩
theorem bo.rvN {α:Type} [GT α] [Flat α] {M:cg} {e:TypeId} {w w' w0:aJ} {v:Value} {xs:List α} (h:bo M e w xs v w') (x:Ext w0 w):RV (fun b=>b<w0.heap.size) w' v xs:=by
 obtain⟨hx,hb,cs,h1,h2⟩:=h
 have:bo (fun b=>b<w.heap.size) e w xs v w':=⟨hx,hb,cs,h1,bC.flat h2⟩
 exact(this.rv fun b hb=>hb).lift (Up.less fun b _ hb=>apV hb x.size)
theorem L9 {α:Type} [GT α] {M0:cg} {w0 Aq w:aJ} {l:List Item} {v:Value} {xs:List α} (h:RV (fun b=>b<w0.heap.size) w v xs) (H:HI M0 Aq w0 l):RV (MS M0 l) w v xs:=h.lift (Up.less fun b _ hb=>H.mb b hb)
theorem acE {α:Type} [GT α] {M0:cg} {w0 Aq w:aJ} {l:List Item} {v:Value} {xs:List α} (h:RV (fun b=>b<w0.heap.size) w v xs) (H:HI M0 Aq w0 l):RV (fun b=>b<Aq.heap.size) w v xs:=h.lift (Up.less fun b _ hb=>apV hb H.below.size)
end Go.Ew
namespace Go.Ew
variable {aI:List aO}
theorem Xy (aI:List aO):(HX aI=none∧(∀k,oE aI k=false))∨∃j,j<aI.length∧HX aI=some j∧oE aI j=true∧∀k,k<j→oE aI k=false:=by
 unfold HX
 cases h:(List.range aI.length).find? (oE aI) with
 |none=>
  left
  refine⟨J,fun k=>?_⟩
  rw[aqP] at h
  by_cases hk:k<aI.length
  ·simpa using h k (apq.2 hk)
  ·unfold oE;rw[apz aq];rfl
 |some j=>
  right
  rw[ary] at h
  obtain⟨hb,as,bs,he,ha⟩:=h
  have hj:j<aI.length:=by
   have:j∈List.range aI.length:=by rw[he];simp
   exact apq.1 this
  have hlen:as.length=j:=by
   have h1:(List.range aI.length)[as.length]? =some j:=by rw[he];simp
   have h2:as.length<aI.length:=by
    have:=apj List.length he
    simp at this;omega
   rw[aqm h2] at h1
   exact apm h1
  refine⟨j,hj,J,hb,fun k hk=>?_⟩
  have h1:(List.range aI.length)[k]? =as[k]?:=by rw[he,pt aq]
  rw[aqm aq,eB aq] at h1
  have:=ha as[k]<|arH _
  rw[←apm h1] at this
  simpa using this
theorem Va (h:(dC aI).2.2=0):HX aI=none∧∀k,oE aI k=false:=by
 rcases Xy aI with h1|⟨j,hj,hf,hb,hl⟩
 ·exact h1
 ·exfalso
  unfold dC at h
  rw[hf] at h
  simp only[eB hj] at h
  split at h<;>simp at h
theorem Qh (h:(dC aI).2.2=0):(dC aI).1=0∧(dC aI).2.1=0:=by
 unfold dC;rw[(Va h).1];exact⟨rfl,rfl⟩
theorem aaa {aI:List aO} {j:Nat} {x:aO} (hx:aI[((j:Nat):Int).toNat]? =some x) (hw:x.2.2.1=true):0≤gG aI x.2.2.2.1 x.2.2.2.2∧gG aI x.2.2.2.1 x.2.2.2.2≤((j:Nat):Int):=by
 have hp:lH x.2.2.2.1 x.2.2.2.2 x=true:=by unfold lH;simp[hw]
 cases hf:(aI.take j).findIdx? (lH x.2.2.2.1 x.2.2.2.2) with
 |none=>have:=JX hx hp hf;unfold gG;rw[this];omega
 |some i=>
  have:=Dr hf
  have hi:=(apK.1 hf).1
  rw[iH] at hi
  unfold gG;rw[this];omega
theorem NH (h:(dC aI).2.2=0) {j:Nat} {x:aO} (hx:aI[((j:Nat):Int).toNat]? =some x) (hw:x.2.2.1=true):x.2.2.2.2≠0∧gG aI x.2.2.2.1 x.2.2.2.2=((j:Nat):Int):=by
 have hb:=(Va h).2 j
 rw[Il hx] at hb
 unfold Ai at hb
 rw[hw,aqc,aq5,apA,apA] at hb
 have:=aaa hx hw
 omega
theorem Yk {aI:List aO} {v val:Int} (h:0≤gG aI v val):∃x,aI[(gG aI v val).toNat]? =some x∧lH v val x=true:=by
 unfold gG eM at h ⊢
 cases hf:aI.findIdx? (lH v val) with
 |none=>rw[hf] at h;simp at h
 |some i=>
  obtain⟨hi,hp, -⟩:=apK.1 hf
  exact⟨aI[i],by simp[hi],hp⟩
theorem PL {v val:Int} {x:aO}:lH v val x=true↔x.2.2.1=true∧x.2.2.2.1=v∧x.2.2.2.2=val:=by unfold lH;simp[and_assoc]
end Go.Ew
namespace Go.Ew
variable {aI:List aO} {j:Nat} {x:aO} {m:KV}
def si (aI:List aO) (x:aO):Int:=if x.2.2.1 then -3 else if x.2.2.2.2=0 then -1 else if 0≤gG aI x.2.2.2.1 x.2.2.2.2 then max (gG aI x.2.2.2.1 x.2.2.2.2) 0 else -2
def fR (aI:List aO):aE:=aI.map (si aI)
def vc (aI:List aO) (j:Nat):KV:=((aI.take j).zipIdx).foldl (fun m x=>if x.1.2.2.1 then jB m (x.1.2.2.2.1,x.1.2.2.2.2) ((x.2:Nat):Int) else m) []
def yF (m:KV) (x:aO):Int:=if x.2.2.1 then -3 else if x.2.2.2.2=0 then -1 else if (getM m (x.2.2.2.1,x.2.2.2.2)).isSome then (getM m (x.2.2.2.1,x.2.2.2.2)).getD 0 else -2
def gQ (aI:List aO):aE:=aI.map (yF (vc aI aI.length))
theorem zW (hx:aI[((j:Nat):Int).toNat]? =some x) (hw:x.2.2.1=true):jB (vc aI j) (x.2.2.2.1,x.2.2.2.2) ((j:Nat):Int)=vc aI (j+1):=by
 unfold vc;rw[Bb hx,aq8];simp[hw]
theorem BM (hx:aI[((j:Nat):Int).toNat]? =some x) (hw:x.2.2.1=false):vc aI j=vc aI (j+1):=by
 unfold vc;rw[Bb hx,aq8];simp[hw]
def DU (m:KV) (aI:List aO) (j:Nat):aE:=(aI.take j).map (yF m)++List.replicate (aI.length-j) 0
theorem UD (m:KV) (aI:List aO):List.replicate aI.length 0=DU m aI 0:=by unfold DU;simp
theorem j5 {v:Int} (hx:aI[((j:Nat):Int).toNat]? =some x) (hv:v=yF m x):(DU m aI j).set j v=DU m aI (j+1):=by
 have hj:j<aI.length:=by rw[dS] at hx;exact(dZ.1 hx).1
 unfold DU
 have h1:aI.length-j=(aI.length-(j+1))+1:=by omega
 rw[nX hx,aqW,h1,aqf,aqK _ _ (by simp;omega)]
 have h2:j-((aI.take j).map (yF m)).length=0:=by simp;omega
 rw[h2,aru,hv]
 simp
theorem Xv (h:aI.length≤j):DU m aI j=aI.map (yF m):=by
 unfold DU;rw[apu h,show aI.length-j=0 from by omega];simp
theorem Lm (hw:x.2.2.1=true):(-3:Int)=yF m x:=by unfold yF;simp[hw]
theorem Lp (hw:x.2.2.1=false) (h0:x.2.2.2.2=0):(-1:Int)=yF m x:=by unfold yF;simp[hw,h0]
theorem Ln (hw:x.2.2.1=false) (h0:¬x.2.2.2.2=0) (hs:(getM m (x.2.2.2.1,x.2.2.2.2)).isSome=true):(getM m (x.2.2.2.1,x.2.2.2.2)).getD 0=yF m x:=by unfold yF;simp[hw,h0,hs]
theorem Lo (hw:x.2.2.1=false) (h0:¬x.2.2.2.2=0) (hs:(getM m (x.2.2.2.1,x.2.2.2.2)).isSome=false):(-2:Int)=yF m x:=by unfold yF;simp only[hw,h0,hs];rfl
theorem HK (hw:x.2.2.1=true):(-3:Int)=si aI x:=by unfold si;simp[hw]
theorem HN (hw:x.2.2.1=false) (h0:x.2.2.2.2=0):(-1:Int)=si aI x:=by unfold si;simp[hw,h0]
theorem HL (hw:x.2.2.1=false) (h0:¬x.2.2.2.2=0) (hs:decide (0≤gG aI x.2.2.2.1 x.2.2.2.2)=true):max (gG aI x.2.2.2.1 x.2.2.2.2) 0=si aI x:=by unfold si;simp only[hw,h0,ap5 hs];rfl
theorem HM (hw:x.2.2.1=false) (h0:¬x.2.2.2.2=0) (hs:decide (0≤gG aI x.2.2.2.1 x.2.2.2.2)=false):(-2:Int)=si aI x:=by unfold si;simp only[hw,h0,aqZ hs];rfl
theorem iT {v:Int} (hx:aI[((j:Nat):Int).toNat]? =some x) (hv:v=si aI x):(aI.take j).map (si aI)++[v]=(aI.take (j+1)).map (si aI):=by
 rw[nX hx,aqW,hv];rfl
theorem Ho {aI:List aO} (h:(dC aI).2.2=0):∀j,j≤aI.length→uh aI j (vc aI j)
 |0,_=>HS aI
 |j+1,hj=>by
  have ih:=Ho h j aq
  have hx:aI[((j:Nat):Int).toNat]? =some aI[j]:=by rw[dS];exact eB aq
  cases hw:(aI[j]).2.2.1 with
  |false=>rw[←BM hx hw];exact Ff ih hx hw
  |true=>
   rw[←zW hx hw]
   refine HR ih hx hw ?_
   rw[ih]
   have hg:=(NH h hx hw).2
   cases hf:(aI.take j).findIdx? (lH (aI[j]).2.2.2.1 (aI[j]).2.2.2.2) with
   |none=>simp[hf]
   |some i=>
    exfalso
    have h1:=Dr hf
    have h2:=(apK.1 hf).1
    rw[iH] at h2
    unfold gG at hg
    omega
theorem ae_ {aI:List aO} (h:(dC aI).2.2=0) (x:aO):yF (vc aI aI.length) x=si aI x:=by
 have hF:=Ho h aI.length (apn _) (x.2.2.2.1,x.2.2.2.2)
 rw[aqh] at hF
 unfold yF si gG eM
 rw[hF]
 dsimp only
 cases hf:aI.findIdx? (lH x.2.2.2.1 x.2.2.2.2) with
 |none=>simp
 |some i=>simp
theorem I2 (h:(dC aI).2.2=0):gQ aI=fR aI:=by
 unfold gQ fR
 exact aqw fun x _=>ae_ h x
end Go.Ew
namespace Go.Ew
theorem UA (aI:List aO):(gQ aI).length=aI.length:=by unfold gQ;simp
theorem vV (aI:List aO):(fR aI).length=aI.length:=by unfold fR;simp
theorem OD {aI:List aO} {x:aO} {t:Int} (ht:t=si aI x):(x.2.2.1==decide (t= -3))=true∧(t= -1→x.2.2.2.2=0)∧ -3≤t∧t<(aI.length:Int)∧
  (0≤t→∃y,aI[t.toNat]? =some y∧y.2.2.1=true∧y.2.2.2.1=x.2.2.2.1∧y.2.2.2.2=x.2.2.2.2∧x.2.2.2.2≠0)∧
  (t= -2→∀y∈aI,y.2.2.1=true→y.2.2.2.1=x.2.2.2.1→y.2.2.2.2≠x.2.2.2.2):=by
 have hr:=xp (p:=lH x.2.2.2.1 x.2.2.2.2) (r:=aI)
 have eH:0≤gG aI x.2.2.2.1 x.2.2.2.2→gG aI x.2.2.2.1 x.2.2.2.2<(aI.length:Int):=by
  intro h0
  obtain⟨y,hy, -⟩:=Yk h0
  have:=(dZ.1 hy).1
  omega
 subst ht
 unfold si
 by_cases hw:x.2.2.1=true
 ·simp only[hw,aq0]
  refine⟨by simp,fun h=>aq,by omega,by omega,fun h=>aq,fun h=>aq⟩
 ·have E6:x.2.2.1=false:=by simpa using hw
  simp only[E6,asq,aqe]
  by_cases h0:x.2.2.2.2=0
  ·simp only[h0,aq0]
   refine⟨by simp,fun _=>(by first|trivial|rfl),by omega,by omega,fun h=>aq,fun h=>aq⟩
  ·simp only[h0,aqe]
   by_cases hp:0≤gG aI x.2.2.2.1 x.2.2.2.2
   ·simp only[hp,aq0]
    have hl:=eH hp
    obtain⟨y,hy,hyp⟩:=Yk hp
    obtain⟨y1,y2,y3⟩:=PL.1 hyp
    have e:max (gG aI x.2.2.2.1 x.2.2.2.2) 0=gG aI x.2.2.2.1 x.2.2.2.2:=by omega
    rw[e]
    refine⟨?_,fun h=>aq,by omega,hl,fun _=>⟨y,hy,y1,y2,y3,h0⟩,fun h=>aq⟩
    rw[apv aq];rfl
   ·simp only[hp,aqe]
    refine⟨J,fun h=>aq,by omega,by omega,fun h=>aq,fun _ y hy hyw hyv hyn=>?_⟩
    apply hp
    unfold gG eM
    cases hf:aI.findIdx? (lH x.2.2.2.1 x.2.2.2.2) with
    |none=>
     rw[ark] at hf
     have:=hf y hy
     rw[PL.2 ⟨hyw,hyv,hyn⟩] at this
     cases this
    |some i=>simp
end Go.Ew
namespace Go.Ew
variable {n:Nat} {i j:Int} {p:ib}
def ic (n:Nat) (p:Nat→Bool):Row:=(((List.range n).filter p).map fun k=>((k:Nat):Int)).foldl eo (ej ((n:Nat):Int))
theorem qR (n:Nat):words ((n:Nat):Int)=(n+63)/64:=by unfold words;omega
theorem jO (n:Nat) (p:Nat→Bool):(ic n p).length=words ((n:Nat):Int):=by unfold ic;rw[wX,qp]
theorem W3 (h0:0≤i) (h:i<((n:Nat):Int)):jH (ej ((n:Nat):Int)) i=true:=MV h0 (by rw[qp,qR];omega)
theorem ji (n:Nat) (p:Nat→Bool) (i:Int):fy (ic n p) i=(decide (0≤i)&&decide (i<((n:Nat):Int))&&p i.toNat):=by
 unfold ic
 rw[AZ,F0,are,apF]
 simp only[apO,ap4,apE,apq,eP,apl]
 constructor
 ·rintro⟨z,⟨k,⟨hk,hp⟩,rfl⟩,rfl, -⟩
  exact⟨⟨by omega,by omega⟩,by simpa using hp⟩
 ·rintro⟨⟨h0,h1⟩,hp⟩
  exact⟨i,⟨i.toNat,⟨by omega,hp⟩,by omega⟩,J,W3 h0 h1⟩
theorem Av {r:Row} {p:Nat→Bool} (hl:r.length=words ((n:Nat):Int)) (h:∀k:Nat,fy r ((k:Nat):Int)=(decide (k<n)&&p k)):r=ic n p:=by
 refine aaw (by rw[hl,jO]) fun k=>?_
 rw[h,ji]
 simp
theorem kO {p q:Nat→Bool} (h:∀k,k<n→p k=q k):ic n p=ic n q:=
 Av (jO n p) fun k=>by
  rw[ji]
  by_cases hk:k<n
  ·simp[hk,h k hk]
  ·simp[hk]
theorem Di (n:Nat):ej ((n:Nat):Int)=ic n fun _=>false:=Av (qp _) fun k=>by rw[F0];simp
theorem vn {p:Nat→Bool} (h0:0≤j) (h1:j<((n:Nat):Int)):eo (ic n p) j=ic n fun k=>p k||decide (k=j.toNat):=by
 refine Av (by rw[kK,jO]) fun k=>?_
 rw[DO,ji]
 have tj:jH (ic n p) j=true:=MV h0<|by rw[jO,qR];omega
 rw[tj,ast,apF]
 simp only[apw,eP,apl,dS]
 constructor
 ·rintro(⟨⟨h2,h3⟩,h4⟩|h2)
  ·exact⟨by omega,.inl h4⟩
  ·exact⟨by omega,.inr aq⟩
 ·rintro⟨h2,h3|h3⟩
  ·exact .inl ⟨⟨by omega,by omega⟩,h3⟩
  ·exact .inr aq
def cI (n:Nat) (p:ib):Rows:=(List.range n).map fun i=>ic n (p i)
theorem mh (n:Nat) (p:ib):(cI n p).length=n:=by unfold cI;simp
theorem mZ {n:Nat} {p:ib} {i:Nat} {x:Row} (h:(cI n p)[i]? =some x):i<n∧x=ic n (p i):=by
 unfold cI at h
 rw[apx] at h
 cases hr:(List.range n)[i]? with
 |none=>rw[hr] at h;cases h
 |some k=>
  rw[hr] at h
  obtain⟨h1,h2⟩:=dZ.1 hr
  simp at h1 h2
  subst h2
  exact⟨h1,(apm h).symm⟩
theorem sN {i:Nat} (h:i<n):(cI n p)[i]? =some (ic n (p i)):=by
 unfold cI;rw[apx,aqm h];rfl
theorem Dj {rs:Rows} (hl:rs.length=n) (h:∀i,i<n→rs[i]? =some (ic n (p i))):rs=cI n p:=by
 apply apX
 intro i
 by_cases hi:i<n
 ·rw[h i hi,sN hi]
 ·rw[apz aq,apz (by rw[mh];omega)]
theorem dM {q:ib} (h:∀i j,i<n→j<n→p i j=q i j):cI n p=cI n q:=
 Dj (mh n p) fun i hi=>by rw[sN hi,kO fun j hj=>h i j hi hj]
theorem ze (n:Nat):wB ((n:Nat):Int)=cI n fun _ _=>false:=by
 refine Dj (by rw[qq];simp) fun i hi=>?_
 unfold wB
 rw[aq_,apo (by simpa using hi),Di]
theorem yj {i:Nat} {q:Nat→Bool}:(cI n p).set i (ic n q)=cI n fun a b=>if a=i then q b else p a b:=by
 refine Dj (by rw[apk,mh]) fun k hk=>?_
 rw[aqI]
 by_cases e:i=k
 ·subst e
  rw[apo rfl,apo (by rw[mh];exact hk)]
  congr 1
  exact kO fun j _=>by simp
 ·rw[apr e,sN hk]
  congr 1
  exact kO fun j _=>by rw[apr fun e2=>e e2.symm]
theorem tJ (h0:0≤i) (h:i<((n:Nat):Int)):rowAt (cI n p) i=ic n (p i.toNat):=sK (sN aq)
theorem CW (hi:kG ((n:Nat):Int) [i,j]=true):rW (cI n p) (i,j)=cI n fun a b=>p a b||(decide (a=i.toNat)&&decide (b=j.toNat)):=by
 obtain⟨⟨h1,h2⟩,h3,h4⟩:=ju.1 hi
 unfold rW
 dsimp only
 rw[tJ h1 h2,vn h3 h4,yj]
 refine dM fun a b ha hb=>?_
 by_cases e:a=i.toNat
 ·subst e;simp
 ·simp[e]
theorem Kj {n:Nat} {p:ib} {i j:Int}:eO ((n:Nat):Int) (cI n p) i j=(kG ((n:Nat):Int) [i,j]&&p i.toNat j.toNat):=by
 unfold eO
 cases h:kG ((n:Nat):Int) [i,j] with
 |false=>rfl
 |true=>
  obtain⟨⟨h1,h2⟩,h3,h4⟩:=ju.1 h
  rw[tJ h1 h2,ji,apt h3,apt h4];rfl
theorem QN (hi:kG ((n:Nat):Int) [i,j]=true):kg ((n:Nat):Int) (cI n p) i j=cI n fun a b=>p a b||(decide (a=i.toNat)&&decide (b=j.toNat)):=by
 rw[(qm hi).2.1,CW hi]
theorem aa7 {i j:Nat}:kG ((n:Nat):Int) [((i:Nat):Int),((j:Nat):Int)]=(decide (i<n)&&decide (j<n)):=by
 rw[adx,apF]
 simp only[eP,apl]
 omega
theorem u2 {i j:Nat} (hi:i<n) (hj:j<n):eO ((n:Nat):Int) (cI n p) ((i:Nat):Int) ((j:Nat):Int)=p i j:=by
 rw[Kj,aa7];simp[hi,hj]
theorem TN:∀x∈cI n p,x.length=words ((n:Nat):Int):=by
 intro x hx
 obtain⟨i,hi⟩:=apG.1 hx
 rw[(mZ hi).2,jO]
theorem BH (h:n≤4096):∀x∈cI n p,x.length≤1000000000:=by
 intro x hx
 rw[TN x hx,qR];omega
end Go.Ew
namespace Go.Ew
variable {aI:List aO} {i t:Int} {x:aO}
abbrev BQ:aO:=(0,0,false,0,0)
def j' (aI:List aO) (i:Nat):Int:=(aI.getD i BQ).1
def kP (aI:List aO) (i:Nat):Int:=(aI.getD i BQ).2.1
theorem JV (h:aI[i.toNat]? =some x):aI.getD i.toNat BQ=x:=by rw[gX,h];rfl
theorem gN (h:aI[i.toNat]? =some x):j' aI i.toNat=x.1:=by unfold j';rw[JV h]
theorem IP (h:aI[i.toNat]? =some x):kP aI i.toNat=x.2.1:=by unfold kP;rw[JV h]
structure ij (aI:List aO):Prop where
 first:0<aI.length→kP aI 0=0
 next:∀i,i+1<aI.length→(j' aI (i+1)=j' aI i∧kP aI (i+1)=kP aI i+1)∨(j' aI i<j' aI (i+1)∧kP aI (i+1)=0)
section
variable {aI:List aO} (o:ij aI)
include o
theorem ij.le:∀(d i:Nat),i+d<aI.length→j' aI i≤j' aI (i+d)
 |0,i,h=>asD _
 |d+1,i,h=>by
  have h1:=ij.le d i aq
  have h2:=o.next (i+d) aq
  rw[show i+(d+1)=i+d+1 from rfl];omega
theorem ij.mono {i j:Nat} (Kf:i≤j) (h:j<aI.length):j' aI i≤j' aI j:=by
 have:=o.le (j-i) i aq
 rwa [show i+(j-i)=j from by omega] at this
theorem ij.place:∀(d i:Nat),i+d<aI.length→j' aI i=j' aI (i+d)→kP aI (i+d)=kP aI i+((d:Nat):Int)
 |0,i,h,_=>by simp
 |d+1,i,h,hs=>by
  have h1:=o.mono (i:=i) (j:=i+d) aq aq
  have h2:=o.mono (i:=i+d) (j:=i+(d+1)) aq h
  have h3:=o.next (i+d) aq
  have e:i+(d+1)=i+d+1:=rfl
  rw[e] at hs h2 ⊢
  have ih:=ij.place d i aq aq
  omega
theorem ij.AK:∀i,i<aI.length→0≤kP aI i
 |0,h=>by rw[o.first h];exact asD _
 |i+1,h=>by
  have:=ij.AK i aq
  have:=o.next i h
  omega
theorem ij.back:∀i,i<aI.length→kP aI i≤((i:Nat):Int)∧∀k,((i:Nat):Int)-kP aI i≤((k:Nat):Int)→k≤i→j' aI k=j' aI i
 |0,h=>by
  rw[o.first h]
  exact⟨by omega,fun k _ hk=>by rw[show k=0 from by omega]⟩
 |i+1,h=>by
  obtain⟨h1,h2⟩:=ij.back i aq
  have h0:=o.AK (i+1) h
  rcases o.next i h with ⟨hs,hp⟩|⟨hs,hp⟩
  ·refine⟨by omega,fun k hk AS=>?_⟩
   by_cases e:k=i+1
   ·rw[e]
   ·rw[hs];exact h2 k aq aq
  ·refine⟨by omega,fun k hk AS=>?_⟩
   rw[show k=i+1 from by omega]
theorem ij.ahead {i j:Nat} (hi:i<aI.length) (hj:j<aI.length) (hs:j' aI i=j' aI j):(kP aI i<kP aI j↔i<j):=by
 rcases Nat.le_total i j with h|h
 ·have:=o.place (j-i) i aq<|by rw[show i+(j-i)=j from by omega];exact hs
  rw[show i+(j-i)=j from by omega] at this
  omega
 ·have:=o.place (i-j) j aq<|by rw[show j+(i-j)=i from by omega];exact hs.symm
  rw[show j+(i-j)=i from by omega] at this
  omega
end
theorem Wz (o:ij aI) (h0:aI.length=0→x.2.1=0) (h:∀n,aI.length=n+1→(x.1=j' aI n∧x.2.1=kP aI n+1)∨(j' aI n<x.1∧x.2.1=0)):ij (aI++[x]):=by
 have hold:∀i,i<aI.length→(aI++[x]).getD i BQ=aI.getD i BQ:=by
  intro i hi
  rw[gX,gX,pt hi]
 have Gl:(aI++[x]).getD aI.length BQ=x:=by
  rw[gX,oM (apn _)];simp
 refine⟨fun hl=>?_,fun i hi=>?_⟩
 ·by_cases e:aI.length=0
  ·have:=Gl
   rw[e] at this
   unfold kP;rw[this];exact h0 e
  ·have:=o.first aq
   unfold kP at this ⊢
   rw[hold 0 aq];exact this
 ·rw[gj,arc] at hi
  by_cases e:i+1<aI.length
  ·have:=o.next i e
   unfold j' kP at this ⊢
   rw[hold i aq,hold (i+1) e];exact this
  ·have e2:aI.length=i+1:=by omega
   have:=h i e2
   unfold j' kP at this ⊢
   rw[hold i aq,←e2,Gl]
   rcases this with ⟨a,b⟩|⟨a,b⟩
   ·exact .inl ⟨a,b⟩
   ·exact .inr ⟨a,b⟩
def Oh (aI:List aO) (j:Nat):Prop:=∀x∈aI,x.1<((j:Nat):Int)
theorem WX {n:Nat} (h:aI.length=n+1):aI.getD n BQ∈aI:=by
 rw[gX,eB aq]
 exact arH _
theorem O4 {j:Nat} {st:zM} {ops:List jL} (o:ij st.2) (hb:Oh st.2 j):∀k,k≤ops.length→
  ij (jS j st ops k).2∧Oh (jS j st ops k).2 (j+1)∧(0<k→∃n,(jS j st ops k).2.length=n+1∧j' (jS j st ops k).2 n=((j:Nat):Int)∧kP (jS j st ops k).2 n=((k:Nat):Int)-1)
 |0,_=>by
  rw[Bi]
  exact⟨o,fun x hx=>by have:=hb x hx;omega,fun h=>aq⟩
 |k+1,hk=>by
  obtain⟨ho,Cv,Y8⟩:=O4 (ops:=ops) o hb k aq
  have hx:ops[((k:Nat):Int).toNat]? =some ops[k]:=by rw[dS];exact eB aq
  rw[xT hx]
  unfold u9
  dsimp only
  refine⟨Wz ho (fun h0=>?_) (fun n hn=>?_),?_,fun _=>⟨(jS j st ops k).2.length,by simp,?_,?_⟩⟩
  ·show ((k:Nat):Int)=0
   by_cases cG:0<k
   ·obtain⟨n,h1, -⟩:=Y8 cG
    omega
   ·omega
  ·show (((j:Nat):Int)=_∧((k:Nat):Int)=_)∨(_<((j:Nat):Int)∧((k:Nat):Int)=0)
   by_cases cG:0<k
   ·obtain⟨n',h1,h2,h3⟩:=Y8 cG
    obtain rfl:n=n':=by omega
    exact .inl ⟨h2.symm,by rw[h3];omega⟩
   ·right
    have cG:k=0:=by omega
    subst cG
    rw[Bi] at hn ⊢
    exact⟨hb _ (WX hn),J⟩
  ·intro x hxm
   rcases apM.1 hxm with h|h
   ·exact Cv x h
   ·rw[aqD] at h
    subst h
    show ((j:Nat):Int)<_
    omega
  ·unfold j'
   rw[gX,oM (apn _)];simp
  ·unfold kP
   rw[gX,oM (apn _)]
   simp
theorem N3 (h:dp):∀j,j≤h.length→ij (iN h j).2∧Oh (iN h j).2 j
 |0,_=>⟨⟨fun h=>(by simp[iN] at h),fun i hi=>(by simp[iN] at hi)⟩,fun x hx=>(by simp[iN] at hx)⟩
 |j+1,hj=>by
  obtain⟨ho,hb⟩:=N3 h j aq
  have hx:h[((j:Nat):Int).toNat]? =some h[j]:=by rw[dS];exact eB aq
  rw[zI hx]
  have:=O4 (ops:=h[j]) ho hb _<|apn _
  exact⟨this.1,this.2.1⟩
theorem UP (h:dp):ij (eY h):=(N3 h h.length (apn _)).1
theorem Pv (h:dp):ij (cX h):=by
 unfold cX;split
 ·exact UP h
 ·exact⟨fun h=>(by simp at h),fun i hi=>(by simp at hi)⟩
def CA (aI:List aO) (i j:Nat):Bool:=decide (i<j)&&decide (j<aI.length)&&decide (j' aI i=j' aI j)
def pa (aI:List aO):Rows:=cI aI.length (CA aI)
def zT (aI:List aO) (t:Int):Rows:=cI aI.length fun a b=>decide (t<((a:Nat):Int))&&CA aI a b
theorem Q7 (aI:List aO) (t:Int) (h:(aI.length:Int)-2=t):wB (aI.length:Int)=zT aI t:=by
 rw[ze]
 refine dM fun a b ha hb=>?_
 unfold CA
 rw[apF]
 simp only[eP,apl,asq,false_iff]
 omega
theorem Wk (h:t<0):zT aI t=pa aI:=by
 refine dM fun a b ha hb=>?_
 rw[apt aq];rfl
theorem kX (h0:0≤t) (h1:t+1<(aI.length:Int)) (hs:j' aI t.toNat=j' aI (t+1).toNat) {x:Row} (hx:(zT aI t)[(t+1).toNat]? =some x):
  (zT aI t).set t.toNat (eo x (t+1))=zT aI (t-1):=by
 unfold zT at *
 obtain⟨h2,rfl⟩:=mZ hx
 rw[vn aq h1,yj]
 refine dM fun a b ha hb=>?_
 have e:(t+1).toNat=t.toNat+1:=by omega
 rw[e] at hs ⊢
 by_cases ea:a=t.toNat
 ·subst ea
  rw[apo rfl]
  unfold CA
  rw[apF]
  simp only[eP,apw,apl]
  constructor
  ·rintro(⟨_,⟨h3,h4⟩,h5⟩|h3)
   ·exact⟨by omega,⟨by omega,h4⟩,by rw[hs,h5]⟩
   ·subst h3;exact⟨by omega,⟨by omega,by omega⟩,hs⟩
  ·rintro⟨_,⟨h3,h4⟩,h5⟩
   by_cases e2:b=t.toNat+1
   ·exact .inr e2
   ·exact .inl ⟨by omega,⟨by omega,h4⟩,by rw[←hs,h5]⟩
 ·rw[apr ea,show decide (t<((a:Nat):Int))=decide (t-1<((a:Nat):Int)) from by rw[aqE];omega]
theorem G8 (o:ij aI) (h0:0≤t) (h1:t+1<(aI.length:Int)) (hs:¬j' aI t.toNat=j' aI (t+1).toNat):zT aI t=zT aI (t-1):=by
 refine dM fun a b ha hb=>?_
 have e:(t+1).toNat=t.toNat+1:=by omega
 rw[e] at hs
 by_cases ea:a=t.toNat
 ·subst ea
  rw[apv aq,asl]
  symm
  unfold CA
  rw[ar8]
  right
  rw[ar8]
  by_cases wW:t.toNat<b
  ·right
   rw[apA]
   intro he
   have g1:=o.mono (i:=t.toNat) (j:=t.toNat+1) aq aq
   have g2:=o.mono (i:=t.toNat+1) (j:=b) aq aq
   omega
  ·left
   rw[apv aq];rfl
 ·rw[show decide (t<((a:Nat):Int))=decide (t-1<((a:Nat):Int)) from by rw[aqE];omega]
def cF (aI:List aO) (t:Int):aE:=if 0≤t∧t<(aI.length:Int) then (List.range ((kP aI t.toNat).toNat+1)).map fun q=>(t-kP aI t.toNat)+((q:Nat):Int) else []
def vz (f:Int) (q:Nat):aE:=(List.range q).map fun k=>f+((k:Nat):Int)
theorem OF (f:Int) (q:Nat):vz f q++[f+((q:Nat):Int)]=vz f (q+1):=by unfold vz;rw[aqs,aqW];rfl
theorem Q_ (f:Int) (q:Nat):(vz f q).length=q:=by unfold vz;simp
theorem FW (h:¬(0≤t∧t<(aI.length:Int))):([]:aE)=cF aI t:=by unfold cF;rw[apr h]
theorem Tn {q:Nat} (h0:0≤t) (h:t<(aI.length:Int)) (hx:aI[t.toNat]? =some x) (hp:0≤x.2.1) (hq:((q:Nat):Int)=x.2.1+1):vz (t-x.2.1) q=cF aI t:=by
 unfold cF vz
 rw[apo ⟨h0,h⟩,IP hx,show x.2.1.toNat+1=q from by omega]
theorem aaD (aI:List aO):(pa aI).length=aI.length:=mh _ _
theorem Wj {i:Nat} {x:Row} (h:(zT aI t)[i]? =some x):x.length=words ((aI.length:Nat):Int):=by rw[(mZ h).2,jO]
theorem Oj {n:Nat} (h:n≤4096):words ((n:Nat):Int)≤64:=by rw[qR];omega
end Go.Ew
namespace Go.Ew
variable {rs:Rows} {j n i:Nat} {p:ib} {x:Row}
def Eu (n:Int) (r:Row):Bool:=decide (((r.length:Nat):Int)=((words n:Nat):Int))&&(List.range (64*r.length)).all fun k=>decide (((k:Nat):Int)<n)||!fy r ((k:Nat):Int)
def bL (n:Int) (rs:Rows):Bool:=Df n&&decide (((rs.length:Nat):Int)=n)&&rs.all (Eu n)
theorem S6 {n:Int} {r:Row} {j:Int} (hl:((r.length:Nat):Int)=((words n:Nat):Int)) (h:∀k:Int,n≤k→k<j→fy r k=false) (hj:64*((r.length:Nat):Int)≤j):Eu n r=true:=by
 unfold Eu
 rw[apt hl,aqc,aps]
 intro k hk
 have:=apq.1 hk
 by_cases hn:((k:Nat):Int)<n
 ·rw[apt hn];rfl
 ·rw[h _ aq aq];simp
theorem QX {n:Int} (h0:0≤n) (h1:n≤4096) (h2:((rs.length:Nat):Int)=n) (hs:(rs.take j).all (Eu n)=true) (hj:rs.length≤j):true=bL n rs:=by
 unfold bL;rw[l_ hj] at hs;rw[sY.2 ⟨h0,h1⟩,apt h2,hs];rfl
theorem lN (h:n≤4096):bL ((n:Nat):Int) (cI n p)=true:=by
 refine(QX (j:=(cI n p).length) aq aq (by rw[mh]) ?_<|apn _).symm
 rw[aqh,aps]
 intro x hx
 obtain⟨i,hi⟩:=apG.1 hx
 obtain⟨h1,rfl⟩:=mZ hi
 refine S6 (j:=64*(((ic n<|p i).length:Nat):Int)) (by rw[jO]) (fun k hk AT=>?_)<|asD _
 rw[ji,apv (show ¬k<((n:Nat):Int) from by omega)];simp
def cV (n:Int) (rs:Rows):Option Nat:=(List.range n.toNat).find? fun i=>eO n rs ((i:Nat):Int) ((i:Nat):Int)
theorem Xw {p:Nat→Bool} (hj:j<n) (hp:p j=true) (hl:∀k,k<j→p k=false):(List.range n).find? p=some j:=by
 rw[ary]
 refine⟨hp,List.range j,(List.range<|n-j-1).map (fun i=>j+1+i),?_,fun a ha=>by rw[hl a (apq.1 ha)];rfl⟩
 have:n=j+(1+(n-j-1)):=by omega
 conv=>lhs;rw[this]
 rw[nZ,nZ]
 simp[ar4]
theorem UK {p:Nat→Bool} (hj:n≤j) (hl:∀k,k<j→p k=false):(List.range n).find? p=none:=by
 rw[aqP]
 intro k hk
 rw[hl k (by have:=apq.1 hk;omega)];simp
theorem MF {n:Int} (hj:((j:Nat):Int)<n) (hp:eO n rs ((j:Nat):Int) ((j:Nat):Int)=true) (hl:∀k,k<j→eO n rs ((k:Nat):Int) ((k:Nat):Int)=false):cV n rs=some j:=Xw aq hp hl
theorem JR {n:Int} (hj:n≤((j:Nat):Int)) (hl:∀k,k<j→eO n rs ((k:Nat):Int) ((k:Nat):Int)=false):cV n rs=none:=UK aq hl
theorem Sa {p:Nat→Bool} (hl:∀k,k<j→p k=false) (h:p j=false):∀k,k<j+1→p k=false:=by
 intro k hk
 rcases aq3.1 hk with h1|rfl
 ·exact hl k h1
 ·exact h
def yW (rs:Rows) (i:Nat):List (Int×Int):=(cZ (rowAt rs ((i:Nat):Int))).map fun j=>(((i:Nat):Int),j)
def lD (rs:Rows) (i:Nat):List (Int×Int):=(List.range i).flatMap (yW rs)
def jg (n:Int) (rs:Rows):List (Int×Int):=lD rs n.toNat
theorem C' (rs:Rows) (i:Nat):lD rs (i+1)=lD rs i++yW rs i:=by unfold lD;rw[aqs,aq'];simp
theorem Hj (n:Nat) (q:Nat→Bool):cZ (ic n q)=((List.range n).filter q).map fun k=>((k:Nat):Int):=by
 rw[←TP]
 unfold Le
 congr 1
 have hl:=jO n q
 rw[qR] at hl
 have e:64*(ic n q).length=n+(64*(ic n q).length-n):=by omega
 rw[e,nZ,aqQ]
 have e2:((List.range (64*(ic n q).length-n)).map fun i=>n+i).filter (fun k=>fy (ic n q) ((k:Nat):Int))=[]:=by
  rw[aqv]
  intro k hk
  obtain⟨i, -,rfl⟩:=ap4.1 hk
  rw[ji,apv (show ¬(((n+i:Nat):Nat):Int)<((n:Nat):Int) from by omega)];simp
 rw[e2,aql]
 apply arz
 intro k hk
 have:=apq.1 hk
 rw[ji]
 simp[this]
theorem Bt (h:i<n):yW (cI n p) i=((List.range n).filter (p i)).map fun j=>(((i:Nat):Int),((j:Nat):Int)):=by
 unfold yW
 rw[tJ aq aq,dS,Hj,List.map_map];rfl
theorem zf {z:Int×Int}:z∈jg ((n:Nat):Int) (cI n p)↔∃a b,a<n∧b<n∧p a b=true∧z=(((a:Nat):Int),((b:Nat):Int)):=by
 unfold jg lD
 rw[asB]
 constructor
 ·rintro⟨a,ha,hz⟩
  have ha:=apq.1 ha
  rw[dS] at ha
  rw[Bt ha] at hz
  obtain⟨b,hb,rfl⟩:=ap4.1 hz
  rw[apE,apq] at hb
  exact⟨a,b,ha,hb.1,hb.2,J⟩
 ·rintro⟨a,b,ha,hb,hp,rfl⟩
  refine⟨a,apq.2 (by simpa using ha),?_⟩
  rw[Bt ha]
  exact ap4.2 ⟨b,apE.2 ⟨apq.2 hb,hp⟩,J⟩
def Mf (n:Nat) (p:ib):Nat:=((List.range n).map fun a=>((List.range n).filter (p a)).length).sum
theorem Tq:(jg ((n:Nat):Int) (cI n p)).length=Mf n p:=by
 unfold jg lD Mf
 rw[List.length_flatMap,dS]
 congr 1
 apply aqw
 intro a ha
 rw[Bt (apq.1 ha),apZ]
theorem OG {n:Nat} {p:ib}:(jg ((n:Nat):Int) (cI n p)).length≤n*n:=by
 rw[Tq];unfold Mf
 have:∀l:List Nat,(l.map fun a=>((List.range n).filter (p a)).length).sum≤l.length*n:=by
  intro l
  induction l with
  |nil=>simp
  |cons a l ih=>
   have h1:=aqn (p a)<|List.range n
   rw[arh] at h1
   simp only[apP,asr,jb,aqd,Nat.one_mul];omega
 have h:=this<|List.range n
 rwa [arh] at h
theorem S3 {rs:Rows} (hr:∀x∈rs,x.length≤64) (i:Nat):(yW rs i).length≤4096:=by
 unfold yW
 rw[apZ]
 have h1:=np<|rowAt rs ((i:Nat):Int)
 have:(rowAt rs ((i:Nat):Int)).length≤64:=by
  unfold rowAt
  rw[gX]
  cases h:rs[((i:Nat):Int).toNat]? with
  |none=>simp
  |some x=>exact hr x (dO h)
 omega
theorem E3 {rs:Rows} (hr:∀x∈rs,x.length≤64):∀i,(lD rs i).length≤4096*i
 |0=>by simp[lD]
 |i+1=>by
  have:=E3 hr i
  have:=S3 hr i
  rw[C',gj];omega
theorem V9 (hx:rs[((i:Nat):Int).toNat]? =some x):yW rs i=(cZ x).map fun j=>(((i:Nat):Int),j):=by unfold yW;rw[sK hx]
theorem Tt {q:Nat} {y:Int} (hy:(cZ x)[((q:Nat):Int).toNat]? =some y):(lD rs i++((cZ x).take q).map fun j=>(((i:Nat):Int),j))++[(((i:Nat):Int),y)]=lD rs i++((cZ x).take (q+1)).map fun j=>(((i:Nat):Int),j):=by
 rw[nX hy,aqW,apY];rfl
theorem Wx {q:Nat} (hx:rs[((i:Nat):Int).toNat]? =some x) (hq:(cZ x).length≤q):(lD rs i++((cZ x).take q).map fun j=>(((i:Nat):Int),j))=lD rs (i+1):=by
 rw[l_ hq,C',V9 hx]
theorem Ts {n:Int} (h:n≤((i:Nat):Int)) (hi:((i:Nat):Int)≤n∨i=0):lD rs i=jg n rs:=by
 unfold jg;rw[show n.toNat=i from by omega]
theorem To {aI:List aO} (o:ij aI) {t:Int} (h0:0≤t) (h:t<(aI.length:Int)):(((cF aI t).length:Nat):Int)=kP aI t.toNat+1:=by
 have:=o.AK t.toNat aq
 unfold cF;rw[apo ⟨h0,h⟩];simp;omega
theorem aaE {aI:List aO} (o:ij aI) {t:Int} (h0:0≤t) (h:t<(aI.length:Int)) {q:Nat} {x:Int} (hx:(cF aI t)[q]? =some x):0≤x∧x≤t∧x<(aI.length:Int)∧j' aI x.toNat=j' aI t.toNat∧kP aI x.toNat=((q:Nat):Int)∧x=t-kP aI t.toNat+((q:Nat):Int):=by
 obtain⟨b1,b2⟩:=o.back t.toNat aq
 have b0:=o.AK t.toNat aq
 unfold cF at hx
 rw[apo ⟨h0,h⟩,apx] at hx
 cases hr:(List.range ((kP aI t.toNat).toNat+1))[q]? with
 |none=>rw[hr] at hx;cases hx
 |some k=>
  rw[hr] at hx
  obtain⟨h1,h2⟩:=dZ.1 hr
  simp only[arh] at h1
  rw[arU] at h2
  subst h2
  have hx:(t-kP aI t.toNat)+((q:Nat):Int)=x:=apm hx
  have hs:=b2 x.toNat aq aq
  refine⟨by omega,by omega,by omega,hs,?_,hx.symm⟩
  have:=o.place (t.toNat-x.toNat) x.toNat aq<|by rw[show x.toNat+(t.toNat-x.toNat)=t.toNat from by omega];exact hs
  rw[show x.toNat+(t.toNat-x.toNat)=t.toNat from by omega] at this
  omega
theorem aaV (h:n≤4096):∀x∈cI n p,x.length≤64:=by
 intro x hx
 obtain⟨i,hi⟩:=asa hx
 obtain⟨-,rfl⟩:=mZ hi
 have h1:=jO n<|p i
 have:=FD (n:=((n:Nat):Int)) aq
 omega
end Go.Ew
namespace Go.Ew
variable {n:Nat}
theorem Wc {r:Row} (h:Eu ((n:Nat):Int) r=true):r=ic n fun k=>fy r ((k:Nat):Int):=by
 unfold Eu at h
 rw[eP,apl,aps] at h
 refine Av aq fun k=>?_
 by_cases hk:k<n
 ·simp[hk]
 ·rw[apv hk,asl]
  by_cases h2:k<64*r.length
  ·have:=h.2 k<|apq.2 h2
   rw[apv (show ¬((k:Nat):Int)<((n:Nat):Int) from by omega),are] at this
   simpa using this
  ·exact(yB<|by unfold jH;exact apv aq).symm
theorem ma {n:Int} {rs:Rows} (h:bL n rs=true):∃(m:Nat) (p:ib),n=((m:Nat):Int)∧m≤4096∧rs=cI m p:=by
 unfold bL at h
 rw[eP,eP,apl,aps] at h
 obtain⟨⟨h1,h2⟩,h3⟩:=h
 have h1:=sY.1 h1
 refine⟨n.toNat,fun i j=>fy (rs.getD i []) ((j:Nat):Int),by omega,by omega,Dj aq fun i hi=>?_⟩
 have hx:rs[i]? =some rs[i]:=eB aq
 have e:rs.getD i []=rs[i]:=by rw[gX,hx];rfl
 rw[hx,e]
 have:=Wc (n:=n.toNat) (r:=rs[i])<|by rw[show ((n.toNat:Nat):Int)=n from by omega];exact h3 _ (arH _)
 rw[←this]
theorem bU {n:Int} {rs:Rows} (h:bL n rs=true):((rs.length:Nat):Int)=n∧(∀x∈rs,x.length≤1000000000)∧n≤4096∧0≤n∧∀x∈rs,x.length≤64:=by
 obtain⟨m,p,rfl,hm,rfl⟩:=ma h
 exact⟨by rw[mh],BH hm,by omega,by omega,aaV hm⟩
def wA (a b:Rows) (n:Nat):Rows:=(List.range n).map fun i=>jT (rowAt a ((i:Nat):Int)) (rowAt b ((i:Nat):Int))
theorem Mn (a b:Rows) (n:Nat):(wA a b n).length=n:=by unfold wA;simp
theorem Tw (a b:Rows) (n:Nat):wA a b (n+1)=wA a b n++[jT (rowAt a ((n:Nat):Int)) (rowAt b ((n:Nat):Int))]:=by unfold wA;rw[aqs,aqW];rfl
def tN (an bn:Int):Int:=if an=bn then an else 0
def mc (an:Int) (ar:Rows) (bn:Int) (br:Rows):Rows:=if an=bn then wA ar br an.toNat else []
def yg (an bn:Int):Int:=if an=bn then 0 else 1
theorem Mp {an bn:Int} {ar br:Rows} (h:¬an=bn):tN an bn=0∧mc an ar bn br=[]∧yg an bn=1:=by unfold tN mc yg;simp[h]
theorem AD {an bn:Int} {ar br:Rows} (h:an=bn):tN an bn=an∧mc an ar bn br=wA ar br an.toNat∧yg an bn=0:=by unfold tN mc yg;simp[h]
def vB (a b:Rows) (n j:Nat):Rows:=wA a b j++List.replicate (n-j) []
theorem OJ (a b:Rows) (n:Nat):List.replicate n []=vB a b n 0:=by unfold vB wA;simp
theorem Q' {a b:Rows} {j:Nat} {x y:Row} (hj:j<n) (hx:a[((j:Nat):Int).toNat]? =some x) (hy:b[((j:Nat):Int).toNat]? =some y):(vB a b n j).set j (jT x y)=vB a b n (j+1):=by
 unfold vB
 rw[Tw,sK hx,sK hy]
 have hl:=Mn a b j
 rw[aqK _ _ aq,hl,aqq,show n-j=n-(j+1)+1 from by omega,aqf,aru]
 simp
theorem Ra {a b:Rows} {j:Nat} (hj:n≤j) (h:j≤n):vB a b n j=wA a b n:=by
 obtain rfl:n=j:=by omega
 unfold vB;simp
theorem IT (p q:Nat→Bool):jT (ic n p) (ic n q)=ic n fun k=>p k||q k:=by
 refine Av (by rw[Bz,jO,jO];omega) fun k=>?_
 rw[aa',ji,ji]
 by_cases hk:k<n<;>simp[hk]
theorem Tx (p q:ib):wA (cI n p) (cI n q) n=cI n fun a b=>p a b||q a b:=by
 refine Dj (Mn _ _ _) fun i hi=>?_
 unfold wA
 rw[apx,aqm hi]
 simp only[aqC]
 rw[tJ aq aq,tJ aq aq,dS,IT]
theorem Tp {p:ib} {z:Int×Int} {q:Nat} (h:(jg ((n:Nat):Int) (cI n p))[q]? =some z):0≤z.1∧z.1<((n:Nat):Int)∧0≤z.2∧z.2<((n:Nat):Int)∧p z.1.toNat z.2.toNat=true:=by
 obtain⟨a,b,ha,hb,hp,rfl⟩:=zf.1 (dO h)
 exact⟨by omega,by omega,by omega,by omega,by simpa using hp⟩
end Go.Ew
namespace Go.Ew
theorem kW {n:Int} {rs:Rows} (h:bL n rs=true):0≤n:=(bU h).2.2.2.1
section
variable {n:Int} {rs:Rows} {i j:Int} (h:bL n rs=true) (hi:kG n [i,j]=true)
include h hi
theorem SZ:bL (iu n i j) (kg n rs i j)=true:=by
 obtain⟨m,p,rfl,hm,rfl⟩:=ma h
 rw[(qm (rs:=cI m p) hi).1,QN hi]
 exact lN hm
end
theorem Ot {n:Int} {rs:Rows} (h:bL n rs=true):(jg n rs).length≤16777216:=by
 obtain⟨m,p,rfl,hm,rfl⟩:=ma h
 have h1:=OG (n:=m) (p:=p)
 have h2:m*m≤4096*4096:=Nat.mul_le_mul hm hm
 omega
end Go.Ew
namespace Go.Ew
variable {l:List Item} {i j q:Nat} {a b xs:Row} {n:Int}
theorem TW {B e:Nat} {iv fv:Value} (hj:l[j]? =some (own B e fv b)) (hi:i<l.length) (gI:i≠j∨(iv=fv∧b=a)) (E5:xs.length=a.length) (Hu:xs=qA a.length a b a q) (hq:q≤b.length) (hlen:b.length≤a.length):
  ∃ys:Row,(l.set i (own B e iv xs))[j]? =some (own B e fv ys)∧ys.length=b.length∧∀x,ys[((q:Nat):Int).toNat]? =some x→b.getD q 0#64=x:=by
 by_cases h:i=j
 ·subst h
  rcases gI with h|⟨rfl,rfl⟩
  ·exact absurd J h
  ·refine⟨xs,by rw[apH hi],E5,fun x hx=>?_⟩
   rw[Hu] at hx
   exact(By hx).symm
 ·exact⟨b,by rw[ap1 h,hj],J,fun x hx=>xH hx⟩
theorem TV {x y:bw} (hs:xs=qA a.length a b a q) (hx:b.getD q 0#64=x) (hy:xs[((q:Nat):Int).toNat]? =some y):xs.set ((q:Nat):Int).toNat (y ||| x)=qA a.length a b a (q+1):=by
 subst hs
 have e1:=By hy
 rw[dS]
 exact FX<|by rw[e1];unfold tO;rw[hx]
theorem W1 (hs:xs=qA a.length a b a q) (hlen:b.length≤a.length) (hq:b.length≤q):xs=jT a b:=by
 rw[hs]
 refine yd aq<|fun i h1 h2=>?_
 unfold tO
 rw[sQ (show b.length≤i by omega)];simp
theorem L0 {it:Item} (hi:i<l.length):(l.set i it)[i]? =some it:=apH hi
theorem set_set {l:List Item} {i:Nat} {x y:Item}:(l.set i x).set i y=l.set i y:=List.set_set ..
theorem aaq {x:Item} (h:l[i]? =some x):l.set i x=l:=by
 apply apX
 intro m
 rw[aqI]
 split
 ·rename_i e
  subst e
  split
  ·exact h.symm
  ·rename_i hl
   rw[apz aq]
 ·rfl
def Bl (z:Int×Int):Int×Int:=(z.2,z.1)
def gP (n:Int) (rs:Rows):Rows:=foldM n ((jg n rs).map Bl)
theorem QW {rs:Rows} (h:bL n rs=true) {z:Int×Int} (hz:(jg n rs)[q]? =some z):0≤z.1∧z.1<n∧0≤z.2∧z.2<n:=by
 obtain⟨m,p,rfl,hm,rfl⟩:=ma h
 obtain⟨h1,h2,h3,h4, -⟩:=Tp hz
 exact⟨h1,h2,h3,h4⟩
theorem xS {ps:List (Int×Int)} {x:Row} (h:(foldM n ps)[i]? =some x) {k:Int} (h0:0≤k) (h1:k<n):0≤k/64∧k/64<((x.length:Nat):Int)∧(k/64).toNat<x.length∧jH x k=true:=by
 have hr:=UE h
 have hw:x.length=(n.toNat+63)/64:=by rw[hr,←qR,show ((n.toNat:Nat):Int)=n from by omega]
 refine⟨by omega,by omega,by omega,MV h0 aq⟩
theorem SD {l:List (Int×Int)} {z:Int×Int} {xs:Rows} {x:Row} {u:bw} (hs:xs=foldM n ((l.map Bl).take j)) (hz:l[((j:Nat):Int).toNat]? =some z) (hx:xs[z.2.toNat]? =some x) (hu:x[(z.1/64).toNat]? =some u) (h0:0≤z.1) (h1:z.1<n):
  xs.set z.2.toNat (x.set (z.1/64).toNat (u ||| ku (z.1%64)))=foldM n ((l.map Bl).take (j+1)):=by
 have hr:=(xS (hs▸hx) h0 h1).2.2.2
 rw[RZ (p:=(z.2,z.1)) (by rw[apx,hz];rfl),←hs,O' hr hu]
 exact IJ hx
theorem VW {rs xs:Rows} (hs:xs=foldM n (((jg n rs).map Bl).take j)) (hj:(jg n rs).length≤j):xs=gP n rs:=by
 rw[hs,l_ (by rw[apZ];exact hj)];rfl
theorem SC (n:Int) (l:List (Int×Int)):List.replicate n.toNat (ej n)=foldM n ((l.map Bl).take 0):=rfl
theorem CP (n:Int) (rs:Rows):(gP n rs).length=n.toNat:=DV _ _
end Go.Ew
namespace Go.Ew
variable {m:Nat} {p:ib}
theorem HO {m:Nat}:∀(l:List (Int×Int)) (p:ib),(∀z∈l,kG ((m:Nat):Int) [z.1,z.2]=true)→l.foldl rW (cI m p)=cI m fun a b=>p a b||l.any fun z=>decide (a=z.1.toNat)&&decide (b=z.2.toNat)
 |[],p,_=>by
  show cI m p=_
  exact dM fun a b _ _=>by simp
 |z::l,p,h=>by
  rw[arP,show z=(z.1,z.2) from rfl,CW (h z ap'),HO l _ fun y hy=>h y (apT _ hy)]
  exact dM fun a b _ _=>by simp[Bool.or_assoc]
theorem R0 {l:List (Int×Int)} (h:∀z∈l,kG ((m:Nat):Int) [z.1,z.2]=true):foldM ((m:Nat):Int) l=cI m fun a b=>l.any fun z=>decide (a=z.1.toNat)&&decide (b=z.2.toNat):=by
 unfold foldM
 rw[ze,HO l _ h]
 exact dM fun a b _ _=>by simp
theorem Ww:∀z∈jg ((m:Nat):Int) (cI m p),kG ((m:Nat):Int) [z.1,z.2]=true:=by
 intro z hz
 obtain⟨a,b,ha,hb, -,rfl⟩:=zf.1 hz
 exact ju.2 ⟨⟨by omega,by omega⟩,by omega,by omega⟩
theorem Vx {a b:Nat} (ha:a<m) (hb:b<m):((jg ((m:Nat):Int) (cI m p)).any fun z=>decide (a=z.1.toNat)&&decide (b=z.2.toNat))=p a b:=by
 rw[apF,apO]
 constructor
 ·rintro⟨z,hz,h⟩
  obtain⟨c,d,hc,hd,hp,rfl⟩:=zf.1 hz
  simp only[dS,eP,apl] at h
  rw[h.1,h.2];exact hp
 ·intro hp
  exact⟨_,zf.2 ⟨a,b,ha,hb,hp,J⟩,by simp⟩
theorem Jp:gP ((m:Nat):Int) (cI m p)=cI m fun a b=>p b a:=by
 unfold gP
 rw[R0]
 ·refine dM fun a b ha hb=>?_
  rw[List.any_map,←Vx (p:=p) hb ha]
  congr 1
  funext z
  simp only[Function.comp,Bl]
  exact Bool.and_comm _ _
 ·intro z hz
  obtain⟨y,hy,rfl⟩:=ap4.1 hz
  have:=ju.1<|Ww y hy
  exact ju.2 ⟨this.2,this.1⟩
section
variable {n:Int} {rs:Rows} (h:bL n rs=true)
include h
theorem G0:bL n (gP n rs)=true:=by
 obtain⟨m,p,rfl,hm,rfl⟩:=ma h
 rw[Jp];exact lN hm
end
end Go.Ew
namespace Go.Ew
variable {n:Int} {mr xs:Rows} {i j k:Nat} {x y:Row} {p:ib}
theorem nY (h:bL n mr=true) (hx:mr[i]? =some x):x.length=words n:=by
 obtain⟨m,p,rfl,hm,rfl⟩:=ma h
 rw[(mZ hx).2,jO]
theorem Po (h:bL n mr=true) (hs:xs=mr.take j++List.replicate (n.toNat-j) (ej n)) (hj:j<mr.length) (hx:xs[((j:Nat):Int).toNat]? =some x):x=ej n:=by
 rw[dS,hs,oM (by rw[iH];omega),iH,aqk aq,aqq] at hx
 have:=dO hx
 exact(List.mem_replicate.1 this).2
theorem aaG (h:bL n mr=true) (hs:xs=mr.take j++List.replicate (n.toNat-j) (ej n)) (hy:mr[((j:Nat):Int).toNat]? =some y) (hx:xs[((j:Nat):Int).toNat]? =some x):y.length=x.length:=by
 have hj:=(dZ.1 hy).1
 rw[Po h hs (by simpa using hj) hx,qp,nY h hy]
theorem aaF (h:bL n mr=true) (hs:xs=mr.take j++List.replicate (n.toNat-j) (ej n)) (hy:mr[((j:Nat):Int).toNat]? =some y) (hx:xs[((j:Nat):Int).toNat]? =some x):0<x.length:=by
 have hj:=(dZ.1 hy).1
 have hl:=(bU h).1
 rw[Po h hs (by simpa using hj) hx,qp]
 have h0:1≤n:=by rw[dS] at hj;omega
 unfold words;omega
theorem Wy (h:bL n mr=true) (hs:xs=mr.take j++List.replicate (n.toNat-j) (ej n)) (hy:mr[((j:Nat):Int).toNat]? =some y):xs.set ((j:Nat):Int).toNat y=mr.take (j+1)++List.replicate (n.toNat-(j+1)) (ej n):=by
 have hj:=(dZ.1 hy).1
 have hl:=(bU h).1
 rw[nX hy]
 rw[dS] at hj ⊢
 have eH:(mr.take j).length=j:=by rw[iH];omega
 rw[hs,aqK _ _ aq,eH,aqq,show n.toNat-j=n.toNat-(j+1)+1 from by omega,aqf,aru]
 simp
theorem aaH (h:bL n mr=true) (hs:xs=mr.take j++List.replicate (n.toNat-j) (ej n)) (hj:mr.length≤j):xs=mr:=by
 have hl:=(bU h).1
 rw[hs,l_ hj,show n.toNat-j=0 from by omega];simp
def gi (rs:Rows) (i j:Nat):Bool:=fy (rs.getD i []) ((j:Nat):Int)
theorem C0 {rs:Rows} (h:bL n rs=true):rs=cI n.toNat (gi rs):=by
 obtain⟨m,p,rfl,hm,rfl⟩:=ma h
 rw[dS]
 refine dM fun i j hi hj=>?_
 unfold gi
 rw[gX,sN hi]
 show p i j=fy (ic m (p i)) _
 rw[ji];simp[hj]
def wM (p:ib):Nat→ib
 |0,a,b=>p a b
 |k+1,a,b=>wM p k a b||(wM p k a k&&wM p k k b)
def wR (p:ib) (k i a b:Nat):Bool:=if a<i then wM p (k+1) a b else wM p k a b
theorem aaj (p:ib) (k b:Nat):wM p (k+1) k b=wM p k k b:=by
 show (wM p k k b||(wM p k k k&&wM p k k b))=wM p k k b
 cases wM p k k b<;>simp
theorem aah (p:ib) (n k:Nat):cI n (wM p k)=cI n (wR p k 0):=dM fun a b _ _=>by unfold wR;simp
theorem ab9 (p:ib) {n:Nat} (h:n≤i):cI n (wR p k i)=cI n (wM p (k+1)):=dM fun a b ha _=>by unfold wR;rw[apo aq]
theorem Sy {n:Nat} (hx:(cI n (wR p k i))[i]? =some x):x=ic n (wM p k i):=by
 rw[(mZ hx).2]
 exact kO fun b _=>by unfold wR;rw[apr aq]
theorem aai {n:Nat} (hy:(cI n (wR p k i))[k]? =some y):y=ic n (wM p k k):=by
 rw[(mZ hy).2]
 exact kO fun b _=>by
  unfold wR;split
  ·exact aaj p k b
  ·rfl
theorem ab8 {n:Nat} (hs:xs=cI n (wR p k i)) (hx:xs[i]? =some x) (hy:xs[k]? =some y) (hk:k<n) (h:fy x ((k:Nat):Int)=true):xs.set i (jT x y)=cI n (wR p k (i+1)):=by
 subst hs
 rw[Sy hx] at h ⊢
 rw[aai hy,IT,yj]
 rw[ji] at h
 have tW:wM p k i k=true:=by simpa [hk] using h
 refine dM fun a b _ _=>?_
 by_cases e:a=i
 ·subst e
  rw[apo rfl]
  unfold wR
  rw[apo aq]
  show _=(wM p k a b||(wM p k a k&&wM p k k b))
  rw[tW,aqc]
 ·rw[apr e]
  unfold wR
  by_cases h2:a<i
  ·rw[apo h2,apo aq]
  ·rw[apr h2,apr aq]
theorem agb {n:Nat} (hs:xs=cI n (wR p k i)) (hx:xs[i]? =some x) (hk:k<n) (h:fy x ((k:Nat):Int)=false):xs=cI n (wR p k (i+1)):=by
 subst hs
 rw[Sy hx,ji] at h
 have tW:wM p k i k=false:=by simpa [hk] using h
 refine dM fun a b _ _=>?_
 unfold wR
 by_cases h2:a<i
 ·rw[apo h2,apo aq]
 ·by_cases e:a=i
  ·subst e
   rw[apr h2,apo aq]
   show _=(wM p k a b||(wM p k a k&&wM p k k b))
   rw[tW];simp
  ·rw[apr h2,apr aq]
def fl (n:Int) (rs:Rows):Rows:=cI n.toNat (wM (gi rs) n.toNat)
theorem LB {n q:Nat} (hx:(cI n (wR p k i))[q]? =some x):x.length=words ((n:Nat):Int):=by rw[(mZ hx).2,jO]
end Go.Ew
namespace Go.Ew
variable {p:ib} {a b n:Nat}
inductive TC (n:Nat) (p:ib):Nat→cg
 |one {a b:Nat}:a<n→b<n→p a b=true→TC n p a b
 |cons {a b c:Nat}:a<n→b<n→p a b=true→TC n p b c→TC n p a c
section
variable {n:Nat} {p q:ib} {a b c:Nat}
theorem TC.lt (h:TC n p a b):a<n∧b<n:=by
 induction h with
 |one h1 h2 _=>exact⟨h1,h2⟩
 |cons h1 _ _ _ ih=>exact⟨h1,ih.2⟩
theorem TC.trans (h:TC n p a b) (k:TC n p b c):TC n p a c:=by
 induction h with
 |one h1 h2 h3=>exact .cons h1 h2 h3 k
 |cons h1 h2 h3 _ ih=>exact .cons h1 h2 h3 (ih k)
theorem TC.mono (h:TC n p a b) (Hx:∀x y,x<n→y<n→p x y=true→q x y=true):TC n q a b:=by
 induction h with
 |one h1 h2 h3=>exact .one h1 h2 (Hx _ _ h1 h2 h3)
 |cons h1 h2 h3 _ ih=>exact .cons h1 h2 (Hx _ _ h1 h2 h3) ih
theorem TC.least {ai:Nat→cg} (h:TC n p a b) (h1:∀x y,x<n→y<n→p x y=true→ai x y) (h2:∀x y z,x<n→y<n→z<n→ai x y→ai y z→ai x z):ai a b:=by
 induction h with
 |one k1 k2 k3=>exact h1 _ _ k1 k2 k3
 |cons k1 k2 k3 k4 ih=>exact h2 _ _ _ k1 k2 k4.lt.2 (h1 _ _ k1 k2 k3) ih
theorem TC.last (h:TC n p a c):p a c=true∨∃b,TC n p a b∧p b c=true:=by
 induction h with
 |one _ _ h3=>exact .inl h3
 |cons h1 h2 h3 _ ih=>
  rcases ih with h|⟨b,h4,h5⟩
  ·exact .inr ⟨_,.one h1 h2 h3,h⟩
  ·exact .inr ⟨b,.cons h1 h2 h3 h4,h5⟩
end
theorem Bf {n:Nat} {p:ib}:∀k,k≤n→∀a b,a<n→b<n→wM p k a b=true→TC n p a b
 |0,_,a,b,ha,hb,h=>.one ha hb h
 |k+1,hk,a,b,ha,hb,h=>by
  have h:(wM p k a b||(wM p k a k&&wM p k k b))=true:=h
  rw[apw,eP] at h
  rcases h with h|⟨h1,h2⟩
  ·exact Bf k aq a b ha hb h
  ·exact(Bf k aq a k ha aq h1).trans (Bf k aq k b aq hb h2)
theorem O0 {k:Nat}:wM p (k+1) a b=true↔wM p k a b=true∨(wM p k a k=true∧wM p k k b=true):=by
 show (wM p k a b||(wM p k a k&&wM p k k b))=true↔_
 rw[apw,eP]
theorem QC {p:ib} {a b:Nat}:∀k,p a b=true→wM p k a b=true
 |0,h=>h
 |k+1,h=>O0.2 (.inl (QC k h))
theorem CK {p:ib}:∀k a b c,c<k→wM p k a c=true→wM p k c b=true→wM p k a b=true
 |0,_,_,_,h,_,_=>absurd h (aq2 _)
 |k+1,a,b,c,h,h1,h2=>by
  have ih:=fun a b c=>CK (p:=p) k a b c
  rw[O0] at h1 h2 ⊢
  by_cases hc:c<k
  ·rcases h1 with h1|⟨h1,h3⟩
   ·rcases h2 with h2|⟨h2,h4⟩
    ·exact .inl (ih _ _ _ hc h1 h2)
    ·exact .inr ⟨ih _ _ _ hc h1 h2,h4⟩
   ·rcases h2 with h2|⟨h2,h4⟩
    ·exact .inr ⟨h1,ih _ _ _ hc h3 h2⟩
    ·exact .inr ⟨h1,h4⟩
  ·have:c=k:=by omega
   subst this
   have e1:wM p c a c=true:=by
    rcases h1 with h1|⟨h1,_⟩<;>exact h1
   have e2:wM p c c b=true:=by
    rcases h2 with h2|⟨_,h2⟩<;>exact h2
   exact .inr ⟨e1,e2⟩
def cl (n:Nat) (p:ib) (a b:Nat):Bool:=wM p n a b
theorem rC (ha:a<n) (hb:b<n):cl n p a b=true↔TC n p a b:=
 ⟨Bf n (apn _) a b ha hb,fun h=>h.least (ai:=fun x y=>cl n p x y=true) (fun x y _ _ hp=>QC n hp) fun x y z _ hy _ h1 h2=>CK n x z y hy h1 h2⟩
theorem GI {q:ib} (h:∀a b,a<n→b<n→p a b=q a b) (ha:a<n) (hb:b<n):cl n p a b=cl n q a b:=by
 rw[apF,rC ha hb,rC ha hb]
 exact⟨fun k=>k.mono fun x y hx hy hp=>by rw[←h x y hx hy];exact hp,fun k=>k.mono fun x y hx hy hp=>by rw[h x y hx hy];exact hp⟩
theorem ud (h:p a b=true):cl n p a b=true:=QC n h
theorem yK {c:Nat} (hb:b<n) (h1:cl n p a b=true) (h2:cl n p b c=true):cl n p a c=true:=CK n a c b hb h1 h2
theorem jP (ha:a<n) (hb:b<n):gi (cI n p) a b=p a b:=by
 unfold gi
 rw[gX,sN ha]
 show fy (ic n (p a)) _=_
 rw[ji];simp[hb]
theorem Fi:fl ((n:Nat):Int) (cI n p)=cI n (cl n p):=by
 unfold fl
 rw[dS]
 exact dM fun a b ha hb=>GI (fun x y hx hy=>jP hx hy) ha hb
theorem pj {n:Int} {rs:Rows} (h:bL n rs=true):bL n (fl n rs)=true:=by
 obtain⟨m,p,rfl,hm,rfl⟩:=ma h
 rw[Fi];exact lN hm
def Cf (p:ib) (i j a b:Nat):Bool:=p a b||((decide (a=i)||p a i)&&(decide (b=j)||p j b))
theorem Ce {i j:Nat}:Cf p i j a b=true↔p a b=true∨((a=i∨p a i=true)∧(b=j∨p j b=true)):=by
 unfold Cf;simp
theorem Vz (h:∀i j k,i<n→j<n→k<n→p i j=true→p j k=true→p i k=true) {i j:Nat} (hi:i<n) (hj:j<n) (ha:a<n) (hb:b<n):
  cl n (fun x y=>p x y||(decide (x=i)&&decide (y=j))) a b=Cf p i j a b:=by
 rw[apF,rC ha hb]
 constructor
 ·intro k
  refine k.least (ai:=fun x y=>Cf p i j x y=true) (fun x y hx hy hp=>?_) fun x y z hx hy hz h1 h2=>?_
  ·simp only[apw,eP,apl] at hp
   exact Ce.2<|hp.imp id fun ⟨h1,h2⟩=>⟨.inl h1,.inl h2⟩
  ·rw[Ce] at h1 h2 ⊢
   rcases h1 with h1|⟨h1,h3⟩
   ·rcases h2 with h2|⟨h2,h4⟩
    ·exact .inl (h _ _ _ hx hy hz h1 h2)
    ·refine .inr ⟨.inr ?_,h4⟩
     rcases h2 with rfl|h2
     ·exact h1
     ·exact h _ _ _ hx hy hi h1 h2
   ·rcases h2 with h2|⟨h2,h4⟩
    ·refine .inr ⟨h1,.inr ?_⟩
     rcases h3 with rfl|h3
     ·exact h2
     ·exact h _ _ _ hj hy hz h3 h2
    ·exact .inr ⟨h1,h4⟩
 ·intro k
  have up:∀x y,x<n→y<n→p x y=true→TC n (fun x y=>p x y||(decide (x=i)&&decide (y=j))) x y:=fun x y hx hy hp=>.one hx hy (by simp[hp])
  rcases Ce.1 k with k|⟨h1,h2⟩
  ·exact up _ _ ha hb k
  ·have m:TC n (fun x y=>p x y||(decide (x=i)&&decide (y=j))) i j:=.one hi hj (by simp)
   have m2:TC n (fun x y=>p x y||(decide (x=i)&&decide (y=j))) a j:=by
    rcases h1 with rfl|h1
    ·exact m
    ·exact(up _ _ ha hi h1).trans m
   rcases h2 with rfl|h2
   ·exact m2
   ·exact m2.trans (up _ _ hj hb h2)
def ie (n:Int) (rs:Rows) (i j:Int):Rows:=if kG n [i,j] then (if eO n rs i j then rs else cI n.toNat (Cf (gi rs) i.toNat j.toNat)) else []
theorem Se {i j:Int} (hi:kG ((n:Nat):Int) [i,j]=true) (h:∀i j k,i<n→j<n→k<n→p i j=true→p j k=true→p i k=true):
  ie ((n:Nat):Int) (cI n p) i j=cI n (cl n fun a b=>p a b||(decide (a=i.toNat)&&decide (b=j.toNat))):=by
 have hr:=ju.1 hi
 unfold ie
 rw[apo hi,Kj,hi,aqc,dS]
 split
 ·rename_i hp
  refine dM fun a b ha hb=>?_
  rw[Vz h aq aq ha hb,apF,Ce]
  refine⟨.inl,fun k=>?_⟩
  rcases k with k|⟨h1,h2⟩
  ·exact k
  ·have m2:p a j.toNat=true:=by
    rcases h1 with rfl|h1
    ·exact hp
    ·exact h _ _ _ ha aq aq h1 hp
   rcases h2 with rfl|h2
   ·exact m2
   ·exact h _ _ _ ha aq hb m2 h2
 ·refine dM fun a b ha hb=>?_
  rw[Vz h aq aq ha hb]
  unfold Cf
  rw[jP ha hb,jP ha aq,jP aq hb]
theorem OV {n:Int} {rs:Rows} {i j:Int} (h:bL n rs=true):bL (iu n i j) (ie n rs i j)=true:=by
 unfold iu ie
 split
 ·split
  ·exact h
  ·obtain⟨m,p,rfl,hm,rfl⟩:=ma h
   rw[dS];exact lN hm
 ·rfl
def rX (l:List Nat):aE:=l.map fun k=>((k:Nat):Int)
def wP (n:Nat) (f:Nat→Bool):aE:=rX ((List.range n).filter f)
theorem xF {f:Nat→Bool} {z:Int}:z∈wP n f↔∃k,k<n∧f k=true∧z=((k:Nat):Int):=by
 unfold wP rX
 simp only[ap4,apE,apq]
 constructor
 ·rintro⟨k,⟨h1,h2⟩,rfl⟩;exact⟨k,h1,h2,rfl⟩
 ·rintro⟨k,h1,h2,rfl⟩;exact⟨k,⟨h1,h2⟩,rfl⟩
theorem PF (n:Nat) (f:Nat→Bool):(wP n f).length≤n:=by
 unfold wP rX
 rw[apZ]
 have:=aqn f<|List.range n
 simpa using this
theorem zg (n:Nat) (f:Nat→Bool):cZ (ic n f)=wP n f:=Hj n f
end Go.Ew
