/- Engine, part P: function values that are handed in; blocks that are only read; small words on lists. -/
import Derived.Test.YtgjakhpjmapelaaGreatDoorOwnA
import Derived.WalkKit
import Derived.ProofKit
import Derived.OpenShut
import Derived.ReadAgain
import Derived.ChangeStays
import Derived.Below
import Derived.ChangeSame
import Derived.ArgAppend
import Derived.Laws.CopyRow
import Derived.LaidMore
import Derived.Stop.Joined
import Derived.Laws.StructEq
import Derived.ChangeKeysEq
import Derived.MapKept
import Derived.Laws.BytesArg
set_option linter.unusedVariables false
set_option linter.unusedSimpArgs false
set_option linter.unusedSectionVars false
namespace Go.Ew
open Go.RowKit
def ro (b:Nat) (cs:Array Value) (t:TypeId):Item:=⟨none,fun M w=>w.heap[b]? =some (.cells cs t (0,0))∧¬M b,fun h u _=>by
 have hb:b<_:=(amN.1 h.1).1
 have:=u.2 b hb h.2
 exact⟨this.1.trans h.1,this.2⟩⟩
section
variable {P:Program} {n:Nat} {ops:Array Oper} {f:aS} {w w0 w':World} {K:aS→World→Prop} {M0:Nat→Prop} {l:List Item}
variable {d:Nat} {T ty e:TypeId} {ps:String} {af:Array Edge} {x y:Operand} {v:Value}
theorem vA {bb off:Nat} {cs:Array Value} {t:TypeId} {k bytes:Nat} {agg:Bool} {z:Value} (H:HI M0 w0 w l) (i:Nat) (hi:l[i]? =some (ro bb cs t)) (F:eh P T k agg bytes z) (ox:bG n x=true) (hx:ev f x=.pointer (some ⟨bb,off,none⟩))
  (hk:agg=false→k=1) (hl:((cs.toList.drop off).take k).length=k) (h:K (b9 f d (sc agg ((cs.toList.drop off).take k))) w):SO P n ops ⟨some d,.load T x,ty,ps,af,none⟩ f w K:=by
 have hb:w.heap[bb]? =some (.cells cs t (0,0)):=(H.at_ i hi).1
 refine SO.value (v:=sc agg ((cs.toList.drop off).take k)) ?_ h
 have hc:∀j u,((cs.toList.drop off).take k)[j]? =some u→w.cell? ((⟨bb,off,none⟩:Addr).add j)=some u:=by
  intro j u hu
  rw[show (⟨bb,off,none⟩:Addr).add j=⟨bb,off+j,none⟩ from by unfold Addr.add;split<;>simp_all,cell_of_row w bb (off+j) cs t (0,0) hb]
  have hj:j<k:=by
   have:=(ef.1 hu).1
   omega
  rw[amL,aml hj,amY] at hu
  simpa using hu
 simp[execOp,aO ox,hx,Instr.loadAt,Instr.sureAddr,rn F hk hl hc]
theorem lr {bb off:Nat} {cs:Array Value} {t:TypeId} {bytes:Nat} {z:Value} (H:HI M0 w0 w l) (i:Nat) (hi:l[i]? =some (ro bb cs t)) (F:eh P T 1 false bytes z) (ox:bG n x=true) (hx:ev f x=.pointer (some ⟨bb,off,none⟩))
  (hl:((cs.toList.drop off).take 1).length=1) (h:K (b9 f d (sc false ((cs.toList.drop off).take 1))) w):SO P n ops ⟨some d,.load T x,ty,ps,af,none⟩ f w K:=vA H i hi F ox hx (fun _=>rfl) hl h
end
def FP {α:Type} [GT α] (P:Program) (g:FuncId) (ae:List Value) (M:Nat→Prop) (w:World) (xs:List α) (p:α→Bool):Prop:=
 ct P g∧∀w1 v x,x∈xs→Ext w w1→RV M w1 v x→Calls P g ([v]++ae).toArray w1 (cb fun u w2=>u=.bool (p x)∧Ext w1 w2)
theorem FP.sub {α:Type} [GT α] {P:Program} {g:FuncId} {ae:List Value} {M M':Nat→Prop} {w w':World} {xs:List α} {p:α→Bool} (h:FP P g ae M w xs p) (e:Ext w w') (hM:∀b,M b→M' b):FP P g ae M' w' xs p:=
 ⟨h.1,fun w1 v x hx e' hv=>h.2 w1 v x hx (e.trans e') (hv.lift (Up.less fun b _ hb=>hM b hb))⟩
theorem T3 {M0:Nat→Prop} {l:List Item}:∀b,M0 b→MS M0 l b:=fun _ h=>.inl h
theorem nB {α:Type} {r:List α} {k:Nat} {x:α} (h:r[((k:Nat):Int).toNat]? =some x):r.take (k+1)=r.take k++[x]:=by
 rw[dZ] at h
 rw[amW,h];rfl
theorem lV {α:Type} {r:List α} {k:Nat} (h:r.length≤k):r.take k=r:=amr h
theorem pe {α:Type} {r:List α} {k:Nat} {x:α} {p:α→Bool} (h:r[((k:Nat):Int).toNat]? =some x) (h1:(r.take k).any p=false) (h2:p x=false):(r.take (k+1)).any p=false:=by
 rw[nB h];simp[h1,h2]
def eF {α:Type} (p:α→Bool) (r:List α):Int:=match r.findIdx? p with|some i=>i|none=> -1
theorem tW {α:Type} {r:List α} {k:Nat} {x:α} {p:α→Bool} (h:r[((k:Nat):Int).toNat]? =some x) (h1:(r.take k).any p=false) (h2:p x=true):(k:Int)=eF p r:=by
 rw[dZ] at h
 obtain⟨hk,hx⟩:=ef.1 h
 have:r.findIdx? p=some k:=by
  rw[amP]
  refine⟨hk,by rw[hx];exact h2,fun j hj=>?_⟩
  have hm:r[j]∈r.take k:=by
   rw[List.mem_take_iff_getElem]
   exact⟨j,by omega,J⟩
  have:=aob.1 h1 _ hm
  simpa using this
 simp[eF,this]
theorem uK {α:Type} {r:List α} {k:Nat} {p:α→Bool} (h1:(r.take k).any p=false) (h2:r.length≤k):(-1:Int)=eF p r:=by
 rw[lV h2] at h1
 have:r.findIdx? p=none:=by
  rw[aoe]
  intro x hx
  simpa using aob.1 h1 x hx
 simp[eF,this]
theorem wW {α:Type} {p:α→Bool} {r:List α}:decide ((0:Int)≤eF p r)=r.any p:=by
 unfold eF
 cases h:r.findIdx? p with
 |none=>
  rw[aoe] at h
  have:r.any p=false:=aob.2 (by intro x hx;simp[h x hx])
  simp[this]
 |some i=>
  rw[amP] at h
  obtain⟨hi,hp,_⟩:=h
  have:r.any p=true:=amR.2 ⟨_,aox hi,hp⟩
  simp[this]
theorem vV {α:Type} {p:α→Bool} {r:List α}: -1≤eF p r∧eF p r≤r.length:=by
 unfold eF
 cases h:r.findIdx? p with
 |none=>simp only[];omega
 |some i=>
  rw[amP] at h
  obtain⟨hi,_⟩:=h
  simp only[];omega
theorem aP {α:Type} [GT α] {M:Nat→Prop} {w:World} {a:Option Addr} {n c:Nat} {xs:List α} (h:RV M w (.slice a n c) xs):xs.length≤9223372036854775807:=by
 obtain⟨a',m,c',e,h2,h3,h4, -⟩:=RV.list.1 h
 injection e with e1 e2 e3
 unfold maxLen at h4
 omega
def bj {α:Type} [GT α] (M:Nat→Prop) (e:TypeId) (w0:World) (xs:List α) (v:Value) (w:World):Prop:=
 Ext w0 w∧(∀b,v.ownBlock=some b→b<w.heap.size)∧(own w0.heap.size e v xs).holds (fun b=>M b∨v.ownBlock=some b) w
section
variable {M0:Nat→Prop} {w0 w w':World} {l:List Item} {α:Type} [GT α] {v:Value} {xs:List α} {e:TypeId}
theorem HI.eI (H:HI M0 w0 w l) (h:bj (MS M0 l) e w xs v w'):HI M0 w0 w' (own w0.heap.size e v xs::l):=by
 obtain⟨hx,hb,cs,h1,h2⟩:=h
 have yS:∀(B:Nat),B≤w.heap.size→w'.ownsRow B e (GT.size α) v xs.length cs:=by
  intro B hB
  refine⟨h1.1,?_⟩
  rcases h1.2 with h3|⟨g,cap,cur,rfl,h3,h4⟩
  ·exact .inl h3
  ·exact .inr ⟨g,cap,cur,J,Nat.le_trans hB h3,h4⟩
 have Bv:∀b,v.ownBlock=some b→w.heap.size≤b:=fun b vC=>(h1.lt b vC).1
 cases hv:v.ownBlock with
 |none=>
  refine(H.ext hx).put hv ⟨cs,yS _ H.below.size,bu.lift (Up.less ?_) h2⟩
  intro b By hM
  exact .inl hM
 |some b=>
  refine H.new hx b hv (Bv b hv) (hb b hv) ⟨cs,yS _ H.below.size,bu.lift (Up.less ?_) h2⟩
  rintro c hc (hM|⟨it,hit,abS⟩)
  ·exact .inl (.inl hM)
  ·rcases amz.1 hit with rfl|hit
   ·exact .inr abS
   ·exact .inl (.inr ⟨it,hit,abS⟩)
theorem HI.da (H:HI M0 w0 w l) (i:Nat) (hi:l[i]? =some (own w0.heap.size e v xs)):bj M0 e w0 xs v w:=by
 obtain⟨cs,h1,h2⟩:=H.at_ i hi
 refine⟨H.below,fun b hb=>(vT H hi b hb).2,cs,h1,bu.lift (Up.less ?_) h2⟩
 rintro b _ (hM|hb)
 ·exact .inl hM
 ·exact .inr ⟨_,dJ hi,hb⟩
theorem fL {M:Nat→Prop} (h:Ext w0 w):bj M e w0 ([]:List α) (.slice none 0 0) w:=⟨h,fun b hb=>(by cases hb),[],World.ownsRow_nil w _ e _,rfl⟩
theorem bj.rv {M:Nat→Prop} (h:bj M e w xs v w') (hM:∀b,M b→b<w.heap.size):RV M w' v xs:=by
 obtain⟨_,hb,ho⟩:=h
 refine zy ho (fun b _ uP=>.inl uP)<|fun b vC hMb=>?_
 obtain⟨cs,h1,_⟩:=ho
 have:=(h1.lt b vC).1
 have:=hM b hMb
 omega
end
section
variable {α:Type} {β:Type} {γ:Type} {δ:Type} {ε:Type} {ζ:Type} {V:Type} {a a':α} {b b':β} {c c':γ} {d d':δ} {e e':ε} {z z':ζ}
theorem iq (f:α→V) (h1:a=a'):f a=f a':=by rw[h1]
theorem nr (f:α→β→V) (h1:a=a') (h2:b=b'):f a b=f a' b':=by rw[h1,h2]
theorem qH (f:α→β→γ→V) (h1:a=a') (h2:b=b') (h3:c=c'):f a b c=f a' b' c':=by rw[h1,h2,h3]
theorem Tt (f:α→β→γ→δ→V) (h1:a=a') (h2:b=b') (h3:c=c') (h4:d=d'):f a b c d=f a' b' c' d':=by rw[h1,h2,h3,h4]
end
theorem mG {α:Type} [GT α] {M0:Nat→Prop} {l:List Item} {it:Item} {w:World} {v:Value} {x:α} (hn:it.jx=none) (h:RV (MS M0 (it::l)) w v x):RV (MS M0 l) w v x:=by rwa [aE hn] at h
end Go.Ew
namespace Go.Ew
open Go.RowKit Go.WideShapes Go.ChangeShapes
abbrev MG:Nat→Prop:=fun _=>False
section
variable {P:Program} {t e:TypeId}
theorem Ty {W:World} {a:Addr} {n:Nat} {cs:List Value} (h:W.cells? 0 a n=some cs):∀j v,cs[j]? =some v→W.cell? (a.add j)=some v:=by
 intro j v hv
 simp only[World.cells?,anB,anV] at h
 have hl:=mapM_some_length h
 have hj:j<cs.length:=(ef.1 hv).1
 rw[an'] at hl
 have:=mapM_some_get h j j<|by rw[ang aq]
 rw[this,hv]
theorem Eg {α:Type} {Q:Nat→α→Prop}:∀n:Nat,(∀i,i<n→∃y,Q i y)→∃l:List α,l.length=n∧∀(i:Nat) (y:α),l[i]? =some y→Q i y
 |0,_=>⟨[],rfl,fun i y h=>by simp at h⟩
 |n+1,h=>by
  obtain⟨l,hl,hq⟩:=Eg n fun i hi=>h i aq
  obtain⟨y,hy⟩:=h n aq
  refine⟨l++[y],by simp[hl],fun i z hz=>?_⟩
  by_cases hi:i<l.length
  ·rw[qK hi] at hz;exact hq i z hz
  ·rw[oR aq] at hz
   have I5:i-l.length=0:=by
    have:=(ef.1 hz).1
    simp at this;omega
   rw[I5] at hz
   simp at hz
   subst hz
   rw[show i=n from by omega]
   exact hy
section
variable {H:Type} {enc:TypeId×Value→H} {W:World} {base:Nat} {v:Value} {d:DataW H} {ps:List MemPlace}
theorem DN {W':World} {T:TypeId→Prop} (K:Kids P T) (hz:∀t e,T t→P.underlying t=some (.slice e)→0<P.cellsOf e) (e:Ext W W') {sp:Nat→Bool}:
  ∀{ts:List TypeId} {vs:List Value} {ds:List (DataW H)} {ps:List MemPlace},(∀t∈ts,T t)→DataW.TrodAll enc P W 0 (fun _=>true) true ts vs ds ps→(∀p∈ps,sp p.block=true)→DataW.TrodAll enc P W' 0 sp true ts vs ds ps
 |[],[],[],_,_,h,_=>h
 |t::_,v::_,_::_,_,hT,⟨p,q,⟨n,h1⟩,h2,hp⟩,hs=>by
  refine⟨p,q,⟨n,?_⟩,DN K hz e (fun t ht=>hT t (amz.2<|Or.inr ht)) h2 (fun x hx=>hs x (by rw[hp];exact anu _ hx)),hp⟩
  have hr:=DataW.trod_respare K hz n _ _ _ (hT _<|amz.2<|Or.inl J) h1 (spare':=sp)<|fun x hx=>hs x (by rw[hp];exact anA _ hx)
  exact DataW.trod_carry n _ _ _ hr fun x hx=>Below.same e.toBelow (DataW.trod_lt n _ _ _ h1 x hx)
 |[],[],_::_,_,_,h,_=>h.elim
 |[],_::_,_,_,_,h,_=>h.elim
 |_::_,[],_,_,_,h,_=>h.elim
 |_::_,_::_,[],_,_,h,_=>h.elim
theorem R7 {f:Func} {s:ChangeSpec} {apart fresh handsOn again:Bool} {W W':World} {args:Array Value} {ds gs:List (DataW H)} {before:List MemPlace} {tb:TypeId}
  (K:Kids P (·<P.types.size)) (hz:∀t e,t<P.types.size→P.underlying t=some (.slice e)→0<P.cellsOf e) (hts:∀t∈f.params.toList,t<P.types.size)
  (Xd:s.vars=[]) (hW:DataW.Whole enc P f.params.toList s.vars apart W args.toList ds gs before) (e:Ext W W') (hrt:f.resultTypes=#[tb]) (hu:P.underlying tb=some .bool)
  (h1:(s.fn H (ds++gs)).results=[.lit (.bool true)]) (h2:(s.fn H (ds++gs)).args=ds) (h3:(s.fn H (ds++gs)).vars=[]):
  s.post enc P f apart fresh handsOn again W args (.bool true) W':=by
 have eM:∀p∈before,p.block<W.heap.size:=fun p hp=>hW.lt p hp
 have hW2:=hW
 obtain⟨p,q,hA,hV,Gw,hfz,lD⟩:=hW2
 rw[Xd] at hV
 have hq:gs=[]∧q=[]:=by
  cases gs with
  |nil=>exact⟨rfl,hV⟩
  |cons _ _=>exact hV.elim
 obtain⟨rfl,rfl⟩:=hq
 rw[anR] at Gw
 subst Gw
 have hold:∀x∈before,(fun b=>decide (b<W.heap.size)) x.block=true:=fun x hx=>by simpa using eM x hx
 have abA:∀(b:Nat) (sp:Nat→Bool) (hd:Bool),DataW.TrodAll enc P W' b sp hd f.resultTypes.toList ((Value.bool true).resultList f.resultTypes.size) (s.fn H (ds++[])).results []:=by
  intro b sp hd
  rw[h1,hrt]
  exact trodAll_mk1<|shut_bool hu _
 have P_:∀sp:Nat→Bool,(∀x∈before,sp x.block=true)→DataW.TrodAll enc P W' 0 sp true f.params.toList args.toList (s.fn H (ds++[])).args before:=by
  intro sp hsp
  rw[h2]
  exact DN K hz e hts hA hsp
 have hvs:∀sp:Nat→Bool,DataW.TrodVars enc P W' sp s.vars (s.fn H (ds++[])).vars []:=by
  intro sp
  rw[h3,Xd]
  rfl
 refine⟨ds,[],before,[],before,[],hW,abA _ _ _,P_ _ hold,hvs _,World.keptBut_mono (fun x hx=>⟨hx,.inr (.inl hx)⟩) (e.frame (·∈before)),fun _=>?_⟩
 refine⟨ok_one (by rw[hrt]) rfl (okWide_bool_mk hu _),(s.fn H<|ds++[]).results++(s.fn H<|ds++[]).args,(s.fn H<|ds++[]).vars,([]++before)++[],⟨[]++before,[],trodAll_append (P_ _<|fun _ _=>rfl) (abA _ _ _),hvs _,J,?_,?_⟩,?_⟩
 ·intro b off hp
  have sg:MemPlace.cell b off∈before:=by simpa using hp
  rw[Below.frozen e.toBelow (eM _ sg)]
  exact hfz b off sg
 ·intro ha
  simpa using lD ha
 ·intro x hx _
  simpa using hx
end
end
end Go.Ew
namespace Go.Ew
open Go.RowKit
def Py (Φ:List (Nat→Nat→Value→World→Prop)) (i lo hi:Nat):Value→World→Prop:=Φ.getD i (fun _ _ _ _=>True) lo hi
structure T6 (P:Program) (n:Nat) (l:List Oper) (k:Nat) (Φ:List (Nat→Nat→Value→World→Prop)) (f0:aS) (w0:World) (i:Nat) (o:Oper):Prop where
 go:∀f w,(∀t,(i' k l).contains t=false→f t=f0 t)→Ext w0 w→(∀j,kH o j=true→Nat.blt j k=true→∃lo hi,w0.heap.size≤lo∧hi≤w.heap.size∧Py Φ j lo hi (f (iM l j)) w)→
  SO P n l.toArray o f w (fun f' w'=>∃v,f'=cU f o.dst v∧Ext w w'∧Py Φ i w.heap.size w'.heap.size v w')
 mono:∀lo hi v w w',Ext w w'→Py Φ i lo hi v w→Py Φ i lo hi v w'
def wm (P:Program) (n:Nat) (l:List Oper) (k:Nat) (Φ:List (Nat→Nat→Value→World→Prop)) (f0:aS) (w0:World):Nat→List Oper→Prop
 |_,[]=>True
 |i,o::r=>(Nat.blt i k=true→T6 P n l k Φ f0 w0 i o)∧wm P n l k Φ f0 w0 (i+1) r
section
variable {P:Program} {n:Nat} {l:List Oper} {k:Nat} {Φ:List (Nat→Nat→Value→World→Prop)} {f0:aS} {w0:World}
theorem wm.at_:∀(r:List Oper) (i:Nat),wm P n l k Φ f0 w0 i r→∀j o,r[j]? =some o→Nat.blt (i+j) k=true→T6 P n l k Φ f0 w0 (i+j) o
 |[],_,_,j,o,h,_=>by simp at h
 |x::r,i,h,0,o,hj,hk=>by
  simp only[amw,amu] at hj
  subst hj
  exact h.1 hk
 |x::r,i,h,j+1,o,hj,hk=>by
  simp only[amD] at hj
  have:=wm.at_ r (i+1) h.2 j o hj<|by rw[show i+1+j=i+(j+1) from by omega];exact hk
  rwa [show i+1+j=i+(j+1) from by omega] at this
theorem wm.rest {i:Nat} (h:Nat.ble k i=true):∀r,wm P n l k Φ f0 w0 i r:=by
 intro r
 induction r generalizing i with
 |nil=>exact trivial
 |cons o r ih=>
  simp only[ao3] at h
  exact⟨fun hk=>by simp only[aom] at hk;omega,ih (by simp only[ao3];omega)⟩
section
variable {M0:Nat→Prop} {zl w w':World} {l:List Item} {v:Value} {z:Value} {T:TypeId} {lo hi:Nat}
def QL (b:Nat) (cs:Array Value) (t:TypeId) (lo hi:Nat) (w:World):Prop:=lo≤b∧b<hi∧w.heap[b]? =some (.cells cs t (0,0))
theorem QL.ext {b:Nat} {cs:Array Value} {t:TypeId} (h:QL b cs t lo hi w) (e:Ext w w'):QL b cs t lo hi w':=
 ⟨h.1,h.2.1,(e.block b (amN.1 h.2.2).1).trans h.2.2⟩
theorem HI.laid {b:Nat} {cs:Array Value} {t:TypeId} (H:HI M0 zl w l) (x:Ext w w') (hb:w.heap.size≤b) (h:w'.heap[b]? =some (.cells cs t (0,0))):HI M0 zl w' (box b cs t::l):=
 H.new x b rfl hb (amN.1 h).1 h
end
section
variable {x:Operand} {v:Value} {ops:Array Oper} {f:aS} {w:World} {K:aS→World→Prop} {d:Nat} {ty T:TypeId} {ps:String} {af:Array Edge} {bytes size:Nat} {agg:Bool} {z:Value}
end
end
end Go.Ew
namespace Go.Ew
open Go.RowKit
inductive Kd where
 |v
 |n
 |s (a j:Nat)
def abc:Kd→Option Nat
 | .s a _=>some a
 |_=>none
def PM (Ks:List Kd) (i:Nat):Kd:=Ks.getD i .v
def Hw (Φ:List (Value→Prop)) (i:Nat):Value→Prop:=Φ.getD i (fun _=>True)
def zg (Z:List (Array Value×TypeId)) (i:Nat):Array Value×TypeId:=Z.getD i (#[],0)
def Yc (P:Program) (n:Nat) (l:List Oper) (Ks:List Kd) (Φ:List (Value→Prop)) (Z:List (Array Value×TypeId)) (f0:aS) (w0:World) (i:Nat) (o:Oper):Prop:=
 match PM Ks i with
 | .v=>o.dst.isSome=true∧∀f w,(∀t,(i' l.length l).contains t=false→f t=f0 t)→Ext w0 w→(∀j,kH o j=true→(∃x,l[j]? =some x∧x.dst.isSome=true)→Hw Φ j (f (iM l j)))→
   SO P n l.toArray o f w (fun f' w'=>∃v,f'=cU f o.dst v∧w'=w∧Hw Φ i v)
 | .n=>o.dst.isSome=true∧∀f w,(∀t,(i' l.length l).contains t=false→f t=f0 t)→Ext w0 w→(∀j,kH o j=true→(∃x,l[j]? =some x∧x.dst.isSome=true)→Hw Φ j (f (iM l j)))→
   SO P n l.toArray o f w (fun f' w'=>f'=cU f o.dst (.pointer (some ⟨w.heap.size,0,none⟩))∧w'=w.alloc (.cells (zg Z i).1 (zg Z i).2)∧Hw Φ i (.pointer (some ⟨w.heap.size,0,none⟩)))
 | .s a j=>o.dst=none∧kH o a=true∧kH o j=true∧(∃x,l[a]? =some x∧x.dst.isSome=true)∧(∃x,l[j]? =some x∧x.dst.isSome=true)∧(match PM Ks a with| .n=>True|_=>False)∧(∀v,Hw Φ j v→v.cells.size=(zg Z a).1.size)∧
   ∀f w b cur,Ext w0 w→f (iM l a)=.pointer (some ⟨b,0,none⟩)→w.heap[b]? =some (.cells cur (zg Z a).2 (0,0))→cur.size=(zg Z a).1.size→Hw Φ j (f (iM l j))→
   SO P n l.toArray o f w (fun f' w'=>f'=f∧w'=w.setRow b (f (iM l j)).cells)
def Hc (P:Program) (n:Nat) (l:List Oper) (Ks:List Kd) (Φ:List (Value→Prop)) (Z:List (Array Value×TypeId)) (f0:aS) (w0:World):Nat→List Oper→Prop
 |_,[]=>True
 |i,o::r=>Yc P n l Ks Φ Z f0 w0 i o∧Hc P n l Ks Φ Z f0 w0 (i+1) r
section
variable {P:Program} {n:Nat} {l:List Oper} {Ks:List Kd} {Φ:List (Value→Prop)} {Z:List (Array Value×TypeId)} {f0:aS} {w0:World}
theorem Hc.at_:∀(r:List Oper) (i:Nat),Hc P n l Ks Φ Z f0 w0 i r→∀j o,r[j]? =some o→Yc P n l Ks Φ Z f0 w0 (i+j) o
 |[],_,_,j,o,h=>by simp at h
 |x::r,i,h,0,o,hj=>by
  simp only[amw,amu] at hj
  subst hj
  exact h.1
 |x::r,i,h,j+1,o,hj=>by
  simp only[amD] at hj
  have:=Hc.at_ r (i+1) h.2 j o hj
  rwa [show i+1+j=i+(j+1) from by omega] at this
def adL (l:List Oper) (Ks:List Kd) (Z:List (Array Value×TypeId)) (L:Nat→Bool) (f:aS) (i:Nat) (cur:Array Value):Prop:=
 cur.size=(zg Z i).1.size∧(∀s j,Ks[s]? =some (.s i j)→L s=true→cur=(f (iM l j)).cells)∧((∀s j,Ks[s]? =some (.s i j)→L s=false)→cur=(zg Z i).1)
theorem acV (hN:nodupB (i' l.length l)=true) {i j:Nat} {oi oj:Oper} (hi:l[i]? =some oi) (hj:l[j]? =some oj) {di dj:Nat} (uO:oi.dst=some di) (D8:oj.dst=some dj) (gE:i≠j):dj≠di:=by
 rintro rfl
 have lD:=oA _ hN
 unfold i' at lD
 rw[anf] at lD
 exact gE<|gU (·.dst) l lD i j oi oj hi hj (by simp[uO])<|by simp[uO,D8]
theorem OD {i:Nat} {o:Oper} (hi:l[i]? =some o) {d:Nat} (hd:o.dst=some d):iM l i=d:=by unfold iM;rw[hi];simp[hd]
end
theorem adL.zero {l:List Oper} {Ks:List Kd} {Z:List (Array Value×TypeId)} {f:aS} {i:Nat} {cur:Array Value} (h:adL l Ks Z (fun _=>true) f i cur) (hn:(Ks.filterMap abc).contains i=false):cur=(zg Z i).1:=by
 refine h.2.2 fun s j hs=>?_
 exfalso
 have:i∈Ks.filterMap abc:=amK.2 ⟨_,dJ hs,rfl⟩
 rw[←amV,hn] at this
 cases this
section
variable {P:Program} {n:Nat} {ops:Array Oper} {f:aS} {w ws:World} {K:aS→World→Prop} {x y:Operand} {d:Nat} {ty T e:TypeId} {ps:String} {af:Array Edge} {v:Value} {M:Nat→Prop} {kk:IntKind} {bytes:Nat} {z:Value} {ad:Addr} {size:Nat} {agg:Bool}
end
end Go.Ew
namespace Go.Ew
open Go.RowKit
def B8 (Φ:List ((Nat→Prop)→Value→World→Prop)) (i:Nat):(Nat→Prop)→Value→World→Prop:=Φ.getD i (fun _ _ _=>True)
def adG (N N':Nat→Prop) (w w':World):Prop:=w.heap.size≤w'.heap.size∧(∀c,c<w.heap.size→¬N c→w'.heap[c]? =w.heap[c]?)∧∀c,c<w.heap.size→N' c→N c
def Yd (P:Program) (n:Nat) (l:List Oper) (Ks:List Kd) (Φ:List ((Nat→Prop)→Value→World→Prop)) (Z:List (Array Value×TypeId)) (f0:aS) (w0:World) (i:Nat) (o:Oper):Prop:=
 (∀N N' v w w',adG N N' w w'→B8 Φ i N v w→B8 Φ i N' v w')∧
 match PM Ks i with
 | .v=>o.dst.isSome=true∧∀f w N,(∀t,(i' l.length l).contains t=false→f t=f0 t)→Ext w0 w→(∀c,N c→w0.heap.size≤c∧c<w.heap.size)→(∀j,kH o j=true→(∃x,l[j]? =some x∧x.dst.isSome=true)→B8 Φ j N (f (iM l j)) w)→
   SO P n l.toArray o f w (fun f' w'=>∃v,f'=cU f o.dst v∧Ext w w'∧B8 Φ i N v w')
 | .n=>o.dst.isSome=true∧(∀N v w,B8 Φ i N v w)∧∀f w N,(∀t,(i' l.length l).contains t=false→f t=f0 t)→Ext w0 w→(∀c,N c→w0.heap.size≤c∧c<w.heap.size)→(∀j,kH o j=true→(∃x,l[j]? =some x∧x.dst.isSome=true)→B8 Φ j N (f (iM l j)) w)→
   SO P n l.toArray o f w (fun f' w'=>f'=cU f o.dst (.pointer (some ⟨w.heap.size,0,none⟩))∧w'=w.alloc (.cells (zg Z i).1 (zg Z i).2))
 | .s a j=>o.dst=none∧kH o a=true∧kH o j=true∧(∃x,l[a]? =some x∧x.dst.isSome=true)∧(∃x,l[j]? =some x∧x.dst.isSome=true)∧a≠j∧(match PM Ks a with| .n=>True|_=>False)∧(∀N v w,B8 Φ j N v w→v.cells.size=(zg Z a).1.size)∧
   ∀f w N b cur,Ext w0 w→f (iM l a)=.pointer (some ⟨b,0,none⟩)→w.heap[b]? =some (.cells cur (zg Z a).2 (0,0))→cur.size=(zg Z a).1.size→B8 Φ j N (f (iM l j)) w→
   SO P n l.toArray o f w (fun f' w'=>f'=f∧w'=w.setRow b (f (iM l j)).cells)
def Hd (P:Program) (n:Nat) (l:List Oper) (Ks:List Kd) (Φ:List ((Nat→Prop)→Value→World→Prop)) (Z:List (Array Value×TypeId)) (f0:aS) (w0:World):Nat→List Oper→Prop
 |_,[]=>True
 |i,o::r=>Yd P n l Ks Φ Z f0 w0 i o∧Hd P n l Ks Φ Z f0 w0 (i+1) r
section
variable {P:Program} {n:Nat} {l:List Oper} {Ks:List Kd} {Φ:List ((Nat→Prop)→Value→World→Prop)} {Z:List (Array Value×TypeId)} {f0:aS} {w0:World}
theorem Hd.at_:∀(r:List Oper) (i:Nat),Hd P n l Ks Φ Z f0 w0 i r→∀j o,r[j]? =some o→Yd P n l Ks Φ Z f0 w0 (i+j) o
 |[],_,_,j,o,h=>by simp at h
 |x::r,i,h,0,o,hj=>by
  simp only[amw,amu] at hj
  subst hj
  exact h.1
 |x::r,i,h,j+1,o,hj=>by
  simp only[amD] at hj
  have:=Hd.at_ r (i+1) h.2 j o hj
  rwa [show i+1+j=i+(j+1) from by omega] at this
end
section
variable {α:Type} [GT α] {M N N':Nat→Prop} {w0 w w':World} {v:Value} {x:α}
end
end Go.Ew
namespace Go.Ew
open Go.RowKit
def FP2 {α β:Type} [GT α] [GT β] (P:Program) (g:FuncId) (ae:List Value) (M:Nat→Prop) (w:World) (xs:List α) (ys:List β) (q:α→β→Bool):Prop:=
 ct P g∧∀w1 v x u y,x∈xs→y∈ys→Ext w w1→RV M w1 v x→RV M w1 u y→Calls P g ([v,u]++ae).toArray w1 (cb fun r w2=>r=.bool (q x y)∧Ext w1 w2)
theorem FP2.sub {α β:Type} [GT α] [GT β] {P:Program} {g:FuncId} {ae:List Value} {M M':Nat→Prop} {w w':World} {xs:List α} {ys:List β} {q:α→β→Bool} (h:FP2 P g ae M w xs ys q) (e:Ext w w') (hM:∀b,M b→M' b):FP2 P g ae M' w' xs ys q:=
 ⟨h.1,fun w1 v x u y hx hy e' hv hu=>h.2 w1 v x u y hx hy (e.trans e') (hv.lift (Up.less fun b _ hb=>hM b hb)) (hu.lift (Up.less fun b _ hb=>hM b hb))⟩
end Go.Ew
namespace Go.Ew
open Go.RowKit
structure SV where
 a:Option Addr
 n:Nat
 c:Nat
def SV.v (s:SV):Value:=.slice s.a s.n s.c
instance gSV:GT SV where
 size:=1
 agg:=false
 rep _ _ cs s:=cs=[s.v]
 len h:=by rw[h];rfl
 one h:=by rw[h];simp[Value.oneCell',SV.v]
 single _:=rfl
 pos:=by decide
 lift h _:=h
theorem RV.sv {M:Nat→Prop} {w:World} {v:Value} {s:SV}:RV M w v s↔v=s.v:=by
 constructor
 ·rintro⟨cs,rfl,rfl⟩;rfl
 ·rintro rfl;exact⟨_,rfl,rfl⟩
section
variable {α:Type} [GT α] {B:Nat} {e E:TypeId} {ss:List SV} {xs:List (List α)} {l l':List Item} {M0:Nat→Prop} {w0 w w':World} {s:SV} {x y:List α} {i:Nat}
def bC (B:Nat) (e:TypeId) (ss:List SV) (xs:List (List α)):List Item:=List.zipWith (fun s x=>own B e s.v x) ss xs
def zu (ss:List SV) (xs:List (List α)):List Item:=List.zipWith (fun s x=>sU s.v x) ss xs
theorem pj (hs:ss[i]? =some s) (hx:xs[i]? =some x):(l++bC B e ss xs)[l.length+i]? =some (own B e s.v x):=by
 rw[oR aq,show l.length+i-l.length=i from by omega]
 unfold bC
 rw[an6,hs,hx]
theorem YJ (hs:ss[i]? =some s):(l++bC B e ss xs).set (l.length+i) (own B e s.v y)=l++bC B e ss (xs.set i y):=by
 rw[anF _ _ aq,show l.length+i-l.length=i from by omega]
 congr 1
 unfold bC
 apply amQ
 intro j
 rw[anC,an6,an6,anC,List.length_zipWith]
 by_cases e:i=j
 ·subst e
  have hl:=(ef.1 hs).1
  by_cases hx:i<xs.length
  ·rw[aml rfl,aml rfl,aml aq,aml hx,hs]
  ·rw[aml rfl,aml rfl,amn aq,amn hx,hs]
 ·rw[amn e,amn e]
theorem Rl (h:ss.length=xs.length):bC B e (ss++[s]) (xs++[x])=bC B e ss xs++[own B e s.v x]:=by
 unfold bC
 rw[List.zipWith_append h];rfl
theorem HI.perm (H:HI M0 w0 w l) (hp:l'.Perm l):HI M0 w0 w l':=
 H.pick l' (fun it hit=>hp.mem_iff.1 hit) ((hp.filterMap _).nodup_iff.2 H.nodup)
theorem HI.aaz (H:HI M0 w0 w (own B e s.v x::(l++bC B e ss xs))) (h:ss.length=xs.length):HI M0 w0 w (l++bC B e (ss++[s]) (xs++[x])):=by
 rw[Rl h,←ana]
 exact H.perm<|List.perm_append_singleton _ _
theorem L7 {A B:Type} {f g:A→Option B}:∀{l:List A},(∀a∈l,f a=g a)→l.filterMap f=l.filterMap g
 |[],_=>rfl
 |a::l,h=>by rw[am6,am6,h a am4,L7 fun b hb=>h b (amM _ hb)]
theorem L6 {A:Type}:∀t:List A,(List.range t.length).filterMap (fun i=>t[i]?)=t
 |[]=>rfl
 |a::t=>by
  rw[iB,List.range_succ_eq_map,am6,apg]
  have:((fun i=>(a::t)[i]?)∘Nat.succ)=fun i=>t[i]?:=by funext i;rfl
  rw[this,L6 t];rfl
theorem HI.aR {t:List Item} (H:HI M0 w0 w (l++t)) (is:List Nat) (hn:is.Nodup) (hb:is.all (fun i=>Nat.blt i l.length)=true) (he:is.filterMap (fun i=>l[i]?)=l'):HI M0 w0 w (l'++t):=by
 refine H.bT (is++(List.range t.length).map (l.length+·)) ?_ ?_
 ·rw[an_]
  refine⟨hn,?_,?_⟩
  ·rw[List.nodup_iff_pairwise_ne,List.pairwise_map]
   exact List.Pairwise.imp (fun h=>by omega) aow
  ·intro a ha b uP I8
   subst I8
   obtain⟨j, -,rfl⟩:=am5.1 uP
   have:=amq.1 hb _ ha
   have:l.length+j<l.length:=by simpa using this
   omega
 ·rw[aos,←he]
  congr 1
  ·refine L7 fun i hi=>?_
   have:=amq.1 hb _ hi
   rw[qK (by simpa using this)]
  ·rw[apg]
   have:((fun i=>(l++t)[i]?)∘(l.length+·))=fun i=>t[i]?:=by
    funext i
    simp only[Function.comp]
    rw[oR aq,show l.length+i-l.length=i from by omega]
   rw[this]
   exact L6 t
theorem HI.GI:∀(ss:List SV) (xs:List (List α)) (l:List Item),HI M0 w0 w (l++bC B e ss xs)→HI M0 w0 w (l++zu ss xs)
 |[],xs,l,H=>H
 |s::ss,[],l,H=>H
 |s::ss,x::xs,l,H=>by
  have h1:(l++bC B e (s::ss) (x::xs))[l.length]? =some (own B e s.v x):=by rw[oR (amk _),anj];rfl
  have H1:=H.freeze l.length h1
  have h2:(l++bC B e (s::ss) (x::xs)).set l.length (sU s.v x)=(l++[sU s.v x])++bC B e ss xs:=by
   rw[anF _ _ (amk _),anj,ana];rfl
  rw[h2] at H1
  have H2:=HI.GI ss xs _ H1
  rwa [ana] at H2
theorem Ef {M:Nat→Prop}:∀{ss:List SV} {xs:List (List α)} {cs:List Value},ss.length=xs.length→(∀(i:Nat) (s:SV) (x:List α),ss[i]? =some s→xs[i]? =some x→RV M w s.v x)→bu M w cs ss→bu M w cs xs
 |[],[],cs,_,_,h=>h
 |s::ss,x::xs,cs,hl,hr,⟨c1,c2,h1,h2,h3⟩=>by
  refine⟨c1,c2,h1,⟨s.v,h2,RV.list.1 (hr 0 s x J J)⟩,Ef (by simpa using hl) (fun i s' x' hs hx=>hr (i+1) s' x' hs hx) h3⟩
 |[],_::_,_,h,_,_=>by cases h
 |_::_,[],_,h,_,_=>by cases h
theorem HI.deep {v:Value} (H:HI M0 w0 w (own B E v ss::(l++bC B e ss xs))) (hl:ss.length=xs.length):HI M0 w0 w (own B E v xs::l):=by
 have H1:HI M0 w0 w (own B E v ss::(l++zu ss xs)):=HI.GI ss xs (own B E v ss::l) H
 obtain⟨cs,h1,h2⟩:=H1.at_ 0 rfl
 have key:∀(i:Nat) (s:SV) (x:List α),ss[i]? =some s→xs[i]? =some x→RV (MS M0 (own B E v ss::(l++zu ss xs))) w s.v x:=by
  intro i s x hs hx
  refine H1.all (sU s.v x) (amM _<|anu _ ?_)
  unfold zu
  exact dJ (i:=i)<|by rw[an6,hs,hx]
 have H2:=H1.vc (nk:=own B E v xs) 0 rfl rfl rfl rfl (amk _) (amk _) (fun _ _ _=>rfl) (fun b hb=>⟨(H1.ji _ (am4) b hb).2,.inl hb⟩) (by
  refine⟨cs,?_,bu.lift (M:=MS M0 (own B E v ss::(l++zu ss xs))) (Up.less ?_) (Ef hl key h2)⟩
  ·rw[←hl];exact h1
  ·rintro b _ (hb|⟨it,hit,hb⟩)
   ·exact .inl hb
   ·rcases amz.1 hit with rfl|hit
    ·exact .inr ⟨_,am4,hb⟩
    ·exact .inr ⟨it,amM _ hit,hb⟩)
 refine H2.pick _ (fun it hit=>?_) ?_
 ·rcases amz.1 hit with rfl|hit
  ·exact am4
  ·exact amM _<|anA _ hit
 ·refine aoK ?_ H2.nodup
  refine List.Sublist.filterMap _ ?_
  exact(List.sublist_append_left l _).cons_cons _
theorem HI.join (H:HI M0 w0 w l) (H':HI (MS M0 l) w w' l'):HI M0 w0 w' (l'++l):=by
 have hM:∀b,MS (MS M0 l) l' b↔MS M0 (l'++l) b:=by
  intro b
  constructor
  ·rintro((h|⟨it,hit,hb⟩)|⟨it,hit,hb⟩)
   ·exact .inl h
   ·exact .inr ⟨it,anu _ hit,hb⟩
   ·exact .inr ⟨it,anA _ hit,hb⟩
  ·rintro(h|⟨it,hit,hb⟩)
   ·exact .inl (.inl h)
   ·rcases amH.1 hit with hit|hit
    ·exact .inr ⟨it,hit,hb⟩
    ·exact .inl (.inr ⟨it,hit,hb⟩)
 refine⟨H.below.trans H'.below,H.m0,?_,?_,?_⟩
 ·intro it hit b hb
  rcases amH.1 hit with hit|hit
  ·exact⟨Nat.le_trans H.below.size (H'.ji it hit b hb).1,(H'.ji it hit b hb).2⟩
  ·exact⟨(H.ji it hit b hb).1,amO (H.ji it hit b hb).2 H'.below.size⟩
 ·rw[aos,an_]
  refine⟨H'.nodup,H.nodup,fun b hb c hc hbc=>?_⟩
  subst hbc
  obtain⟨i,hi,Bu⟩:=amK.1 hb
  obtain⟨j,hj,vD⟩:=amK.1 hc
  have h1:=(H'.ji i hi b Bu).1
  have h2:=(H.ji j hj b vD).2
  omega
 ·intro it hit
  rcases amH.1 hit with hit|hit
  ·exact it.lift (H'.all it hit) (Up.less fun b _ hb=>(hM b).2 hb) fun _ _=>rfl
  ·refine it.lift (H.all it hit) ⟨H'.below.size,fun c hc hMc=>⟨H'.below.block c hc,fun hb=>?_⟩⟩ fun b hb=>H'.below.block b (H.ji it hit b hb).2
   rcases (hM c).2 hb with hb|⟨i,hi,Bu⟩
   ·exact hMc hb
   ·have:=(H'.ji i hi c Bu).1;omega
theorem HI.weaken (H:HI M0 w0 w l) (hl:l'.map (·.jx)=l.map (·.jx)) (hh:∀(i:Nat) it nk,l[i]? =some it→l'[i]? =some nk→∀M,it.holds M w→nk.holds M w):HI M0 w0 w l':=by
 have hlen:l'.length=l.length:=by simpa using amh List.length hl
 have tX:∀(i:Nat) nk,l'[i]? =some nk→∃it,l[i]? =some it∧it.jx=nk.jx:=by
  intro i nk hi
  have h1:=amh (fun z=>z[i]?) hl
  simp only[amx,hi,anD] at h1
  cases nL:l[i]? with
  |none=>rw[nL] at h1;cases h1
  |some it=>rw[nL] at h1;exact⟨it,rfl,(amo h1).symm⟩
 have hMS:∀b,MS M0 l' b→MS M0 l b:=by
  rintro b (h|⟨nk,hit,hb⟩)
  ·exact .inl h
  ·obtain⟨i,hi⟩:=amB.1 hit
   obtain⟨it,h1,h2⟩:=tX i nk hi
   exact .inr ⟨it,dJ h1,h2.trans hb⟩
 refine⟨H.below,H.m0,?_,?_,?_⟩
 ·intro nk hit b hb
  obtain⟨i,hi⟩:=amB.1 hit
  obtain⟨it,h1,h2⟩:=tX i nk hi
  exact H.ji it (dJ h1) b<|h2.trans hb
 ·have:∀m:List Item,m.filterMap (·.jx)=(m.map (·.jx)).filterMap id:=by intro m;rw[apg];rfl
  rw[this,hl,←this];exact H.nodup
 ·intro nk hit
  obtain⟨i,hi⟩:=amB.1 hit
  obtain⟨it,h1,h2⟩:=tX i nk hi
  have:=hh i it nk h1 hi _<|H.all it (dJ h1)
  exact nk.lift this (Up.less fun b _ hb=>hMS b hb) fun _ _=>rfl
theorem NU {β:Type} [GT β] {B B':Nat} {v:Value} {ys:List β} {M:Nat→Prop} (hB:B'≤B) (h:(own B e v ys).holds M w):(own B' e v ys).holds M w:=by
 obtain⟨cs,h1,h2⟩:=h
 refine⟨cs,⟨h1.1,?_⟩,h2⟩
 rcases h1.2 with h3|⟨g,cap,cur,rfl,h3,h4⟩
 ·exact .inl h3
 ·exact .inr ⟨g,cap,cur,J,Nat.le_trans hB h3,h4⟩
def Ke (M:Nat→Prop) (E e:TypeId) (w0:World) (ss:List SV) (xs:List (List α)) (v:Value) (w:World):Prop:=ss.length=xs.length∧HI M w0 w (own w0.heap.size E v ss::bC w0.heap.size e ss xs)
theorem HI.F8 {v:Value} (H:HI M0 w0 w l) (h:Ke (MS M0 l) E e w ss xs v w'):HI M0 w0 w' (own w0.heap.size E v ss::(l++bC w0.heap.size e ss xs)):=by
 have H1:=H.join h.2
 have H2:HI M0 w0 w' ((own w0.heap.size E v ss::bC w0.heap.size e ss xs)++l):=by
  refine H1.weaken ?_ ?_
  ·simp only[anZ,amJ]
   congr 2
   unfold bC
   rw[List.map_zipWith,List.map_zipWith];rfl
  ·intro i it nk hi pv M hh
   have hB:w0.heap.size≤w.heap.size:=H.below.size
   cases i with
   |zero=>
    simp only[aoz,amw,amu] at hi pv
    subst hi;subst pv;exact NU hB hh
   |succ i=>
    simp only[aoz,amD] at hi pv
    have hlen:∀B,(bC B e ss xs).length=min ss.length xs.length:=by intro B;unfold bC;simp
    by_cases jA:i<min ss.length xs.length
    ·rw[qK (by rw[hlen];exact jA)] at hi pv
     unfold bC at hi pv
     rw[an6,eP aq,eP aq] at hi pv
     simp only[amu] at hi pv
     subst hi;subst pv;exact NU hB hh
    ·rw[oR (by rw[hlen];omega),hlen] at hi pv
     rw[hi] at pv
     cases pv;exact hh
 refine H2.perm ?_
 exact List.Perm.cons _ List.perm_append_comm
theorem tO (H:HI M0 w0 w (l++bC B e ss xs)) (hl:ss.length=xs.length) {i:Nat} (hi:i<ss.length):∃(a:Option Addr) (x:List α) (c:Nat),ss[i]? =some (⟨a,x.length,c⟩:SV)∧xs[i]? =some x:=by
 have hs:ss[i]? =some ss[i]:=eP hi
 have hx:xs[i]? =some (xs[i]'aq):=eP aq
 obtain⟨cs,h1,h2⟩:=H.at_ _ (pj (l:=l) (B:=B) (e:=e) hs hx)
 have hn:ss[i].n=(xs[i]'aq).length:=by
  rcases h1.2 with ⟨h3,h4⟩|⟨g,cap,cur,h3, -⟩
  ·rw[h4];unfold SV.v at h3;injection h3
  ·unfold SV.v at h3;injection h3
 refine⟨ss[i].a,xs[i]'aq,ss[i].c,?_,hx⟩
 rw[hs,←hn]
theorem HI.zt {M:Nat→Prop} {it:Item} (H:HI M0 w0 w ((l++bC B e ss xs).set (l.length+i) (own B e s.v y))) (hs:ss[i]? =some s):HI M0 w0 w (l++bC B e ss (xs.set i y)):=by
 rw[YJ hs] at H;exact H
theorem aax (H:HI M0 w0 w (l++bC B e ss xs)) (hs:ss[i]? =some s) (hx:xs[i]? =some x):RV (fun _=>False) w s.v x:=
 zy (H.at_ _ (pj (l:=l) (B:=B) (e:=e) hs hx)) (fun _ _ h=>h.elim) (fun _ _ h=>h.elim)
end
section
variable {P:Program} {n:Nat} {ops:Array Oper} {f:aS} {w:World} {K:aS→World→Prop} {M:Nat→Prop} {ad:Addr} {T:TypeId} {bytes:Nat} {z:Value} {x:Operand} {d:Nat} {ty:TypeId} {ps:String} {af:Array Edge}
theorem IQ {s:SV} (hA:gS M w ad s) (F:eh P T 1 false bytes z) (ox:bG n x=true) (hx:ev f x=.pointer (some ad)) (h:K (b9 f d s.v) w):
  SO P n ops ⟨some d,.load T x,ty,ps,af,none⟩ f w K:=nj hA F ox hx fun v hv=>by rw[RV.sv.1 hv];exact h
end
end Go.Ew
namespace Go.Ew
open Go.RowKit
def ny {α:Type} [GT α] (B:Nat) (e:TypeId) (v:Value) (xs:List α):Item:=
 ⟨v.ownBlock,fun M w=>∃cs,bu M w cs xs∧((v=.slice none 0 0∧xs=[])∨∃g o c cur,v=.slice (some ⟨g,o,none⟩) xs.length c∧B≤g∧w.heap[g]? =some (.cells cur e (0,0))∧xs.length≤c∧c≤maxLen∧o+c*GT.size α≤cur.size∧(cur.toList.drop o).take (xs.length*GT.size α)=cs),fun {M M' w w'} h u hb=>by
  obtain⟨cs,h2,h1⟩:=h
  refine⟨cs,bu.lift u h2,?_⟩
  rcases h1 with h3|⟨g,o,c,cur,rfl,h4,h5,h6⟩
  ·exact .inl h3
  ·exact .inr ⟨g,o,c,cur,rfl,h4,(hb g rfl).trans h5,h6⟩⟩
theorem NV {α:Type} [GT α] {B:Nat} {e:TypeId} {v:Value} {xs:List α} {M:Nat→Prop} {w:World} (h:(own B e v xs).holds M w):(ny B e v xs).holds M w:=by
 obtain⟨cs,h1,h2⟩:=h
 refine⟨cs,h2,?_⟩
 rcases h1.2 with ⟨rfl,h3⟩|⟨g,cap,cur,rfl,h3,h4,h5,h6,h7,h8⟩
 ·exact .inl ⟨J,anH h3⟩
 ·exact .inr ⟨g,0,cap,cur,J,h3,h4,h5,h6,by omega,by rw[aoO];exact h8⟩
section
variable {P:Program} {n:Nat} {ops:Array Oper} {f:aS} {w:World} {K:aS→World→Prop} {x y:Operand} {d:Nat} {ty T e:TypeId} {ps:String} {af:Array Edge} {v u:Value} {M M0:Nat→Prop} {w0:World} {l:List Item} {bytes:Nat} {z:Value} {B:Nat} {kk:IntKind} {agg:Bool} {α:Type} [GT α] {xs ys:List α}
theorem HI.toQ (H:HI M0 w0 w l) (i:Nat) (hi:l[i]? =some (own B e v xs)):HI M0 w0 w (l.set i (ny B e v xs)):=by
 have jA:=(ef.1 hi).1
 refine H.weaken ?_ ?_
 ·apply amQ
  intro j
  rw[amx,amx]
  by_cases h:i=j
  ·subst h;rw[amC jA,hi];rfl
  ·rw[amU h]
 ·intro j it nk hj qV M hh
  by_cases h:i=j
  ·subst h
   rw[amC jA] at qV
   rw[hi] at hj
   cases hj;cases qV
   exact NV hh
  ·rw[amU h,hj] at qV;cases qV;exact hh
theorem iaQ {i:Int} (hO:(ny B e v xs).holds M w) (ox:bG n x=true) (oy:bG n y=true) (hx:ev f x=v) (hy:ev f y=.int kk i) (hi:0≤i∧i<xs.length) (hu:P.underlying T=some (.slice e)) (F:eh P e (GT.size α) agg bytes z)
  (h:∀ad xv,xs[i.toNat]? =some xv→gS M w ad xv→K (b9 f d (.pointer (some ad))) w):SO P n ops ⟨some d,.indexAddr T x y,ty,ps,af,none⟩ f w K:=by
 obtain⟨cs,h2,h1⟩:=hO
 rcases h1 with ⟨_,h3⟩|⟨g,o,c,cur,rfl,h3,h4,h5,h6,h7,h8⟩
 ·rw[h3] at hi;simp at hi;omega
 ·have eM:i.toNat<xs.length:=by omega
  have kV:∀j,(⟨g,o,none⟩:Addr).add j=⟨g,o+j,none⟩:=fun j=>by unfold Addr.add;split<;>simp_all
  refine SO.value (v:=.pointer (some ⟨g,o+i.toNat*GT.size α,none⟩)) ?_<|h _ xs[i.toNat] (eP eM) ?_
  ·have hb:0≤i∧i<(xs.length:Int):=by omega
   simp[execOp,aO ox,aO oy,hx,hy,Instr.indexAt,asIntOf,gC hu,hb,F.jf,kV]
  ·obtain⟨c',yl,zV⟩:=bu.at_ h2 i.toNat xs[i.toNat] (eP eM)
   refine⟨c',yl,fun j u hu=>?_⟩
   have ui:=zV j u hu
   have aev:(⟨g,o+i.toNat*GT.size α,none⟩:Addr).add j=⟨g,o+i.toNat*GT.size α+j,none⟩:=by unfold Addr.add;split<;>simp_all
   rw[aev,cell_of_row w g _ cur e (0,0) h4]
   rw[←h8] at ui
   obtain⟨h9,h10⟩:=ef.1 ui
   rw[anJ (by rw[ij] at h9;omega),amY,←aoU] at ui
   rw[←ui,anv]
theorem slQ {lo:Int} {qT:Operand} (H:HI M0 w0 w l) (i:Nat) (hi:l[i]? =some (ny B e v xs)) (ox:bG n x=true) (ol:bG n qT=true) (hx:ev f x=v) (hl:ev f qT=.int kk lo) (hb:0≤lo∧lo≤xs.length) (hu:P.underlying T=some (.slice e)) (F:eh P e (GT.size α) agg bytes z)
  (h:∀a c,HI M0 w0 w (l.set i (ny B e (.slice a (xs.drop lo.toNat).length c) (xs.drop lo.toNat)))→K (b9 f d (.slice a (xs.drop lo.toNat).length c)) w):
  SO P n ops ⟨some d,.slice T x (some qT) none none,ty,ps,af,none⟩ f w K:=by
 have hO:=H.at_ i hi
 have jA:=(ef.1 hi).1
 obtain⟨cs,h2,h1⟩:=hO
 have hlen:(xs.drop lo.toNat).length=xs.length-lo.toNat:=by simp
 obtain⟨ao,cc,rfl,hcc⟩:∃ao cc,v=.slice ao xs.length cc∧xs.length≤cc:=by
  rcases h1 with ⟨rfl,h3⟩|⟨g,o,c,cur,rfl,h3,h4,h5,h6⟩
  ·exact⟨none,0,by rw[h3];rfl,by rw[h3];exact amk _⟩
  ·exact⟨_,_,J,h5⟩
 refine SO.value (v:=.slice (if cc=lo.toNat then ao else ao.map (·.add (lo.toNat*GT.size α))) (xs.length-lo.toNat) (cc-lo.toNat)) (w':=w) ?_ ?_
 ·have uN:P.underlying T=some (.slice (P.elem T)):=by rw[hu];simp[Program.elem,hu]
  have tY:P.elem T=e:=by simp[Program.elem,hu]
  simp[execOp,aO ox,aO ol,hx,hl,Instr.sliceAt,gC hu]
  have:=run_slice_l (P:=P) (w:=w) T ao xs.length cc uN kk lo hb.1 aq
  rw[tY,F.jf] at this
  simp[this,sliced]
 ·rw[hlen] at h
  refine h _ _ ?_
  have hblk:∀(aa:Option Addr) (c1 c2 c3 c4:Nat) (f2:Addr→Addr),(∀q,(f2 q).block=q.block)→Value.ownBlock (.slice (aa.map f2) c1 c2)=Value.ownBlock (.slice aa c3 c4):=by
   intro aa c1 c2 c3 c4 f2 hf
   cases aa with
   |none=>rfl
   |some q=>show some _=some _;rw[hf]
  refine H.weaken ?_ ?_
  ·apply amQ
   intro j
   rw[amx,amx]
   by_cases hj:i=j
   ·subst hj
    rw[amC jA,hi]
    show some (Value.ownBlock _)=some (Value.ownBlock _)
    split
    ·cases ao<;>rfl
    ·rw[hblk ao _ _ xs.length cc _ (fun q=>u2 q _)]
   ·rw[amU hj]
  ·intro j it nk hj qV M' hh
   by_cases np:i=j
   ·subst np
    rw[amC jA] at qV
    rw[hi] at hj
    cases hj;cases qV
    obtain⟨ds,k2,k1⟩:=hh
    rcases k1 with ⟨k3,k4⟩|⟨g,o,c,cur,k3,k4,k5,k6,k7,k8,k9⟩
    ·have e1:lo.toNat=0:=by rw[k4] at hb;simp at hb;omega
     subst k4
     injection k3 with k3a k3b k3c
     subst k3a;subst k3c
     refine⟨[],by simp;rfl,.inl ⟨?_,by simp⟩⟩
     rw[e1];rfl
    ·injection k3 with k3a k3b k3c
     subst k3a;subst k3c
     have kV:∀j,(⟨g,o,none⟩:Addr).add j=⟨g,o+j,none⟩:=fun j=>by unfold Addr.add;split<;>simp_all
     refine⟨ds.drop (lo.toNat*GT.size α),?_,.inr ?_⟩
     ·have:∀(k:Nat) (xs:List α) (cs:List Value),k≤xs.length→bu M' w cs xs→bu M' w (cs.drop (k*GT.size α)) (xs.drop k):=by
       intro k
       induction k with
       |zero=>intro xs cs _ hc;simpa using hc
       |succ k ih=>
        intro xs cs hk hc
        cases xs with
        |nil=>simp at hk
        |cons q xs=>
         obtain⟨c1,c2,rfl,m1,m2⟩:=hc
         have:=ih xs c2 (by simpa using hk) m2
         rw[List.drop_succ_cons,show (k+1)*GT.size α=c1.length+k*GT.size α from by rw[GT.len m1,am8];omega,←anc,List.drop_left]
         exact this
      exact this _ _ _ aq k2
     ·by_cases ru:cc=lo.toNat
      ·rw[aml ru]
       have hz:xs.drop lo.toNat=[]:=anS aq
       refine⟨g,o,cc-lo.toNat,cur,by rw[hlen],k4,k5,by rw[hlen];omega,by omega,?_,?_⟩
       ·have:(cc-lo.toNat)*GT.size α≤cc*GT.size α:=ank _ aq
        omega
       ·rw[hz,←k9]
        rw[gm,aoH,aog,anS]
        rw[ij]
        have:xs.length*GT.size α≤lo.toNat*GT.size α:=ank _ aq
        omega
      ·rw[amn ru]
       refine⟨g,o+lo.toNat*GT.size α,cc-lo.toNat,cur,by rw[hlen];simp[kV],k4,k5,by rw[hlen];omega,by omega,?_,?_⟩
       ·have:lo.toNat*GT.size α+(cc-lo.toNat)*GT.size α=cc*GT.size α:=by rw[←am8];congr 1;omega
        omega
       ·rw[←k9,hlen,apb,anc]
        congr 1
        rw[←Nat.sub_mul]
   ·rw[amU np,hj] at qV;cases qV;exact hh
theorem apQ (H:HI M0 w0 w l) (i:Nat) (hi:l[i]? =some (ny B e v xs)) (hB:B=w0.heap.size) (ox:bG n x=true) (oy:bG n y=true) (hx:ev f x=v) (hy:ev f y=u)
  (hs:Src (MS M0 l) w u ys) (gE:0<ys.length) (hu:P.underlying T=some (.slice e)) (F:eh P e (GT.size α) agg bytes z) (hz:z.cells.size=GT.size α) (hl:(xs.length+ys.length)*bytes≤140737488355328) (nL:xs.length+ys.length≤9223372036854775807)
  (h:∀a c w',HI M0 w0 w' (l.set i (ny B e (.slice a (xs++ys).length c) (xs++ys)))→K (b9 f d (.slice a (xs++ys).length c)) w'):
  SO P n ops ⟨some d,.call {callee:=.builtin .append,args:=#[x,y],argTypes:=#[T,T]},ty,ps,af,none⟩ f w K:=by
 subst hB
 obtain⟨cs,h2,h1⟩:=H.at_ i hi
 obtain⟨a0,c0,rfl,Fa⟩:=hs
 obtain⟨inf,sh,tz,uM,Cz⟩:=F.info
 have eM:∀b,v.ownBlock=some b→w0.heap.size≤b∧b<w.heap.size:=H.ji _ (dJ hi)
 obtain⟨ad,rfl,ds,tA,CA⟩:∃ad,a0=some ad∧∃cs,bu (MS M0 l) w cs ys∧∀j u,cs[j]? =some u→w.cell? (ad.add j)=some u:=by
  rcases Fa with h0|h0
  ·omega
  ·exact h0
 have ru:=bu.length h2
 have yk:=bu.length tA
 have Ot:∀(v':Value) (w':World) (B':Nat) (qs:List α) (M':Nat→Prop) (es:List Value),w0.heap.size≤B'→w'.ownsRow B' e (GT.size α) v' qs.length es→bu M' w' es qs→(ny w0.heap.size e v' qs).holds M' w':=by
  intro v' w' B' qs M' es hB' ho hc
  refine NV ⟨es,⟨ho.1,?_⟩,hc⟩
  rcases ho.2 with h3|⟨g,cap,cur,rfl,h3,h4⟩
  ·exact .inl h3
  ·exact .inr ⟨g,cap,cur,J,Nat.le_trans hB' h3,h4⟩
 obtain⟨a',c',w',kD,qW,Bx,aeq⟩:∃a' c' w',(Builtin.append_ #[T,T] ty #[v,.slice (some ad) ys.length c0]).run P w=.ok (.slice a' (xs.length+ys.length) c') w'∧w.grownBy w' v.ownBlock∧
   ((Value.slice a' (xs.length+ys.length) c').ownBlock=v.ownBlock∨∀b,(Value.slice a' (xs.length+ys.length) c').ownBlock=some b→w.heap.size≤b∧b<w'.heap.size)∧
   ∀M',Up (MS M0 l) w M' w'→(ny w0.heap.size e (.slice a' (xs++ys).length c') (xs++ys)).holds M' w':=by
  rcases h1 with ⟨rfl,rfl⟩|⟨g,o,c,cur,rfl,h3,h4,h5,h6,h7,h8⟩
  ·obtain⟨v',w',r1,r2,r3,_,r4⟩:=run_append_own_at (P:=P) w w0.heap.size T ty e inf z (GT.size α) bytes hu sh tz uM Cz hz GT.pos (.slice none 0 0) 0 [] (World.ownsRow_nil w _ e _) ad ys.length c0 ds yk CA (bu.AK tA) (by simp only[maxLen];simp at nL;omega) (by simpa using hl) H.below.size
   obtain⟨a',c',rfl⟩:=vf r2
   refine⟨a',c',w',by simpa using r1,r3,?_,fun M' qp=>?_⟩
   ·rcases r4 with hb|hb
    ·exact .inl (by simpa using hb)
    ·refine .inr fun b vC=>⟨?_,(r2.lt b<|by simpa using vC).2⟩
     simp only[gm,am2] at vC hb
     rw[hb] at vC;cases vC;exact amk _
   ·refine Ot _ _ w0.heap.size _ M' ds (amk _) ?_ ?_
    ·simpa using r2
    ·simpa using bu.lift qp tA
  ·by_cases PY:xs.length+ys.length≤c
   ·have Vp:o+xs.length*GT.size α+ds.length≤cur.size:=by
     have:(xs.length+ys.length)*GT.size α≤c*GT.size α:=ank _ PY
     rw[am8] at this
     omega
    have hf:=run_firstCells_some (P:=P) w inf.size ys.length ad ys.length c0 ds (by rw[uM];exact yk) CA
    rw[uM] at hf
    have qq:=run_storeCells_at P g (o+xs.length*GT.size α) e ds 0 cur w h4 (by simpa using Vp)<|bu.AK tA
    simp only[amX] at qq
    have kV:∀j,(⟨g,o,none⟩:Addr).add j=⟨g,o+j,none⟩:=fun j=>by unfold Addr.add;split<;>simp_all
    have kD:(Builtin.append_ #[T,T] ty #[.slice (some ⟨g,o,none⟩) xs.length c,.slice (some ad) ys.length c0]).run P w=.ok (.slice (some ⟨g,o,none⟩) (xs.length+ys.length) c) (w.setRow g (cur.toList.take (o+xs.length*GT.size α)++ds++cur.toList.drop (o+xs.length*GT.size α+ds.length)).toArray):=by
     simp[Builtin.append_,gC hu,sizeOf,typeInfo,sh,Builtin.lenOf,PY,hf,uM,kV,qq]
    refine⟨_,_,_,kD,⟨J,J,J,by simp,fun k _ hk=>setRow_other w g k _ (fun e=>hk (by simp[Value.ownBlock,e]))⟩,.inl rfl,fun M' qp=>?_⟩
    refine⟨cs++ds,bu.append (bu.lift qp h2) (bu.lift qp tA),.inr ⟨g,o,c,_,J,h3,setRow_heap w g cur _ e _ h4,by rw[gf];exact PY,h6,?_,?_⟩⟩
    ·simp only[anO,gf,ij,amF,am1]
     omega
    ·rw[gf,am8,←yk]
     have ab1:cur.toList.length=cur.size:=by simp
     have e1:(cur.toList.take (o+xs.length*GT.size α)).length=o+xs.length*GT.size α:=by rw[ij];omega
     show List.take _ (List.drop o (cur.toList.take (o+xs.length*GT.size α)++ds++cur.toList.drop (o+xs.length*GT.size α+ds.length)))=_
     rw[ana,ao8 aq,apb,show o+xs.length*GT.size α-o=xs.length*GT.size α from by omega,h8]
     rw[←ana,ao4 (by rw[gf,ru])]
   ·have holds:∀j u,cs[j]? =some u→w.cell? ((⟨g,o,none⟩:Addr).add j)=some u:=by
     intro j u Xs
     have kV:(⟨g,o,none⟩:Addr).add j=⟨g,o+j,none⟩:=by unfold Addr.add;split<;>simp_all
     rw[kV,cell_of_row w g _ cur e (0,0) h4]
     rw[←h8] at Xs
     obtain⟨k1,k2⟩:=ef.1 Xs
     rw[anJ (by rw[ij] at k1;omega),amY] at Xs
     rw[←Xs,anv]
    obtain⟨v',w',r1,r2,r3⟩:=run_append_arg_grows (P:=P) w T ty e inf z (GT.size α) bytes hu sh tz uM Cz hz GT.pos ⟨g,o,none⟩ xs.length c cs ru holds ad ys.length c0 ds yk CA aq (by simp only[maxLen];omega) hl
    obtain⟨a',c',rfl⟩:=vf r2
    refine⟨a',c',w',r1,⟨r3.os,r3.tape,r3.output,r3.size,fun k hk _=>r3.block k hk (by simp)⟩,.inr fun b vC=>r2.lt b vC,fun M' qp=>?_⟩
    refine Ot _ _ w.heap.size _ M' (cs++ds) H.below.size (by rw[gf];exact r2)<|bu.append (bu.lift qp h2)<|bu.lift qp tA
 refine SO.value (v:=.slice a' (xs.length+ys.length) c') (w':=w') ?_ ?_
 ·simp[execOp,resolve,invoke,builtin,aO ox,aO oy,hx,hy,kD]
 ·have:=h a' c' w'
  rw[gf] at this
  refine this ?_
  have hblk:∀b,(ny w0.heap.size e (.slice a' (xs.length+ys.length) c') (xs++ys)).jx=some b→b<w'.heap.size∧((ny w0.heap.size e v xs).jx=some b∨w.heap.size≤b):=by
   intro b hb
   rcases Bx with Bx|Bx
   ·have vE:v.ownBlock=some b:=Bx.symm.trans hb
    exact⟨amO (eM b vE).2 qW.size,.inl vE⟩
   ·exact⟨(Bx b hb).2,.inr (Bx b hb).1⟩
  refine H.vc i hi qW.os qW.tape qW.output qW.size (r7 _ kD) (fun c hc gE=>qW.block c hc (fun e=>gE e.symm)) hblk ?_
  have h9:=aeq (MS M0<|l.set i (ny w0.heap.size e (.slice a' (xs.length+ys.length) c')<|xs++ys)) ?_
  ·rw[gf] at h9;exact h9
  ·refine⟨qW.size,fun b hb hM=>⟨qW.block b hb (fun e=>hM (.inr ⟨_,dJ hi,e.symm⟩)),?_⟩⟩
   rintro(CG|⟨it,hit,lZ⟩)
   ·exact hM<|.inl CG
   ·rcases am7 hit with hit|rfl
    ·exact hM<|.inr ⟨it,hit,lZ⟩
    ·rcases (hblk b lZ).2 with h'|h'
     ·exact hM<|.inr ⟨_,dJ hi,h'⟩
     ·omega
end
end Go.Ew
namespace Go.Ew
open Go.RowKit
section
variable {P:Program} {n:Nat} {ops:Array Oper} {f:aS} {w:World} {K:aS→World→Prop} {x y:Operand} {d:Nat} {ty T e:TypeId} {ps:String} {af:Array Edge} {v u:Value} {M M0:Nat→Prop} {w0:World} {l:List Item} {bytes:Nat} {z:Value} {B:Nat}
theorem cpO {xs ys:List (BitVec 64)} (H:HI M0 w0 w l) (i:Nat) (hi:l[i]? =some (own B e v xs)) (hB:B=w0.heap.size) (ox:bG n x=true) (oy:bG n y=true) (hx:ev f x=v) (hy:ev f y=u)
  (hs:Src (MS M0 l) w u ys) (hu:P.underlying T=some (.slice e)) (F:eh P e 1 false bytes z) (hl:ys.length=xs.length) (hp:0<xs.length)
  (h:∀w',HI M0 w0 w' (l.set i (own B e v ys))→K (b9 f d (.int .i64 (ys.length:Int))) w'):
  SO P n ops ⟨some d,.call {callee:=.builtin .copy,args:=#[x,y],argTypes:=#[T,T]},ty,ps,af,none⟩ f w K:=by
 subst hB
 obtain⟨cs,h1,h2⟩:=H.at_ i hi
 obtain⟨a0,c0,rfl,Fa⟩:=hs
 obtain⟨inf,sh,tz,uM,Cz⟩:=F.info
 rcases h1.2 with ⟨rfl,h3⟩|⟨g',cap,cur,rfl,h3,h4,h5,h6,h7,h8⟩
 ·omega
 ·rcases Fa with h0|⟨ad,rfl,ds,tA,CA⟩
  ·omega
  ·have yk:ds.length=ys.length:=by have:=bu.length tA;simpa [GT.size] using this
   have pq:cur.size=cap:=by rw[h7];simp[GT.size]
   have kD:=run_copy_row (P:=P) w T T ty e g' 0 xs.length cap ad ys.length c0 cur e ds hu (by rw[sh];simp[uM]) h4 (by rw[yk,hl];simp) CA aq<|bu.AK tA
   refine SO.value (v:=.int .i64 (ys.length:Int)) (w':=w.setRow g' (wr cur 0 ds)) ?_<|h _ ?_
   ·have zO:(Builtin.copy_ #[T,T] ty #[.slice (some ⟨g',0,none⟩) xs.length cap,.slice (some ad) ys.length c0]).run P w=.ok (.int .i64 (ys.length:Int)) (w.setRow g' (wr cur 0 ds)):=by
     rw[kD,←yk];rfl
    simp[execOp,resolve,invoke,builtin,aO ox,aO oy,hx,hy,zO]
   ·have Cw:∀c,c<w.heap.size→(own w0.heap.size e (Value.slice (some ⟨g',0,none⟩) xs.length cap) xs).jx≠some c→(w.setRow g' (wr cur 0 ds)).heap[c]? =w.heap[c]?:=
     fun c hc gE=>setRow_other w g' c _ (fun e=>gE (by rw[e];rfl))
    have hblk:∀b,(own w0.heap.size e (Value.slice (some ⟨g',0,none⟩) xs.length cap) ys).jx=some b→b<(w.setRow g' (wr cur 0 ds)).heap.size∧((own w0.heap.size e (Value.slice (some ⟨g',0,none⟩) xs.length cap) xs).jx=some b∨w.heap.size≤b):=by
     intro b hb
     refine⟨?_,.inl hb⟩
     rw[size_setRow]
     exact(H.ji _ (dJ hi) b hb).2
    refine H.vc i hi J J J (by simp) (amk _) Cw hblk ?_
    refine⟨ds,⟨by simpa [GT.size] using yk,.inr ⟨g',cap,wr cur 0 ds,by rw[hl],h3,setRow_heap w g' cur _ e _ h4,by omega,h6,?_,?_⟩⟩,?_⟩
    ·simp only[wr,anO,gf,ij,amF,am1]
     omega
    ·simp only[wr]
     rw[aog,List.nil_append,am2,ao4 (by simpa [GT.size] using yk)]
    ·have qp:Up (MS M0 l) w (MS M0 (l.set i (own w0.heap.size e (Value.slice (some ⟨g',0,none⟩) xs.length cap) ys))) (w.setRow g' (wr cur 0 ds)):=by
      refine⟨by simp,fun b hb hM=>⟨setRow_other w g' b _ (fun e=>hM (.inr ⟨_,dJ hi,by rw[e];rfl⟩)),?_⟩⟩
      rintro(CG|⟨it,hit,lZ⟩)
      ·exact hM<|.inl CG
      ·rcases am7 hit with hit|rfl
       ·exact hM<|.inr ⟨it,hit,lZ⟩
       ·exact hM<|.inr ⟨_,dJ hi,lZ⟩
     exact bu.lift qp tA
end
theorem Zc {α:Type} {ss:List SV} {xs:List (List α)} {i k L:Nat} {s s2:SV} {x x2:List α} (hs:ss[i]? =some s) (gH:ss[k]? =some s2) (hx:xs[i]? =some x) (iW:xs[k]? =some x2):L+i≠L+k∨(s.v=s2.v∧x2=x):=by
 by_cases h:i=k
 ·subst h
  right
  rw[hs] at gH;rw[hx] at iW
  cases gH;cases iW
  exact⟨J,J⟩
 ·left;omega
end Go.Ew
namespace Go.Ew
open Go.RowKit
def l3 (a:Option Addr) (c lo:Nat):Option Addr:=if c=lo then a else a.map (·.add (lo*1))
def Fv (xs:List Int) (k:Nat):List Int:=xs.take k++((xs.take k).take (xs.length-k)++xs.drop (k+min k (xs.length-k)))
theorem FH (g j:Nat):(⟨g,0,none⟩:Addr).add j=⟨g,j,none⟩:=by unfold Addr.add;split<;>simp_all
theorem qR {M:Nat→Prop} {w:World}:∀(k:Nat) {xs:List Int} {cs:List Value},bu M w cs xs→bu M w (cs.take k) (xs.take k)∧bu M w (cs.drop k) (xs.drop k)
 |0,xs,cs,h=>⟨by rw[aog,aog];rfl,by simpa using h⟩
 |k+1,[],cs,h=>by
  rw[show cs=[] from h]
  exact⟨J,J⟩
 |k+1,x::xs,cs,h=>by
  obtain⟨c1,c2,rfl,h2,h3⟩:=h
  obtain⟨i1,i2⟩:=qR k h3
  obtain⟨e,hx⟩:=h2
  subst e
  exact⟨⟨[.int .i64 x],c2.take k,J,⟨J,hx⟩,i1⟩,i2⟩
section
variable {P:Program} {n:Nat} {ops:Array Oper} {f:aS} {w:World} {K:aS→World→Prop} {x y:Operand} {d:Nat} {ty T e:TypeId} {ps:String} {af:Array Edge} {v u:Value} {M M0:Nat→Prop} {w0:World} {l:List Item} {bytes:Nat} {z:Value} {B:Nat} {kk:IntKind} {agg:Bool} {xs ys:List Int} {a:Option Addr} {k c:Nat}
theorem Ca (hO:(own B e (.slice a k c) xs).holds M w):k=xs.length∧xs.length≤c:=by
 obtain⟨cs,h1,h2⟩:=hO
 rcases h1.2 with ⟨h3,h4⟩|⟨g,cap,cur,h3,h4,h5,h6,h7⟩
 ·cases h3;omega
 ·cases h3;exact⟨rfl,h6⟩
theorem K1 {α:Type} [GT α] {xs:List α} (hO:(own B e (.slice a k c) xs).holds M w):k=xs.length:=by
 obtain⟨cs,h1,h2⟩:=hO
 rcases h1.2 with ⟨h3,h4⟩|⟨g,cap,cur,h3,h4,h5,h6,h7⟩
 ·cases h3;omega
 ·cases h3;rfl
theorem aam {lo:Int} {qT:Operand} (hO:(own B e (.slice a k c) xs).holds M w) (ox:bG n x=true) (ol:bG n qT=true) (hx:ev f x=.slice a k c) (hl:ev f qT=.int kk lo) (hb:0≤lo∧lo≤xs.length) (hu:P.underlying T=some (.slice e)) (F:eh P e 1 agg bytes z)
  (h:K (b9 f d (.slice (l3 a c lo.toNat) (k-lo.toNat) (c-lo.toNat))) w):
  SO P n ops ⟨some d,.slice T x (some qT) none none,ty,ps,af,none⟩ f w K:=by
 obtain⟨hk,hc⟩:=Ca hO
 refine SO.value (v:=.slice (l3 a c lo.toNat) (k-lo.toNat) (c-lo.toNat)) (w':=w) ?_ h
 have uN:P.underlying T=some (.slice (P.elem T)):=by rw[hu];simp[Program.elem,hu]
 have tY:P.elem T=e:=by simp[Program.elem,hu]
 simp[execOp,aO ox,aO ol,hx,hl,Instr.sliceAt,gC hu]
 have:=run_slice_l (P:=P) (w:=w) T a k c uN kk lo hb.1 aq
 rw[tY,F.jf] at this
 simp[this,sliced,l3]
theorem aan {hi:Int} {oK:Operand} (hO:(own B e (.slice a k c) xs).holds M w) (ox:bG n x=true) (oh:bG n oK=true) (hx:ev f x=.slice a k c) (hh:ev f oK=.int kk hi) (hb:0≤hi∧hi≤xs.length) (hu:P.underlying T=some (.slice e)) (F:eh P e 1 agg bytes z)
  (h:K (b9 f d (.slice (l3 a c 0) hi.toNat c)) w):
  SO P n ops ⟨some d,.slice T x none (some oK) none,ty,ps,af,none⟩ f w K:=by
 obtain⟨hk,hc⟩:=Ca hO
 refine SO.value (v:=.slice (l3 a c 0) hi.toNat c) (w':=w) ?_ h
 have uN:P.underlying T=some (.slice (P.elem T)):=by rw[hu];simp[Program.elem,hu]
 have tY:P.elem T=e:=by simp[Program.elem,hu]
 simp[execOp,aO ox,aO oh,hx,hh,Instr.sliceAt,gC hu]
 have:=run_slice_h (P:=P) (w:=w) T a k c uN kk hi hb.1 aq
 rw[tY,F.jf] at this
 simp[this,sliced,l3]
theorem HI.KU (H:HI M0 w0 w l) (i:Nat) {g cap:Nat} {cur:Array Value} {cs ds:List Value} {o:Nat} (hi:l[i]? =some (own w0.heap.size e (.slice (some ⟨g,0,none⟩) xs.length cap) xs))
  (h3:w0.heap.size≤g) (h4:w.heap[g]? =some (.cells cur e (0,0))) (h5:xs.length≤cap) (h6:cap≤maxLen) (h7:cur.size=cap) (h8:cur.toList.take xs.length=cs)
  (hc:bu (MS M0 l) w cs xs) (hd:bu (MS M0 l) w ds ys) (ho:o+ys.length≤xs.length):
  HI M0 w0 (w.setRow g (cur.toList.take o++ds++cur.toList.drop (o+ds.length)).toArray) (l.set i (own w0.heap.size e (.slice (some ⟨g,0,none⟩) xs.length cap) (xs.take o++(ys++xs.drop (o+ys.length))))):=by
 have yk:ds.length=ys.length:=by have:=bu.length hd;simpa [GT.size] using this
 have ru:cs.length=xs.length:=by have:=bu.length hc;simpa [GT.size] using this
 have Gy:(xs.take o++(ys++xs.drop (o+ys.length))).length=xs.length:=by simp;omega
 have ab1:cur.toList.length=cap:=by simpa using h7
 have Cw:∀q,q<w.heap.size→(own w0.heap.size e (Value.slice (some ⟨g,0,none⟩) xs.length cap) xs).jx≠some q→(w.setRow g (cur.toList.take o++ds++cur.toList.drop (o+ds.length)).toArray).heap[q]? =w.heap[q]?:=
  fun q hq gE=>setRow_other w g q _ (fun e=>gE (by rw[e];rfl))
 refine H.vc i hi J J J (by simp) (amk _) Cw ?_ ?_
 ·intro b hb
  refine⟨?_,.inl hb⟩
  rw[size_setRow]
  exact(H.ji _ (dJ hi) b hb).2
 ·have qp:Up (MS M0 l) w (MS M0 (l.set i (own w0.heap.size e (Value.slice (some ⟨g,0,none⟩) xs.length cap) (xs.take o++(ys++xs.drop (o+ys.length)))))) (w.setRow g (cur.toList.take o++ds++cur.toList.drop (o+ds.length)).toArray):=by
   refine⟨by simp,fun b hb hM=>⟨setRow_other w g b _ (fun e=>hM (.inr ⟨_,dJ hi,by rw[e];rfl⟩)),?_⟩⟩
   rintro(CG|⟨it,hit,lZ⟩)
   ·exact hM<|.inl CG
   ·rcases am7 hit with hit|rfl
    ·exact hM<|.inr ⟨it,hit,lZ⟩
    ·exact hM<|.inr ⟨_,dJ hi,lZ⟩
  refine⟨cs.take o++(ds++cs.drop (o+ds.length)),⟨by simp[GT.size];omega,.inr ⟨g,cap,_,by rw[Gy],h3,setRow_heap w g cur _ e _ h4,by omega,h6,?_,?_⟩⟩,?_⟩
  ·simp only[anO,gf,ij,amF,GT.size]
   omega
  ·rw[Gy]
   show (cur.toList.take o++ds++cur.toList.drop (o+ds.length)).take (xs.length*1)=_
   rw[←h8,aop,ana,aov,aov,ij,anl aq,anN,anN,apb,amr (by omega:ds.length≤xs.length-o),Nat.min_comm o xs.length,
    show xs.length-o-ds.length=xs.length-(o+ds.length) from by omega]
  ·have e9:xs.drop (o+ys.length)=xs.drop (o+ds.length):=by rw[yk]
   have q:=bu.lift qp (qR (o+ds.length) hc).2
   exact bu.append (bu.lift qp (qR o hc).1)<|bu.append (bu.lift qp hd)<|(amh (fun r=>bu _ _ _ r) e9).mpr q
theorem aiC (H:HI M0 w0 w l) (i:Nat) (hi:l[i]? =some (own B e (.slice a k c) xs)) (hB:B=w0.heap.size) (ox:bG n x=true) (oy:bG n y=true) (hx:ev f x=.slice a k c) (hy:ev f y=u)
  (hs:Src (MS M0 l) w u ys) (hu:P.underlying T=some (.slice e)) (F:eh P e 1 agg bytes z) (hl:ys.length≤xs.length) (hp:0<ys.length)
  (h:∀w',HI M0 w0 w' (l.set i (own B e (.slice a k c) (ys++xs.drop ys.length)))→K (b9 f d (.int .i64 (ys.length:Int))) w'):
  SO P n ops ⟨some d,.call {callee:=.builtin .copy,args:=#[x,y],argTypes:=#[T,T]},ty,ps,af,none⟩ f w K:=by
 subst hB
 obtain⟨cs,h1,h2⟩:=H.at_ i hi
 obtain⟨a0,c0,rfl,Fa⟩:=hs
 obtain⟨inf,sh,tz,uM,Cz⟩:=F.info
 rcases h1.2 with ⟨h0,h3⟩|⟨g',c1,cur,h0,h3,h4,h5,h6,h7,h8⟩
 ·omega
 ·cases h0
  rcases Fa with h0|⟨ad,rfl,ds,tA,CA⟩
  ·omega
  ·have yk:ds.length=ys.length:=by have:=bu.length tA;simpa [GT.size] using this
   have pq:cur.size=c:=by rw[h7];simp[GT.size]
   have kD:=run_copy_row (P:=P) w T T ty e g' 0 xs.length c ad ys.length c0 cur e ds hu (by rw[sh];simp[uM]) h4 (by rw[yk];simp[anl hl]) CA aq<|bu.AK tA
   refine SO.value (v:=.int .i64 (ys.length:Int)) (w':=w.setRow g' (cur.toList.take 0++ds++cur.toList.drop (0+ds.length)).toArray) ?_<|h _ ?_
   ·have zO:(Builtin.copy_ #[T,T] ty #[.slice (some ⟨g',0,none⟩) xs.length c,.slice (some ad) ys.length c0]).run P w=.ok (.int .i64 (ys.length:Int)) (w.setRow g' (cur.toList.take 0++ds++cur.toList.drop (0+ds.length)).toArray):=by
     rw[kD,←yk];rfl
    simp[execOp,resolve,invoke,builtin,aO ox,aO oy,hx,hy,zO]
   ·rw[show ys++xs.drop ys.length=xs.take 0++(ys++xs.drop (0+ys.length)) from by simp]
    exact HI.KU (ys:=ys) (ds:=ds) (o:=0) H i hi h3 h4 h5 h6 pq (by simpa [GT.size] using h8) h2 tA aq
theorem aiD (H:HI M0 w0 w l) (i:Nat) (hi:l[i]? =some (own B e (.slice a k c) xs)) (hB:B=w0.heap.size) (ox:bG n x=true) (oy:bG n y=true) {q:Nat} (hx:ev f x=.slice (l3 a c q) (k-q) (c-q)) (hy:ev f y=.slice (l3 a c 0) q c)
  (hu:P.underlying T=some (.slice e)) (F:eh P e 1 agg bytes z) (hq:0<q∧q<xs.length)
  (h:∀w',HI M0 w0 w' (l.set i (own B e (.slice a k c) (Fv xs q)))→K (b9 f d (.int .i64 ((min q (xs.length-q):Nat):Int))) w'):
  SO P n ops ⟨some d,.call {callee:=.builtin .copy,args:=#[x,y],argTypes:=#[T,T]},ty,ps,af,none⟩ f w K:=by
 subst hB
 obtain⟨cs,h1,h2⟩:=H.at_ i hi
 obtain⟨inf,sh,tz,uM,Cz⟩:=F.info
 rcases h1.2 with ⟨h0,h3⟩|⟨g',c1,cur,h0,h3,h4,h5,h6,h7,h8⟩
 ·omega
 ·cases h0
  have pq:cur.size=c:=by rw[h7];simp[GT.size]
  have kV:∀j,(⟨g',0,none⟩:Addr).add j=⟨g',j,none⟩:=FH g'
  have SF:l3 (some ⟨g',0,none⟩) c q=some ⟨g',q,none⟩:=by unfold l3;rw[amn aq,aop];show some (Addr.add _ q)=_;rw[kV]
  have hcB:l3 (some ⟨g',0,none⟩) c 0=some ⟨g',0,none⟩:=by unfold l3;rw[amn aq];show some (Addr.add _ (0*1))=_;rw[kV]
  rw[SF] at hx;rw[hcB] at hy
  have ru:cs.length=xs.length:=by have:=bu.length h2;simpa [GT.size] using this
  have hd:bu (MS M0 l) w ((cs.take q).take (xs.length-q)) ((xs.take q).take (xs.length-q)):=(qR _ (qR q h2).1).1
  have si:((cs.take q).take (xs.length-q)).length=min q (xs.length-q):=by simp;omega
  have kD:=run_copy_row (P:=P) w T T ty e g' q (xs.length-q) (c-q) ⟨g',0,none⟩ q c cur e ((cs.take q).take (xs.length-q)) hu (by rw[sh];simp[uM]) h4 (by rw[si]) (by
   intro j v hv
   have wZ:=(ef.1 hv).1
   rw[si] at wZ
   rw[anJ aq,anJ aq,←h8,anJ (by simp[GT.size];omega)] at hv
   rw[kV,cell_of_row w g' _ cur e (0,0) h4,←hv,anv]) (by rw[si];omega) (bu.AK hd)
  refine SO.value (v:=.int .i64 ((min q (xs.length-q):Nat):Int)) (w':=w.setRow g' (cur.toList.take q++(cs.take q).take (xs.length-q)++cur.toList.drop (q+((cs.take q).take (xs.length-q)).length)).toArray) ?_<|h _ ?_
  ·have zO:(Builtin.copy_ #[T,T] ty #[.slice (some ⟨g',q,none⟩) (xs.length-q) (c-q),.slice (some ⟨g',0,none⟩) q c]).run P w=.ok (.int .i64 ((min q (xs.length-q):Nat):Int)) (w.setRow g' (cur.toList.take q++(cs.take q).take (xs.length-q)++cur.toList.drop (q+((cs.take q).take (xs.length-q)).length)).toArray):=by
    rw[kD,si];rfl
   simp[execOp,resolve,invoke,builtin,aO ox,aO oy,hx,hy,zO]
  ·have:=HI.KU (ys:=(xs.take q).take (xs.length-q)) (o:=q) H i hi h3 h4 h5 h6 pq (by simpa [GT.size] using h8) h2 hd<|by simp;omega
   rw[show ((xs.take q).take (xs.length-q)).length=min q (xs.length-q) from by simp;omega] at this
   exact this
end
end Go.Ew
namespace Go.Ew
open Go.RowKit
def FPH (P:Program) (g:FuncId) (ae:List Value) (M:Nat→Prop) (w:World) (it:List Int→Item) (r:List Item) (xs:List Int) (p:Int→Bool):Prop:=
 ct P g∧∀w1 ys,HI M w w1 ([it ys]++r)→∀x,x∈xs→aK x→Calls P g ([Value.int .i64 x]++ae).toArray w1 (cb fun u w2=>u=.bool (p x)∧Ext w1 w2)
theorem FPH.fp {P:Program} {g:FuncId} {ae:List Value} {M M':Nat→Prop} {w w1:World} {it:List Int→Item} {r:List Item} {xs ys:List Int} {p:Int→Bool} (h:FPH P g ae M w it r xs p) (H:HI M w w1 ([it ys]++r)):FP P g ae M' w1 xs p:=
 ⟨h.1,fun w2 v x hx e hv=>by
  obtain⟨cs,⟨e1,hi⟩,e2⟩:=hv
  rw[e1] at e2
  cases e2
  exact h.2 w2 ys (H.ext e) x hx hi⟩
theorem Jv (v:Value):∀n,(Builtin.zeroCells #[v] n).toList=List.replicate n v:=by
 intro n
 unfold Builtin.zeroCells
 apply amQ
 intro i
 simp only[Array.toList_map,amx,Array.toList_range,an1]
 by_cases h:i<n
 ·rw[ang (by simpa using h),aml h]
  simp[Nat.mod_one]
 ·rw[amv (by simpa using h),amn h];rfl
section
variable {P:Program} {n:Nat} {ops:Array Oper} {f:aS} {w:World} {K:aS→World→Prop} {x y:Operand} {d:Nat} {ty T e:TypeId} {ps:String} {af:Array Edge} {v u:Value} {M M0:Nat→Prop} {w0:World} {l:List Item} {bytes:Nat} {B:Nat} {kk:IntKind} {agg:Bool} {xs ys:List Int} {a:Option Addr} {k c:Nat}
theorem ad7 {hi:Int} {oK:Operand} (H:HI M0 w0 w l) (i:Nat) (pv:l[i]? =some (own B e (.slice a k c) xs)) (ox:bG n x=true) (oh:bG n oK=true) (hx:ev f x=.slice a k c) (hh:ev f oK=.int kk hi) (hb:0≤hi∧hi≤xs.length) (hu:P.underlying T=some (.slice e)) (F:eh P e 1 agg bytes (.int .i64 0))
  (h:HI M0 w0 w (l.set i (own B e (.slice a (xs.take hi.toNat).length c) (xs.take hi.toNat)))→K (b9 f d (.slice a (xs.take hi.toNat).length c)) w):
  SO P n ops ⟨some d,.slice T x none (some oK) none,ty,ps,af,none⟩ f w K:=by
 have hO:=H.at_ i pv
 have jA:=(ef.1 pv).1
 have hlen:(xs.take hi.toNat).length=hi.toNat:=by simp;omega
 have Fe:l3 a c 0=a:=by
  unfold l3
  split
  ·rfl
  ·obtain⟨cs,h1,h2⟩:=hO
   rcases h1.2 with ⟨h3,h4⟩|⟨g,cap,cur,h3,h4⟩
   ·cases h3;rfl
   ·cases h3
    show some (Addr.add _ (0*1))=_
    rw[FH]
 refine aan hO ox oh hx hh hb hu F ?_
 rw[Fe]
 rw[hlen] at h
 refine h ?_
 refine H.weaken ?_ ?_
 ·apply amQ
  intro j
  rw[amx,amx]
  by_cases hj:i=j
  ·subst hj;rw[amC jA,pv];cases a<;>rfl
  ·rw[amU hj]
 ·intro j it nk hj qV M Sy
  by_cases pX:i=j
  ·subst pX
   rw[amC jA] at qV
   rw[pv] at hj
   cases hj;cases qV
   obtain⟨cs,h1,h2⟩:=Sy
   have ru:=bu.length h2
   refine⟨cs.take hi.toNat,⟨by rw[hlen];simp only[GT.size] at ru ⊢;rw[ij];omega,?_⟩,(qR _ h2).1⟩
   rcases h1.2 with ⟨h3,h4⟩|⟨g,cap,cur,h3,h4,h5,h6,h7,h8,h9⟩
   ·cases h3
    refine .inl ⟨by rw[show hi.toNat=0 from by omega],by rw[hlen];omega⟩
   ·cases h3
    refine .inr ⟨g,c,cur,by rw[hlen],h4,h5,by omega,h7,h8,?_⟩
    rw[←h9,hlen,anN]
    congr 1
    simp only[GT.size];omega
  ·rw[amU pX,hj] at qV;cases qV;exact Sy
theorem clO (H:HI M0 w0 w l) (i:Nat) (hi:l[i]? =some (own B e (.slice a k c) xs)) (hB:B=w0.heap.size) (ox:bG n x=true) {q:Nat} (hx:ev f x=.slice (l3 a c q) (k-q) (c-q))
  (hu:P.underlying T=some (.slice e)) (F:eh P e 1 agg bytes (.int .i64 0)) (hq:q≤xs.length)
  (h:∀w',HI M0 w0 w' (l.set i (own B e (.slice a k c) (xs.take q++(List.replicate (xs.length-q) 0++[]))))→K f w'):
  SO P n ops ⟨none,.call {callee:=.builtin .clear,args:=#[x],argTypes:=#[T]},ty,ps,af,none⟩ f w K:=by
 subst hB
 have hO:=H.at_ i hi
 have jA:=(ef.1 hi).1
 obtain⟨hk,hc⟩:=Ca hO
 obtain⟨cs,h1,h2⟩:=hO
 by_cases nn:q=xs.length
 ·have hz:k-q=0:=by omega
  refine SO.value (d:=none) (v:=.tuple #[]) (w':=w) ?_<|h w ?_
  ·have zO:(Builtin.clear_ #[T] ty #[.slice (l3 a c q) 0 (c-q)]).run P w=.ok (.tuple #[]) w:=by
    cases hca:l3 a c q<;>simp[Builtin.clear_,run_underlying hu]
   rw[hz] at hx
   simp[execOp,resolve,invoke,builtin,aO ox,hx,zO]
  ·have e9:xs.take q++(List.replicate (xs.length-q) 0++[])=xs:=by rw[nn];simp
   rw[e9]
   have:l.set i (own w0.heap.size e (.slice a k c) xs)=l:=by
    apply amQ
    intro j
    by_cases hj:i=j
    ·subst hj;rw[amC jA,hi]
    ·rw[amU hj]
   rw[this];exact H
 ·rcases h1.2 with ⟨h0,h3⟩|⟨g',c1,cur,h0,h3,h4,h5,h6,h7,h8⟩
  ·omega
  ·cases h0
   have pq:cur.size=c:=by rw[h7];simp[GT.size]
   have SF:l3 (some ⟨g',0,none⟩) c q=some ⟨g',q,none⟩:=by unfold l3;rw[amn aq,aop];show some (Addr.add _ q)=_;rw[FH]
   rw[SF] at hx
   have hz:bu (MS M0 l) w (List.replicate (xs.length-q) (Value.int .i64 0)) (List.replicate (xs.length-q) (0:Int)):=by
    have:∀m,bu (MS M0 l) w (List.replicate m (Value.int .i64 0)) (List.replicate m (0:Int)):=by
     intro m
     induction m with
     |zero=>rfl
     |succ m ih=>exact⟨[.int .i64 0],List.replicate m (.int .i64 0),by rw[am_];rfl,⟨rfl,by unfold aK;omega⟩,ih⟩
    exact this _
   have qq:=run_storeCells_at P g' q e (List.replicate (xs.length-q)<|Value.int .i64 0) 0 cur w h4 (by rw[nX];omega)<|bu.AK hz
   refine SO.value (d:=none) (v:=.tuple #[]) (w':=w.setRow g' (cur.toList.take q++List.replicate (xs.length-q) (Value.int .i64 0)++cur.toList.drop (q+(List.replicate (xs.length-q)<|Value.int .i64 0).length)).toArray) ?_<|h _ ?_
   ·obtain⟨m,hm⟩:∃m,xs.length-q=m+1:=⟨xs.length-q-1,by omega⟩
    have zO:(Builtin.clear_ #[T] ty #[.slice (some ⟨g',q,none⟩) (xs.length-q) (c-q)]).run P w=.ok (.tuple #[]) (w.setRow g' (cur.toList.take q++List.replicate (xs.length-q) (Value.int .i64 0)++cur.toList.drop (q+(List.replicate (xs.length-q) (Value.int .i64 0)).length)).toArray):=by
     have ry:(Builtin.zeroCells (Value.int .i64 0).cells (xs.length-q)).toList=List.replicate (xs.length-q) (Value.int .i64 0):=Jv _ _
     rw[amX] at qq
     rw[hm] at qq ry ⊢
     simp[Builtin.clear_,run_underlying hu,F.tL,ry,qq]
    simp[execOp,resolve,invoke,builtin,aO ox,hx,zO]
   ·have:=HI.KU (ys:=List.replicate (xs.length-q) 0) (ds:=List.replicate (xs.length-q) (Value.int .i64 0)) (o:=q) H i hi h3 h4 h5 h6 pq (by simpa [GT.size] using h8) h2 hz<|by rw[nX];omega
    have e8:xs.drop (q+(List.replicate (xs.length-q) (0:Int)).length)=[]:=by rw[nX];exact anS aq
    rw[e8] at this
    exact this
end
end Go.Ew
namespace Go.Ew
def j2 (i:Int):BitVec 64:=if 0≤i∧i≤63 then 1#64 <<< i.toNat else 0#64
theorem II {i:Int} (h:aK i):((BitVec.ofInt 64 i).toNat:Int)=if 0≤i then i else i+18446744073709551616:=by
 rw[←yK,IntKind.wrap_u64];unfold aK at h;split<;>omega
theorem ZP {i:Int} (h:aK i) (h1:63<(BitVec.ofInt 64 i).toNat):0#64=j2 i:=by
 unfold j2;rw[amn];have:=II h;unfold aK at h;split at this<;>omega
theorem ZO {i:Int} (h:aK i) (h1:¬63<(BitVec.ofInt 64 i).toNat):1#64 <<< ((BitVec.ofInt 64 i).toNat:Int).toNat=j2 i:=by
 have h2:=II h
 unfold j2;unfold aK at h
 split at h2
 ·rw[aml aq];congr 1;omega
 ·omega
def xc (w:BitVec 64) (i:Int):Bool:=decide (0≤i)&&w.getLsbD i.toNat
theorem ZT (w:BitVec 64) (k:Nat) (hk:k<64):(w &&& 1#64 <<< k=0#64)↔w.getLsbD k=false:=by
 constructor
 ·intro h
  have:=amh (·.getLsbD k) h
  simpa [hk] using this
 ·intro h
  apply aok
  intro j hj
  simp only[aoo,aoN,BitVec.getLsbD_zero]
  by_cases I3:j=k
  ·subst I3;simp[h]
  ·by_cases eM:j<k
   ·simp[eM]
   ·have:j-k≠0:=by omega
    simp[this]
theorem Zh (w:BitVec 64) (i:Int):(!decide (w &&& j2 i=0#64))=xc w i:=by
 unfold j2 xc
 by_cases h:0≤i∧i≤63
 ·rw[aml h,amE]
  have:=ZT w i.toNat aq
  simp[this,h.1]
 ·rw[amn h]
  by_cases h0:0≤i
  ·have:w.getLsbD i.toNat=false:=BitVec.getLsbD_of_ge w _ aq
   simp[this]
  ·simp[h0]
abbrev Row:=List (BitVec 64)
def fe (r:Row) (i:Int):Bool:=decide (0≤i)&&(r.getD (i.toNat/64) 0#64).getLsbD (i.toNat%64)
def jj (r:Row) (i:Int):Bool:=decide (0≤i∧i<64*(r.length:Int))
theorem Ze {r:Row} {i:Int} (h:0≤i):decide (i/64<(r.length:Int))=jj r i:=by
 unfold jj;congr 1;apply propext;omega
theorem abd {r:Row} {i:Int} (h:i<0):false=jj r i:=by
 unfold jj;simp;omega
theorem Zk {r:Row} {i:Int} (h:jj r i=true) {x:BitVec 64} (hx:r[(i/64).toNat]? =some x):xc x (i%64)=fe r i:=by
 unfold jj at h;simp only[amj] at h
 unfold xc fe
 have e1:(i/64).toNat=i.toNat/64:=by omega
 have e2:(i%64).toNat=i.toNat%64:=by omega
 rw[e1] at hx
 rw[e2,gZ,hx]
 simp[h.1,Int.emod_nonneg]
theorem xe {r:Row} {i:Int} (h:jj r i=false):false=fe r i:=by
 unfold jj at h;simp only[amy] at h
 unfold fe
 by_cases h0:0≤i
 ·rw[gZ,amv aq];simp
 ·simp[h0]
def dY (r:Row) (i:Int):Row:=if jj r i then r.set (i.toNat/64) (r.getD (i.toNat/64) 0#64 ||| j2 (i%64)) else r
theorem NI {r:Row} {i:Int} (h:jj r i=true) {x:BitVec 64} (hx:r[(i/64).toNat]? =some x):r.set (i/64).toNat (x ||| j2 (i%64))=dY r i:=by
 unfold dY;rw[aml h]
 unfold jj at h;simp only[amj] at h
 have e1:(i/64).toNat=i.toNat/64:=by omega
 rw[e1] at hx
 rw[e1,gZ,hx];rfl
theorem EH {r:Row} {i:Int} (h:jj r i=false):r=dY r i:=by
 unfold dY;rw[amn (by simp[h])]
end Go.Ew
namespace Go.Ew
def VV (x:Nat):Nat→Nat
 |0=>0
 |k+1=>VV x k+(x.testBit k).toNat
def z8 (x:BitVec 64):Nat:=VV x.toNat 64
def rep (m:Nat):Nat→Nat
 |0=>0
 |n+1=>m+256*rep m n
def s1 (n x:Nat):Nat:=(x/2 &&& rep 0x55 n)+(x &&& rep 0x55 n)
def s2 (n x:Nat):Nat:=(x/4 &&& rep 0x33 n)+(x &&& rep 0x33 n)
def s3 (n x:Nat):Nat:=(x/16+x) &&& rep 0x0f n
def Kb (a:Nat):Nat:=(a/2 &&& 0x55)+(a &&& 0x55)
def Ka (a:Nat):Nat:=(a/4 &&& 0x33)+(a &&& 0x33)
theorem b3:∀a<256,Ka (Kb a)<69∧Ka (Kb a)%16<5∧Ka (Kb a)%16+Ka (Kb a)/16=VV a 8:=by decide +kernel
theorem d1 {a b:Nat} (h:a<256):(a+256*b)/256=b:=by omega
theorem d2 {a b c:Nat} (h:a<256) (h':b<256):(a+256*(b+256*c))/65536=c:=by omega
end Go.Ew
namespace Go.Ew
def CS (r:Row):Nat:=(r.map z8).sum
def aeb (x y:BitVec 64):Bool:=decide (x &&& ~~~y=0#64)
def adW (a b:Row) (i:Nat):Bool:=aeb (a.getD i 0#64) (b.getD i 0#64)
def adV (a b:Row) (k:Nat):Bool:=(List.range k).all (adW a b)
def Ky (a b:Row):Bool:=adV a b a.length
theorem wi {r:Row} {k:Nat} {x:BitVec 64} (h:r[((k:Nat):Int).toNat]? =some x):r.getD k 0#64=x:=by
 rw[dZ] at h;rw[gZ,h];rfl
theorem rX {r:Row} {k:Nat} (h:r.length≤k):r.getD k 0#64=0#64:=by
 rw[gZ,amv h];rfl
def words (n:Int):Nat:=((max n 0+63)/64).toNat
def dX (n:Int):Row:=List.replicate (words n) 0#64
theorem F_ (x:BitVec 64) (i j:Nat) (hi:i<64) (hj:j<64):(x ||| j2 (i:Int)).getLsbD j=(x.getLsbD j||decide (j=i)):=by
 unfold j2
 rw[aml aq,BitVec.getLsbD_or,aoN,dZ]
 congr 1
 by_cases h:j=i
 ·subst h;simp[hi]
 ·by_cases h2:j<i
  ·simp[h,h2]
  ·have:j-i≠0:=by omega
   simp[h,h2,this,hj]
theorem km (r:Row) (i:Int):(dY r i).length=r.length:=by unfold dY;split<;>simp
theorem Og (r:Row) (i j:Int):jj (dY r i) j=jj r j:=by unfold jj;rw[km]
theorem KI {r:Row} {i:Int} (h:jj r i=true) (k:Nat) (hk:k<r.length):(dY r i).getD k 0#64=if k=i.toNat/64 then r.getD k 0#64 ||| j2 ((i.toNat%64:Nat):Int) else r.getD k 0#64:=by
 unfold dY;rw[aml h]
 unfold jj at h;simp only[amj] at h
 have e:i%64=((i.toNat%64:Nat):Int):=by omega
 simp only[gZ]
 by_cases zS:k=i.toNat/64
 ·subst zS
  rw[amC hk,aml rfl,e];rfl
 ·rw[amU (fun e=>zS e.symm),amn zS]
theorem JB {r:Row} {i:Int}:fe (dY r i) i=jj r i:=by
 by_cases h:jj r i=true
 ·have h':=h
  unfold jj at h';simp only[amj] at h'
  have hm:i.toNat%64<64:=Nat.mod_lt _ aw
  rw[h];unfold fe
  rw[KI h _ aq,aml rfl,F_ _ _ _ hm hm]
  simp[h'.1]
 ·have h2:jj (dY r i) i=false:=by rw[Og];simpa using h
  rw[←xe h2];simpa using h
theorem P9 {r:Row} {i:Int} (h:fe r i=true):jj r i=true:=by
 cases h1:jj r i with
 |true=>rfl
 |false=>rw[←xe h1] at h;cases h
end Go.Ew
namespace Go.Ew
abbrev Rows:=List (List (BitVec 64))
def Cb (n k:Int):Bool:=decide (k<0)||decide (n≤k)
def kg (n:Int) (l:List Int):Bool:=!l.any (Cb n)
theorem ja {n a b:Int}:kg n [a,b]=true↔(0≤a∧a<n)∧(0≤b∧b<n):=by
 unfold kg Cb
 simp
theorem jY {n a b:Int}:kg n [a,b]=false↔¬((0≤a∧a<n)∧(0≤b∧b<n)):=by
 rw[←ja];simp
def rowAt (rs:Rows) (i:Int):Row:=rs.getD i.toNat []
theorem rS {rs:Rows} {i:Int} {x:Row} (h:rs[i.toNat]? =some x):rowAt rs i=x:=by unfold rowAt;rw[gZ,h];rfl
def ra (rs:Rows) (p:Int×Int):Rows:=rs.set p.1.toNat (dY (rowAt rs p.1) p.2)
theorem MU (rs:Rows) (p:Int×Int):(ra rs p).length=rs.length:=by unfold ra;simp
theorem Hq {rs:Rows} {i j:Int} {x:Row} (h:rs[i.toNat]? =some x):rs.set i.toNat (dY x j)=ra rs (i,j):=by unfold ra;rw[rS h]
def Cg (n:Int):Bool:=decide (0≤n)&&decide (n≤4096)
theorem r9 {n:Int}:Cg n=true↔0≤n∧n≤4096:=by unfold Cg;simp
theorem zF {n:Int}:Cg n=false↔¬(0≤n∧n≤4096):=by rw[←r9];simp
def vh (n:Int):Rows:=List.replicate n.toNat (dX n)
def n9 (n:Int):Int:=if Cg n then n else 0
def iz (n:Int):Rows:=if Cg n then vh n else []
def rH (n:Int):Int:=if Cg n then 0 else 1
theorem wQ {n:Int} (h:Cg n=true):n9 n=n∧iz n=vh n∧rH n=0:=by simp[n9,iz,rH,h]
theorem wb {n:Int} (h:Cg n=false):n9 n=0∧iz n=[]∧rH n=1:=by simp[n9,iz,rH,h]
theorem pJ (n:Int):(vh n).length=n.toNat:=by unfold vh;simp
def uY {α:Type} (m k:Nat) (a b:α):List α:=List.replicate k a++List.replicate (m-k) b
theorem Ni {α:Type} (m:Nat) (a b:α):List.replicate m b=uY m 0 a b:=by simp[uY]
theorem Qt {α:Type} {m k:Nat} {a b:α} (h:k<m):(uY m k a b).set k a=uY m (k+1) a b:=by
 unfold uY
 obtain⟨q,hq⟩:∃q,m-k=q+1:=⟨m-k-1,by omega⟩
 rw[hq,anF _ _ (by simp),show m-(k+1)=q from by omega,nX,anj,am_,aon,List.replicate_succ',ana]
 rfl
theorem Qu {α:Type} {m k:Nat} {a b:α} (h:k=m):uY m k a b=List.replicate m a:=by subst h;simp[uY]
def foldM (n:Int) (ps:List (Int×Int)):Rows:=ps.foldl ra (vh n)
theorem vG:∀(ps:List (Int×Int)) (rs:Rows),(ps.foldl ra rs).length=rs.length
 |[],_=>rfl
 |p::ps,rs=>by rw[aoF,vG ps,MU]
theorem CJ (n:Int) (ps:List (Int×Int)):(foldM n ps).length=n.toNat:=by unfold foldM;rw[vG,pJ]
theorem Qp {n:Int} {ps:List (Int×Int)} {j:Nat} {p:Int×Int} (h:ps[((j:Nat):Int).toNat]? =some p):foldM n (ps.take (j+1))=ra (foldM n (ps.take j)) p:=by
 unfold foldM;rw[nB h,aoa];rfl
theorem FF {α:Type} {l:List α} {q:α→Bool} {j:Nat} {x:α} (h:l[((j:Nat):Int).toNat]? =some x) (h1:(l.take j).all q=true) (h2:q x=true):(l.take (j+1)).all q=true:=by
 rw[nB h,List.all_append,h1];simp[h2]
theorem My {α:Type} {l:List α} {q:α→Bool} {i:Nat} {x:α} (h:l[i]? =some x) (h2:q x=false):l.all q=false:=by
 rw[List.all_eq_false];exact⟨x,dJ h,by simp[h2]⟩
theorem Ri {m:Nat} {rs:Rows} {p:Int×Int} (h:∀x∈rs,x.length=m):∀x∈ra rs p,x.length=m:=by
 intro x hx
 unfold ra at hx
 by_cases hi:p.1.toNat<rs.length
 ·rcases am7 hx with hx|rfl
  ·exact h x hx
  ·rw[km]
   unfold rowAt
   rw[gZ,eP hi]
   exact h _<|aox hi
 ·rw[List.set_eq_of_length_le aq] at hx
  exact h x hx
theorem yp {m:Nat}:∀(ps:List (Int×Int)) (rs:Rows),(∀x∈rs,x.length=m)→∀x∈ps.foldl ra rs,x.length=m
 |[],_,h=>h
 |p::ps,rs,h=>by rw[aoF];exact yp ps _ (Ri h)
theorem pI (n:Int):(dX n).length=words n:=by unfold dX;simp
theorem S2 {n:Int} {ps:List (Int×Int)} {i:Nat} {x:Row} (h:(foldM n ps)[i]? =some x):x.length=words n:=
 yp ps (vh n) (by
  intro x hx
  unfold vh at hx
  rw[List.eq_of_mem_replicate hx,pI]) x (dJ h)
theorem Ez {n:Int} (h:n≤4096):words n≤64:=by unfold words;omega
def gX (n:Int) (i j:Int):Int:=if kg n [i,j] then n else 0
def jW (n:Int) (rs:Rows) (i j:Int):Rows:=if kg n [i,j] then ra rs (i,j) else []
def lk (n:Int) (i j:Int):Int:=if kg n [i,j] then 0 else 1
def eC (n:Int) (rs:Rows) (i j:Int):Bool:=kg n [i,j]&&fe (rowAt rs i) j
theorem pG {n i j:Int} {rs:Rows} (h:kg n [i,j]=true):gX n i j=n∧jW n rs i j=ra rs (i,j)∧lk n i j=0:=by simp[gX,jW,lk,h]
theorem od {n i j:Int} {rs:Rows} (h:kg n [i,j]=false):gX n i j=0∧jW n rs i j=[]∧lk n i j=1:=by simp[gX,jW,lk,h]
theorem nh {α:Type} {l:List α} {i:Nat} {x y:α} (h:l[i]? =some x) (e:l[i]? =some y):x=y:=amo (h.symm.trans e)
theorem abe {n i j:Int}:kg n [i,j]=(decide (0≤i)&&decide (i<n)&&decide (0≤j)&&decide (j<n)):=by
 rw[amE,ja];simp[and_assoc]
end Go.Ew
namespace Go.Ew
theorem Lt {r:Row} {i:Int} (h0:0≤i) (h:i<64*(r.length:Int)):jj r i=true:=by unfold jj;simp[h0,h]
theorem Oh {r:Row} {i:Int} (h:¬(0≤i∧i<64*(r.length:Int))):jj r i=false:=by unfold jj;simp;omega
theorem Zj {r:Row} {i:Int} (h:¬(0≤i∧i<64*(r.length:Int))):false=fe r i:=xe (Oh h)
theorem YF {r:Row} {i:Int} (h:¬(0≤i∧i<64*(r.length:Int))):r=dY r i:=EH (Oh h)
end Go.Ew
namespace Go.Ew
open Go.RowKit Go.WideShapes Go.ChangeShapes
def wD:List Nat:=[0,1,56,2,57,49,28,3,61,58,42,50,38,29,17,4,62,47,59,36,45,43,51,22,53,39,33,30,24,18,12,5,63,55,48,27,60,41,37,16,46,35,44,21,52,32,23,11,54,26,40,15,34,20,31,10,25,14,19,9,13,8,7,6]
def fQ (g:Nat) (w:World):Prop:=∀i,i<64→w.cell? ⟨g,i,none⟩=some (.int .u8 ((wD.getD i 0:Nat):Int))
theorem fQ.ext {g:Nat} {w w':World} (h:fQ g w) (e:Ext w w'):fQ g w':=by
 intro i hi
 have h1:=h i hi
 rw[Below.cell e.toBelow (p:=⟨g,i,none⟩) (pC h1)]
 exact h1
def ve (i:Nat):BitVec 8:=BitVec.ofNat 8 (wD.getD i 0)
theorem aag:∀i<64,wD.getD i 0<64:=by decide
theorem Kw {i:Nat} (h:i<64):((ve i).toNat:Int)=((wD.getD i 0:Nat):Int):=by
 have:=aag i h
 unfold ve
 rw[BitVec.toNat_ofNat]
 omega
theorem fQ.at_ {g:Nat} {w:World} {M:Nat→Prop} (h:fQ g w) {i:Nat} (hi:i<64):gS M w ⟨g,i,none⟩ (ve i):=by
 refine⟨[U8 (ve i)],J,fun j v hv=>?_⟩
 cases j with
 |zero=>
  simp at hv;subst hv
  rw[show (⟨g,i,none⟩:Addr).add 0=⟨g,i,none⟩ from rfl,h i hi,U8,Kw hi]
 |succ j=>simp at hv
theorem agR {g:Nat} {w0 w:World} {M:Nat→Prop} (h:fQ g w0) (e:Ext w0 w) {i:Nat} {ad:Addr} (ha:(⟨g,0,none⟩:Addr).add (i*1)=ad) (hi:i<64):gS M w ad (ve i):=by
 have:ad=⟨g,i,none⟩:=by
  rw[←ha,aop]
  unfold Addr.add
  split
  ·rename_i h;rw[h]
  ·simp
 rw[this]
 exact(h.ext e).at_ hi
theorem MR {P:Program} {g:Nat} {t e:TypeId} {name:String} {D:DataW Unit} {W:World} (hg:P.globalNamed name=some g) (ht:(P.globals[g]?).map (·.type)=some t)
  (hu:P.underlying t=some (.array 64 e)) (he:P.underlying e=some (.int .u8)) (hc:P.cellsOf e=1) (hD:D=.agg (wD.map fun k=>.lit (.int .u8 ((k:Nat):Int)))) (h:laidMetH P [(name,D)] W)
  (hp:laidMetH P [(name,D)] W↔laidMet P [(name,D)] W):fQ g W:=by
 rw[hp] at h
 obtain⟨ps,⟨g0,t0,X5,f0,p0,q0,hg0,ht0,im,LP,_⟩,_⟩:=h
 obtain rfl:=amo (hg.symm.trans hg0)
 obtain rfl:=amo (ht.symm.trans ht0)
 obtain⟨xs,m,rfl,hx,hlen,hn,uN⟩:=DataW.trod_array hu LP
 intro i hi
 have h1:=uN i hi
 rw[hc,aop,eP (by omega:i<xs.length)] at h1
 obtain⟨k,e1,e2,_⟩:=DataW.trod_int he h1
 simp only[am0] at hx
 have h2:(DataW.agg (wD.map fun k=>DataW.lit (Lit.int .u8 ((k:Nat):Int))):DataW Unit)=.agg (xs.map (·.1)):=by rw[←hD];exact hx.1
 injection h2 with h3
 have h4:=amh (fun l=>l[i]?) h3
 have hti:i<wD.length:=by simpa [wD] using hi
 simp only[amx,eP hti,eP (by omega:i<xs.length),anD,e2,amu] at h4
 injection h4 with h5
 injection h5 with h6 h7
 have h8:wD.getD i 0=wD[i]:=by rw[gZ,eP hti];rfl
 rw[h8,h7]
 have:=World.var?_cell hg0 im i
 have zV:X5[i]? =some (.int .u8 k):=by
  have:(X5.toList.drop i).head?=some (.int .u8 k):=by
   have h9:((X5.toList.drop i).take 1).head?=some (.int .u8 k):=by rw[e1];rfl
   cases hq:X5.toList.drop i with
   |nil=>rw[hq] at h9;simp at h9
   |cons a b=>rw[hq] at h9;simpa using h9
  rw[List.head?_drop] at this
  simpa using this
 rw[zV] at this
 simpa using this
end Go.Ew
namespace Go.Ew
def ob (x:BitVec 64):List Nat:=(List.range 64).filter fun k=>x.getLsbD k
def fz (x:BitVec 64):Nat:=(ob x).headD 64
theorem uX {p:Nat→Bool}:∀(n:Nat),(∃k<n,p k=true)→∃k,k<n∧p k=true∧(∀j,j<k→p j=false)∧∃l,(List.range n).filter p=k::l∧l=(List.range n).filter (fun i=>p i&&!decide (i=k))
 |0,⟨k,h,_⟩=>by omega
 |n+1,h=>by
  by_cases h1:∃k<n,p k=true
  ·obtain⟨k,hk,hp,hl,l,e1,e2⟩:=uX n h1
   refine⟨k,by omega,hp,hl,l++[n].filter p,?_,?_⟩
   ·rw[anQ,anL,e1];rfl
   ·rw[anQ,anL,←e2]
    congr 1
    have:¬n=k:=by omega
    simp[List.filter_cons,this]
  ·obtain⟨k,hk,hp⟩:=h
   have yh:k=n:=by
    apply amZ
    intro gE
    exact h1 ⟨k,by omega,hp⟩
   subst yh
   have Gx:∀j,j<k→p j=false:=by
    intro j hj
    cases hb:p j with
    |false=>rfl
    |true=>exact absurd ⟨j,hj,hb⟩ h1
   have hf:(List.range k).filter p=[]:=by
    rw[ano]
    intro j hj
    rw[amm] at hj
    simp[Gx j hj]
   have LK:(List.range k).filter (fun i=>p i&&!decide (i=k))=[]:=by
    rw[ano]
    intro j hj
    rw[amm] at hj
    simp[Gx j hj]
   refine⟨k,by omega,hp,Gx,[],?_,?_⟩
   ·rw[anQ,anL,hf];simp[hp]
   ·rw[anQ,anL,LK];simp
theorem TG {x:BitVec 64} (h:x≠0#64):∃k<64,x.getLsbD k=true:=by
 apply amZ
 intro hn
 apply h
 apply aok
 intro i hi
 rw[BitVec.getLsbD_zero]
 cases hb:x.getLsbD i with
 |false=>rfl
 |true=>exact absurd ⟨i,hi,hb⟩ hn
theorem least {x:BitVec 64} (h:x≠0#64):∃l,fz x<64∧x.getLsbD (fz x)=true∧(∀j,j<fz x→x.getLsbD j=false)∧ob x=fz x::l∧l=(List.range 64).filter (fun i=>x.getLsbD i&&!decide (i=fz x)):=by
 obtain⟨k,hk,hp,hl,l,e1,e2⟩:=uX 64 (TG h)
 have hf:fz x=k:=by unfold fz ob;rw[e1];rfl
 rw[hf]
 exact⟨l,hk,hp,hl,e1,e2⟩
theorem Jk {x:BitVec 64} {k:Nat} (hp:x.getLsbD k=true) (hl:∀j,j<k→x.getLsbD j=false) (i:Nat):(∃j,j<i∧x.getLsbD j=true)↔k<i:=by
 constructor
 ·rintro⟨j,hj,h⟩
  rcases ao2 k i with h1|h1
  ·exact h1
  ·rw[hl j aq] at h;cases h
 ·intro h;exact⟨k,h,hp⟩
theorem R5 {x:BitVec 64} (h:x≠0#64):x &&& -x=1#64 <<< fz x:=by
 obtain⟨l,hk,hp,hl, -, -⟩:=least h
 apply aok
 intro i hi
 rw[aoo,BitVec.getLsbD_neg,aoN]
 simp only[Jk hp hl i]
 by_cases h1:i=fz x
 ·subst h1;simp[hp,hk]
 ·by_cases h2:i<fz x
  ·simp[hl i h2,h2]
  ·have h3:fz x<i:=by omega
   have h4:i-fz x≠0:=by omega
   cases hx:x.getLsbD i<;>simp[h2,h3,h4,hi]
theorem clear {x:BitVec 64} (h:x≠0#64):ob x=fz x::ob (x &&& (x-1#64)):=by
 obtain⟨l,hk,hp,hl,e1,e2⟩:=least h
 rw[e1,e2]
 congr 1
 unfold ob
 apply aor
 intro i hi
 rw[amm] at hi
 have e:x-1#64= ~~~(-x):=by
  rw[BitVec.not_neg,BitVec.sub_eq_add_neg]
 rw[aoo,e,BitVec.getLsbD_not,BitVec.getLsbD_neg]
 simp only[Jk hp hl i]
 by_cases h1:i=fz x
 ·subst h1;simp[hp,hk]
 ·by_cases h2:i<fz x
  ·simp[hl i h2]
  ·have h3:fz x<i:=by omega
   cases hx:x.getLsbD i<;>simp[h1,h3,hi]
theorem TE:∀k<64,((1#64 <<< k*285870213051353865#64) >>> 58).toNat<64∧wD.getD ((1#64 <<< k*285870213051353865#64) >>> 58).toNat 0=k:=by decide +kernel
theorem Ex {x:BitVec 64} (h:x≠0#64):(((x &&& -x)*285870213051353865#64) >>> 58).toNat<64:=by
 obtain⟨l,hk, -⟩:=least h
 rw[R5 h];exact(TE _ hk).1
theorem T9 {x:BitVec 64} (h:x≠0#64):((ve (((x &&& -x)*285870213051353865#64) >>> 58).toNat).toNat:Int)=((fz x:Nat):Int):=by
 obtain⟨l,hk, -⟩:=least h
 rw[Kw (Ex h),R5 h,(TE _ hk).2]
theorem Gj:ob 0#64=[]:=by
 unfold ob
 rw[ano]
 intro i _
 simp
theorem Ea:fz 0#64=64:=by unfold fz;rw[Gj];rfl
theorem yr (x:BitVec 64):fz x≤64:=by
 by_cases h:x=0#64
 ·subst h;rw[Ea];exact amk _
 ·obtain⟨l,hk, -⟩:=least h;omega
end Go.Ew
namespace Go.Ew
def pS (j:Nat) (x:BitVec 64):List Int:=(ob x).map fun k=>(j:Int)*64+((k:Nat):Int)
def rq (r:Row) (j:Nat):List Int:=(List.range j).flatMap fun i=>pS i (r.getD i 0#64)
def cR (r:Row):List Int:=rq r r.length
theorem PN (j:Nat):pS j 0#64=[]:=by unfold pS;rw[Gj];rfl
theorem PO {j:Nat} {x:BitVec 64} (h:x≠0#64):pS j x=((j:Int)*64+((fz x:Nat):Int))::pS j (x &&& (x-1#64)):=by
 unfold pS;rw[clear h];rfl
theorem Lj (x:BitVec 64):(ob x).length≤64:=by
 unfold ob
 exact Nat.le_trans (anh _ _)<|by simp
theorem Cp (j:Nat) (x:BitVec 64):(pS j x).length≤64:=by unfold pS;rw[amS];exact Lj x
theorem yN (r:Row) (j:Nat):rq r (j+1)=rq r j++pS j (r.getD j 0#64):=by
 unfold rq;rw[anQ,an2];simp
theorem vj (r:Row):∀j,(rq r j).length≤64*j
 |0=>by simp[rq]
 |j+1=>by
  have:=vj r j
  have:=Cp j<|r.getD j 0#64
  rw[yN,gf];omega
theorem Qz {x:BitVec 64} (h:x≠0#64):(ob (x &&& (x-1#64))).length<(ob x).length:=by
 rw[clear h];simp
theorem mO (r:Row):(cR r).length≤64*r.length:=vj r _
end Go.Ew
namespace Go.Ew
def sO (a b:Row) (i:Nat):BitVec 64:=a.getD i 0#64 ||| b.getD i 0#64
def jz (a b:Row):Row:=(List.range (max a.length b.length)).map (sO a b)
theorem RT (a b:Row) (i:Nat):sO a b i=sO b a i:=BitVec.or_comm _ _
theorem K4 (a b:Row):jz a b=jz b a:=by
 unfold jz
 rw[Nat.max_comm]
 exact anp fun i _=>RT a b i
theorem AI (a b:Row):(jz a b).length=max a.length b.length:=by unfold jz;simp
def pN (m:Nat) (a b z:Row) (j:Nat):Row:=(List.range m).map fun i=>if i<j then sO a b i else z.getD i 0#64
theorem yM (m:Nat) (a b z:Row) (j:Nat):(pN m a b z j).length=m:=by unfold pN;simp
theorem Cc (a b z:Row):z=pN z.length a b z 0:=by
 apply anT
 ·rw[yM]
 ·intro i h1 h2
  unfold pN
  simp[gZ,h1]
theorem AH {m:Nat} {a b z:Row} {j:Nat} {x:BitVec 64} (h:(pN m a b z j)[((j:Nat):Int).toNat]? =some x):x=z.getD j 0#64:=by
 rw[dZ] at h
 obtain⟨h1,h2⟩:=ef.1 h
 rw[←h2]
 unfold pN
 simp
theorem EW {m:Nat} {a b z:Row} {j:Nat} {v:BitVec 64} (hv:v=sO a b j):(pN m a b z j).set j v=pN m a b z (j+1):=by
 apply anT
 ·simp[yM]
 ·intro i h1 h2
  have hm:i<m:=by rw[yM] at h2;exact h2
  rw[aoX]
  unfold pN
  simp only[List.getElem_map,aoJ]
  by_cases I4:j=i
  ·subst I4;simp[hv]
  ·have:(i<j+1)↔(i<j):=by omega
   simp[I4,this]
theorem wL {a b z:Row} {j m:Nat} (hm:m=max a.length b.length) (h:∀i,j≤i→i<m→z.getD i 0#64=sO a b i):pN m a b z j=jz a b:=by
 unfold pN jz
 subst hm
 apply anp
 intro i hi
 rw[amm] at hi
 split
 ·rfl
 ·exact h i aq hi
theorem xS {a b:Row} {i:Nat} (h:b.length≤i):a.getD i 0#64=sO a b i:=by
 unfold sO;rw[rX h,BitVec.or_zero]
def JM (r:Row) (n:Nat):List Int:=((List.range n).filter fun k=>fe r ((k:Nat):Int)).map fun k=>((k:Nat):Int)
theorem nD (m k:Nat):List.range (m+k)=List.range m++(List.range k).map (fun i=>m+i):=by
 apply anT
 ·simp
 ·intro i h1 h2
  simp only[aoJ]
  by_cases h:i<m
  ·rw[List.getElem_append_left (by simpa using h)];simp
  ·rw[List.getElem_append_right (by simpa using h)];simp;omega
theorem uQ (r:Row) (j k:Nat) (hk:k<64):fe r (((64*j+k:Nat):Nat):Int)=(r.getD j 0#64).getLsbD k:=by
 unfold fe
 rw[dZ,show (64*j+k)/64=j from by omega,show (64*j+k)%64=k from by omega]
 simp only[Bool.and_eq_right_iff_imp,amj]
 intro _;omega
theorem Gl (r:Row):∀j,JM r (64*j)=rq r j
 |0=>rfl
 |j+1=>by
  rw[yN,←Gl r j,show 64*(j+1)=64*j+64 from by omega]
  unfold JM pS ob
  rw[nD,anL,anZ]
  congr 1
  rw[List.filter_map,List.map_map]
  have e:(List.range 64).filter ((fun k=>fe r ((k:Nat):Int))∘fun i=>64*j+i)=(List.range 64).filter fun k=>(r.getD j 0#64).getLsbD k:=by
   apply aor
   intro k hk
   rw[amm] at hk
   exact uQ r j k hk
  rw[e]
  apply anp
  intro k _
  show ((64*j+k:Nat):Int)=(j:Int)*64+((k:Nat):Int)
  omega
theorem R6 (r:Row):JM r (64*r.length)=cR r:=Gl r r.length
theorem R1 {j:Nat} {x:BitVec 64} {i:Int}:i∈pS j x↔∃k<64,x.getLsbD k=true∧i=(j:Int)*64+((k:Nat):Int):=by
 unfold pS ob
 simp only[am5,amA,amm]
 constructor
 ·rintro⟨k,⟨h1,h2⟩,rfl⟩;exact⟨k,h1,h2,rfl⟩
 ·rintro⟨k,h1,h2,rfl⟩;exact⟨k,⟨h1,h2⟩,rfl⟩
theorem uG {r:Row} {i:Int}:i∈cR r↔fe r i=true:=by
 unfold cR rq
 simp only[apt,amm,R1]
 constructor
 ·rintro⟨j,hj,k,hk,hx,rfl⟩
  have:=uQ r j k hk
  rw[show (j:Int)*64+((k:Nat):Int)=((64*j+k:Nat):Int) from by omega,this];exact hx
 ·intro h
  have hi:=P9 h
  unfold jj at hi
  simp only[amj] at hi
  have hw:=uQ r (i.toNat/64) (i.toNat%64) aq
  rw[show (((64*(i.toNat/64)+i.toNat%64:Nat):Nat):Int)=i from by omega,h] at hw
  exact⟨i.toNat/64,by omega,i.toNat%64,by omega,hw.symm,by omega⟩
end Go.Ew
namespace Go.Ew
theorem t' (r:Row) {i:Int} (h:i<0):fe r i=false:=(Zj aq).symm
theorem ua (r:Row) (n:Nat):fe r ((n:Nat):Int)=(r.getD (n/64) 0#64).getLsbD (n%64):=by
 unfold fe;rw[dZ];simp
theorem CD {r:Row} {i k:Int}:fe (dY r i) k=(fe r k||(decide (k=i)&&jj r i)):=by
 cases h:jj r i with
 |false=>rw[←EH h];simp
 |true=>
  by_cases hk:k=i
  ·subst hk;rw[JB,h];simp
  ·simp only[hk,decide_false,apc,anM]
   by_cases cz:k<0
   ·rw[t' _ cz,t' _ cz]
   ·obtain⟨n,rfl⟩:∃n:Nat,k=((n:Nat):Int):=⟨k.toNat,by omega⟩
    have h':=h
    unfold jj at h';simp only[amj] at h'
    rw[ua,ua]
    by_cases hw:n/64<r.length
    ·rw[KI h _ hw]
     split
     ·rename_i e
      rw[F_ _ _ _ aq aq]
      have:¬n%64=i.toNat%64:=by omega
      simp[this]
     ·rfl
    ·rw[rX (by rw[km];omega),rX aq]
theorem YK {a b:Row} (hl:a.length=b.length) (h:∀n:Nat,fe a ((n:Nat):Int)=fe b ((n:Nat):Int)):a=b:=by
 apply anT hl
 intro j h1 h2
 apply aok
 intro k hk
 have e1:=uQ a j k hk
 have e2:=uQ b j k hk
 rw[h,e2,gZ,gZ,eP h1,eP h2] at e1
 simpa using e1.symm
theorem vF:∀(l:List Int) (r:Row),(l.foldl dY r).length=r.length
 |[],_=>rfl
 |i::l,r=>by rw[aoF,vF l,km]
theorem zY:∀(l:List Int) (r:Row) (k:Int),fe (l.foldl dY r) k=(fe r k||(l.any fun i=>decide (k=i)&&jj r i))
 |[],r,k=>by simp
 |i::l,r,k=>by
  rw[aoF,zY l,CD]
  simp only[Og,List.any_cons,Bool.or_assoc]
theorem E2 (n k:Int):fe (dX n) k=false:=by
 by_cases hk:k<0
 ·exact t' _ hk
 ·obtain⟨m,rfl⟩:∃m:Nat,k=((m:Nat):Int):=⟨k.toNat,by omega⟩
  rw[ua]
  unfold dX
  rw[gZ]
  by_cases h:m/64<words n
  ·simp[an1,h]
  ·simp[an1,h]
theorem Zi (a b:Row) (i:Int):fe (jz a b) i=(fe a i||fe b i):=by
 by_cases hk:i<0
 ·rw[t' _ hk,t' _ hk,t' _ hk];rfl
 ·obtain⟨n,rfl⟩:∃n:Nat,i=((n:Nat):Int):=⟨i.toNat,by omega⟩
  rw[ua,ua,ua]
  by_cases h:n/64<max a.length b.length
  ·have:(jz a b).getD (n/64) 0#64=sO a b (n/64):=by
    rw[gZ,eP (by rw[AI];exact h)]
    unfold jz
    simp
   rw[this,sO,BitVec.getLsbD_or]
  ·rw[rX (by rw[AI];omega),rX aq,rX aq];simp
end Go.Ew
namespace Go.Ew
open Go.RowKit
theorem At.s1 {α β:Type} [GT α] [GT β] {M:Nat→Prop} {w:World} {ad:Addr} {x:α×β} (h:At M w ad x):At M w (ad.add (GT.size α)) x.2:=h.snd
theorem At.s2 {α β γ:Type} [GT α] [GT β] [GT γ] {M:Nat→Prop} {w:World} {ad:Addr} {x:α×β×γ} (h:At M w ad x):At M w (ad.add (GT.size α+GT.size β)) x.2.2:=by have h_:=h.s1.snd;rwa [add_add] at h_
theorem At.s3 {α β γ δ:Type} [GT α] [GT β] [GT γ] [GT δ] {M:Nat→Prop} {w:World} {ad:Addr} {x:α×β×γ×δ} (h:At M w ad x):At M w (ad.add (GT.size α+GT.size β+GT.size γ)) x.2.2.2:=by have h_:=h.s2.snd;rwa [add_add] at h_
theorem At.s4 {α β γ δ ε:Type} [GT α] [GT β] [GT γ] [GT δ] [GT ε] {M:Nat→Prop} {w:World} {ad:Addr} {x:α×β×γ×δ×ε} (h:At M w ad x):At M w (ad.add (GT.size α+GT.size β+GT.size γ+GT.size δ)) x.2.2.2.2:=by have h_:=h.s3.snd;rwa [add_add] at h_
theorem At.s5 {α β γ δ ε ζ:Type} [GT α] [GT β] [GT γ] [GT δ] [GT ε] [GT ζ] {M:Nat→Prop} {w:World} {ad:Addr} {x:α×β×γ×δ×ε×ζ} (h:At M w ad x):At M w (ad.add (GT.size α+GT.size β+GT.size γ+GT.size δ+GT.size ε)) x.2.2.2.2.2:=by have h_:=h.s4.snd;rwa [add_add] at h_
theorem At.s6 {α β γ δ ε ζ η:Type} [GT α] [GT β] [GT γ] [GT δ] [GT ε] [GT ζ] [GT η] {M:Nat→Prop} {w:World} {ad:Addr} {x:α×β×γ×δ×ε×ζ×η} (h:At M w ad x):At M w (ad.add (GT.size α+GT.size β+GT.size γ+GT.size δ+GT.size ε+GT.size ζ)) x.2.2.2.2.2.2:=by have h_:=h.s5.snd;rwa [add_add] at h_
theorem gS.s1 {α β:Type} [GT α] [GT β] {M:Nat→Prop} {w:World} {ad:Addr} {x:α×β} (h:gS M w ad x):gS M w (ad.add (GT.size α)) x.2:=h.snd
theorem gS.s2 {α β γ:Type} [GT α] [GT β] [GT γ] {M:Nat→Prop} {w:World} {ad:Addr} {x:α×β×γ} (h:gS M w ad x):gS M w (ad.add (GT.size α+GT.size β)) x.2.2:=by have h_:=h.s1.snd;rwa [add_add] at h_
theorem gS.s3 {α β γ δ:Type} [GT α] [GT β] [GT γ] [GT δ] {M:Nat→Prop} {w:World} {ad:Addr} {x:α×β×γ×δ} (h:gS M w ad x):gS M w (ad.add (GT.size α+GT.size β+GT.size γ)) x.2.2.2:=by have h_:=h.s2.snd;rwa [add_add] at h_
theorem gS.s4 {α β γ δ ε:Type} [GT α] [GT β] [GT γ] [GT δ] [GT ε] {M:Nat→Prop} {w:World} {ad:Addr} {x:α×β×γ×δ×ε} (h:gS M w ad x):gS M w (ad.add (GT.size α+GT.size β+GT.size γ+GT.size δ)) x.2.2.2.2:=by have h_:=h.s3.snd;rwa [add_add] at h_
theorem gS.s5 {α β γ δ ε ζ:Type} [GT α] [GT β] [GT γ] [GT δ] [GT ε] [GT ζ] {M:Nat→Prop} {w:World} {ad:Addr} {x:α×β×γ×δ×ε×ζ} (h:gS M w ad x):gS M w (ad.add (GT.size α+GT.size β+GT.size γ+GT.size δ+GT.size ε)) x.2.2.2.2.2:=by have h_:=h.s4.snd;rwa [add_add] at h_
theorem gS.s6 {α β γ δ ε ζ η:Type} [GT α] [GT β] [GT γ] [GT δ] [GT ε] [GT ζ] [GT η] {M:Nat→Prop} {w:World} {ad:Addr} {x:α×β×γ×δ×ε×ζ×η} (h:gS M w ad x):gS M w (ad.add (GT.size α+GT.size β+GT.size γ+GT.size δ+GT.size ε+GT.size ζ)) x.2.2.2.2.2.2:=by have h_:=h.s5.snd;rwa [add_add] at h_
section
variable {P:Program}
def Ij (P:Program) (t:TypeId) (v u:Value) (r:Bool):Prop:=(∀w,(isAgg t).run P w=.ok false w)∧∀d w,(Op.equalIn (d+1) t v u).run P w=.ok r w
theorem AL {t:TypeId} {d:TypeDesc} (h:P.underlying t=some d) (hd:(match d with| .struct _| .array _ _=>false|_=>true)=true) (w:World):(isAgg t).run P w=.ok false w:=by
 cases d<;>first|(cases hd;done)|simp[isAgg,underlying,h]
theorem PK {t:TypeId} {k kk:IntKind} {a b:Int} (h:P.underlying t=some (.int k)):Ij P t (.int kk a) (.int kk b) (decide (a=b)):=
 ⟨AL h rfl,fun d w=>by rw[run_equalIn_int w d t kk k a b h];congr 1⟩
theorem aei {t:TypeId} {a b:Bool} (h:P.underlying t=some .bool):Ij P t (.bool a) (.bool b) (decide (a=b)):=
 ⟨AL h rfl,fun d w=>by rw[run_equalIn_bool' w d t a b h];congr 1⟩
theorem aeh {t:TypeId} {a b:ByteArray} (h:P.underlying t=some .string):Ij P t (.string a) (.string b) (decide (a=b)):=
 ⟨AL h rfl,fun d w=>by
  have e:(a.toList==b.toList)=decide (a=b):=by
   rw[←beq_toListBytes,amE]
   rcases a with ⟨x⟩
   rcases b with ⟨y⟩
   show (x==y)=true↔_
   simp
  rw[run_equalIn_string w d t a b h,e]⟩
theorem mx {t:TypeId} {cs:Array Value} {off:Nat} {v:Value} (h:∀w,(isAgg t).run P w=.ok false w) (hc:cs[off]? =some v) (w:World):(part t cs off).run P w=.ok v w:=by
 simp[part,h w,hc]
def mP (P:Program) (t:TypeId):Option Nat:=match P.underlying t with|some (.int _)=>some 0|some .bool=>some 1|some .string=>some 2|_=>none
def Qr (P:Program) (T:TypeId):List (Option (Nat×Nat)):=(P.fieldsOf T).toList.map fun f=>if f.name= "_" then none else (mP P f.type).map fun k=>(f.offset,k)
def C5 (xs ys:Array Value):List (Option (Nat×Nat))→List Bool→Prop
 |[],[]=>True
 |some (o,0)::ks,r::rs=>(∃kk a b,xs[o]? =some (.int kk a)∧ys[o]? =some (.int kk b)∧r=decide (a=b))∧C5 xs ys ks rs
 |some (o,1)::ks,r::rs=>(∃a b,xs[o]? =some (.bool a)∧ys[o]? =some (.bool b)∧r=decide (a=b))∧C5 xs ys ks rs
 |some (o,2)::ks,r::rs=>(∃a b,xs[o]? =some (.string a)∧ys[o]? =some (.string b)∧r=decide (a=b))∧C5 xs ys ks rs
 |_,_=>False
theorem Gn {t:TypeId} (h:mP P t=some 0):∃k,P.underlying t=some (.int k):=by
 unfold mP at h;split at h<;>simp_all
theorem PJ {t:TypeId} (h:mP P t=some 1):P.underlying t=some .bool:=by
 unfold mP at h;split at h<;>simp_all
theorem PI {t:TypeId} (h:mP P t=some 2):P.underlying t=some .string:=by
 unfold mP at h;split at h<;>simp_all
theorem Tc {xs ys:Array Value}:∀{fs:List Field} {rs:List Bool} (d:Nat) (w:World),C5 xs ys (fs.map fun f=>if f.name= "_" then none else (mP P f.type).map fun k=>(f.offset,k)) rs→(Op.eqFields (d+1) xs ys fs).run P w=.ok (rs.all id) w
 |[],[],d,w,_=>by simp[Op.eqFields]
 |[],_::_,d,w,h=>by simp[C5] at h
 |f::fs,rs,d,w,h=>by
  rw[amJ] at h
  by_cases hn:f.name= "_"
  ·rw[aml hn] at h;cases rs<;>simp[C5] at h
  ·rw[amn hn] at h
   have key:∀(a b:Value) (r:Bool) (WU:List Bool),Ij P f.type a b r→xs[f.offset]? =some a→ys[f.offset]? =some b→
     C5 xs ys (fs.map fun f=>if f.name= "_" then none else (mP P f.type).map fun k=>(f.offset,k)) WU→(Op.eqFields (d+1) xs ys (f::fs)).run P w=.ok ((r::WU).all id) w:=by
    intro a b r WU hl ha hb ht
    have ih:=Tc d w ht
    simp only[Op.eqFields,aoD,hn,not_false_eq_true,anV,Sem.run_bind,mx hl.1 ha w,mx hl.1 hb w,hl.2 d w,Result.andThen_ok]
    cases r
    ·simp
    ·simp[ih]
   cases hk:mP P f.type with
   |none=>rw[hk] at h;cases rs<;>simp[C5] at h
   |some k=>
    rw[hk,anD] at h
    cases rs with
    |nil=>simp[C5] at h
    |cons r WU=>
     match k,hk,h with
     |0,hk,⟨⟨kk,a,b,ha,hb,hr⟩,ht⟩=>
      obtain⟨q,hq⟩:=Gn hk
      rw[hr];exact key _ _ _ _ (PK hq) ha hb ht
     |1,hk,⟨⟨a,b,ha,hb,hr⟩,ht⟩=>rw[hr];exact key _ _ _ _ (aei (PJ hk)) ha hb ht
     |2,hk,⟨⟨a,b,ha,hb,hr⟩,ht⟩=>rw[hr];exact key _ _ _ _ (aeh (PI hk)) ha hb ht
     |(n+3),hk,h=>simp[C5] at h
structure OY (P:Program) (T:TypeId) (ks:List (Option (Nat×Nat))):Prop where
 u:P.underlying T=some (.struct (P.fieldsOf T))
 s:P.stoodInHeld T=false
 g:P.eqGuardType P.depth T=false
 k:Qr P T=ks
theorem OY.eq {T:TypeId} {ks:List (Option (Nat×Nat))} (F:OY P T ks) {xs ys:Array Value} {rs:List Bool} (h:C5 xs ys ks rs) (d:Nat) (w:World):(Op.equalIn (d+2) T (.agg xs) (.agg ys)).run P w=.ok (rs.all id) w:=by
 rw[run_equalIn_agg w (d+1) T xs ys F.u F.s]
 exact Tc d w<|by rw[←F.k] at h;exact h
structure T8 (P:Program) (T:TypeId):Prop where
 h:∃e k i,P.underlying T=some (.array 2 e)∧P.underlying e=some (.int k)∧P.info? e=some i∧P.cellsOf e=1
 g:P.eqGuardType P.depth T=false
theorem arF {T e:TypeId} {k:IntKind} (h1:P.underlying T=some (.array 2 e)) (h2:P.underlying e=some (.int k)) (h3:(P.info? e).isSome=true) (h4:P.cellsOf e=1) (g:P.eqGuardType P.depth T=false):T8 P T:=by
 obtain⟨i,hi⟩:=amG.1 h3
 exact⟨⟨e,k,i,h1,h2,hi,h4⟩,g⟩
theorem T8.eq {T:TypeId} (F:T8 P T) {k1 k2:IntKind} {a b c d:Int} (m:Nat) (w:World):(Op.equalIn (m+2) T (.agg #[.int k1 a,.int k2 b]) (.agg #[.int k1 c,.int k2 d])).run P w=.ok (decide (a=c)&&decide (b=d)) w:=by
 obtain⟨e,k,i,h1,h2,h3,h4⟩:=F.h
 have l1:Ij P e (.int k1 a) (.int k1 c) (decide (a=c)):=PK h2
 have l2:Ij P e (.int k2 b) (.int k2 d) (decide (b=d)):=PK h2
 have p1:(part e #[.int k1 a,.int k2 b] 0).run P w=.ok (.int k1 a) w:=mx l1.1 rfl w
 have p2:(part e #[.int k1 c,.int k2 d] 0).run P w=.ok (.int k1 c) w:=mx l1.1 rfl w
 have p3:(part e #[.int k1 a,.int k2 b] 1).run P w=.ok (.int k2 b) w:=mx l1.1 rfl w
 have p4:(part e #[.int k1 c,.int k2 d] 1).run P w=.ok (.int k2 d) w:=mx l1.1 rfl w
 rw[run_equalIn_array w (m+1) _ _ h1 h3,h4,show List.range 2=[0,1] from rfl]
 simp only[Op.eqItems,Sem.run_bind,Sem.run_ite,Sem.run_pure,aop,p1,p2,p3,p4,l1.2 m w,l2.2 m w,Result.andThen_ok]
 by_cases e1:a=c<;>by_cases e2:b=d<;>simp[e1,e2]
section
variable {n:Nat} {ops:Array Oper} {f:aS} {w:World} {K:aS→World→Prop} {x y c:Operand} {d:Nat} {ty T T2:TypeId} {ps:String} {af:Array Edge}
end
abbrev K2 (p:Int×Int):Value:=.agg #[.int .i64 p.1,.int .i64 p.2]
abbrev KV:=List ((Int×Int)×Int)
structure C4 (P:Program) (kt:TypeId):Prop where
 u:∃d,P.underlying kt=some d
 eq:∀a b w,(Op.equal kt (K2 a) (K2 b)).run P w=.ok (decide (a=b)) w
 BE:∀e a w,(Instr.checkKey e 10000 kt (K2 a)).run P w=.ok () w
theorem K0 (a b:Int×Int):(decide (a.1=b.1)&&decide (a.2=b.2))=decide (a=b):=by
 rw[amE];simp[Prod.ext_iff]
theorem A_ {t:TypeId} {k kk:IntKind} {a:Int} (h:P.underlying t=some (.int k)) (e:Bool) (m:Nat) (w:World):(Instr.checkKey e (m+1) t (.int kk a)).run P w=.ok () w:=by
 simp[Instr.checkKey,underlying,h]
theorem ae' {T:TypeId} (h:Qr P T=[some (0,0),some (1,0)]):∃f g,(P.fieldsOf T).toList=[f,g]∧f.name≠ "_"∧g.name≠ "_"∧f.offset=0∧g.offset=1∧(∃k,P.underlying f.type=some (.int k))∧∃k,P.underlying g.type=some (.int k):=by
 unfold Qr at h
 rcases hl:(P.fieldsOf T).toList with _|⟨f,_|⟨g,_|⟨q,r⟩⟩⟩
 ·rw[hl] at h;simp at h
 ·rw[hl] at h;simp at h
 ·rw[hl] at h
  simp only[amJ,List.map_nil,ann,and_true] at h
  obtain⟨h1,h2⟩:=h
  have side:∀(q:Field) (o:Nat),(if q.name= "_" then none else (mP P q.type).map fun k=>(q.offset,k))=some (o,0)→q.name≠ "_"∧q.offset=o∧∃k,P.underlying q.type=some (.int k):=by
   intro q o hq
   split at hq
   ·cases hq
   ·rename_i hn
    obtain⟨k,hk,he⟩:=amI.1 hq
    simp only[am0] at he
    obtain⟨rfl,rfl⟩:=he
    exact⟨hn,J,Gn hk⟩
  obtain⟨a1,a2,a3⟩:=side f 0 h1
  obtain⟨b1,b2,b3⟩:=side g 1 h2
  exact⟨f,g,J,a1,b1,a2,b2,a3,b3⟩
 ·rw[hl] at h;simp at h
theorem yP {kt:TypeId} (F:OY P kt [some (0,0),some (1,0)]):C4 P kt where
 u:=⟨_,F.u⟩
 eq a b w:=by
  have h:=F.eq (xs:=#[.int .i64 a.1,.int .i64 a.2]) (ys:=#[.int .i64 b.1,.int .i64 b.2]) (rs:=[decide (a.1=b.1),decide (a.2=b.2)]) ⟨⟨_,_,_,J,J,J⟩,⟨_,_,_,J,J,J⟩,trivial⟩ 9998 w
  rw[show Op.equal kt (K2 a) (K2 b)=Op.equalIn (9998+2) kt (K2 a) (K2 b) from rfl,h,←K0]
  simp
 BE e a w:=by
  obtain⟨f,g,hl,h1,h2,h3,h4,⟨k1,h5⟩,⟨k2,h6⟩⟩:=ae' F.k
  have p1:(part f.type #[.int .i64 a.1,.int .i64 a.2] 0).run P w=.ok (.int .i64 a.1) w:=mx (AL h5 rfl) rfl w
  have p2:(part g.type #[.int .i64 a.1,.int .i64 a.2] 1).run P w=.ok (.int .i64 a.2) w:=mx (AL h6 rfl) rfl w
  have c1:=A_ (P:=P) (kk:=.i64) (a:=a.1) h5 e 9998 w
  have c2:=A_ (P:=P) (kk:=.i64) (a:=a.2) h6 e 9998 w
  show (Instr.checkKey e (9999+1) kt (.agg #[.int .i64 a.1,.int .i64 a.2])).run P w=_
  rw[show (9999:Nat)=9998+1 from rfl]
  generalize 9998=q at c1 c2 ⊢
  unfold Instr.checkKey
  simp only[Sem.run_bind,run_underlying F.u,Result.andThen_ok]
  rw[←Array.forIn_toList,hl]
  simp only[List.forIn_cons,List.forIn_nil,aoD,h1,h2,h3,h4,not_false_eq_true,anV,Sem.run_bind,p1,p2,Result.andThen_ok,Sem.run_pure,c1,c2]
theorem PL {kt:TypeId} (F:T8 P kt):C4 P kt where
 u:=by obtain⟨e,k,i,h1,_⟩:=F.h;exact⟨_,h1⟩
 eq a b w:=by rw[show Op.equal kt (K2 a) (K2 b)=Op.equalIn (9998+2) kt (K2 a) (K2 b) from rfl,F.eq 9998 w,K0]
 BE e a w:=by
  obtain⟨t,k,i,h1,h2,h3,h4⟩:=F.h
  have p1:(part t #[.int .i64 a.1,.int .i64 a.2] 0).run P w=.ok (.int .i64 a.1) w:=mx (AL h2 rfl) rfl w
  have p2:(part t #[.int .i64 a.1,.int .i64 a.2] 1).run P w=.ok (.int .i64 a.2) w:=mx (AL h2 rfl) rfl w
  have c1:=A_ (P:=P) (kk:=.i64) (a:=a.1) h2 e 9998 w
  have c2:=A_ (P:=P) (kk:=.i64) (a:=a.2) h2 e 9998 w
  show (Instr.checkKey e (9999+1) kt (.agg #[.int .i64 a.1,.int .i64 a.2])).run P w=_
  have hs:(sizeOf t).run P w=.ok 1 w:=by rw[run_sizeOf w h3,h4]
  rw[show (9999:Nat)=9998+1 from rfl]
  generalize 9998=q at c1 c2 ⊢
  unfold Instr.checkKey
  simp only[Sem.run_bind,run_underlying h1,Result.andThen_ok,Std.Legacy.Range.forIn_eq_forIn_range',Std.Legacy.Range.size,ao1,Nat.add_one_sub_one,Nat.div_one]
  rw[show List.range' 0 2=[0,1] from rfl]
  simp only[List.forIn_cons,List.forIn_nil,Sem.run_bind,hs,p1,p2,aoH,Nat.one_mul,Result.andThen_ok,Sem.run_pure,c1,c2]
theorem get_map {w:World} {r:Nat} {es:Array MapEntry} {clock:Nat} (hb:w.heap[r]? =some (.map es clock)):(getObj r).run P w=.ok (.map es clock) w:=by
 simp[getObj,Sem.run,hb]
theorem Dh {w:World} {r:Nat} {es:Array MapEntry} {clock:Nat} (o:Obj) (hb:w.heap[r]? =some (.map es clock)):(setObj r o).run P w=.ok () {w with heap:=w.heap.setIfInBounds r o}:=by
 simp[setObj,Sem.run,hb]
theorem Au {w:World} {r:Nat} {o o':Obj} (hb:w.heap[r]? =some o):(w.heap.setIfInBounds r o')[r]? =some o'∧∀r',r'≠r→(w.heap.setIfInBounds r o')[r']? =w.heap[r']?:=by
 have eM:r<w.heap.size:=(amN.1 hb).1
 exact⟨by simp[eM],fun r' gE=>by simp[Ne.symm gE]⟩
def getM:KV→Int×Int→Option Int
 |[],_=>none
 |x::xs,k=>if k=x.1 then some x.2 else getM xs k
def jg:KV→Int×Int→Int→KV
 |[],k,v=>[(k,v)]
 |x::xs,k,v=>if k=x.1 then (k,v)::xs else x::jg xs k v
theorem VB (m:KV) (k k':Int×Int) (v:Int):getM (jg m k v) k'=if k'=k then some v else getM m k':=by
 induction m with
 |nil=>simp[jg,getM]
 |cons x xs ih=>
  unfold jg
  by_cases h:k=x.1
  ·subst h
   simp only[anV,getM]
   by_cases h':k'=x.1<;>simp[h']
  ·rw[amn h]
   simp only[getM,ih]
   by_cases h':k'=x.1
   ·rw[aml h',aml h',amn (by rw[h'];exact fun e=>h e.symm)]
   ·rw[amn h',amn h']
def pa:KV→Int×Int→Nat→Option (Nat×Value)
 |[],_,_=>none
 |x::xs,k,i=>if k=x.1 then some (i,.int .i64 x.2) else pa xs k (i+1)
theorem Jb:∀(m:KV) (k:Int×Int) (i:Nat),(pa m k i).map (·.2)=(getM m k).map fun v=>Value.int .i64 v
 |[],_,_=>rfl
 |x::xs,k,i=>by
  unfold pa getM
  split
  ·rfl
  ·exact Jb xs k<|i+1
def j8 (es:List MapEntry) (m:KV):Prop:=es.map (fun e=>(e.key,e.val))=m.map fun x=>(K2 x.1,Value.int .i64 x.2)
theorem OV {kt:TypeId} (F:C4 P kt) (k:Int×Int) (w:World):∀(m:KV) (es:List MapEntry) (i:Nat),j8 es m→(Instr.findAsking kt (K2 k) es i).run P w=.ok (pa m k i) w
 |[],es,i,h=>by
  have:es=[]:=by simpa [j8] using h
  subst this;simp[Instr.findAsking,pa]
 |x::xs,es,i,h=>by
  match es,h with
  |e::es,h=>
   simp only[j8,amJ,ann,am0] at h
   obtain⟨⟨h1,h2⟩,h3⟩:=h
   have ih:=OV F k w xs es (i+1) h3
   by_cases hk:k=x.1
   ·simp[Instr.findAsking,pa,h1,h2,F.eq,hk]
   ·simp[Instr.findAsking,pa,h1,h2,F.eq,hk,ih]
  |[],h=>simp[j8] at h
theorem Ec (d:TypeDesc) (cs:Array Value) (e:MapEntry) (es:List MapEntry) (i:Nat):Instr.findNow d (.agg cs) (e::es) i=none:=by
 have:Instr.sameNow d (.agg cs) e.key=none:=by
  cases d<;>cases e.key<;>rfl
 simp[Instr.findNow,this]
theorem L8 {kt:TypeId} (F:C4 P kt) (k:Int×Int) (w:World) {m:KV} {es:List MapEntry} (h:j8 es m):(Instr.findKey kt (K2 k) es).run P w=.ok (pa m k 0) w:=by
 obtain⟨d,hd⟩:=F.u
 cases es with
 |nil=>
  have:m=[]:=by simpa [j8] using h.symm
  subst this
  simp[Instr.findKey,run_underlying hd,Result.andThen,Instr.findNow,pa]
 |cons e es=>
  have h0:Instr.findNow d (K2 k) (e::es) 0=none:=Ec d _ e es 0
  simp[Instr.findKey,run_underlying hd,Result.andThen,h0,OV F k w m _ 0 h]
theorem GS:∀(m:KV) (es:List MapEntry) (k:Int×Int) (i j:Nat) (v:Value),j8 es m→pa m k i=some (j,v)→∃q e,j=i+q∧es[q]? =some e∧e.key=K2 k∧∀(c:Nat) (u:Int),j8 (es.modify q fun e=>{e with key:=K2 k,val:=.int .i64 u}) (jg m k u)
 |[],_,_,_,_,_,_,h=>by cases h
 |x::xs,es,k,i,j,v,hr,h=>by
  match es,hr with
  |[],hr=>simp[j8] at hr
  |e::es,hr=>
   simp only[j8,amJ,ann,am0] at hr
   obtain⟨⟨h1,h2⟩,h3⟩:=hr
   unfold pa at h
   split at h
   ·rename_i hk
    simp only[amu,am0] at h
    refine⟨0,e,h.1.symm,J,by rw[h1,hk],fun c u=>?_⟩
    unfold jg
    rw[aml hk]
    simp[j8,h3]
   ·rename_i hk
    obtain⟨q,e',IW,nn,D5,D4⟩:=GS xs es k (i+1) j v h3 h
    refine⟨q+1,e',by omega,by simpa using nn,D5,fun c u=>?_⟩
    have:=D4 c u
    unfold jg
    rw[amn hk]
    simp only[j8,List.modify_succ_cons,amJ,ann,am0]
    exact⟨⟨h1,h2⟩,this⟩
theorem GU:∀(m:KV) (es:List MapEntry) (k:Int×Int) (i:Nat),j8 es m→pa m k i=none→∀(c:Nat) (u:Int),j8 (es++[⟨K2 k,.int .i64 u,c⟩]) (jg m k u)
 |[],es,k,_,hr,_,c,u=>by
  have:es=[]:=by simpa [j8] using hr
  subst this;simp[j8,jg]
 |x::xs,es,k,i,hr,h,c,u=>by
  match es,hr with
  |[],hr=>simp[j8] at hr
  |e::es,hr=>
   simp only[j8,amJ,ann,am0] at hr
   obtain⟨⟨h1,h2⟩,h3⟩:=hr
   unfold pa at h
   split at h
   ·cases h
   ·rename_i hk
    have:=GU xs es k (i+1) h3 h c u
    unfold jg
    rw[amn hk]
    simp only[j8,aoz,amJ,ann,am0]
    exact⟨⟨h1,h2⟩,this⟩
def bW (b:Nat) (m:KV):Item:=
 ⟨some b,fun _ w=>∃es clock,w.heap[b]? =some (.map es clock)∧j8 es.toList m∧∀x∈m,aK x.2,fun h _ hb=>by
  obtain⟨es,c,h1,h2⟩:=h
  exact⟨es,c,(hb b rfl).trans h1,h2⟩⟩
theorem Zn {m:KV} (h:∀x∈m,aK x.2) {k:Int×Int} {v:Int} (hv:getM m k=some v):aK v:=by
 induction m with
 |nil=>cases hv
 |cons x xs ih=>
  unfold getM at hv
  split at hv
  ·cases hv;exact h x (by simp)
  ·exact ih (fun y hy=>h y (by simp[hy])) hv
theorem NO {m:KV} (h:∀x∈m,aK x.2) (k:Int×Int) {v:Int} (hv:aK v):∀x∈jg m k v,aK x.2:=by
 induction m with
 |nil=>intro x hx;simp[jg] at hx;subst hx;exact hv
 |cons y ys ih=>
  intro x hx
  unfold jg at hx
  split at hx
  ·rcases amz.1 hx with rfl|hx
   ·exact hv
   ·exact h x<|by simp[hx]
  ·rcases amz.1 hx with rfl|hx
   ·exact h x<|by simp
   ·exact ih (fun z hz=>h z (by simp[hz])) x hx
structure Ii (P:Program) (T:TypeId):Prop where
 h:∃kt et,P.underlying T=some (.map kt et)∧C4 P kt∧∀w,(zeroValue et).run P w=.ok (.int .i64 0) w
theorem U7 {T kt et:TypeId} {k b:Nat} {a:Bool} (h:P.underlying T=some (.map kt et)) (K:C4 P kt) (F:eh P et k a b (.int .i64 0)):Ii P T:=⟨kt,et,h,K,F.tL⟩
section
variable {n:Nat} {ops:Array Oper} {f:aS} {w:World} {K:aS→World→Prop} {x y c:Operand} {d:Nat} {ty T T2:TypeId} {ps:String} {af:Array Edge} {M0:Nat→Prop} {w0:World} {l:List Item} {m:KV} {b:Nat}
theorem mm (H:HI M0 w0 w l) (h:∀b w',Ext w w'→HI M0 w0 w' (bW b []::l)→K (b9 f d (.map (some b))) w'):SO P n ops ⟨some d,.makeMap T none,ty,ps,af,none⟩ f w K:=
 SO.value (v:=.map (some w.heap.size)) (w':=w.alloc (.map #[] 0)) (by simp[execOp,run_makeMap]) (h _ _ (Ext.alloc w _)
  (H.new (Ext.alloc w _) w.heap.size rfl (amk _) (by simp) ⟨#[],0,heap_alloc_new w _,rfl,fun _ h=>(by cases h)⟩))
theorem W3 {k:Int×Int} (F:Ii P T) (H:HI M0 w0 w l) (i:Nat) (hi:l[i]? =some (bW b m)) (ox:bG n x=true) (oy:bG n y=true) (hx:ev f x=.map (some b)) (hy:ev f y=K2 k)
  (h:aK ((getM m k).getD 0)→K (b9 f d (.tuple #[.int .i64 ((getM m k).getD 0),.bool (getM m k).isSome])) w):SO P n ops ⟨some d,.lookup T x y true,ty,ps,af,none⟩ f w K:=by
 obtain⟨kt,et,h1,h2,h3⟩:=F.h
 obtain⟨es,clock,g1,g2,g3⟩:=H.at_ i hi
 have hI:aK ((getM m k).getD 0):=by
  cases hg:getM m k with
  |none=>unfold aK;simp
  |some v=>exact Zn g3 hg
 refine SO.value (v:=.tuple #[.int .i64 ((getM m k).getD 0),.bool (getM m k).isSome]) (w':=w) ?_<|h hI
 have hf:=Jb m k 0
 have hr:=L8 h2 k w g2
 simp only[execOp,aO ox,aO oy,hx,hy,Instr.lookup,Sem.run_bind,run_underlying h1,get_map g1,h2.BE,hr,Result.andThen_ok,Sem.run_pure]
 cases hq:pa m k 0 with
 |none=>
  have hg:getM m k=none:=by rw[hq] at hf;simpa using hf.symm
  simp[hq,hg,h3 w]
 |some p=>
  obtain⟨j,v⟩:=p
  rw[hq] at hf
  cases hg:getM m k with
  |none=>rw[hg] at hf;cases hf
  |some u=>
   rw[hg] at hf
   simp only[anD,amu] at hf
   subst hf
   simp
theorem WZ {dd:Option Nat} {k:Int×Int} {v:Int} (F:Ii P T) (H:HI M0 w0 w l) (i:Nat) (hi:l[i]? =some (bW b m)) (ox:bG n x=true) (oy:bG n y=true) (oc:bG n c=true) (hx:ev f x=.map (some b)) (hy:ev f y=K2 k) (hc:ev f c=.int .i64 v) (hv:aK v)
  (h:∀w',HI M0 w0 w' (l.set i (bW b (jg m k v)))→K (cU f dd undef) w'):SO P n ops ⟨dd,.mapUpdate T x y c,ty,ps,af,none⟩ f w K:=by
 obtain⟨kt,et,h1,h2,h3⟩:=F.h
 obtain⟨es,clock,g1,g2,g3⟩:=H.at_ i hi
 have hr:=L8 h2 k w g2
 have eM:b<w.heap.size:=(amN.1 g1).1
 have fin:∀(o:Obj),(∀M w',w'.heap[b]? =some o→(bW b (jg m k v)).holds M w')→
   HI M0 w0 {w with heap:=w.heap.setIfInBounds b o} (l.set i (bW b (jg m k v))):=by
  intro o ho
  refine H.vc i hi J J J (by simp) (amk _) (fun q hq gE=>?_) (fun q hq=>?_)<|ho _ _ (Au g1).1
  ·exact(Au g1).2 q fun e=>gE (by rw[e];rfl)
  ·cases hq
   exact⟨by simpa using eM,.inl rfl⟩
 cases hq:pa m k 0 with
 |none=>
  refine SO.skip (w':={w with heap:=w.heap.setIfInBounds b (.map (es.push ⟨K2 k,.int .i64 v,clock⟩) (clock+1))}) ?_ (h _<|fin _ ?_)
  ·simp[execOp,aO ox,aO oy,aO oc,hx,hy,hc,Instr.mapUpdate,run_underlying h1,get_map g1,h2.BE,hr,hq,Dh _ g1]
  ·intro M w' hw
   exact⟨_,_,hw,by rw[Array.toList_push];exact GU m es.toList k 0 g2 hq clock v,NO g3 k hv⟩
 |some p=>
  obtain⟨j,u⟩:=p
  obtain⟨q,e,IW,nn,D5,D4⟩:=GS m es.toList k 0 j u g2 hq
  obtain rfl:j=q:=by omega
  have he:es[j]? =some e:=by simpa using nn
  have hsb:(Instr.keyThatStays e.key (K2 k)).run P w=.ok (K2 k) w:=by
   rw[D5];simp[Instr.keyThatStays,Instr.sameBits]
  refine SO.skip (w':={w with heap:=w.heap.setIfInBounds b (.map (es.modify j fun e=>{e with key:=K2 k,val:=.int .i64 v}) clock)}) ?_ (h _<|fin _ ?_)
  ·simp[execOp,aO ox,aO oy,aO oc,hx,hy,hc,Instr.mapUpdate,run_underlying h1,get_map g1,h2.BE,hr,hq,he,hsb,Dh _ g1]
  ·intro M w' hw
   exact⟨_,_,hw,by rw[Array.toList_modify];exact D4 clock v,NO g3 k hv⟩
end
end
end Go.Ew
namespace Go.Ew
end Go.Ew
namespace Go.Ew
abbrev kM:=Bool×ByteArray×Int
abbrev aH:=Int×Int×Bool×Int×Int
abbrev dv:=List (List kM)
def vv (c:UInt8):Bool:=!(decide (((c.toNat:Nat):Int)<97))&&!(decide ((122:Int)<((c.toNat:Nat):Int)))
def mg (s:ByteArray):Bool:=s.data.toList.all vv&&decide (1≤s.size)&&decide (s.size≤8)
theorem byte_at {s:ByteArray} {j:Nat} {c:UInt8} (h:s[((j:Nat):Int).toNat]? =some c):s.data.toList[((j:Nat):Int).toNat]? =some c:=by
 rw[dZ] at h ⊢
 rw[anv]
 have hj:j<s.size:=by
  refine amZ fun hn=>?_
  rw[getElem?_neg s j hn] at h;cases h
 rw[getElem?_pos s j hj] at h
 rw[Array.getElem?_eq_getElem hj]
 exact h
theorem N6 {s:ByteArray} {j:Nat} {c:UInt8} (h:s[((j:Nat):Int).toNat]? =some c) (h1:vv c=false):false=mg s:=by
 unfold mg;rw[My (byte_at h) h1];rfl
theorem Ld {s:ByteArray} {j:Nat} (h:(s.data.toList.take j).all vv=true) (hj:s.size≤j):s.data.toList.all vv=true:=by
 rwa [amr (by rw[am1];exact hj)] at h
theorem aaJ {c:UInt8} (h:decide (((c.toNat:Nat):Int)<97)=true):vv c=false:=by unfold vv;rw[h];rfl
theorem aaK {c:UInt8} (h:decide ((122:Int)<((c.toNat:Nat):Int))=true):vv c=false:=by unfold vv;rw[h];simp
theorem YW {c:UInt8} (h:decide (((c.toNat:Nat):Int)<97)=false) (h1:decide ((122:Int)<((c.toNat:Nat):Int))=false):vv c=true:=by unfold vv;rw[h,h1];rfl
theorem uT {α:Type} {h:List (List α)} {j:Nat} {x:List α} (hx:h[((j:Nat):Int).toNat]? =some x):(h.take (j+1)).flatten=(h.take j).flatten++x:=by
 rw[nB hx];simp
theorem uc {α:Type} {h:List (List α)} {j:Nat} {x:List α} (hx:h[((j:Nat):Int).toNat]? =some x):((h.take j).flatten).length+x.length≤h.flatten.length:=by
 have h1:h.flatten=(h.take (j+1)).flatten++(h.drop (j+1)).flatten:=by rw[←List.flatten_append,ant]
 rw[h1,uT hx];simp
def zD (o:kM):Bool:=mg o.2.1
def jt (h:dv):Bool:=h.flatten.all zD&&decide (h.flatten.length≤4096)
theorem Us {h:dv} {i:Nat} {x:kM} (hx:h.flatten[i]? =some x) (h1:mg x.2.1=false):false=jt h:=by
 unfold jt;rw[My hx h1];rfl
theorem Rr {h:dv} {j:Nat} (hs:(h.flatten.take j).all zD=true) (hj:h.flatten.length≤j):decide ((h.flatten.length:Int)≤4096)=jt h:=by
 unfold jt;rw[lV hj] at hs;rw[hs,ane,anx];omega
def zB (o:kM):Bool:=decide (o.2.1.size≤20)
def iF (h:dv) (m:Int):Bool:=decide ((h.length:Int)≤m)&&decide ((h.flatten.length:Int)≤m)&&h.flatten.all zB
theorem Iv {h:dv} {m:Int}:iF h m=true↔(h.length:Int)≤m∧(h.flatten.length:Int)≤m∧∀o∈h.flatten,o.2.1.size≤20:=by
 unfold iF
 rw[eQ,eQ,amj,amj,amq,and_assoc]
 unfold zB
 simp only[amj]
theorem Re {h:dv} {m:Int} (hm:m<(h.length:Int)):false=iF h m:=by unfold iF;rw[ams aq];rfl
theorem Rc {h:dv} {m:Int} (hm:m<(h.flatten.length:Int)):false=iF h m:=by unfold iF;rw[show decide ((h.flatten.length:Int)≤m)=false from ams aq];simp
theorem Rb {h:dv} {m:Int} {i:Nat} {x:kM} (hx:h.flatten[i]? =some x) (h1:20<(x.2.1.size:Int)):false=iF h m:=by
 unfold iF;rw[My hx (show zB x=false from ams aq)];simp
theorem Rf {h:dv} {m:Int} {j:Nat} (h1:¬m<(h.length:Int)) (h2:¬m<(h.flatten.length:Int)) (hs:(h.flatten.take j).all zB=true) (hj:h.flatten.length≤j):true=iF h m:=by
 unfold iF;rw[lV hj] at hs;rw[hs,amp aq,amp aq];rfl
def Sa (s:ByteArray) (t:ByteArray):Bool:=decide (t=s)
def ie (l:List ByteArray) (s:ByteArray):Int:=eF (Sa s) l
def QG (vs:List ByteArray) (s:ByteArray):List ByteArray:=if ie vs s<0 then vs++[s] else vs
def UW (vs:List ByteArray) (s:ByteArray):Int:=if ie vs s<0 then (vs.length:Int) else ie vs s
abbrev Ag:=List ByteArray×List aH
def vO (i:Nat) (st:Ag) (x:kM×Nat):Ag:=(QG st.1 x.1.2.1,st.2++[(((i:Nat):Int),((x.2:Nat):Int),x.1.1,UW st.1 x.1.2.1,x.1.2.2)])
def jG (i:Nat) (st:Ag) (ops:List kM) (k:Nat):Ag:=((ops.take k).zipIdx).foldl (vO i) st
def Pe (i:Nat) (st:Ag) (ops:List kM):Ag:=jG i st ops ops.length
def jy (h:dv) (j:Nat):Ag:=((h.take j).zipIdx).foldl (fun st x=>Pe x.2 st x.1) ([],[])
theorem Ak {α:Type} {l:List α} {k:Nat} {x:α} (hx:l[((k:Nat):Int).toNat]? =some x):(l.take (k+1)).zipIdx=(l.take k).zipIdx++[(x,k)]:=by
 have hk:k<l.length:=by rw[dZ] at hx;exact(ef.1 hx).1
 rw[nB hx,List.zipIdx_append]
 simp;omega
theorem ED (i:Nat) (st:Ag) (ops:List kM):jG i st ops 0=st:=rfl
theorem Aq {i k:Nat} {st:Ag} {ops:List kM} {x:kM} (hx:ops[((k:Nat):Int).toNat]? =some x):jG i st ops (k+1)=vO i (jG i st ops k) (x,k):=by
 unfold jG;rw[Ak hx,aoa];rfl
theorem C0 {h:dv} {j:Nat} {x:List kM} (hx:h[((j:Nat):Int).toNat]? =some x):jy h (j+1)=Pe j (jy h j) x:=by
 unfold jy;rw[Ak hx,aoa];rfl
theorem fl {α:Type} {h:List (List α)} {j:Nat} {x:List α} (hx:h[((j:Nat):Int).toNat]? =some x):h.getD j []=x:=by
 rw[dZ] at hx;rw[gZ,hx];rfl
theorem Bb {h:dv} {j k:Nat} (hj:j<h.length) (hk:(h.getD j []).length≤k):jG j (jy h j) (h.getD j []) k=jy h (j+1):=by
 have hx:h[((j:Nat):Int).toNat]? =some h[j]:=by rw[dZ];exact eP hj
 rw[C0 hx,fl hx] at *
 unfold Pe jG
 rw[amr hk,anf]
theorem Hp (i:Nat) (st:Ag) (ops:List kM):∀k,k≤ops.length→(jG i st ops k).2.length=st.2.length+k∧(jG i st ops k).1.length≤st.1.length+k
 |0,_=>by rw[ED];omega
 |k+1,h=>by
  have ih:=Hp i st ops k aq
  have hx:ops[((k:Nat):Int).toNat]? =some ops[k]:=by rw[dZ];exact eP aq
  rw[Aq hx]
  have e1:(vO i (jG i st ops k) (ops[k],k)).2.length=(jG i st ops k).2.length+1:=by unfold vO;simp
  have e2:(vO i (jG i st ops k) (ops[k],k)).1.length≤(jG i st ops k).1.length+1:=by unfold vO QG;simp only;split<;>simp
  omega
theorem FG (h:dv):∀j,j≤h.length→(jy h j).2.length=((h.take j).flatten).length∧(jy h j).1.length≤((h.take j).flatten).length
 |0,_=>by simp[jy]
 |j+1,hj=>by
  have ih:=FG h j aq
  have hx:h[((j:Nat):Int).toNat]? =some h[j]:=by rw[dZ];exact eP aq
  rw[C0 hx,uT hx,gf]
  have:=Hp j (jy h j) h[j] h[j].length<|amk _
  unfold Pe
  omega
theorem pH {h:dv} {j k:Nat} {x:List kM} (hx:h[((j:Nat):Int).toNat]? =some x) (hk:k<x.length):
  (jG j (jy h j) x k).2.length+1≤h.flatten.length∧(jG j (jy h j) x k).1.length+1≤h.flatten.length:=by
 have hj:j<h.length:=by rw[dZ] at hx;exact(ef.1 hx).1
 have h1:=FG h j aq
 have h2:=Hp j (jy h j) x k aq
 have h3:=uc hx
 omega
def J' (h:dv):List ByteArray:=(jy h h.length).1
def Dz (h:dv):List aH:=(jy h h.length).2
theorem S' (h:dv):(Dz h).length=h.flatten.length:=by
 have:=(FG h h.length<|amk _).1
 rwa [anf] at this
def l6 (h:dv):List ByteArray:=if jt h then J' h else []
def cN (h:dv):List aH:=if jt h then Dz h else []
def k0 (h:dv):Int:=if jt h then 0 else 1
theorem xU {h:dv} (hr:jt h=true):l6 h=J' h∧cN h=Dz h∧k0 h=0:=by unfold l6 cN k0;simp[hr]
theorem wO {h:dv} (hr:jt h=false):l6 h=[]∧cN h=[]∧k0 h=1:=by unfold l6 cN k0;simp[hr]
theorem HA (h:dv):(cN h).length≤h.flatten.length:=by
 unfold cN;split
 ·rw[S'];exact amk _
 ·simp
theorem wF {i k:Nat} {st:Ag} {ops:List kM} {x:kM} (hx:ops[((k:Nat):Int).toNat]? =some x) (hf:ie (jG i st ops k).1 x.2.1<0):
  (jG i st ops k).1++[x.2.1]=(jG i st ops (k+1)).1∧(jG i st ops k).2++[(((i:Nat):Int),((k:Nat):Int),x.1,((jG i st ops k).1.length:Int),x.2.2)]=(jG i st ops (k+1)).2:=by
 rw[Aq hx];unfold vO QG UW;rw[aml hf,aml hf];exact⟨rfl,rfl⟩
theorem wE {i k:Nat} {st:Ag} {ops:List kM} {x:kM} (hx:ops[((k:Nat):Int).toNat]? =some x) (hf:¬ie (jG i st ops k).1 x.2.1<0):
  (jG i st ops k).1=(jG i st ops (k+1)).1∧(jG i st ops k).2++[(((i:Nat):Int),((k:Nat):Int),x.1,ie (jG i st ops k).1 x.2.1,x.2.2)]=(jG i st ops (k+1)).2:=by
 rw[Aq hx];unfold vO QG UW;rw[amn hf,amn hf];exact⟨rfl,rfl⟩
def lP (v val:Int) (x:aH):Bool:=x.2.2.1&&decide (x.2.2.2.1=v)&&decide (x.2.2.2.2=val)
def gD (aG:List aH) (v val:Int):Int:=eF (lP v val) aG
def zb (aG:List aH) (j:Nat) (x:aH):Bool:=x.2.2.1&&(decide (x.2.2.2.2=0)||decide (max (gD aG x.2.2.2.1 x.2.2.2.2) 0<((j:Nat):Int)))
def nV (aG:List aH) (j:Nat):Bool:=(aG[j]?).any (zb aG j)
def GV (aG:List aH):Option Nat:=(List.range aG.length).find? (nV aG)
def dz (aG:List aH):Int×Int×Int:=match GV aG with
 |none=>(0,0,0)
 |some j=>match aG[j]? with
  |none=>(0,0,0)
  |some x=>if x.2.2.2.2=0 then (((j:Nat):Int),((j:Nat):Int),5) else (max (gD aG x.2.2.2.1 x.2.2.2.2) 0,((j:Nat):Int),4)
theorem Zu {aG:List aH} {j:Nat} (h:∀k,k<j→nV aG k=false) (hj:aG.length≤j):GV aG=none:=by
 unfold GV;rw[anK]
 intro k hk
 rw[amm] at hk
 rw[h k aq];simp
theorem Ox {aG:List aH} {j:Nat} (h:∀k,k<j→nV aG k=false) (hj:j<aG.length) (hb:nV aG j=true):GV aG=some j:=by
 unfold GV
 rw[aoq]
 refine⟨hb,List.range j,(List.range<|aG.length-j-1).map (fun i=>j+1+i),?_,fun a ha=>by rw[h a (amm.1 ha)];rfl⟩
 have:aG.length=j+(1+(aG.length-j-1)):=by omega
 rw[this,nD,nD]
 simp[aoU]
theorem G6 {aG:List aH} {j:Nat} {x:aH} (hx:aG[((j:Nat):Int).toNat]? =some x):nV aG j=zb aG j x:=by
 rw[dZ] at hx;unfold nV;rw[hx];rfl
theorem Ba {aG:List aH} {j:Nat} {x:aH} (h:∀k,k<j→nV aG k=false) (hx:aG[((j:Nat):Int).toNat]? =some x) (hb:zb aG j x=false):∀k,k<j+1→nV aG k=false:=by
 intro k hk
 rcases anX.1 hk with h1|rfl
 ·exact h k h1
 ·rw[G6 hx];exact hb
theorem wj {aG:List aH} {j:Nat} (h:∀k,k<j→nV aG k=false) (hj:aG.length≤j):dz aG=(0,0,0):=by
 unfold dz;rw[Zu h hj]
theorem uf {aG:List aH} {j:Nat} {x:aH} (h:∀k,k<j→nV aG k=false) (hx:aG[((j:Nat):Int).toNat]? =some x) (hw:x.2.2.1=true) (h0:x.2.2.2.2=0):dz aG=(((j:Nat):Int),((j:Nat):Int),5):=by
 have hj:j<aG.length:=by rw[dZ] at hx;exact(ef.1 hx).1
 have hb:nV aG j=true:=by rw[G6 hx];unfold zb;simp[hw,h0]
 unfold dz;rw[Ox h hj hb]
 rw[dZ] at hx
 simp only[hx,h0,anV]
theorem so {aG:List aH} {j:Nat} {x:aH} (h:∀k,k<j→nV aG k=false) (hx:aG[((j:Nat):Int).toNat]? =some x) (hw:x.2.2.1=true) (h0:¬x.2.2.2.2=0)
  (h1:max (gD aG x.2.2.2.1 x.2.2.2.2) 0<((j:Nat):Int)):dz aG=(max (gD aG x.2.2.2.1 x.2.2.2.2) 0,((j:Nat):Int),4):=by
 have hj:j<aG.length:=by rw[dZ] at hx;exact(ef.1 hx).1
 have hb:nV aG j=true:=by rw[G6 hx];unfold zb;simp[hw,h1]
 unfold dz;rw[Ox h hj hb]
 rw[dZ] at hx
 simp only[hx,h0,am9]
theorem Mo {aG:List aH} {j:Nat} {x:aH} (hw:x.2.2.1=false):zb aG j x=false:=by unfold zb;rw[hw];rfl
theorem Mp {aG:List aH} {j:Nat} {x:aH} (h0:¬x.2.2.2.2=0) (h1:¬max (gD aG x.2.2.2.1 x.2.2.2.2) 0<((j:Nat):Int)):zb aG j x=false:=by
 unfold zb;rw[ams h0,ams h1];simp
theorem QT {aG:List aH} {j:Nat} {x:aH} {v val:Int} (hx:aG[((j:Nat):Int).toNat]? =some x) (h1:x.2.2.1=true) (h2:decide (x.2.2.2.1=v)=true) (h3:decide (x.2.2.2.2=val)=true) (hs:(aG.take j).any (lP v val)=false):((j:Nat):Int)=gD aG v val:=
 tW hx hs (by unfold lP;rw[h1,h2,h3];rfl)
theorem Nu {aG:List aH} {j:Nat} {v val:Int} (hs:(aG.take j).any (lP v val)=false) (h:aG.length≤j):(-1:Int)=gD aG v val:=uK hs h
theorem Zd {x:aH} {v val:Int} (h:x.2.2.1=false):lP v val x=false:=by unfold lP;rw[h];rfl
theorem Oc {x:aH} {v val:Int} (h:decide (x.2.2.2.1=v)=false):lP v val x=false:=by unfold lP;rw[h];simp
theorem Ob {x:aH} {v val:Int} (h:decide (x.2.2.2.2=val)=false):lP v val x=false:=by unfold lP;rw[h];simp
def tm (aG:List aH) (j:Nat) (m:KV):Prop:=∀p:Int×Int,getM m p=((aG.take j).findIdx? (lP p.1 p.2)).map fun i=>((i:Nat):Int)
theorem GP (aG:List aH):tm aG 0 []:=by intro p;simp[getM]
theorem Cq {aG:List aH} {p:aH→Bool} {j i:Nat} (h:(aG.take j).findIdx? p=some i):eF p aG=((i:Nat):Int):=by
 unfold eF
 have:aG.findIdx? p=some i:=by
  conv=>lhs;rw[←ant j aG]
  rw[ao6,h];rfl
 rw[this]
theorem IU {aG:List aH} {p:aH→Bool} {j:Nat} {x:aH} (hx:aG[((j:Nat):Int).toNat]? =some x) (hp:p x=true) (h:(aG.take j).findIdx? p=none):eF p aG=((j:Nat):Int):=by
 refine(tW hx ?_ hp).symm
 rw[aoe] at h
 rw[aob]
 intro y hy;rw[h y hy];simp
theorem I' {aG:List aH} {p:aH→Bool} {j:Nat} {x:aH} (hx:aG[((j:Nat):Int).toNat]? =some x):
  (aG.take (j+1)).findIdx? p=((aG.take j).findIdx? p).or (if p x then some j else none):=by
 have hj:j<aG.length:=by rw[dZ] at hx;exact(ef.1 hx).1
 rw[nB hx,ao6,ij,anl aq]
 congr 1
 cases hp:p x<;>simp[List.findIdx?_cons,hp]
theorem Eb {aG:List aH} {j:Nat} {m:KV} {x:aH} (h:tm aG j m) (hx:aG[((j:Nat):Int).toNat]? =some x) (hw:x.2.2.1=false):tm aG (j+1) m:=by
 intro p
 rw[h p,I' hx,show lP p.1 p.2 x=false from by unfold lP;rw[hw];rfl]
 simp
theorem GM {aG:List aH} {j:Nat} {m:KV} {x:aH} (h:tm aG j m) (hx:aG[((j:Nat):Int).toNat]? =some x) (hw:x.2.2.1=true) (hn:getM m (x.2.2.2.1,x.2.2.2.2)=none):tm aG (j+1) (jg m (x.2.2.2.1,x.2.2.2.2) ((j:Nat):Int)):=by
 intro p
 rw[VB,I' hx]
 by_cases e:p=(x.2.2.2.1,x.2.2.2.2)
 ·subst e
  rw[h] at hn
  have LC:(aG.take j).findIdx? (lP x.2.2.2.1 x.2.2.2.2)=none:=by simpa using hn
  rw[aml rfl]
  simp only[LC,show lP x.2.2.2.1 x.2.2.2.2 x=true from by unfold lP;simp[hw]]
  simp
 ·rw[amn e,h p,show lP p.1 p.2 x=false from by
   unfold lP;rw[hw]
   simp only[ane,ao0,amy]
   by_cases e1:x.2.2.2.1=p.1
   ·exact .inr fun e2=>e (by rw[Prod.ext_iff];exact⟨e1.symm,e2.symm⟩)
   ·exact .inl e1]
  simp
theorem Av {aG:List aH} {j:Nat} {m:KV} {x:aH} (h:tm aG j m) (hx:aG[((j:Nat):Int).toNat]? =some x) (hs:(getM m (x.2.2.2.1,x.2.2.2.2)).isSome=true):
  (getM m (x.2.2.2.1,x.2.2.2.2)).getD 0=max (gD aG x.2.2.2.1 x.2.2.2.2) 0∧max (gD aG x.2.2.2.1 x.2.2.2.2) 0<((j:Nat):Int):=by
 rw[h] at hs ⊢
 cases hf:(aG.take j).findIdx? (lP x.2.2.2.1 x.2.2.2.2) with
 |none=>simp[hf] at hs
 |some i=>
  have hi:i<j:=by
   have:=(amP.1 hf).1
   rw[ij] at this;omega
  have:=Cq hf
  unfold gD
  rw[this]
  simp only[hf,anD,aoW]
  omega
theorem NJ {aG:List aH} {j:Nat} {m:KV} {x:aH} (h:tm aG j m) (hx:aG[((j:Nat):Int).toNat]? =some x) (hw:x.2.2.1=true) (hs:(getM m (x.2.2.2.1,x.2.2.2.2)).isSome=false):
  getM m (x.2.2.2.1,x.2.2.2.2)=none∧gD aG x.2.2.2.1 x.2.2.2.2=((j:Nat):Int):=by
 have h0:getM m (x.2.2.2.1,x.2.2.2.2)=none:=by simpa using hs
 refine⟨h0,?_⟩
 rw[h] at h0
 have h1:(aG.take j).findIdx? (lP x.2.2.2.1 x.2.2.2.2)=none:=by simpa using h0
 exact IU hx (by unfold lP;simp[hw]) h1
end Go.Ew
namespace Go.Ew
open Go.RowKit
section
variable {P:Program} {n:Nat} {ops:Array Oper} {f:aS} {w:World} {K:aS→World→Prop} {x y:Operand} {d:Nat} {ty T T2 e:TypeId} {ps:String} {af:Array Edge} {M:Nat→Prop} {B:Nat} {a:Option Addr} {k c:Nat} {s t:Int}
theorem w8 {i:Int} (h0:0≤i) (h1:i≤255):IntKind.u8.wrap i=i∧(((BitVec.ofInt 8 i).toNat:Nat):Int)=i:=by
 constructor
 ·unfold IntKind.wrap
  simp[IntKind.bits,IntKind.signed]
  omega
 ·rw[an4]
  show ((i%256).toNat:Int)=i
  omega
end
end Go.Ew
namespace Go.Ew
open Go.RowKit
section
variable {P:Program} {n:Nat} {ops:Array Oper} {f:aS} {w:World} {K:aS→World→Prop} {x:Operand} {d:Nat} {ty:TypeId} {ps:String} {af:Array Edge} {a:Addr}
theorem nc (ox:bG n x=true) (hx:ev f x=.pointer (some a)) (h:K (b9 f d (.pointer (some a))) w):SO P n ops ⟨some d,.nilCheck x,ty,ps,af,none⟩ f w K:=
 SO.value (v:=.pointer (some a)) (w':=w) (by simp[execOp,aO ox,hx]) h
theorem mf0 {f:aS}:([]:List Operand).map (ev f)=[]:=rfl
theorem W4 {f:aS} {x:Operand} {v:Value} {L:List Operand} {V:List Value} (h:ev f x=v) (t:L.map (ev f)=V):(x::L).map (ev f)=v::V:=by rw[amJ,h,t]
theorem mf2 {fn:Fn} {ae:List Operand} {V:List Value} (oc:Ga n ae=true) (hC:ae.map (ev f)=V) (h:K (b9 f d (.func fn #[] V.toArray)) w):SO P n ops ⟨some d,.makeFunc fn #[] ae.toArray,ty,ps,af,none⟩ f w K:=by
 refine mf oc ?_
 rw[hC];exact h
end
theorem Mg {α0 α1 α2 α3 α4 α5 α6 α7 α8 α9 β:Type} (f:α0→α1→α2→α3→α4→α5→α6→α7→α8→α9→β) {x0 y0:α0} {x1 y1:α1} {x2 y2:α2} {x3 y3:α3} {x4 y4:α4} {x5 y5:α5} {x6 y6:α6} {x7 y7:α7} {x8 y8:α8} {x9 y9:α9} (h0:x0=y0) (h1:x1=y1) (h2:x2=y2) (h3:x3=y3) (h4:x4=y4) (h5:x5=y5) (h6:x6=y6) (h7:x7=y7) (h8:x8=y8) (h9:x9=y9):f x0 x1 x2 x3 x4 x5 x6 x7 x8 x9=f y0 y1 y2 y3 y4 y5 y6 y7 y8 y9:=by
 subst h0;subst h1;subst h2;subst h3;subst h4;subst h5;subst h6;subst h7;subst h8;subst h9;rfl
end Go.Ew
namespace Go.Ew
open Go.RowKit
theorem uD {α:Type} {p:α→Bool} {l:List α} (h:l.Nodup):(l.filter p).Nodup:=aoK List.filter_sublist h
def oa (l:List Oper) (cn:Nat→Option Nat) (L:Nat→Bool) (j:Nat):Bool:=(Nat.ble l.length j||L j)&&(match cn j with|none=>true|some i=>!L i)
def EI (l:List Oper) (cn:Nat→Option Nat) (aG:Nat→Value→List Item) (m:Nat) (L:Nat→Bool) (V:Nat→Value):List Item:=((List.range m).filter (oa l cn L)).flatMap fun j=>aG j (V j)
def waits (T:List Nat) (i j:Nat):Bool:=Nat.testBit (T.getD i 0) j
def ER (T:List Nat) (o:Oper):Nat→Nat
 |0=>0
 |j+1=>bif kH o j then ER T o j ||| (2^j ||| T.getD j 0) else ER T o j
def WW (l:List Oper) (T:List Nat):Bool:=(List.range l.length).all fun i=>match l[i]? with|some o=>Nat.beq (T.getD i 0) (ER T o i)|none=>true
theorem EP {T:List Nat} {o:Oper} {m:Nat}:∀i,Nat.testBit (ER T o i) m=true→∃j,j<i∧kH o j=true∧(m=j∨waits T j m=true)
 |0,h=>by simp[ER] at h
 |i+1,h=>by
  unfold ER at h
  cases ho:kH o i with
  |false=>
   rw[ho] at h
   obtain⟨j,h1,h2⟩:=EP i h
   exact⟨j,by omega,h2⟩
  |true=>
   rw[ho] at h
   have h:Nat.testBit (ER T o i ||| (2^i ||| T.getD i 0)) m=true:=h
   rw[Nat.testBit_or,Nat.testBit_or,amt,amt,Nat.testBit_two_pow] at h
   rcases h with h|h|h
   ·obtain⟨j,h1,h2⟩:=EP i h
    exact⟨j,by omega,h2⟩
   ·exact⟨i,by omega,ho,.inl (am3 h).symm⟩
   ·exact⟨i,by omega,ho,.inr h⟩
theorem Am {l:List Oper} {T:List Nat} (hT:WW l T=true) {L:Nat→Bool} (hC:∀j o,L j=true→l[j]? =some o→∀q,kH o q=true→L q=true) (hL:∀j,L j=true→j<l.length):
  ∀(n i:Nat) (o:Oper),i≤n→l[i]? =some o→(∀j,kH o j=true→L j=true)→∀m,waits T i m=true→L m=true
 |n,i,o,sg,ho,hd,m,hm=>by
  have jA:=(ef.1 ho).1
  have h1:=amq.1 hT i<|amm.2 jA
  rw[ho] at h1
  have h1:=ans h1
  unfold waits at hm
  rw[h1] at hm
  obtain⟨j,hj,Xn,zT⟩:=EP i hm
  have xf:=hd j Xn
  rcases zT with rfl|zT
  ·exact xf
  ·have wZ:=hL j xf
   have qv:l[j]? =some l[j]:=eP wZ
   cases n with
   |zero=>omega
   |succ n=>exact Am hT hC hL n j l[j] aq qv (hC j l[j] xf qv) m zT
def PE (l:List Oper) (cn:Nat→Option Nat) (T:List Nat) (m i:Nat) (o:Oper) (D:List Nat):Bool:=
 nodupB D&&D.all (fun j=>Nat.blt j m&&(Nat.ble l.length j||waits T i j)&&(match cn j with|none=>true|some c=>Nat.beq c i||(Nat.blt c l.length&&waits T c i)))&&(List.range m).all (fun j=>match cn j with|none=>true|some c=>!Nat.beq c i||D.contains j)
def Gs (cn:Nat→Option Nat) (i:Nat) (D:List Nat):List Nat:=D.filter fun j=>match cn j with|none=>true|some c=>!Nat.beq c i
def WX (n:Nat) (l:List Oper) (cn:Nat→Option Nat) (T:List Nat) (m:Nat) (Ds:List (List Nat)):Bool:=
 WW l T&&qO 0 l&&nodupB (i' l.length l)&&(i' l.length l).all (fun d=>Nat.blt d n)&&Nat.ble l.length m&&(List.range l.length).all fun i=>match l[i]? with|some o=>PE l cn T m i o (Ds.getD i [])|none=>true
section
variable {P:Program} {n:Nat} {l:List Oper} {cn:Nat→Option Nat} {aG:Nat→Value→List Item} {m:Nat} {T:List Nat} {Ds:List (List Nat)} {Φ:Nat→Value→Prop} {f0:aS} {M0:Nat→Prop} {w0:World} {base:List Item}
def GStep (P:Program) (n:Nat) (l:List Oper) (cn:Nat→Option Nat) (T:List Nat) (aG:Nat→Value→List Item) (Φ:Nat→Value→Prop) (f0:aS) (M0:Nat→Prop) (w0:World) (base:List Item) (i:Nat) (o:Oper) (D:List Nat):Prop:=
 ∀(f:aS) (w:World) (V:Nat→Value) (r:List Item),(∀t,(i' l.length l).contains t=false→f t=f0 t)→(∀j x,l[j]? =some x→x.dst.isSome=true→waits T i j=true→f (iM l j)=V j∧Φ j (V j))→(∀j x,l[j]? =some x→x.dst.isSome=true→(j=i∨waits T j i=true)→f (iM l j)=f0 (iM l j))→
  HI M0 w0 w (base++(D.flatMap (fun j=>aG j (V j))++r))→SO P n l.toArray o f w (fun f' w'=>∃v,f'=cU f o.dst v∧Φ i v∧HI M0 w0 w' (base++(((Gs cn i D).flatMap fun j=>aG j (V j))++(aG i v++r))))
def xI (P:Program) (n:Nat) (l:List Oper) (cn:Nat→Option Nat) (T:List Nat) (aG:Nat→Value→List Item) (Φ:Nat→Value→Prop) (f0:aS) (M0:Nat→Prop) (w0:World) (base:List Item) (Ds:List (List Nat)):Nat→List Oper→Prop
 |_,[]=>True
 |i,o::r=>GStep P n l cn T aG Φ f0 M0 w0 base i o (Ds.getD i [])∧xI P n l cn T aG Φ f0 M0 w0 base Ds (i+1) r
theorem xI.at_:∀(r:List Oper) (i:Nat),xI P n l cn T aG Φ f0 M0 w0 base Ds i r→∀j o,r[j]? =some o→GStep P n l cn T aG Φ f0 M0 w0 base (i+j) o (Ds.getD (i+j) [])
 |[],_,_,j,o,h=>by simp at h
 |x::r,i,h,0,o,hj=>by
  simp only[amw,amu] at hj
  subst hj
  exact h.1
 |x::r,i,h,j+1,o,hj=>by
  simp only[amD] at hj
  have:=xI.at_ r (i+1) h.2 j o hj
  rwa [show i+1+j=i+(j+1) from by omega] at this
def JG (l:List Oper) (cn:Nat→Option Nat) (aG:Nat→Value→List Item) (m:Nat) (Φ:Nat→Value→Prop) (f0:aS) (M0:Nat→Prop) (w0:World) (base:List Item) (L:Nat→Bool) (f:aS) (w:World):Prop:=
 ∃V:Nat→Value,(∀t,(i' l.length l).contains t=false→f t=f0 t)∧(∀j x,l[j]? =some x→x.dst.isSome=true→f (iM l j)=if L j=true then V j else f0 (iM l j))∧(∀j,j<l.length→L j=true→Φ j (V j))∧(∀j o,L j=true→l[j]? =some o→∀q,kH o q=true→L q=true)∧HI M0 w0 w (base++EI l cn aG m L V)
theorem drg {id:Nat} {Q:Exit→Act→World→Prop} {f:aS} {w:World} (cn:Nat→Option Nat) (T:List Nat) (aG:Nat→Value→List Item) (m:Nat) (Ds:List (List Nat)) (Φ:Nat→Value→Prop) (base:List Item) (V0:Nat→Value) (hm:P.follows .mixedOrders=true) (pW:WX n l cn T m Ds=true)
  (hH:HI M0 w0 w (base++((List.range m).filter (fun j=>Nat.ble l.length j)).flatMap fun j=>aG j (V0 j))) (sj:∀j i,cn j=some i→i<l.length)
  (hS:xI P n l cn T aG Φ f M0 w0 base Ds 0 l)
  (vn:∀(f':aS) (w':World) (V:Nat→Value),(∀t,(i' l.length l).contains t=false→f' t=f t)→(∀j x,l[j]? =some x→x.dst.isSome=true→f' (iM l j)=V j∧Φ j (V j))→HI M0 w0 w' (base++((List.range m).filter (fun j=>(cn j).isNone)).flatMap fun j=>aG j (V j))→Q .normal (bZ n f') w'):
  WC P n (.region id l.toArray true) Q f w:=by
 simp only[WX,eQ] at pW
 obtain⟨⟨⟨⟨⟨ack,hE⟩,hN⟩,hn⟩,hlm⟩,hU⟩:=pW
 have hlm:l.length≤m:=anr hlm
 have abp:∀V,EI l cn aG m (fun _=>false) V=((List.range m).filter (fun j=>Nat.ble l.length j)).flatMap fun j=>aG j (V j):=by
  intro V
  unfold EI
  congr 1
  refine aor fun j hj=>?_
  unfold oa
  cases cn j<;>simp
 refine drj (JG l cn aG m Φ f M0 w0 base) hm hE ⟨V0,fun _ _=>rfl,fun j x _ _=>(by simp),fun j _ h=>(by cases h),fun j o h=>(by cases h),?_⟩ ?_ ?_
 ·rw[abp]
  exact hH.ext (Ext.drew w)
 ·rintro L f' w' i o pU tD aco Xx ⟨V,hs,hv,hφ,hC,hH⟩
  have jA:=(ef.1 pU).1
  have Xc:∀j,waits T i j=true→L j=true:=fun j hj=>Am ack hC aco i i o (amk _) pU Xx j hj
  have Vi:∀c oc,L c=true→l[c]? =some oc→∀j,waits T c j=true→L j=true:=fun c oc SL Sq j hj=>Am ack hC aco c c oc (amk _) Sq (hC c oc SL Sq) j hj
  have qq:=xI.at_ l 0 hS i o pU
  simp only[am2] at qq
  have hu:=amq.1 hU i<|amm.2 jA
  rw[pU] at hu
  simp only[PE,eQ] at hu
  obtain⟨⟨SN,hDu⟩,hDc⟩:=hu
  have SN:=oA _ SN
  generalize hD:Ds.getD i []=D at qq SN hDu hDc
  have XK:∀j∈D,j<m∧oa l cn L j=true:=by
   intro j hj
   have:=amq.1 hDu j hj
   simp only[eQ,amt,aom] at this
   obtain⟨⟨h1,h2⟩,h3⟩:=this
   refine⟨h1,?_⟩
   unfold oa
   rw[eQ,amt]
   refine⟨h2.imp (fun h=>h) (Xc j),?_⟩
   revert h3
   cases On:cn j with
   |none=>intro _;rfl
   |some c=>
    intro h3
    simp only[amt] at h3
    show (!L c)=true
    rcases h3 with h3|h3
    ·rw[ans h3,tD];rfl
    ·cases SL:L c with
     |false=>rfl
     |true=>
      exfalso
      simp only[eQ,aom] at h3
      have:=Vi c l[c] SL (eP h3.1) i h3.2
      rw[tD] at this;cases this
  have hiD:i∉D:=by
   intro hi
   have:=(XK i hi).2
   unfold oa at this
   rw[tD,show Nat.ble l.length i=false from by
    cases hb:Nat.ble l.length i with
    |false=>rfl
    |true=>have:=anr hb;omega] at this
   simp at this
  
  have aep:((List.range m).filter (oa l cn L)).Perm (D++((List.range m).filter fun j=>oa l cn L j&&!D.contains j)):=by
   refine(List.perm_ext_iff_of_nodup (uD aow) ?_).2 fun j=>?_
   ·rw[an_]
    refine⟨SN,uD aow,fun a ha b hb I8=>?_⟩
    subst I8
    have:=(amA.1 hb).2
    simp[ha] at this
   ·simp only[amA,amm,amH,eQ,anq,aoy,amy]
    constructor
    ·rintro⟨h1,h2⟩
     by_cases hj:j∈D
     ·exact .inl hj
     ·exact .inr ⟨h1,h2,hj⟩
    ·rintro(h|⟨h1,h2, -⟩)
     ·exact XK j h
     ·exact⟨h1,h2⟩
  have hH2:HI M0 w0 w' (base++(D.flatMap (fun j=>aG j (V j))++((List.range m).filter fun j=>oa l cn L j&&!D.contains j).flatMap fun j=>aG j (V j))):=by
   refine hH.perm ?_
   unfold EI
   rw[←an2]
   exact List.Perm.append_left _<|aep.symm.flatMap_right _
  refine(qq f' w' V _ hs (fun j x yi GA Xn=>?_) (fun j x yi GA np=>?_) hH2).mono fun f2 w2 hK=>?_
  ·have:=hv j x yi GA
   rw[aml (Xc j Xn)] at this
   exact⟨this,hφ j (ef.1 yi).1 (Xc j Xn)⟩
  ·have:=hv j x yi GA
   have xf:L j=false:=by
    rcases np with rfl|np
    ·exact tD
    ·cases xf:L j with
     |false=>rfl
     |true=>have:=Vi j x xf yi i np;rw[tD] at this;cases this
   rw[xf] at this
   simpa using this
  ·obtain⟨v,rfl,ag8,hH3⟩:=hK
   refine⟨fun j=>if j=i then v else V j,fun t ht=>?_,fun j x yi GA=>?_,fun j hj xf=>?_,fun j oj xf qv q hq=>?_,?_⟩
   ·cases uO:o.dst with
    |none=>exact hs t ht
    |some di=>
     have gE:t≠di:=by
      rintro rfl
      have:=qm (k:=l.length) pU jA uO
      rw[←amV,ht] at this
      cases this
     rw[show cU f' (some di) v=b9 f' di v from rfl,jq f' v gE]
     exact hs t ht
   ·dsimp only
    by_cases np:j=i
    ·subst np
     rw[pU] at yi;cases yi
     obtain⟨di,uO⟩:=amG.1 GA
     rw[aml (by simp),aml rfl,OD pU uO,uO]
     exact iI f' di v
    ·have h1:=hv j x yi GA
     obtain⟨dj,D8⟩:=amG.1 GA
     have h2:cU f' o.dst v (iM l j)=f' (iM l j):=by
      cases uO:o.dst with
      |none=>rfl
      |some di=>
       rw[OD yi D8]
       exact jq f' v<|acV hN pU yi uO D8<|fun e=>np e.symm
     rw[h2,h1];simp[np]
   ·dsimp only at xf ⊢
    by_cases np:j=i
    ·subst np;rw[aml rfl];exact ag8
    ·rw[amn np]
     rw[ams np,anM] at xf
     exact hφ j hj xf
   ·dsimp only at xf ⊢
    by_cases np:j=i
    ·subst np
     rw[pU] at qv;cases qv
     rw[Xx q hq];rfl
    ·rw[ams np,anM] at xf
     rw[hC j oj xf qv q hq];rfl
   ·refine hH3.perm ?_
    have D_:∀j,oa l cn (fun k=>L k||decide (k=i)) j=true↔(j=i∨(oa l cn L j=true∧∀c,cn j=some c→c≠i)):=by
     intro j
     unfold oa
     simp only[eQ,amt,amj]
     constructor
     ·rintro⟨h1,h2⟩
      by_cases np:j=i
      ·exact .inl np
      ·refine .inr ⟨⟨h1.imp (fun h=>h) fun h=>h.resolve_right np,?_⟩,?_⟩
       ·revert h2
        cases cn j with
        |none=>intro _;rfl
        |some c=>intro h2;simp at h2 ⊢;exact h2.1
       ·intro c hc
        rw[hc] at h2
        simp at h2
        exact h2.2
     ·rintro(rfl|⟨⟨h1,h2⟩,h3⟩)
      ·refine⟨.inr (.inr rfl),?_⟩
       cases On:cn j with
       |none=>rfl
       |some c=>
        have ru:=sj j c On
        have Sq:l[c]? =some l[c]:=eP ru
        have Xf:=amq.1 hU c<|amm.2 ru
        rw[Sq] at Xf
        simp only[PE,eQ] at Xf
        have sg:=amq.1 Xf.2 j<|amm.2 aq
        rw[On] at sg
        have sg:j∈Ds.getD c []:=by
         have hb:Nat.beq c c=true:=Nat.beq_refl c
         simp only[hb,aoB,an8,aoy,amj] at sg
         exact sg
        have D8:=amq.1 Xf.1.2 j sg
        simp only[eQ,amt] at D8
        have uL:waits T c j=true:=by
         rcases D8.1.2 with h|h
         ·have:=anr h;omega
         ·exact h
        have ahD:c≠j:=by
         rintro rfl
         have:=Xc c uL
         rw[tD] at this;cases this
        show (!(L c||decide (c=j)))=true
        rw[ams ahD,anM]
        cases SL:L c with
        |false=>rfl
        |true=>have:=Vi c l[c] SL Sq j uL;rw[tD] at this;cases this
      ·refine⟨h1.imp (fun h=>h) .inl,?_⟩
       revert h2 h3
       cases cn j with
       |none=>intro _ _;rfl
       |some c=>
        intro h3 h2
        simp at h2 ⊢
        exact⟨h2,h3 c rfl⟩
    have Sp:((List.range m).filter (oa l cn fun k=>L k||decide (k=i))).Perm (Gs cn i D++([i]++((List.range m).filter fun j=>oa l cn L j&&!D.contains j))):=by
     refine(List.perm_ext_iff_of_nodup (uD aow) ?_).2 fun j=>?_
     ·rw[an_]
      refine⟨uD SN,?_,fun a ha b hb I8=>?_⟩
      ·rw[List.singleton_append,anm]
       refine⟨fun hi=>?_,uD aow⟩
       have:=(amA.1 hi).2
       simp only[eQ] at this
       have h1:=this.1
       unfold oa at h1
       rw[tD,show Nat.ble l.length i=false from by
        cases hb:Nat.ble l.length i with
        |false=>rfl
        |true=>have:=anr hb;omega] at h1
       simp at h1
      ·subst I8
       have haD:=(amA.1 ha).1
       rcases amz.1 hb with rfl|hb
       ·exact hiD haD
       ·have:=(amA.1 hb).2
        simp[haD] at this
     ·rw[amA,D_,amm,amH,amH,anw,amA]
      unfold Gs
      rw[amA,amm]
      simp only[eQ,anq,aoy,amy]
      have nY:(match cn j with|none=>true|some c=>!Nat.beq c i)=true↔∀c,cn j=some c→c≠i:=by
       cases On:cn j with
       |none=>simp
       |some c=>
        simp only[anq,amu]
        constructor
        ·rintro h d rfl rfl
         rw[Nat.beq_refl] at h;cases h
        ·intro h
         cases hb:Nat.beq c i with
         |false=>rfl
         |true=>exact absurd (ans hb) (h c rfl)
      rw[nY]
      constructor
      ·rintro⟨h1,h2|⟨h2,h3⟩⟩
       ·exact .inr (.inl h2)
       ·by_cases hjD:j∈D
        ·exact .inl ⟨hjD,h3⟩
        ·exact .inr (.inr ⟨h1,h2,hjD⟩)
      ·rintro(⟨h1,h2⟩|rfl|⟨h1,h2,h3⟩)
       ·exact⟨(XK j h1).1,.inr ⟨(XK j h1).2,h2⟩⟩
       ·exact⟨by omega,.inl rfl⟩
       ·refine⟨h1,.inr ⟨h2,fun c hc hci=>?_⟩⟩
        subst hci
        have sg:=amq.1 hDc j<|amm.2 h1
        rw[hc] at sg
        have hb:Nat.beq c c=true:=Nat.beq_refl c
        simp only[hb,aoB,an8,aoy,amj] at sg
        exact h3 sg
    refine List.Perm.append_left _ ?_
    unfold EI
    refine(Sp.flatMap_right _).trans ?_
    rw[an2,an2,List.flatMap_singleton]
    dsimp only
    rw[aml rfl]
    have SE:∀A:List Nat,i∉A→A.flatMap (fun j=>aG j (if j=i then v else V j))=A.flatMap fun j=>aG j (V j):=by
     intro A hA
     induction A with
     |nil=>rfl
     |cons a A ihA=>
      rw[anP,anP,ihA fun h=>hA (amM _ h),amn fun (e:a=i)=>hA (e▸am4)]
    rw[SE (Gs cn i D) (fun h=>hiD (amA.1 h).1),SE]
    intro hi
    have:=(amA.1 hi).2
    simp only[eQ] at this
    have h1:=this.1
    unfold oa at h1
    rw[tD,show Nat.ble l.length i=false from by
     cases hb:Nat.ble l.length i with
     |false=>rfl
     |true=>have:=anr hb;omega] at h1
    simp at h1
 ·rintro f' w' ⟨V,hs,hv,hφ, -,hH⟩
  refine vn f' w' V hs (fun j x yi GA=>?_) ?_
  ·have wZ:=(ef.1 yi).1
   have:=hv j x yi GA
   rw[aml (amp wZ)] at this
   exact⟨this,hφ j wZ (amp wZ)⟩
  ·have:EI l cn aG m (fun k=>decide (k<l.length)) V=((List.range m).filter (fun j=>(cn j).isNone)).flatMap fun j=>aG j (V j):=by
    unfold EI
    congr 1
    refine aor fun j hj=>?_
    unfold oa
    have h1:(Nat.ble l.length j||decide (j<l.length))=true:=by
     rw[amt,amj]
     by_cases h:j<l.length
     ·exact .inr h
     ·exact .inl (Nat.ble_eq_true_of_le aq)
    rw[h1,ane]
    cases On:cn j with
    |none=>rfl
    |some c=>
     have:=sj j c On
     simp[this]
   rw[←this];exact hH
end
def vP:Value→Addr
 | .pointer (some a)=>a
 |_=>⟨0,0,none⟩
theorem aeu {GZ:List (Option Nat)} {N:Nat} (h:GZ.all (fun c=>match c with|none=>true|some i=>Nat.blt i N)=true):∀j i,GZ.getD j none=some i→i<N:=by
 intro j i hj
 rw[gZ] at hj
 cases hc:GZ[j]? with
 |none=>rw[hc] at hj;cases hj
 |some c=>
  rw[hc] at hj
  have hj:c=some i:=hj
  subst hj
  have:=amq.1 h _<|dJ hc
  simpa using this
theorem VM {P:Program} {n:Nat} {l:List Oper} {id:Nat} {Q:Exit→Act→World→Prop} {f:aS} {w:World} {M0:Nat→Prop} {w0:World} (GZ:List (Option Nat)) (T:List Nat) (AV:List (Value→List Item)) (Ds:List (List Nat)) (ΦL:List (Value→Prop)) (base:List Item)
  (hm:P.follows .mixedOrders=true) (pW:WX n l (fun j=>GZ.getD j none) T AV.length Ds=true) (hc:GZ.all (fun c=>match c with|none=>true|some i=>Nat.blt i l.length)=true)
  (hH:HI M0 w0 w (base++((AV.drop l.length).flatMap fun g=>g undef)))
  (hS:xI P n l (fun j=>GZ.getD j none) T (fun j=>AV.getD j (fun _=>[])) (fun j=>ΦL.getD j (fun _=>True)) f M0 w0 base Ds 0 l)
  (vn:∀(f':aS) (w':World) (V:Nat→Value),(∀t,(i' l.length l).contains t=false→f' t=f t)→(∀j x,l[j]? =some x→x.dst.isSome=true→f' (iM l j)=V j∧(ΦL.getD j (fun _=>True)) (V j))→HI M0 w0 w' (base++((List.range AV.length).filter (fun j=>(GZ.getD j none).isNone)).flatMap fun j=>(AV.getD j (fun _=>[])) (V j))→Q .normal (bZ n f') w'):
  WC P n (.region id l.toArray true) Q f w:=by
 have hlm:l.length≤AV.length:=by
  simp only[WX,eQ] at pW
  exact anr pW.1.2
 refine drg (fun j=>GZ.getD j none) T (fun j=>AV.getD j (fun _=>[])) AV.length Ds (fun j=>ΦL.getD j (fun _=>True)) base (fun _=>undef) hm pW ?_ (aeu hc) hS vn
 have key:∀(L:List (Value→List Item)) (k s:Nat),((List.range' s L.length).filter (fun j=>Nat.ble k j)).flatMap (fun j=>((List.replicate s (fun _=>[]))++L).getD j (fun _=>[]) undef)=(L.drop (k-s)).flatMap fun g=>g undef:=by
  intro L
  induction L with
  |nil=>intro k s;simp
  |cons g L ih=>
   intro k s
   have ahf:List.replicate s (fun _:Value=>([]:List Item))++g::L=(List.replicate s (fun _:Value=>([]:List Item))++[g])++L:=by simp
   have tX:∀j∈List.range' (s+1) L.length,(List.replicate s (fun _:Value=>([]:List Item))++g::L).getD j (fun _=>[]) undef=(List.replicate (s+1) (fun _:Value=>([]:List Item))++L).getD j (fun _=>[]) undef:=by
    intro j hj
    have hj:=(List.mem_range'_1.1 hj).1
    rw[gZ,gZ,ahf,oR (by simp;omega),oR (by simp;omega)]
    simp
   have Xu:∀A:List Nat,(∀j∈A,j∈List.range' (s+1) L.length)→A.flatMap (fun j=>(List.replicate s (fun _:Value=>([]:List Item))++g::L).getD j (fun _=>[]) undef)=A.flatMap fun j=>(List.replicate (s+1) (fun _:Value=>([]:List Item))++L).getD j (fun _=>[]) undef:=by
    intro A hA
    induction A with
    |nil=>rfl
    |cons a A ihA=>rw[anP,anP,ihA fun j hj=>hA j (amM _ hj),tX a (hA a am4)]
   rw[iB,List.range'_succ,List.filter_cons]
   by_cases hk:Nat.ble k s=true
   ·have I2:=anr hk
    rw[aml hk,anP,Xu _ fun j hj=>(amA.1 hj).1,ih k (s+1),show k-s=0 from by omega,show k-(s+1)=0 from by omega,aoO,aoO,anP]
    congr 1
    rw[gZ,oR (by simp)]
    simp
   ·have I2:¬k≤s:=fun h=>hk (Nat.ble_eq_true_of_le h)
    rw[amn hk,Xu _ fun j hj=>(amA.1 hj).1,ih k (s+1),show k-s=(k-(s+1))+1 from by omega,List.drop_succ_cons]
 have:=key AV l.length 0
 rw[List.replicate_zero,List.nil_append,ao1,←List.range_eq_range'] at this
 rw[this]
 exact hH
theorem aaI {α:Type} [GT α] {B:Nat} {e:TypeId} {v:Value} {xs:List α} {M:Nat→Prop} {w:World} {g j:Nat} {x:α} (h:(own B e v xs).holds M w) (hv:v.ownBlock=some g) (hx:xs[j]? =some x):gS M w ⟨g,j*GT.size α,none⟩ x:=by
 obtain⟨cs,h1,h2⟩:=h
 rcases h1.2 with ⟨rfl,h3⟩|⟨g',cap,cur,rfl,h3,h4,h5,h6,h7,h8⟩
 ·cases hv
 ·obtain rfl:g'=g:=amo hv
  have kV:(⟨g',0,none⟩:Addr).add (j*GT.size α)=⟨g',j*GT.size α,none⟩:=by unfold Addr.add;split<;>simp_all
  obtain⟨c,yl,zV⟩:=bu.at_ h2 j x hx
  refine⟨c,yl,fun i u hu=>?_⟩
  have ui:=h1.cells (g:=g') J (j*GT.size α+i) u<|zV i u hu
  rwa [←add_add,kV] at ui
theorem j1 {α:Type} [GT α] {B:Nat} {e:TypeId} {v:Value} {xs:List α} {M:Nat→Prop} {w:World} (h:(own B e v xs).holds M w):xs.length≤9223372036854775807:=by
 obtain⟨cs,h1,h2⟩:=h
 rcases h1.2 with ⟨rfl,h3⟩|⟨g',cap,cur,rfl,h3,h4,h5,h6,h7,h8⟩
 ·omega
 ·have:maxLen=9223372036854775807:=rfl
  omega
end Go.Ew
namespace Go.Ew
open Go.RowKit
def afe (m k:Nat):Bool:=Nat.beq (Nat.land 1 (Nat.shiftRight m k)) 1
def mask (T:List Nat) (j:Nat) (V:Nat→Value) (k:Nat):Value:=bif (Nat.beq k j||afe (T.getD j 0) k) then V k else undef
section
variable {P:Program} {n:Nat} {l:List Oper} {cn:Nat→Option Nat} {aG:Nat→(Nat→Value)→List Item} {m:Nat} {T:List Nat} {Ds:List (List Nat)} {Φ:Nat→Value→Prop} {f0:aS} {M0:Nat→Prop} {w0:World} {base:List Item}
def T5 (P:Program) (n:Nat) (l:List Oper) (cn:Nat→Option Nat) (T:List Nat) (aG:Nat→(Nat→Value)→List Item) (Φ:Nat→Value→Prop) (f0:aS) (M0:Nat→Prop) (w0:World) (base:List Item) (i:Nat) (o:Oper) (D:List Nat):Prop:=
 ∀(f:aS) (w:World) (V:Nat→Value) (r:List Item),(∀t,(i' l.length l).contains t=false→f t=f0 t)→(∀j x,l[j]? =some x→x.dst.isSome=true→waits T i j=true→f (iM l j)=V j∧Φ j (V j))→(∀j x,l[j]? =some x→x.dst.isSome=true→(j=i∨waits T j i=true)→f (iM l j)=f0 (iM l j))→
  HI M0 w0 w (base++(D.flatMap (fun j=>aG j (mask T j V))++r))→SO P n l.toArray o f w (fun f' w'=>∃v,f'=cU f o.dst v∧Φ i v∧HI M0 w0 w' (base++(((Gs cn i D).flatMap fun j=>aG j (mask T j V))++(aG i (mask T i (fun k=>if k=i then v else V k))++r))))
def DG (P:Program) (n:Nat) (l:List Oper) (cn:Nat→Option Nat) (T:List Nat) (aG:Nat→(Nat→Value)→List Item) (Φ:Nat→Value→Prop) (f0:aS) (M0:Nat→Prop) (w0:World) (base:List Item) (Ds:List (List Nat)):Nat→List Oper→Prop
 |_,[]=>True
 |i,o::r=>T5 P n l cn T aG Φ f0 M0 w0 base i o (Ds.getD i [])∧DG P n l cn T aG Φ f0 M0 w0 base Ds (i+1) r
theorem DG.at_:∀(r:List Oper) (i:Nat),DG P n l cn T aG Φ f0 M0 w0 base Ds i r→∀j o,r[j]? =some o→T5 P n l cn T aG Φ f0 M0 w0 base (i+j) o (Ds.getD (i+j) [])
 |[],_,_,j,o,h=>by simp at h
 |x::r,i,h,0,o,hj=>by
  simp only[amw,amu] at hj
  subst hj
  exact h.1
 |x::r,i,h,j+1,o,hj=>by
  simp only[amD] at hj
  have:=DG.at_ r (i+1) h.2 j o hj
  rwa [show i+1+j=i+(j+1) from by omega] at this
end
end Go.Ew
namespace Go.Ew
open Go.RowKit
section
variable {P:Program} {n:Nat} {ops:Array Oper} {f:aS} {w:World} {K:aS→World→Prop} {x y:Operand} {d:Nat} {ty T e:TypeId} {ps:String} {af:Array Edge} {M0:Nat→Prop} {w0:World} {l:List Item} {bytes:Nat} {z:Value} {agg:Bool} {kk:IntKind}
theorem Lf {fn:Fn} {v:Value} (ox:bG n x=true) (hx:ev f x=v) (h:K (b9 f d (.func fn #[v] #[])) w):SO P n ops ⟨some d,.makeFunc fn #[x] #[],ty,ps,af,none⟩ f w K:=
 SO.value (v:=.func fn #[v] #[]) (by simp[execOp,Instr.makeFunc,aO ox,hx]) h
theorem Mh {fx:Operand} {g:FuncId} {b:Value} {L:List Operand} {vs:List Value} {Mw:Array TypeId} {ai:Value→World→Prop} (G:ct P g)
  (ofx:bG n fx=true) (ol:Ga n L=true) (hfx:ev f fx=.func (.func g) #[b] #[]) (hL:L.map (ev f)=vs)
  (hc:Calls P g (b::vs).toArray w (cb ai)) (h:∀v w',ai v w'→K (b9 f d v) w'):
  SO P n ops ⟨some d,.call {callee:=.value fx,args:=L.toArray,argTypes:=Mw},ty,ps,af,none⟩ f w K:=by
 obtain⟨fn,c,hf,hb,hn⟩:=G
 subst hL
 exact SO.enter (g:=g) (args:=(b::L.map (ev f)).toArray) (w':=w) (by
  simp only[execOp,resolve,aoi,yt ol,aO ofx,hfx]
  simp[Deferred.ofValue,invoke,xz hf hb hn]) (hc.mono fun e w' hr=>by
   obtain⟨v,rfl,hv⟩:=hr
   exact⟨v,rfl,h v w' hv⟩)
theorem bsB {len:Nat} {L:List (Nat×Operand)} {V:List (Nat×Value)} {cells:Array Value} (H:HI M0 w0 w l) (ol:Ga n (L.map (·.2))=true) (hL:(L.map fun p=>(p.1,ev f p.2))=V)
  (hb:∀w,(Instr.buildSlice T len V.toArray).run P w=.ok (.slice (some ⟨w.heap.size,0,none⟩) len len) (w.alloc (.cells cells e)))
  (h:∀g w',Ext w w'→HI M0 w0 w' (box g cells e::l)→K (b9 f d (.slice (some ⟨g,0,none⟩) len len)) w'):
  SO P n ops ⟨some d,.buildSlice T len L.toArray,ty,ps,af,none⟩ f w K:=by
 subst hL
 refine SO.value (v:=.slice (some ⟨w.heap.size,0,none⟩) len len) (w':=w.alloc (.cells cells e)) ?_<|h _ _ (Ext.alloc w _) ?_
 ·have he:(L.map fun p=>(p.1,(bZ n f).eval p.2))=L.map fun p=>(p.1,ev f p.2):=by
   apply anp
   intro p hp
   rw[aO (amq.1 ol p.2 (am5.2 ⟨p,hp,rfl⟩))]
  simp only[execOp,aoi]
  have:=hb w
  rw[←he] at this
  simp[this]
 ·exact H.new (Ext.alloc w _) w.heap.size J (amk _) (by simp)<|heap_alloc_new w _
theorem NS {α:Type} [GT α] {B:Nat} {a:Option Addr} {k c:Nat} {xs:List α} {M:Nat→Prop} (hO:(own B e (.slice a k c) xs).holds M w) (h:a.isNone=true):xs=[]:=by
 obtain⟨cs,h1,h2⟩:=hO
 rcases h1.2 with ⟨h3,h4⟩|⟨g,cap,cur,h3,h4⟩
 ·exact ani.1 h4
 ·cases h3;cases h
theorem Lu {g len c:Nat} {i:Int} (ox:bG n x=true) (oy:bG n y=true) (hx:ev f x=.slice (some ⟨g,0,none⟩) len c) (hy:ev f y=.int kk i) (k:Nat) (hi:i=((k:Nat):Int)) (hl:k<len) (hu:P.underlying T=some (.slice e)) (F:eh P e 1 agg bytes z)
  (h:K (b9 f d (.pointer (some ⟨g,k,none⟩))) w):SO P n ops ⟨some d,.indexAddr T x y,ty,ps,af,none⟩ f w K:=by
 have kV:(⟨g,0,none⟩:Addr).add (k*1)=⟨g,k,none⟩:=by unfold Addr.add;split<;>simp_all
 refine SO.value (v:=.pointer (some ⟨g,k,none⟩)) ?_ h
 subst hi
 have hb:(0:Int)≤((k:Nat):Int)∧((k:Nat):Int)<(len:Int):=by omega
 simp only[execOp,aO ox,aO oy,hx,hy]
 simp[Instr.indexAt,asIntOf,gC hu,hb,F.jf]
 rw[aml hl,show (⟨g,0,none⟩:Addr).add k=⟨g,k,none⟩ by rw[←kV,aop]]
end
theorem bj.anyM {α:Type} [GT α] [Flat α] {M M':Nat→Prop} {e:TypeId} {w w':World} {v:Value} {xs:List α} (h:bj M e w xs v w'):bj M' e w xs v w':=by
 obtain⟨hx,hb,cs,h1,h2⟩:=h
 exact⟨hx,hb,cs,h1,bu.flat h2⟩
theorem Uq {w:World} {B B':Nat} {e:TypeId} {sz n:Nat} {v:Value} {cs:List Value} (h:w.ownsRow B e sz v n cs) (hB:B'≤B):w.ownsRow B' e sz v n cs:=by
 refine⟨h.1,?_⟩
 rcases h.2 with h2|⟨g,cap,cur,h1,h2,h3⟩
 ·exact .inl h2
 ·exact .inr ⟨g,cap,cur,h1,Nat.le_trans hB h2,h3⟩
theorem Uo {w w':World} {B:Nat} {e:TypeId} {sz n:Nat} {v:Value} {cs:List Value} (h:w.ownsRow B e sz v n cs) (hb:∀b,v.ownBlock=some b→w'.heap[b]? =w.heap[b]?):w'.ownsRow B e sz v n cs:=by
 refine⟨h.1,?_⟩
 rcases h.2 with h2|⟨g,cap,cur,h1,h2,h3,h4⟩
 ·exact .inl h2
 ·exact .inr ⟨g,cap,cur,h1,h2,by rw[hb g (by rw[h1];rfl)];exact h3,h4⟩
theorem bj.base {α:Type} [GT α] {M:Nat→Prop} {e:TypeId} {w w' w0:World} {v:Value} {xs:List α} (h:bj M e w xs v w') (x:Ext w0 w):bj M e w0 xs v w':=by
 obtain⟨hx,hb,cs,h1,h2⟩:=h
 exact⟨x.trans hx,hb,cs,Uq h1 x.size,h2⟩
theorem bj.Lo {α:Type} [GT α] [Flat α] {M:Nat→Prop} {e:TypeId} {w w' w0:World} {v:Value} {xs:List α} (h:bj M e w0 xs v w) (x:Ext w w'):bj M e w0 xs v w':=by
 obtain⟨hx,hb,cs,h1,h2⟩:=h
 exact⟨hx.trans x,fun b uP=>amO (hb b uP) x.size,cs,Uo h1 fun b uP=>x.block b (hb b uP),bu.flat h2⟩
theorem bj.rvN {α:Type} [GT α] [Flat α] {M:Nat→Prop} {e:TypeId} {w w' w0:World} {v:Value} {xs:List α} (h:bj M e w xs v w') (x:Ext w0 w):RV (fun b=>b<w0.heap.size) w' v xs:=by
 obtain⟨hx,hb,cs,h1,h2⟩:=h
 have:bj (fun b=>b<w.heap.size) e w xs v w':=⟨hx,hb,cs,h1,bu.flat h2⟩
 exact(this.rv fun b hb=>hb).lift (Up.less fun b _ hb=>amO hb x.size)
theorem KK {α:Type} [GT α] {M0:Nat→Prop} {w0 zl w:World} {l:List Item} {v:Value} {xs:List α} (h:RV (fun b=>b<w0.heap.size) w v xs) (H:HI M0 zl w0 l):RV (MS M0 l) w v xs:=h.lift (Up.less fun b _ hb=>H.mb b hb)
theorem aaq {α:Type} [GT α] {M0:Nat→Prop} {w0 zl w:World} {l:List Item} {v:Value} {xs:List α} (h:RV (fun b=>b<w0.heap.size) w v xs) (H:HI M0 zl w0 l):RV (fun b=>b<zl.heap.size) w v xs:=h.lift (Up.less fun b _ hb=>amO hb H.below.size)
end Go.Ew
namespace Go.Ew
theorem VH (aG:List aH):(GV aG=none∧(∀k,nV aG k=false))∨∃j,j<aG.length∧GV aG=some j∧nV aG j=true∧∀k,k<j→nV aG k=false:=by
 unfold GV
 cases h:(List.range aG.length).find? (nV aG) with
 |none=>
  left
  refine⟨J,fun k=>?_⟩
  rw[anK] at h
  by_cases hk:k<aG.length
  ·simpa using h k (amm.2 hk)
  ·unfold nV;rw[amv aq];rfl
 |some j=>
  right
  rw[aoq] at h
  obtain⟨hb,as,bs,he,ha⟩:=h
  have hj:j<aG.length:=by
   have:j∈List.range aG.length:=by rw[he];simp
   exact amm.1 this
  have hlen:as.length=j:=by
   have h1:(List.range aG.length)[as.length]? =some j:=by rw[he];simp
   have h2:as.length<aG.length:=by
    have:=amh List.length he
    simp at this;omega
   rw[ang h2] at h1
   exact amo h1
  refine⟨j,hj,J,hb,fun k hk=>?_⟩
  have h1:(List.range aG.length)[k]? =as[k]?:=by rw[he,qK aq]
  rw[ang aq,eP aq] at h1
  have:=ha as[k]<|aox _
  rw[←amo h1] at this
  simpa using this
theorem Ts {aG:List aH} (h:(dz aG).2.2=0):GV aG=none∧∀k,nV aG k=false:=by
 rcases VH aG with h1|⟨j,hj,hf,hb,hl⟩
 ·exact h1
 ·exfalso
  unfold dz at h
  rw[hf] at h
  simp only[eP hj] at h
  split at h<;>simp at h
theorem OL {aG:List aH} (h:(dz aG).2.2=0):(dz aG).1=0∧(dz aG).2.1=0:=by
 unfold dz;rw[(Ts h).1];exact⟨rfl,rfl⟩
theorem Yo {aG:List aH} {j:Nat} {x:aH} (hx:aG[((j:Nat):Int).toNat]? =some x) (hw:x.2.2.1=true):0≤gD aG x.2.2.2.1 x.2.2.2.2∧gD aG x.2.2.2.1 x.2.2.2.2≤((j:Nat):Int):=by
 have hp:lP x.2.2.2.1 x.2.2.2.2 x=true:=by unfold lP;simp[hw]
 cases hf:(aG.take j).findIdx? (lP x.2.2.2.1 x.2.2.2.2) with
 |none=>have:=IU hx hp hf;unfold gD;rw[this];omega
 |some i=>
  have:=Cq hf
  have hi:=(amP.1 hf).1
  rw[ij] at hi
  unfold gD;rw[this];omega
theorem VX {aG:List aH} (h:(dz aG).2.2=0) {j:Nat} {x:aH} (hx:aG[((j:Nat):Int).toNat]? =some x) (hw:x.2.2.1=true):x.2.2.2.2≠0∧gD aG x.2.2.2.1 x.2.2.2.2=((j:Nat):Int):=by
 have hb:=(Ts h).2 j
 rw[G6 hx] at hb
 unfold zb at hb
 rw[hw,ane,aof,amy,amy] at hb
 have:=Yo hx hw
 omega
theorem Wx {aG:List aH} {v val:Int} (h:0≤gD aG v val):∃x,aG[(gD aG v val).toNat]? =some x∧lP v val x=true:=by
 unfold gD eF at h ⊢
 cases hf:aG.findIdx? (lP v val) with
 |none=>rw[hf] at h;simp at h
 |some i=>
  obtain⟨hi,hp, -⟩:=amP.1 hf
  exact⟨aG[i],by simp[hi],hp⟩
theorem Od {v val:Int} {x:aH}:lP v val x=true↔x.2.2.1=true∧x.2.2.2.1=v∧x.2.2.2.2=val:=by unfold lP;simp[and_assoc]
end Go.Ew
namespace Go.Ew
def uR (aG:List aH) (x:aH):Int:=if x.2.2.1 then -3 else if x.2.2.2.2=0 then -1 else if 0≤gD aG x.2.2.2.1 x.2.2.2.2 then max (gD aG x.2.2.2.1 x.2.2.2.2) 0 else -2
def jl (aG:List aH):List Int:=aG.map (uR aG)
def uh (aG:List aH) (j:Nat):KV:=((aG.take j).zipIdx).foldl (fun m x=>if x.1.2.2.1 then jg m (x.1.2.2.2.1,x.1.2.2.2.2) ((x.2:Nat):Int) else m) []
def xl (m:KV) (x:aH):Int:=if x.2.2.1 then -3 else if x.2.2.2.2=0 then -1 else if (getM m (x.2.2.2.1,x.2.2.2.2)).isSome then (getM m (x.2.2.2.1,x.2.2.2.2)).getD 0 else -2
def gG (aG:List aH):List Int:=aG.map (xl (uh aG aG.length))
theorem yO {aG:List aH} {j:Nat} {x:aH} (hx:aG[((j:Nat):Int).toNat]? =some x) (hw:x.2.2.1=true):jg (uh aG j) (x.2.2.2.1,x.2.2.2.2) ((j:Nat):Int)=uh aG (j+1):=by
 unfold uh;rw[Ak hx,aoa];simp[hw]
theorem AT {aG:List aH} {j:Nat} {x:aH} (hx:aG[((j:Nat):Int).toNat]? =some x) (hw:x.2.2.1=false):uh aG j=uh aG (j+1):=by
 unfold uh;rw[Ak hx,aoa];simp[hw]
def CI (m:KV) (aG:List aH) (j:Nat):List Int:=(aG.take j).map (xl m)++List.replicate (aG.length-j) 0
theorem S1 (m:KV) (aG:List aH):List.replicate aG.length 0=CI m aG 0:=by unfold CI;simp
theorem jM {m:KV} {aG:List aH} {j:Nat} {x:aH} {v:Int} (hx:aG[((j:Nat):Int).toNat]? =some x) (hv:v=xl m x):(CI m aG j).set j v=CI m aG (j+1):=by
 have hj:j<aG.length:=by rw[dZ] at hx;exact(ef.1 hx).1
 unfold CI
 have h1:aG.length-j=(aG.length-(j+1))+1:=by omega
 rw[nB hx,anZ,h1,am_,anF _ _ (by simp;omega)]
 have h2:j-((aG.take j).map (xl m)).length=0:=by simp;omega
 rw[h2,aon,hv]
 simp
theorem VF {m:KV} {aG:List aH} {j:Nat} (h:aG.length≤j):CI m aG j=aG.map (xl m):=by
 unfold CI;rw[amr h,show aG.length-j=0 from by omega];simp
theorem JT {m:KV} {x:aH} (hw:x.2.2.1=true):(-3:Int)=xl m x:=by unfold xl;simp[hw]
theorem JW {m:KV} {x:aH} (hw:x.2.2.1=false) (h0:x.2.2.2.2=0):(-1:Int)=xl m x:=by unfold xl;simp[hw,h0]
theorem JU {m:KV} {x:aH} (hw:x.2.2.1=false) (h0:¬x.2.2.2.2=0) (hs:(getM m (x.2.2.2.1,x.2.2.2.2)).isSome=true):(getM m (x.2.2.2.1,x.2.2.2.2)).getD 0=xl m x:=by unfold xl;simp[hw,h0,hs]
theorem JV {m:KV} {x:aH} (hw:x.2.2.1=false) (h0:¬x.2.2.2.2=0) (hs:(getM m (x.2.2.2.1,x.2.2.2.2)).isSome=false):(-2:Int)=xl m x:=by unfold xl;simp only[hw,h0,hs];rfl
theorem JX {aG:List aH} {x:aH} (hw:x.2.2.1=true):(-3:Int)=uR aG x:=by unfold uR;simp[hw]
theorem J_ {aG:List aH} {x:aH} (hw:x.2.2.1=false) (h0:x.2.2.2.2=0):(-1:Int)=uR aG x:=by unfold uR;simp[hw,h0]
theorem JY {aG:List aH} {x:aH} (hw:x.2.2.1=false) (h0:¬x.2.2.2.2=0) (hs:decide (0≤gD aG x.2.2.2.1 x.2.2.2.2)=true):max (gD aG x.2.2.2.1 x.2.2.2.2) 0=uR aG x:=by unfold uR;simp only[hw,h0,am3 hs];rfl
theorem JZ {aG:List aH} {x:aH} (hw:x.2.2.1=false) (h0:¬x.2.2.2.2=0) (hs:decide (0≤gD aG x.2.2.2.1 x.2.2.2.2)=false):(-2:Int)=uR aG x:=by unfold uR;simp only[hw,h0,anU hs];rfl
theorem ir {aG:List aH} {j:Nat} {x:aH} {v:Int} (hx:aG[((j:Nat):Int).toNat]? =some x) (hv:v=uR aG x):(aG.take j).map (uR aG)++[v]=(aG.take (j+1)).map (uR aG):=by
 rw[nB hx,anZ,hv];rfl
theorem Gq {aG:List aH} (h:(dz aG).2.2=0):∀j,j≤aG.length→tm aG j (uh aG j)
 |0,_=>GP aG
 |j+1,hj=>by
  have ih:=Gq h j aq
  have hx:aG[((j:Nat):Int).toNat]? =some aG[j]:=by rw[dZ];exact eP aq
  cases hw:(aG[j]).2.2.1 with
  |false=>rw[←AT hx hw];exact Eb ih hx hw
  |true=>
   rw[←yO hx hw]
   refine GM ih hx hw ?_
   rw[ih]
   have hg:=(VX h hx hw).2
   cases hf:(aG.take j).findIdx? (lP (aG[j]).2.2.2.1 (aG[j]).2.2.2.2) with
   |none=>simp[hf]
   |some i=>
    exfalso
    have h1:=Cq hf
    have h2:=(amP.1 hf).1
    rw[ij] at h2
    unfold gD at hg
    omega
theorem acL {aG:List aH} (h:(dz aG).2.2=0) (x:aH):xl (uh aG aG.length) x=uR aG x:=by
 have hF:=Gq h aG.length (amk _) (x.2.2.2.1,x.2.2.2.2)
 rw[anf] at hF
 unfold xl uR gD eF
 rw[hF]
 dsimp only
 cases hf:aG.findIdx? (lP x.2.2.2.1 x.2.2.2.2) with
 |none=>simp
 |some i=>simp
theorem HM {aG:List aH} (h:(dz aG).2.2=0):gG aG=jl aG:=by
 unfold gG jl
 exact anp fun x _=>acL h x
end Go.Ew
namespace Go.Ew
theorem SY (aG:List aH):(gG aG).length=aG.length:=by unfold gG;simp
theorem SX (aG:List aH):(jl aG).length=aG.length:=by unfold jl;simp
theorem M6 {aG:List aH} {x:aH} {t:Int} (ht:t=uR aG x):(x.2.2.1==decide (t= -3))=true∧(t= -1→x.2.2.2.2=0)∧ -3≤t∧t<(aG.length:Int)∧
  (0≤t→∃y,aG[t.toNat]? =some y∧y.2.2.1=true∧y.2.2.2.1=x.2.2.2.1∧y.2.2.2.2=x.2.2.2.2∧x.2.2.2.2≠0)∧
  (t= -2→∀y∈aG,y.2.2.1=true→y.2.2.2.1=x.2.2.2.1→y.2.2.2.2≠x.2.2.2.2):=by
 have hr:=vV (p:=lP x.2.2.2.1 x.2.2.2.2) (r:=aG)
 have eM:0≤gD aG x.2.2.2.1 x.2.2.2.2→gD aG x.2.2.2.1 x.2.2.2.2<(aG.length:Int):=by
  intro h0
  obtain⟨y,hy, -⟩:=Wx h0
  have:=(ef.1 hy).1
  omega
 subst ht
 unfold uR
 by_cases hw:x.2.2.1=true
 ·simp only[hw,anV]
  refine⟨by simp,fun h=>aq,by omega,by omega,fun h=>aq,fun h=>aq⟩
 ·have Sf:x.2.2.1=false:=by simpa using hw
  simp only[Sf,aph,am9]
  by_cases h0:x.2.2.2.2=0
  ·simp only[h0,anV]
   refine⟨by simp,fun _=>(by first|trivial|rfl),by omega,by omega,fun h=>aq,fun h=>aq⟩
  ·simp only[h0,am9]
   by_cases hp:0≤gD aG x.2.2.2.1 x.2.2.2.2
   ·simp only[hp,anV]
    have hl:=eM hp
    obtain⟨y,hy,hyp⟩:=Wx hp
    obtain⟨y1,y2,y3⟩:=Od.1 hyp
    have e:max (gD aG x.2.2.2.1 x.2.2.2.2) 0=gD aG x.2.2.2.1 x.2.2.2.2:=by omega
    rw[e]
    refine⟨?_,fun h=>aq,by omega,hl,fun _=>⟨y,hy,y1,y2,y3,h0⟩,fun h=>aq⟩
    rw[ams aq];rfl
   ·simp only[hp,am9]
    refine⟨J,fun h=>aq,by omega,by omega,fun h=>aq,fun _ y hy hyw hyv hyn=>?_⟩
    apply hp
    unfold gD eF
    cases hf:aG.findIdx? (lP x.2.2.2.1 x.2.2.2.2) with
    |none=>
     rw[aoe] at hf
     have:=hf y hy
     rw[Od.2 ⟨hyw,hyv,hyn⟩] at this
     cases this
    |some i=>simp
end Go.Ew
namespace Go.Ew
def gO (n:Nat) (p:Nat→Bool):Row:=(((List.range n).filter p).map fun k=>((k:Nat):Int)).foldl dY (dX ((n:Nat):Int))
theorem qd (n:Nat):words ((n:Nat):Int)=(n+63)/64:=by unfold words;omega
theorem js (n:Nat) (p:Nat→Bool):(gO n p).length=words ((n:Nat):Int):=by unfold gO;rw[vF,pI]
theorem Vf {n:Nat} {i:Int} (h0:0≤i) (h:i<((n:Nat):Int)):jj (dX ((n:Nat):Int)) i=true:=Lt h0 (by rw[pI,qd];omega)
theorem iJ (n:Nat) (p:Nat→Bool) (i:Int):fe (gO n p) i=(decide (0≤i)&&decide (i<((n:Nat):Int))&&p i.toNat):=by
 unfold gO
 rw[zY,E2,an8,amE]
 simp only[amR,am5,amA,amm,eQ,amj]
 constructor
 ·rintro⟨z,⟨k,⟨hk,hp⟩,rfl⟩,rfl, -⟩
  exact⟨⟨by omega,by omega⟩,by simpa using hp⟩
 ·rintro⟨⟨h0,h1⟩,hp⟩
  exact⟨i,⟨i.toNat,⟨by omega,hp⟩,by omega⟩,J,Vf h0 h1⟩
theorem zp {r:Row} {n:Nat} {p:Nat→Bool} (hl:r.length=words ((n:Nat):Int)) (h:∀k:Nat,fe r ((k:Nat):Int)=(decide (k<n)&&p k)):r=gO n p:=by
 refine YK (by rw[hl,js]) fun k=>?_
 rw[h,iJ]
 simp
theorem ku {n:Nat} {p q:Nat→Bool} (h:∀k,k<n→p k=q k):gO n p=gO n q:=
 zp (js n p) fun k=>by
  rw[iJ]
  by_cases hk:k<n
  ·simp[hk,h k hk]
  ·simp[hk]
theorem Ci (n:Nat):dX ((n:Nat):Int)=gO n fun _=>false:=zp (pI _) fun k=>by rw[E2];simp
theorem ur {n:Nat} {p:Nat→Bool} {j:Int} (h0:0≤j) (h1:j<((n:Nat):Int)):dY (gO n p) j=gO n fun k=>p k||decide (k=j.toNat):=by
 refine zp (by rw[km,js]) fun k=>?_
 rw[CD,iJ]
 have sg:jj (gO n p) j=true:=Lt h0 (by rw[js,qd];omega)
 rw[sg,apj,amE]
 simp only[amt,eQ,amj,dZ]
 constructor
 ·rintro(⟨⟨h2,h3⟩,h4⟩|h2)
  ·exact⟨by omega,.inl h4⟩
  ·exact⟨by omega,.inr aq⟩
 ·rintro⟨h2,h3|h3⟩
  ·exact .inl ⟨⟨by omega,by omega⟩,h3⟩
  ·exact .inr aq
def cB (n:Nat) (p:Nat→Nat→Bool):Rows:=(List.range n).map fun i=>gO n (p i)
theorem lY (n:Nat) (p:Nat→Nat→Bool):(cB n p).length=n:=by unfold cB;simp
theorem mH {n:Nat} {p:Nat→Nat→Bool} {i:Nat} {x:Row} (h:(cB n p)[i]? =some x):i<n∧x=gO n (p i):=by
 unfold cB at h
 rw[amx] at h
 cases hr:(List.range n)[i]? with
 |none=>rw[hr] at h;cases h
 |some k=>
  rw[hr] at h
  obtain⟨h1,h2⟩:=ef.1 hr
  simp at h1 h2
  subst h2
  exact⟨h1,(amo h).symm⟩
theorem rU {n:Nat} {p:Nat→Nat→Bool} {i:Nat} (h:i<n):(cB n p)[i]? =some (gO n (p i)):=by
 unfold cB;rw[amx,ang h];rfl
theorem Cj {rs:Rows} {n:Nat} {p:Nat→Nat→Bool} (hl:rs.length=n) (h:∀i,i<n→rs[i]? =some (gO n (p i))):rs=cB n p:=by
 apply amQ
 intro i
 by_cases hi:i<n
 ·rw[h i hi,rU hi]
 ·rw[amv aq,amv (by rw[lY];omega)]
theorem dy {n:Nat} {p q:Nat→Nat→Bool} (h:∀i j,i<n→j<n→p i j=q i j):cB n p=cB n q:=
 Cj (lY n p) fun i hi=>by rw[rU hi,ku fun j hj=>h i j hi hj]
theorem xX (n:Nat):vh ((n:Nat):Int)=cB n fun _ _=>false:=by
 refine Cj (by rw[pJ];simp) fun i hi=>?_
 unfold vh
 rw[an1,aml (by simpa using hi),Ci]
theorem wS {n:Nat} {p:Nat→Nat→Bool} {i:Nat} {q:Nat→Bool}:(cB n p).set i (gO n q)=cB n fun a b=>if a=i then q b else p a b:=by
 refine Cj (by rw[ami,lY]) fun k hk=>?_
 rw[anC]
 by_cases e:i=k
 ·subst e
  rw[aml rfl,aml (by rw[lY];exact hk)]
  congr 1
  exact ku fun j _=>by simp
 ·rw[amn e,rU hk]
  congr 1
  exact ku fun j _=>by rw[amn fun e2=>e e2.symm]
theorem sI {n:Nat} {p:Nat→Nat→Bool} {i:Int} (h0:0≤i) (h:i<((n:Nat):Int)):rowAt (cB n p) i=gO n (p i.toNat):=rS (rU aq)
theorem BV {n:Nat} {p:Nat→Nat→Bool} {i j:Int} (hi:kg ((n:Nat):Int) [i,j]=true):ra (cB n p) (i,j)=cB n fun a b=>p a b||(decide (a=i.toNat)&&decide (b=j.toNat)):=by
 obtain⟨⟨h1,h2⟩,h3,h4⟩:=ja.1 hi
 unfold ra
 dsimp only
 rw[sI h1 h2,ur h3 h4,wS]
 refine dy fun a b ha hb=>?_
 by_cases e:a=i.toNat
 ·subst e;simp
 ·simp[e]
theorem I7 {n:Nat} {p:Nat→Nat→Bool} {i j:Int}:eC ((n:Nat):Int) (cB n p) i j=(kg ((n:Nat):Int) [i,j]&&p i.toNat j.toNat):=by
 unfold eC
 cases h:kg ((n:Nat):Int) [i,j] with
 |false=>rfl
 |true=>
  obtain⟨⟨h1,h2⟩,h3,h4⟩:=ja.1 h
  rw[sI h1 h2,iJ,amp h3,amp h4];rfl
theorem Pc {n:Nat} {p:Nat→Nat→Bool} {i j:Int} (hi:kg ((n:Nat):Int) [i,j]=true):jW ((n:Nat):Int) (cB n p) i j=cB n fun a b=>p a b||(decide (a=i.toNat)&&decide (b=j.toNat)):=by
 rw[(pG hi).2.1,BV hi]
theorem Zf {n i j:Nat}:kg ((n:Nat):Int) [((i:Nat):Int),((j:Nat):Int)]=(decide (i<n)&&decide (j<n)):=by
 rw[abe,amE]
 simp only[eQ,amj]
 omega
theorem ub {n:Nat} {p:Nat→Nat→Bool} {i j:Nat} (hi:i<n) (hj:j<n):eC ((n:Nat):Int) (cB n p) ((i:Nat):Int) ((j:Nat):Int)=p i j:=by
 rw[I7,Zf];simp[hi,hj]
theorem R4 {n:Nat} {p:Nat→Nat→Bool}:∀x∈cB n p,x.length=words ((n:Nat):Int):=by
 intro x hx
 obtain⟨i,hi⟩:=amB.1 hx
 rw[(mH hi).2,js]
theorem AP {n:Nat} {p:Nat→Nat→Bool} (h:n≤4096):∀x∈cB n p,x.length≤1000000000:=by
 intro x hx
 rw[R4 x hx,qd];omega
end Go.Ew
namespace Go.Ew
abbrev AW:aH:=(0,0,false,0,0)
def j' (aG:List aH) (i:Nat):Int:=(aG.getD i AW).1
def kT (aG:List aH) (i:Nat):Int:=(aG.getD i AW).2.1
theorem IS {aG:List aH} {i:Int} {x:aH} (h:aG[i.toNat]? =some x):aG.getD i.toNat AW=x:=by rw[gZ,h];rfl
theorem gB {aG:List aH} {i:Int} {x:aH} (h:aG[i.toNat]? =some x):j' aG i.toNat=x.1:=by unfold j';rw[IS h]
theorem Hv {aG:List aH} {i:Int} {x:aH} (h:aG[i.toNat]? =some x):kT aG i.toNat=x.2.1:=by unfold kT;rw[IS h]
structure gL (aG:List aH):Prop where
 first:0<aG.length→kT aG 0=0
 next:∀i,i+1<aG.length→(j' aG (i+1)=j' aG i∧kT aG (i+1)=kT aG i+1)∨(j' aG i<j' aG (i+1)∧kT aG (i+1)=0)
section
variable {aG:List aH} (o:gL aG)
include o
theorem gL.le:∀(d i:Nat),i+d<aG.length→j' aG i≤j' aG (i+d)
 |0,i,h=>apv _
 |d+1,i,h=>by
  have h1:=gL.le d i aq
  have h2:=o.next (i+d) aq
  rw[show i+(d+1)=i+d+1 from rfl];omega
theorem gL.mono {i j:Nat} (I4:i≤j) (h:j<aG.length):j' aG i≤j' aG j:=by
 have:=o.le (j-i) i aq
 rwa [show i+(j-i)=j from by omega] at this
theorem gL.place:∀(d i:Nat),i+d<aG.length→j' aG i=j' aG (i+d)→kT aG (i+d)=kT aG i+((d:Nat):Int)
 |0,i,h,_=>by simp
 |d+1,i,h,hs=>by
  have h1:=o.mono (i:=i) (j:=i+d) aq aq
  have h2:=o.mono (i:=i+d) (j:=i+(d+1)) aq h
  have h3:=o.next (i+d) aq
  have e:i+(d+1)=i+d+1:=rfl
  rw[e] at hs h2 ⊢
  have ih:=gL.place d i aq aq
  omega
theorem gL.zH:∀i,i<aG.length→0≤kT aG i
 |0,h=>by rw[o.first h];exact apv _
 |i+1,h=>by
  have:=gL.zH i aq
  have:=o.next i h
  omega
theorem gL.back:∀i,i<aG.length→kT aG i≤((i:Nat):Int)∧∀k,((i:Nat):Int)-kT aG i≤((k:Nat):Int)→k≤i→j' aG k=j' aG i
 |0,h=>by
  rw[o.first h]
  exact⟨by omega,fun k _ hk=>by rw[show k=0 from by omega]⟩
 |i+1,h=>by
  obtain⟨h1,h2⟩:=gL.back i aq
  have h0:=o.zH (i+1) h
  rcases o.next i h with ⟨hs,hp⟩|⟨hs,hp⟩
  ·refine⟨by omega,fun k hk zR=>?_⟩
   by_cases e:k=i+1
   ·rw[e]
   ·rw[hs];exact h2 k aq aq
  ·refine⟨by omega,fun k hk zR=>?_⟩
   rw[show k=i+1 from by omega]
theorem gL.ahead {i j:Nat} (hi:i<aG.length) (hj:j<aG.length) (hs:j' aG i=j' aG j):(kT aG i<kT aG j↔i<j):=by
 rcases Nat.le_total i j with h|h
 ·have:=o.place (j-i) i aq<|by rw[show i+(j-i)=j from by omega];exact hs
  rw[show i+(j-i)=j from by omega] at this
  omega
 ·have:=o.place (i-j) j aq<|by rw[show j+(i-j)=i from by omega];exact hs.symm
  rw[show j+(i-j)=i from by omega] at this
  omega
end
theorem UO {aG:List aH} (o:gL aG) {x:aH} (h0:aG.length=0→x.2.1=0) (h:∀n,aG.length=n+1→(x.1=j' aG n∧x.2.1=kT aG n+1)∨(j' aG n<x.1∧x.2.1=0)):gL (aG++[x]):=by
 have hold:∀i,i<aG.length→(aG++[x]).getD i AW=aG.getD i AW:=by
  intro i hi
  rw[gZ,gZ,qK hi]
 have Fc:(aG++[x]).getD aG.length AW=x:=by
  rw[gZ,oR (amk _)];simp
 refine⟨fun hl=>?_,fun i hi=>?_⟩
 ·by_cases e:aG.length=0
  ·have:=Fc
   rw[e] at this
   unfold kT;rw[this];exact h0 e
  ·have:=o.first aq
   unfold kT at this ⊢
   rw[hold 0 aq];exact this
 ·rw[gf,an5] at hi
  by_cases e:i+1<aG.length
  ·have:=o.next i e
   unfold j' kT at this ⊢
   rw[hold i aq,hold (i+1) e];exact this
  ·have e2:aG.length=i+1:=by omega
   have:=h i e2
   unfold j' kT at this ⊢
   rw[hold i aq,←e2,Fc]
   rcases this with ⟨a,b⟩|⟨a,b⟩
   ·exact .inl ⟨a,b⟩
   ·exact .inr ⟨a,b⟩
def MO (aG:List aH) (j:Nat):Prop:=∀x∈aG,x.1<((j:Nat):Int)
theorem U_ {aG:List aH} {n:Nat} (h:aG.length=n+1):aG.getD n AW∈aG:=by
 rw[gZ,eP aq]
 exact aox _
theorem Nz {j:Nat} {st:Ag} {ops:List kM} (o:gL st.2) (hb:MO st.2 j):∀k,k≤ops.length→
  gL (jG j st ops k).2∧MO (jG j st ops k).2 (j+1)∧(0<k→∃n,(jG j st ops k).2.length=n+1∧j' (jG j st ops k).2 n=((j:Nat):Int)∧kT (jG j st ops k).2 n=((k:Nat):Int)-1)
 |0,_=>by
  rw[ED]
  exact⟨o,fun x hx=>by have:=hb x hx;omega,fun h=>aq⟩
 |k+1,hk=>by
  obtain⟨ho,By,Xp⟩:=Nz (ops:=ops) o hb k aq
  have hx:ops[((k:Nat):Int).toNat]? =some ops[k]:=by rw[dZ];exact eP aq
  rw[Aq hx]
  unfold vO
  dsimp only
  refine⟨UO ho (fun h0=>?_) (fun n hn=>?_),?_,fun _=>⟨(jG j st ops k).2.length,by simp,?_,?_⟩⟩
  ·show ((k:Nat):Int)=0
   by_cases cz:0<k
   ·obtain⟨n,h1, -⟩:=Xp cz
    omega
   ·omega
  ·show (((j:Nat):Int)=_∧((k:Nat):Int)=_)∨(_<((j:Nat):Int)∧((k:Nat):Int)=0)
   by_cases cz:0<k
   ·obtain⟨n',h1,h2,h3⟩:=Xp cz
    obtain rfl:n=n':=by omega
    exact .inl ⟨h2.symm,by rw[h3];omega⟩
   ·right
    have cz:k=0:=by omega
    subst cz
    rw[ED] at hn ⊢
    exact⟨hb _ (U_ hn),J⟩
  ·intro x hxm
   rcases amH.1 hxm with h|h
   ·exact By x h
   ·rw[anw] at h
    subst h
    show ((j:Nat):Int)<_
    omega
  ·unfold j'
   rw[gZ,oR (amk _)];simp
  ·unfold kT
   rw[gZ,oR (amk _)]
   simp
theorem Mz (h:dv):∀j,j≤h.length→gL (jy h j).2∧MO (jy h j).2 j
 |0,_=>⟨⟨fun h=>(by simp[jy] at h),fun i hi=>(by simp[jy] at hi)⟩,fun x hx=>(by simp[jy] at hx)⟩
 |j+1,hj=>by
  obtain⟨ho,hb⟩:=Mz h j aq
  have hx:h[((j:Nat):Int).toNat]? =some h[j]:=by rw[dZ];exact eP aq
  rw[C0 hx]
  have:=Nz (ops:=h[j]) ho hb _<|amk _
  exact⟨this.1,this.2.1⟩
theorem S_ (h:dv):gL (Dz h):=(Mz h h.length (amk _)).1
theorem Hz (h:dv):gL (cN h):=by
 unfold cN;split
 ·exact S_ h
 ·exact⟨fun h=>(by simp at h),fun i hi=>(by simp at hi)⟩
def G9 (aG:List aH) (i j:Nat):Bool:=decide (i<j)&&decide (j<aG.length)&&decide (j' aG i=j' aG j)
def ot (aG:List aH):Rows:=cB aG.length (G9 aG)
def yL (aG:List aH) (t:Int):Rows:=cB aG.length fun a b=>decide (t<((a:Nat):Int))&&G9 aG a b
theorem Px (aG:List aH) (t:Int) (h:(aG.length:Int)-2=t):vh (aG.length:Int)=yL aG t:=by
 rw[xX]
 refine dy fun a b ha hb=>?_
 unfold G9
 rw[amE]
 simp only[eQ,amj,aph,false_iff]
 omega
theorem Uz {aG:List aH} {t:Int} (h:t<0):yL aG t=ot aG:=by
 refine dy fun a b ha hb=>?_
 rw[amp aq];rfl
theorem kG {aG:List aH} {t:Int} (h0:0≤t) (h1:t+1<(aG.length:Int)) (hs:j' aG t.toNat=j' aG (t+1).toNat) {x:Row} (hx:(yL aG t)[(t+1).toNat]? =some x):
  (yL aG t).set t.toNat (dY x (t+1))=yL aG (t-1):=by
 unfold yL at *
 obtain⟨h2,rfl⟩:=mH hx
 rw[ur aq h1,wS]
 refine dy fun a b ha hb=>?_
 have e:(t+1).toNat=t.toNat+1:=by omega
 rw[e] at hs ⊢
 by_cases ea:a=t.toNat
 ·subst ea
  rw[aml rfl]
  unfold G9
  rw[amE]
  simp only[eQ,amt,amj]
  constructor
  ·rintro(⟨_,⟨h3,h4⟩,h5⟩|h3)
   ·exact⟨by omega,⟨by omega,h4⟩,by rw[hs,h5]⟩
   ·subst h3;exact⟨by omega,⟨by omega,by omega⟩,hs⟩
  ·rintro⟨_,⟨h3,h4⟩,h5⟩
   by_cases e2:b=t.toNat+1
   ·exact .inr e2
   ·exact .inl ⟨by omega,⟨by omega,h4⟩,by rw[←hs,h5]⟩
 ·rw[amn ea,show decide (t<((a:Nat):Int))=decide (t-1<((a:Nat):Int)) from by rw[anx];omega]
theorem F7 {aG:List aH} (o:gL aG) {t:Int} (h0:0≤t) (h1:t+1<(aG.length:Int)) (hs:¬j' aG t.toNat=j' aG (t+1).toNat):yL aG t=yL aG (t-1):=by
 refine dy fun a b ha hb=>?_
 have e:(t+1).toNat=t.toNat+1:=by omega
 rw[e] at hs
 by_cases ea:a=t.toNat
 ·subst ea
  rw[ams aq,apc]
  symm
  unfold G9
  rw[ao0]
  right
  rw[ao0]
  by_cases vE:t.toNat<b
  ·right
   rw[amy]
   intro he
   have g1:=o.mono (i:=t.toNat) (j:=t.toNat+1) aq aq
   have g2:=o.mono (i:=t.toNat+1) (j:=b) aq aq
   omega
  ·left
   rw[ams aq];rfl
 ·rw[show decide (t<((a:Nat):Int))=decide (t-1<((a:Nat):Int)) from by rw[anx];omega]
def cx (aG:List aH) (t:Int):List Int:=if 0≤t∧t<(aG.length:Int) then (List.range ((kT aG t.toNat).toNat+1)).map fun q=>(t-kT aG t.toNat)+((q:Nat):Int) else []
def uz (f:Int) (q:Nat):List Int:=(List.range q).map fun k=>f+((k:Nat):Int)
theorem M8 (f:Int) (q:Nat):uz f q++[f+((q:Nat):Int)]=uz f (q+1):=by unfold uz;rw[anQ,anZ];rfl
theorem PA (f:Int) (q:Nat):(uz f q).length=q:=by unfold uz;simp
theorem EU {aG:List aH} {t:Int} (h:¬(0≤t∧t<(aG.length:Int))):([]:List Int)=cx aG t:=by unfold cx;rw[amn h]
theorem RH {aG:List aH} {t:Int} {x:aH} {q:Nat} (h0:0≤t) (h:t<(aG.length:Int)) (hx:aG[t.toNat]? =some x) (hp:0≤x.2.1) (hq:((q:Nat):Int)=x.2.1+1):uz (t-x.2.1) q=cx aG t:=by
 unfold cx uz
 rw[aml ⟨h0,h⟩,Hv hx,show x.2.1.toNat+1=q from by omega]
theorem YP (aG:List aH):(ot aG).length=aG.length:=lY _ _
theorem Uy {aG:List aH} {t:Int} {i:Nat} {x:Row} (h:(yL aG t)[i]? =some x):x.length=words ((aG.length:Nat):Int):=by rw[(mH h).2,js]
theorem MP {n:Nat} (h:n≤4096):words ((n:Nat):Int)≤64:=by rw[qd];omega
end Go.Ew
namespace Go.Ew
def Dj (n:Int) (r:Row):Bool:=decide (((r.length:Nat):Int)=((words n:Nat):Int))&&(List.range (64*r.length)).all fun k=>decide (((k:Nat):Int)<n)||!fe r ((k:Nat):Int)
def bF (n:Int) (rs:Rows):Bool:=Cg n&&decide (((rs.length:Nat):Int)=n)&&rs.all (Dj n)
theorem Rp {n:Int} {r:Row} {j:Int} (hl:((r.length:Nat):Int)=((words n:Nat):Int)) (h:∀k:Int,n≤k→k<j→fe r k=false) (hj:64*((r.length:Nat):Int)≤j):Dj n r=true:=by
 unfold Dj
 rw[amp hl,ane,amq]
 intro k hk
 have:=amm.1 hk
 by_cases hn:((k:Nat):Int)<n
 ·rw[amp hn];rfl
 ·rw[h _ aq aq];simp
theorem Po {n:Int} {rs:Rows} {j:Nat} (h0:0≤n) (h1:n≤4096) (h2:((rs.length:Nat):Int)=n) (hs:(rs.take j).all (Dj n)=true) (hj:rs.length≤j):true=bF n rs:=by
 unfold bF;rw[lV hj] at hs;rw[r9.2 ⟨h0,h1⟩,amp h2,hs];rfl
theorem ll {n:Nat} {p:Nat→Nat→Bool} (h:n≤4096):bF ((n:Nat):Int) (cB n p)=true:=by
 refine(Po (j:=(cB n p).length) aq aq (by rw[lY]) ?_<|amk _).symm
 rw[anf,amq]
 intro x hx
 obtain⟨i,hi⟩:=amB.1 hx
 obtain⟨h1,rfl⟩:=mH hi
 refine Rp (j:=64*(((gO n<|p i).length:Nat):Int)) (by rw[js]) (fun k hk zS=>?_)<|apv _
 rw[iJ,ams (show ¬k<((n:Nat):Int) from by omega)];simp
def cM (n:Int) (rs:Rows):Option Nat:=(List.range n.toNat).find? fun i=>eC n rs ((i:Nat):Int) ((i:Nat):Int)
theorem VG {p:Nat→Bool} {n j:Nat} (hj:j<n) (hp:p j=true) (hl:∀k,k<j→p k=false):(List.range n).find? p=some j:=by
 rw[aoq]
 refine⟨hp,List.range j,(List.range<|n-j-1).map (fun i=>j+1+i),?_,fun a ha=>by rw[hl a (amm.1 ha)];rfl⟩
 have:n=j+(1+(n-j-1)):=by omega
 conv=>lhs;rw[this]
 rw[nD,nD]
 simp[aoU]
theorem S8 {p:Nat→Bool} {n j:Nat} (hj:n≤j) (hl:∀k,k<j→p k=false):(List.range n).find? p=none:=by
 rw[anK]
 intro k hk
 rw[hl k (by have:=amm.1 hk;omega)];simp
theorem Lg {n:Int} {rs:Rows} {j:Nat} (hj:((j:Nat):Int)<n) (hp:eC n rs ((j:Nat):Int) ((j:Nat):Int)=true) (hl:∀k,k<j→eC n rs ((k:Nat):Int) ((k:Nat):Int)=false):cM n rs=some j:=VG aq hp hl
theorem IM {n:Int} {rs:Rows} {j:Nat} (hj:n≤((j:Nat):Int)) (hl:∀k,k<j→eC n rs ((k:Nat):Int) ((k:Nat):Int)=false):cM n rs=none:=S8 aq hl
theorem QC {p:Nat→Bool} {j:Nat} (hl:∀k,k<j→p k=false) (h:p j=false):∀k,k<j+1→p k=false:=by
 intro k hk
 rcases anX.1 hk with h1|rfl
 ·exact hl k h1
 ·exact h
def xN (rs:Rows) (i:Nat):List (Int×Int):=(cR (rowAt rs ((i:Nat):Int))).map fun j=>(((i:Nat):Int),j)
def kU (rs:Rows) (i:Nat):List (Int×Int):=(List.range i).flatMap (xN rs)
def iG (n:Int) (rs:Rows):List (Int×Int):=kU rs n.toNat
theorem B_ (rs:Rows) (i:Nat):kU rs (i+1)=kU rs i++xN rs i:=by unfold kU;rw[anQ,an2];simp
theorem Gk (n:Nat) (q:Nat→Bool):cR (gO n q)=((List.range n).filter q).map fun k=>((k:Nat):Int):=by
 rw[←R6]
 unfold JM
 congr 1
 have hl:=js n q
 rw[qd] at hl
 have e:64*(gO n q).length=n+(64*(gO n q).length-n):=by omega
 rw[e,nD,anL]
 have e2:((List.range (64*(gO n q).length-n)).map fun i=>n+i).filter (fun k=>fe (gO n q) ((k:Nat):Int))=[]:=by
  rw[ano]
  intro k hk
  obtain⟨i, -,rfl⟩:=am5.1 hk
  rw[iJ,ams (show ¬(((n+i:Nat):Nat):Int)<((n:Nat):Int) from by omega)];simp
 rw[e2,anR]
 apply aor
 intro k hk
 have:=amm.1 hk
 rw[iJ]
 simp[this]
theorem AB {n:Nat} {p:Nat→Nat→Bool} {i:Nat} (h:i<n):xN (cB n p) i=((List.range n).filter (p i)).map fun j=>(((i:Nat):Int),((j:Nat):Int)):=by
 unfold xN
 rw[sI aq aq,dZ,Gk,List.map_map];rfl
theorem xY {n:Nat} {p:Nat→Nat→Bool} {z:Int×Int}:z∈iG ((n:Nat):Int) (cB n p)↔∃a b,a<n∧b<n∧p a b=true∧z=(((a:Nat):Int),((b:Nat):Int)):=by
 unfold iG kU
 rw[apt]
 constructor
 ·rintro⟨a,ha,hz⟩
  have ha:=amm.1 ha
  rw[dZ] at ha
  rw[AB ha] at hz
  obtain⟨b,hb,rfl⟩:=am5.1 hz
  rw[amA,amm] at hb
  exact⟨a,b,ha,hb.1,hb.2,J⟩
 ·rintro⟨a,b,ha,hb,hp,rfl⟩
  refine⟨a,amm.2 (by simpa using ha),?_⟩
  rw[AB ha]
  exact am5.2 ⟨b,amA.2 ⟨amm.2 hb,hp⟩,J⟩
def KR (n:Nat) (p:Nat→Nat→Bool):Nat:=((List.range n).map fun a=>((List.range n).filter (p a)).length).sum
theorem RL {n:Nat} {p:Nat→Nat→Bool}:(iG ((n:Nat):Int) (cB n p)).length=KR n p:=by
 unfold iG kU KR
 rw[List.length_flatMap,dZ]
 congr 1
 apply anp
 intro a ha
 rw[AB (amm.1 ha),amS]
theorem M9 {n:Nat} {p:Nat→Nat→Bool}:(iG ((n:Nat):Int) (cB n p)).length≤n*n:=by
 rw[RL];unfold KR
 have:∀l:List Nat,(l.map fun a=>((List.range n).filter (p a)).length).sum≤l.length*n:=by
  intro l
  induction l with
  |nil=>simp
  |cons a l ih=>
   have h1:=anh (p a)<|List.range n
   rw[an'] at h1
   simp only[amJ,aoV,iB,am8,Nat.one_mul];omega
 have h:=this<|List.range n
 rwa [an'] at h
theorem Rm {rs:Rows} (hr:∀x∈rs,x.length≤64) (i:Nat):(xN rs i).length≤4096:=by
 unfold xN
 rw[amS]
 have h1:=mO<|rowAt rs ((i:Nat):Int)
 have:(rowAt rs ((i:Nat):Int)).length≤64:=by
  unfold rowAt
  rw[gZ]
  cases h:rs[((i:Nat):Int).toNat]? with
  |none=>simp
  |some x=>exact hr x (dJ h)
 omega
theorem DZ {rs:Rows} (hr:∀x∈rs,x.length≤64):∀i,(kU rs i).length≤4096*i
 |0=>by simp[kU]
 |i+1=>by
  have:=DZ hr i
  have:=Rm hr i
  rw[B_,gf];omega
theorem Un {rs:Rows} {i:Nat} {x:Row} (hx:rs[((i:Nat):Int).toNat]? =some x):xN rs i=(cR x).map fun j=>(((i:Nat):Int),j):=by unfold xN;rw[rS hx]
theorem RN {rs:Rows} {i q:Nat} {x:Row} {y:Int} (hy:(cR x)[((q:Nat):Int).toNat]? =some y):(kU rs i++((cR x).take q).map fun j=>(((i:Nat):Int),j))++[(((i:Nat):Int),y)]=kU rs i++((cR x).take (q+1)).map fun j=>(((i:Nat):Int),j):=by
 rw[nB hy,anZ,ana];rfl
theorem UL {rs:Rows} {i q:Nat} {x:Row} (hx:rs[((i:Nat):Int).toNat]? =some x) (hq:(cR x).length≤q):(kU rs i++((cR x).take q).map fun j=>(((i:Nat):Int),j))=kU rs (i+1):=by
 rw[lV hq,B_,Un hx]
theorem RM {rs:Rows} {n:Int} {i:Nat} (h:n≤((i:Nat):Int)) (hi:((i:Nat):Int)≤n∨i=0):kU rs i=iG n rs:=by
 unfold iG;rw[show n.toNat=i from by omega]
theorem RI {aG:List aH} (o:gL aG) {t:Int} (h0:0≤t) (h:t<(aG.length:Int)):(((cx aG t).length:Nat):Int)=kT aG t.toNat+1:=by
 have:=o.zH t.toNat aq
 unfold cx;rw[aml ⟨h0,h⟩];simp;omega
theorem YQ {aG:List aH} (o:gL aG) {t:Int} (h0:0≤t) (h:t<(aG.length:Int)) {q:Nat} {x:Int} (hx:(cx aG t)[q]? =some x):0≤x∧x≤t∧x<(aG.length:Int)∧j' aG x.toNat=j' aG t.toNat∧kT aG x.toNat=((q:Nat):Int)∧x=t-kT aG t.toNat+((q:Nat):Int):=by
 obtain⟨b1,b2⟩:=o.back t.toNat aq
 have b0:=o.zH t.toNat aq
 unfold cx at hx
 rw[aml ⟨h0,h⟩,amx] at hx
 cases hr:(List.range ((kT aG t.toNat).toNat+1))[q]? with
 |none=>rw[hr] at hx;cases hx
 |some k=>
  rw[hr] at hx
  obtain⟨h1,h2⟩:=ef.1 hr
  simp only[an'] at h1
  rw[aoJ] at h2
  subst h2
  have hx:(t-kT aG t.toNat)+((q:Nat):Int)=x:=amo hx
  have hs:=b2 x.toNat aq aq
  refine⟨by omega,by omega,by omega,hs,?_,hx.symm⟩
  have:=o.place (t.toNat-x.toNat) x.toNat aq<|by rw[show x.toNat+(t.toNat-x.toNat)=t.toNat from by omega];exact hs
  rw[show x.toNat+(t.toNat-x.toNat)=t.toNat from by omega] at this
  omega
theorem Y6 {n:Nat} {p:Nat→Nat→Bool} (h:n≤4096):∀x∈cB n p,x.length≤64:=by
 intro x hx
 obtain⟨i,hi⟩:=ao5 hx
 obtain⟨-,rfl⟩:=mH hi
 have h1:=js n<|p i
 have:=Ez (n:=((n:Nat):Int)) aq
 omega
end Go.Ew
namespace Go.Ew
theorem Ur {n:Nat} {r:Row} (h:Dj ((n:Nat):Int) r=true):r=gO n fun k=>fe r ((k:Nat):Int):=by
 unfold Dj at h
 rw[eQ,amj,amq] at h
 refine zp aq fun k=>?_
 by_cases hk:k<n
 ·simp[hk]
 ·rw[ams hk,apc]
  by_cases h2:k<64*r.length
  ·have:=h.2 k<|amm.2 h2
   rw[ams (show ¬((k:Nat):Int)<((n:Nat):Int) from by omega),an8] at this
   simpa using this
  ·exact(xe<|by unfold jj;exact ams aq).symm
theorem lW {n:Int} {rs:Rows} (h:bF n rs=true):∃(m:Nat) (p:Nat→Nat→Bool),n=((m:Nat):Int)∧m≤4096∧rs=cB m p:=by
 unfold bF at h
 rw[eQ,eQ,amj,amq] at h
 obtain⟨⟨h1,h2⟩,h3⟩:=h
 have h1:=r9.1 h1
 refine⟨n.toNat,fun i j=>fe (rs.getD i []) ((j:Nat):Int),by omega,by omega,Cj aq fun i hi=>?_⟩
 have hx:rs[i]? =some rs[i]:=eP aq
 have e:rs.getD i []=rs[i]:=by rw[gZ,hx];rfl
 rw[hx,e]
 have:=Ur (n:=n.toNat) (r:=rs[i])<|by rw[show ((n.toNat:Nat):Int)=n from by omega];exact h3 _ (aox _)
 rw[←this]
theorem bO {n:Int} {rs:Rows} (h:bF n rs=true):((rs.length:Nat):Int)=n∧(∀x∈rs,x.length≤1000000000)∧n≤4096∧0≤n∧∀x∈rs,x.length≤64:=by
 obtain⟨m,p,rfl,hm,rfl⟩:=lW h
 exact⟨by rw[lY],AP hm,by omega,by omega,Y6 hm⟩
def vg (a b:Rows) (n:Nat):Rows:=(List.range n).map fun i=>jz (rowAt a ((i:Nat):Int)) (rowAt b ((i:Nat):Int))
theorem K3 (a b:Rows) (n:Nat):(vg a b n).length=n:=by unfold vg;simp
theorem RQ (a b:Rows) (n:Nat):vg a b (n+1)=vg a b n++[jz (rowAt a ((n:Nat):Int)) (rowAt b ((n:Nat):Int))]:=by unfold vg;rw[anQ,anZ];rfl
def sN (an bn:Int):Int:=if an=bn then an else 0
def lX (an:Int) (ar:Rows) (bn:Int) (br:Rows):Rows:=if an=bn then vg ar br an.toNat else []
def wN (an bn:Int):Int:=if an=bn then 0 else 1
theorem K5 {an bn:Int} {ar br:Rows} (h:¬an=bn):sN an bn=0∧lX an ar bn br=[]∧wN an bn=1:=by unfold sN lX wN;simp[h]
theorem zA {an bn:Int} {ar br:Rows} (h:an=bn):sN an bn=an∧lX an ar bn br=vg ar br an.toNat∧wN an bn=0:=by unfold sN lX wN;simp[h]
def uB (a b:Rows) (n j:Nat):Rows:=vg a b j++List.replicate (n-j) []
theorem Nb (a b:Rows) (n:Nat):List.replicate n []=uB a b n 0:=by unfold uB vg;simp
theorem PB {a b:Rows} {n j:Nat} {x y:Row} (hj:j<n) (hx:a[((j:Nat):Int).toNat]? =some x) (hy:b[((j:Nat):Int).toNat]? =some y):(uB a b n j).set j (jz x y)=uB a b n (j+1):=by
 unfold uB
 rw[RQ,rS hx,rS hy]
 have hl:=K3 a b j
 rw[anF _ _ aq,hl,anj,show n-j=n-(j+1)+1 from by omega,am_,aon]
 simp
theorem PC {a b:Rows} {n j:Nat} (hj:n≤j) (h:j≤n):uB a b n j=vg a b n:=by
 obtain rfl:n=j:=by omega
 unfold uB;simp
theorem Hy {n:Nat} (p q:Nat→Bool):jz (gO n p) (gO n q)=gO n fun k=>p k||q k:=by
 refine zp (by rw[AI,js,js];omega) fun k=>?_
 rw[Zi,iJ,iJ]
 by_cases hk:k<n<;>simp[hk]
theorem RR {n:Nat} (p q:Nat→Nat→Bool):vg (cB n p) (cB n q) n=cB n fun a b=>p a b||q a b:=by
 refine Cj (K3 _ _ _) fun i hi=>?_
 unfold vg
 rw[amx,ang hi]
 simp only[anD]
 rw[sI aq aq,sI aq aq,dZ,Hy]
theorem RJ {n:Nat} {p:Nat→Nat→Bool} {z:Int×Int} {q:Nat} (h:(iG ((n:Nat):Int) (cB n p))[q]? =some z):0≤z.1∧z.1<((n:Nat):Int)∧0≤z.2∧z.2<((n:Nat):Int)∧p z.1.toNat z.2.toNat=true:=by
 obtain⟨a,b,ha,hb,hp,rfl⟩:=xY.1 (dJ h)
 exact⟨by omega,by omega,by omega,by omega,by simpa using hp⟩
end Go.Ew
namespace Go.Ew
theorem kF {n:Int} {rs:Rows} (h:bF n rs=true):0≤n:=(bO h).2.2.2.1
section
variable {n:Int} {rs:Rows} {i j:Int} (h:bF n rs=true) (hi:kg n [i,j]=true)
include h hi
theorem Rh:bF (gX n i j) (jW n rs i j)=true:=by
 obtain⟨m,p,rfl,hm,rfl⟩:=lW h
 rw[(pG (rs:=cB m p) hi).1,Pc hi]
 exact ll hm
end
theorem MW {n:Int} {rs:Rows} (h:bF n rs=true):(iG n rs).length≤16777216:=by
 obtain⟨m,p,rfl,hm,rfl⟩:=lW h
 have h1:=M9 (n:=m) (p:=p)
 have h2:m*m≤4096*4096:=Nat.mul_le_mul hm hm
 omega
end Go.Ew
namespace Go.Ew
theorem R' {l:List Item} {i j:Nat} {B e:Nat} {iv fv:Value} {a b xs:Row} {q:Nat} (hj:l[j]? =some (own B e fv b)) (hi:i<l.length) (gE:i≠j∨(iv=fv∧b=a)) (D2:xs.length=a.length) (Lv:xs=pN a.length a b a q) (hq:q≤b.length) (hlen:b.length≤a.length):
  ∃ys:Row,(l.set i (own B e iv xs))[j]? =some (own B e fv ys)∧ys.length=b.length∧∀x,ys[((q:Nat):Int).toNat]? =some x→b.getD q 0#64=x:=by
 by_cases h:i=j
 ·subst h
  rcases gE with h|⟨rfl,rfl⟩
  ·exact absurd J h
  ·refine⟨xs,by rw[amC hi],D2,fun x hx=>?_⟩
   rw[Lv] at hx
   exact(AH hx).symm
 ·exact⟨b,by rw[amU h,hj],J,fun x hx=>wi hx⟩
theorem R_ {a b xs:Row} {q:Nat} {x y:BitVec 64} (hs:xs=pN a.length a b a q) (hx:b.getD q 0#64=x) (hy:xs[((q:Nat):Int).toNat]? =some y):xs.set ((q:Nat):Int).toNat (y ||| x)=pN a.length a b a (q+1):=by
 subst hs
 have e1:=AH hy
 rw[dZ]
 exact EW<|by rw[e1];unfold sO;rw[hx]
theorem Vd {a b xs:Row} {q:Nat} (hs:xs=pN a.length a b a q) (hlen:b.length≤a.length) (hq:b.length≤q):xs=jz a b:=by
 rw[hs]
 refine wL aq<|fun i h1 h2=>?_
 unfold sO
 rw[rX (show b.length≤i by omega)];simp
theorem KH {l:List Item} {i:Nat} {it:Item} (hi:i<l.length):(l.set i it)[i]? =some it:=amC hi
theorem set_set {l:List Item} {i:Nat} {x y:Item}:(l.set i x).set i y=l.set i y:=List.set_set ..
theorem YE {l:List Item} {i:Nat} {x:Item} (h:l[i]? =some x):l.set i x=l:=by
 apply amQ
 intro m
 rw[anC]
 split
 ·rename_i e
  subst e
  split
  ·exact h.symm
  ·rename_i hl
   rw[amv aq]
 ·rfl
def As (z:Int×Int):Int×Int:=(z.2,z.1)
def gF (n:Int) (rs:Rows):Rows:=foldM n ((iG n rs).map As)
theorem Pn {n:Int} {rs:Rows} (h:bF n rs=true) {q:Nat} {z:Int×Int} (hz:(iG n rs)[q]? =some z):0≤z.1∧z.1<n∧0≤z.2∧z.2<n:=by
 obtain⟨m,p,rfl,hm,rfl⟩:=lW h
 obtain⟨h1,h2,h3,h4, -⟩:=RJ hz
 exact⟨h1,h2,h3,h4⟩
theorem wC {n:Int} {ps:List (Int×Int)} {i:Nat} {x:Row} (h:(foldM n ps)[i]? =some x) {k:Int} (h0:0≤k) (h1:k<n):0≤k/64∧k/64<((x.length:Nat):Int)∧(k/64).toNat<x.length∧jj x k=true:=by
 have hr:=S2 h
 have hw:x.length=(n.toNat+63)/64:=by rw[hr,←qd,show ((n.toNat:Nat):Int)=n from by omega]
 refine⟨by omega,by omega,by omega,Lt h0 aq⟩
theorem Q1 {n:Int} {l:List (Int×Int)} {j:Nat} {z:Int×Int} {xs:Rows} {x:Row} {u:BitVec 64} (hs:xs=foldM n ((l.map As).take j)) (hz:l[((j:Nat):Int).toNat]? =some z) (hx:xs[z.2.toNat]? =some x) (hu:x[(z.1/64).toNat]? =some u) (h0:0≤z.1) (h1:z.1<n):
  xs.set z.2.toNat (x.set (z.1/64).toNat (u ||| j2 (z.1%64)))=foldM n ((l.map As).take (j+1)):=by
 have hr:=(wC (hs▸hx) h0 h1).2.2.2
 rw[Qp (p:=(z.2,z.1)) (by rw[amx,hz];rfl),←hs,NI hr hu]
 exact Hq hx
theorem Uc {n:Int} {rs xs:Rows} {j:Nat} (hs:xs=foldM n (((iG n rs).map As).take j)) (hj:(iG n rs).length≤j):xs=gF n rs:=by
 rw[hs,lV (by rw[amS];exact hj)];rfl
theorem Q0 (n:Int) (l:List (Int×Int)):List.replicate n.toNat (dX n)=foldM n ((l.map As).take 0):=rfl
theorem BO (n:Int) (rs:Rows):(gF n rs).length=n.toNat:=CJ _ _
end Go.Ew
namespace Go.Ew
theorem GK {m:Nat}:∀(l:List (Int×Int)) (p:Nat→Nat→Bool),(∀z∈l,kg ((m:Nat):Int) [z.1,z.2]=true)→l.foldl ra (cB m p)=cB m fun a b=>p a b||l.any fun z=>decide (a=z.1.toNat)&&decide (b=z.2.toNat)
 |[],p,_=>by
  show cB m p=_
  exact dy fun a b _ _=>by simp
 |z::l,p,h=>by
  rw[aoF,show z=(z.1,z.2) from rfl,BV (h z am4),GK l _ fun y hy=>h y (amM _ hy)]
  exact dy fun a b _ _=>by simp[Bool.or_assoc]
theorem Qq {m:Nat} {l:List (Int×Int)} (h:∀z∈l,kg ((m:Nat):Int) [z.1,z.2]=true):foldM ((m:Nat):Int) l=cB m fun a b=>l.any fun z=>decide (a=z.1.toNat)&&decide (b=z.2.toNat):=by
 unfold foldM
 rw[xX,GK l _ h]
 exact dy fun a b _ _=>by simp
theorem UK {m:Nat} {p:Nat→Nat→Bool}:∀z∈iG ((m:Nat):Int) (cB m p),kg ((m:Nat):Int) [z.1,z.2]=true:=by
 intro z hz
 obtain⟨a,b,ha,hb, -,rfl⟩:=xY.1 hz
 exact ja.2 ⟨⟨by omega,by omega⟩,by omega,by omega⟩
theorem TT {m:Nat} {p:Nat→Nat→Bool} {a b:Nat} (ha:a<m) (hb:b<m):((iG ((m:Nat):Int) (cB m p)).any fun z=>decide (a=z.1.toNat)&&decide (b=z.2.toNat))=p a b:=by
 rw[amE,amR]
 constructor
 ·rintro⟨z,hz,h⟩
  obtain⟨c,d,hc,hd,hp,rfl⟩:=xY.1 hz
  simp only[dZ,eQ,amj] at h
  rw[h.1,h.2];exact hp
 ·intro hp
  exact⟨_,xY.2 ⟨a,b,ha,hb,hp,J⟩,by simp⟩
theorem Is {m:Nat} {p:Nat→Nat→Bool}:gF ((m:Nat):Int) (cB m p)=cB m fun a b=>p b a:=by
 unfold gF
 rw[Qq]
 ·refine dy fun a b ha hb=>?_
  rw[List.any_map,←TT (p:=p) hb ha]
  congr 1
  funext z
  simp only[Function.comp,As]
  exact Bool.and_comm _ _
 ·intro z hz
  obtain⟨y,hy,rfl⟩:=am5.1 hz
  have:=ja.1<|UK y hy
  exact ja.2 ⟨this.2,this.1⟩
section
variable {n:Int} {rs:Rows} (h:bF n rs=true)
include h
theorem FW:bF n (gF n rs)=true:=by
 obtain⟨m,p,rfl,hm,rfl⟩:=lW h
 rw[Is];exact ll hm
end
end Go.Ew
namespace Go.Ew
theorem nC {n:Int} {mr:Rows} (h:bF n mr=true) {i:Nat} {x:Row} (hx:mr[i]? =some x):x.length=words n:=by
 obtain⟨m,p,rfl,hm,rfl⟩:=lW h
 rw[(mH hx).2,js]
theorem NT {n:Int} {mr xs:Rows} (h:bF n mr=true) {j:Nat} {x:Row} (hs:xs=mr.take j++List.replicate (n.toNat-j) (dX n)) (hj:j<mr.length) (hx:xs[((j:Nat):Int).toNat]? =some x):x=dX n:=by
 rw[dZ,hs,oR (by rw[ij];omega),ij,anl aq,anj] at hx
 have:=dJ hx
 exact(List.mem_replicate.1 this).2
theorem YS {n:Int} {mr xs:Rows} (h:bF n mr=true) {j:Nat} {x y:Row} (hs:xs=mr.take j++List.replicate (n.toNat-j) (dX n)) (hy:mr[((j:Nat):Int).toNat]? =some y) (hx:xs[((j:Nat):Int).toNat]? =some x):y.length=x.length:=by
 have hj:=(ef.1 hy).1
 rw[NT h hs (by simpa using hj) hx,pI,nC h hy]
theorem YR {n:Int} {mr xs:Rows} (h:bF n mr=true) {j:Nat} {x y:Row} (hs:xs=mr.take j++List.replicate (n.toNat-j) (dX n)) (hy:mr[((j:Nat):Int).toNat]? =some y) (hx:xs[((j:Nat):Int).toNat]? =some x):0<x.length:=by
 have hj:=(ef.1 hy).1
 have hl:=(bO h).1
 rw[NT h hs (by simpa using hj) hx,pI]
 have h0:1≤n:=by rw[dZ] at hj;omega
 unfold words;omega
theorem UM {n:Int} {mr xs:Rows} (h:bF n mr=true) {j:Nat} {y:Row} (hs:xs=mr.take j++List.replicate (n.toNat-j) (dX n)) (hy:mr[((j:Nat):Int).toNat]? =some y):xs.set ((j:Nat):Int).toNat y=mr.take (j+1)++List.replicate (n.toNat-(j+1)) (dX n):=by
 have hj:=(ef.1 hy).1
 have hl:=(bO h).1
 rw[nB hy]
 rw[dZ] at hj ⊢
 have eM:(mr.take j).length=j:=by rw[ij];omega
 rw[hs,anF _ _ aq,eM,anj,show n.toNat-j=n.toNat-(j+1)+1 from by omega,am_,aon]
 simp
theorem YT {n:Int} {mr xs:Rows} {j:Nat} (h:bF n mr=true) (hs:xs=mr.take j++List.replicate (n.toNat-j) (dX n)) (hj:mr.length≤j):xs=mr:=by
 have hl:=(bO h).1
 rw[hs,lV hj,show n.toNat-j=0 from by omega];simp
def fX (rs:Rows) (i j:Nat):Bool:=fe (rs.getD i []) ((j:Nat):Int)
theorem BZ {n:Int} {rs:Rows} (h:bF n rs=true):rs=cB n.toNat (fX rs):=by
 obtain⟨m,p,rfl,hm,rfl⟩:=lW h
 rw[dZ]
 refine dy fun i j hi hj=>?_
 unfold fX
 rw[gZ,rU hi]
 show p i j=fe (gO m (p i)) _
 rw[iJ];simp[hj]
def wM (p:Nat→Nat→Bool):Nat→Nat→Nat→Bool
 |0,a,b=>p a b
 |k+1,a,b=>wM p k a b||(wM p k a k&&wM p k k b)
def wR (p:Nat→Nat→Bool) (k i a b:Nat):Bool:=if a<i then wM p (k+1) a b else wM p k a b
theorem Yx (p:Nat→Nat→Bool) (k b:Nat):wM p (k+1) k b=wM p k k b:=by
 show (wM p k k b||(wM p k k k&&wM p k k b))=wM p k k b
 cases wM p k k b<;>simp
theorem Yv (p:Nat→Nat→Bool) (n k:Nat):cB n (wM p k)=cB n (wR p k 0):=dy fun a b _ _=>by unfold wR;simp
theorem Z9 (p:Nat→Nat→Bool) {n k i:Nat} (h:n≤i):cB n (wR p k i)=cB n (wM p (k+1)):=dy fun a b ha _=>by unfold wR;rw[aml aq]
theorem QW {p:Nat→Nat→Bool} {n k i:Nat} {x:Row} (hx:(cB n (wR p k i))[i]? =some x):x=gO n (wM p k i):=by
 rw[(mH hx).2]
 exact ku fun b _=>by unfold wR;rw[amn aq]
theorem Yw {p:Nat→Nat→Bool} {n k i:Nat} {y:Row} (hy:(cB n (wR p k i))[k]? =some y):y=gO n (wM p k k):=by
 rw[(mH hy).2]
 exact ku fun b _=>by
  unfold wR;split
  ·exact Yx p k b
  ·rfl
theorem Z8 {p:Nat→Nat→Bool} {n k i:Nat} {xs:Rows} {x y:Row} (hs:xs=cB n (wR p k i)) (hx:xs[i]? =some x) (hy:xs[k]? =some y) (hk:k<n) (h:fe x ((k:Nat):Int)=true):xs.set i (jz x y)=cB n (wR p k (i+1)):=by
 subst hs
 rw[QW hx] at h ⊢
 rw[Yw hy,Hy,wS]
 rw[iJ] at h
 have sY:wM p k i k=true:=by simpa [hk] using h
 refine dy fun a b _ _=>?_
 by_cases e:a=i
 ·subst e
  rw[aml rfl]
  unfold wR
  rw[aml aq]
  show _=(wM p k a b||(wM p k a k&&wM p k k b))
  rw[sY,ane]
 ·rw[amn e]
  unfold wR
  by_cases h2:a<i
  ·rw[aml h2,aml aq]
  ·rw[amn h2,amn aq]
theorem adQ {p:Nat→Nat→Bool} {n k i:Nat} {xs:Rows} {x:Row} (hs:xs=cB n (wR p k i)) (hx:xs[i]? =some x) (hk:k<n) (h:fe x ((k:Nat):Int)=false):xs=cB n (wR p k (i+1)):=by
 subst hs
 rw[QW hx,iJ] at h
 have sY:wM p k i k=false:=by simpa [hk] using h
 refine dy fun a b _ _=>?_
 unfold wR
 by_cases h2:a<i
 ·rw[aml h2,aml aq]
 ·by_cases e:a=i
  ·subst e
   rw[amn h2,aml aq]
   show _=(wM p k a b||(wM p k a k&&wM p k k b))
   rw[sY];simp
  ·rw[amn h2,amn aq]
def fb (n:Int) (rs:Rows):Rows:=cB n.toNat (wM (fX rs) n.toNat)
theorem Kk {p:Nat→Nat→Bool} {n k i q:Nat} {x:Row} (hx:(cB n (wR p k i))[q]? =some x):x.length=words ((n:Nat):Int):=by rw[(mH hx).2,js]
end Go.Ew
namespace Go.Ew
inductive TC (n:Nat) (p:Nat→Nat→Bool):Nat→Nat→Prop
 |one {a b:Nat}:a<n→b<n→p a b=true→TC n p a b
 |cons {a b c:Nat}:a<n→b<n→p a b=true→TC n p b c→TC n p a c
section
variable {n:Nat} {p q:Nat→Nat→Bool} {a b c:Nat}
theorem TC.lt (h:TC n p a b):a<n∧b<n:=by
 induction h with
 |one h1 h2 _=>exact⟨h1,h2⟩
 |cons h1 _ _ _ ih=>exact⟨h1,ih.2⟩
theorem TC.trans (h:TC n p a b) (k:TC n p b c):TC n p a c:=by
 induction h with
 |one h1 h2 h3=>exact .cons h1 h2 h3 k
 |cons h1 h2 h3 _ ih=>exact .cons h1 h2 h3 (ih k)
theorem TC.mono (h:TC n p a b) (Gw:∀x y,x<n→y<n→p x y=true→q x y=true):TC n q a b:=by
 induction h with
 |one h1 h2 h3=>exact .one h1 h2 (Gw _ _ h1 h2 h3)
 |cons h1 h2 h3 _ ih=>exact .cons h1 h2 (Gw _ _ h1 h2 h3) ih
theorem TC.least {ai:Nat→Nat→Prop} (h:TC n p a b) (h1:∀x y,x<n→y<n→p x y=true→ai x y) (h2:∀x y z,x<n→y<n→z<n→ai x y→ai y z→ai x z):ai a b:=by
 induction h with
 |one k1 k2 k3=>exact h1 _ _ k1 k2 k3
 |cons k1 k2 k3 k4 ih=>exact h2 _ _ _ k1 k2 k4.lt.2 (h1 _ _ k1 k2 k3) ih
theorem TC.last (h:TC n p a c):p a c=true∨∃b,TC n p a b∧p b c=true:=by
 induction h with
 |one _ _ h3=>exact .inl h3
 |cons h1 h2 h3 _ ih=>
  rcases ih with h|⟨b,h4,h5⟩
  ·exact .inr ⟨_,.one h1 h2 h3,h⟩
  ·exact .inr ⟨b,.cons h1 h2 h3 h4,h5⟩
end
theorem An {n:Nat} {p:Nat→Nat→Bool}:∀k,k≤n→∀a b,a<n→b<n→wM p k a b=true→TC n p a b
 |0,_,a,b,ha,hb,h=>.one ha hb h
 |k+1,hk,a,b,ha,hb,h=>by
  have h:(wM p k a b||(wM p k a k&&wM p k k b))=true:=h
  rw[amt,eQ] at h
  rcases h with h|⟨h1,h2⟩
  ·exact An k aq a b ha hb h
  ·exact(An k aq a k ha aq h1).trans (An k aq k b aq hb h2)
theorem Nx {p:Nat→Nat→Bool} {k a b:Nat}:wM p (k+1) a b=true↔wM p k a b=true∨(wM p k a k=true∧wM p k k b=true):=by
 show (wM p k a b||(wM p k a k&&wM p k k b))=true↔_
 rw[amt,eQ]
theorem O3 {p:Nat→Nat→Bool} {a b:Nat}:∀k,p a b=true→wM p k a b=true
 |0,h=>h
 |k+1,h=>Nx.2 (.inl (O3 k h))
theorem BK {p:Nat→Nat→Bool}:∀k a b c,c<k→wM p k a c=true→wM p k c b=true→wM p k a b=true
 |0,_,_,_,h,_,_=>absurd h (aol _)
 |k+1,a,b,c,h,h1,h2=>by
  have ih:=fun a b c=>BK (p:=p) k a b c
  rw[Nx] at h1 h2 ⊢
  by_cases hc:c<k
  ·rcases h1 with h1|⟨h1,h3⟩
   ·rcases h2 with h2|⟨h2,h4⟩
    ·exact .inl (ih _ _ _ hc h1 h2)
    ·exact .inr ⟨ih _ _ _ hc h1 h2,h4⟩
   ·rcases h2 with h2|⟨h2,h4⟩
    ·exact .inr ⟨h1,ih _ _ _ hc h3 h2⟩
    ·exact .inr ⟨h1,h4⟩
  ·have:c=k:=by omega
   subst this
   have e1:wM p c a c=true:=by
    rcases h1 with h1|⟨h1,_⟩<;>exact h1
   have e2:wM p c c b=true:=by
    rcases h2 with h2|⟨_,h2⟩<;>exact h2
   exact .inr ⟨e1,e2⟩
def cl (n:Nat) (p:Nat→Nat→Bool) (a b:Nat):Bool:=wM p n a b
theorem qG {n:Nat} {p:Nat→Nat→Bool} {a b:Nat} (ha:a<n) (hb:b<n):cl n p a b=true↔TC n p a b:=
 ⟨An n (amk _) a b ha hb,fun h=>h.least (ai:=fun x y=>cl n p x y=true) (fun x y _ _ hp=>O3 n hp) fun x y z _ hy _ h1 h2=>BK n x z y hy h1 h2⟩
theorem Fz {n:Nat} {p q:Nat→Nat→Bool} (h:∀a b,a<n→b<n→p a b=q a b) {a b:Nat} (ha:a<n) (hb:b<n):cl n p a b=cl n q a b:=by
 rw[amE,qG ha hb,qG ha hb]
 exact⟨fun k=>k.mono fun x y hx hy hp=>by rw[←h x y hx hy];exact hp,fun k=>k.mono fun x y hx hy hp=>by rw[h x y hx hy];exact hp⟩
theorem xw {n:Nat} {p:Nat→Nat→Bool} {a b:Nat} (h:p a b=true):cl n p a b=true:=O3 n h
theorem A9 {n:Nat} {p:Nat→Nat→Bool} {a b c:Nat} (hb:b<n) (h1:cl n p a b=true) (h2:cl n p b c=true):cl n p a c=true:=BK n a c b hb h1 h2
theorem ju {n:Nat} {p:Nat→Nat→Bool} {a b:Nat} (ha:a<n) (hb:b<n):fX (cB n p) a b=p a b:=by
 unfold fX
 rw[gZ,rU ha]
 show fe (gO n (p a)) _=_
 rw[iJ];simp[hb]
theorem Ee {n:Nat} {p:Nat→Nat→Bool}:fb ((n:Nat):Int) (cB n p)=cB n (cl n p):=by
 unfold fb
 rw[dZ]
 exact dy fun a b ha hb=>Fz (fun x y hx hy=>ju hx hy) ha hb
theorem oG {n:Int} {rs:Rows} (h:bF n rs=true):bF n (fb n rs)=true:=by
 obtain⟨m,p,rfl,hm,rfl⟩:=lW h
 rw[Ee];exact ll hm
def Bf (p:Nat→Nat→Bool) (i j a b:Nat):Bool:=p a b||((decide (a=i)||p a i)&&(decide (b=j)||p j b))
theorem Be {p:Nat→Nat→Bool} {i j a b:Nat}:Bf p i j a b=true↔p a b=true∨((a=i∨p a i=true)∧(b=j∨p j b=true)):=by
 unfold Bf;simp
theorem TV {n:Nat} {p:Nat→Nat→Bool} (h:∀i j k,i<n→j<n→k<n→p i j=true→p j k=true→p i k=true) {i j a b:Nat} (hi:i<n) (hj:j<n) (ha:a<n) (hb:b<n):
  cl n (fun x y=>p x y||(decide (x=i)&&decide (y=j))) a b=Bf p i j a b:=by
 rw[amE,qG ha hb]
 constructor
 ·intro k
  refine k.least (ai:=fun x y=>Bf p i j x y=true) (fun x y hx hy hp=>?_) fun x y z hx hy hz h1 h2=>?_
  ·simp only[amt,eQ,amj] at hp
   exact Be.2<|hp.imp id fun ⟨h1,h2⟩=>⟨.inl h1,.inl h2⟩
  ·rw[Be] at h1 h2 ⊢
   rcases h1 with h1|⟨h1,h3⟩
   ·rcases h2 with h2|⟨h2,h4⟩
    ·exact .inl (h _ _ _ hx hy hz h1 h2)
    ·refine .inr ⟨.inr ?_,h4⟩
     rcases h2 with rfl|h2
     ·exact h1
     ·exact h _ _ _ hx hy hi h1 h2
   ·rcases h2 with h2|⟨h2,h4⟩
    ·refine .inr ⟨h1,.inr ?_⟩
     rcases h3 with rfl|h3
     ·exact h2
     ·exact h _ _ _ hj hy hz h3 h2
    ·exact .inr ⟨h1,h4⟩
 ·intro k
  have up:∀x y,x<n→y<n→p x y=true→TC n (fun x y=>p x y||(decide (x=i)&&decide (y=j))) x y:=fun x y hx hy hp=>.one hx hy (by simp[hp])
  rcases Be.1 k with k|⟨h1,h2⟩
  ·exact up _ _ ha hb k
  ·have m:TC n (fun x y=>p x y||(decide (x=i)&&decide (y=j))) i j:=.one hi hj (by simp)
   have m2:TC n (fun x y=>p x y||(decide (x=i)&&decide (y=j))) a j:=by
    rcases h1 with rfl|h1
    ·exact m
    ·exact(up _ _ ha hi h1).trans m
   rcases h2 with rfl|h2
   ·exact m2
   ·exact m2.trans (up _ _ hj hb h2)
def gQ (n:Int) (rs:Rows) (i j:Int):Rows:=if kg n [i,j] then (if eC n rs i j then rs else cB n.toNat (Bf (fX rs) i.toNat j.toNat)) else []
theorem QH {n:Nat} {p:Nat→Nat→Bool} {i j:Int} (hi:kg ((n:Nat):Int) [i,j]=true) (h:∀i j k,i<n→j<n→k<n→p i j=true→p j k=true→p i k=true):
  gQ ((n:Nat):Int) (cB n p) i j=cB n (cl n fun a b=>p a b||(decide (a=i.toNat)&&decide (b=j.toNat))):=by
 have hr:=ja.1 hi
 unfold gQ
 rw[aml hi,I7,hi,ane,dZ]
 split
 ·rename_i hp
  refine dy fun a b ha hb=>?_
  rw[TV h aq aq ha hb,amE,Be]
  refine⟨.inl,fun k=>?_⟩
  rcases k with k|⟨h1,h2⟩
  ·exact k
  ·have m2:p a j.toNat=true:=by
    rcases h1 with rfl|h1
    ·exact hp
    ·exact h _ _ _ ha aq aq h1 hp
   rcases h2 with rfl|h2
   ·exact m2
   ·exact h _ _ _ ha aq hb m2 h2
 ·refine dy fun a b ha hb=>?_
  rw[TV h aq aq ha hb]
  unfold Bf
  rw[ju ha hb,ju ha aq,ju aq hb]
theorem Np {n:Int} {rs:Rows} {i j:Int} (h:bF n rs=true):bF (gX n i j) (gQ n rs i j)=true:=by
 unfold gX gQ
 split
 ·split
  ·exact h
  ·obtain⟨m,p,rfl,hm,rfl⟩:=lW h
   rw[dZ];exact ll hm
 ·rfl
def rh (l:List Nat):List Int:=l.map fun k=>((k:Nat):Int)
def vy (n:Nat) (f:Nat→Bool):List Int:=rh ((List.range n).filter f)
theorem wg {n:Nat} {f:Nat→Bool} {z:Int}:z∈vy n f↔∃k,k<n∧f k=true∧z=((k:Nat):Int):=by
 unfold vy rh
 simp only[am5,amA,amm]
 constructor
 ·rintro⟨k,⟨h1,h2⟩,rfl⟩;exact⟨k,h1,h2,rfl⟩
 ·rintro⟨k,h1,h2,rfl⟩;exact⟨k,⟨h1,h2⟩,rfl⟩
theorem N8 (n:Nat) (f:Nat→Bool):(vy n f).length≤n:=by
 unfold vy rh
 rw[amS]
 have:=anh f<|List.range n
 simpa using this
theorem xZ (n:Nat) (f:Nat→Bool):cR (gO n f)=vy n f:=Gk n f
end Go.Ew
