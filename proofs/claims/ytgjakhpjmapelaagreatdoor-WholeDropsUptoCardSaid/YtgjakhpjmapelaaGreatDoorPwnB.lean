/- Engine, part P: function values that are handed in; blocks that are only read; small words on lists. -/
import Derived.Test.YtgjakhpjmapelaaGreatDoorPwnA
import Derived.WalkKit
import Derived.ProofKit
import Derived.OpenShut
import Derived.ReadAgain
import Derived.ChangeStays
import Derived.Below
import Derived.ChangeSame
import Derived.ArgAppend
import Derived.Laws.CopyRow
import Derived.LaidMore
import Derived.Stop.Joined
import Derived.Laws.StructEq
import Derived.ChangeKeysEq
import Derived.MapKept
import Derived.Laws.BytesArg
set_option linter.unusedVariables false
set_option linter.unusedSimpArgs false
set_option linter.unusedSectionVars false
namespace Go.Ew
open Go.RowKit
def ro (b:Nat) (cs:Array Value) (t:TypeId):Item:=⟨none,fun M w=>w.heap[b]? =some (.cells cs t (0,0))∧¬M b,fun h u _=>by
 have hb:b<_:=(anQ.1 h.1).1
 have:=u.2 b hb h.2
 exact⟨this.1.trans h.1,this.2⟩⟩
section
variable {P:Program} {n:Nat} {ops:Array Oper} {f:aQ} {w w0 w':World} {K:aQ→World→Prop} {M0:Nat→Prop} {l:List Item}
variable {d:Nat} {T ty e:TypeId} {ps:String} {af:Array Edge} {x y:Operand} {v:Value}
theorem vS {bb off:Nat} {cs:Array Value} {t:TypeId} {k bytes:Nat} {agg:Bool} {z:Value} (H:HI M0 w0 w l) (i:Nat) (hi:l[i]? =some (ro bb cs t)) (F:ei P T k agg bytes z) (ox:bG n x=true) (hx:ev f x=.pointer (some ⟨bb,off,none⟩))
  (hk:agg=false→k=1) (hl:((cs.toList.drop off).take k).length=k) (h:K (cb f d (sj agg ((cs.toList.drop off).take k))) w):SO P n ops ⟨some d,.load T x,ty,ps,af,none⟩ f w K:=by
 have hb:w.heap[bb]? =some (.cells cs t (0,0)):=(H.at_ i hi).1
 refine SO.value (v:=sj agg ((cs.toList.drop off).take k)) ?_ h
 have hc:∀j u,((cs.toList.drop off).take k)[j]? =some u→w.cell? ((⟨bb,off,none⟩:Addr).add j)=some u:=by
  intro j u hu
  rw[show (⟨bb,off,none⟩:Addr).add j=⟨bb,off+j,none⟩ from by unfold Addr.add;split<;>simp_all,cell_of_row w bb (off+j) cs t (0,0) hb]
  have hj:j<k:=by
   have:=(dC.1 hu).1
   omega
  rw[anO,ann hj,an2] at hu
  simpa using hu
 simp[execOp,aN ox,hx,Instr.loadAt,Instr.sureAddr,ru F hk hl hc]
theorem lr {bb off:Nat} {cs:Array Value} {t:TypeId} {bytes:Nat} {z:Value} (H:HI M0 w0 w l) (i:Nat) (hi:l[i]? =some (ro bb cs t)) (F:ei P T 1 false bytes z) (ox:bG n x=true) (hx:ev f x=.pointer (some ⟨bb,off,none⟩))
  (hl:((cs.toList.drop off).take 1).length=1) (h:K (cb f d (sj false ((cs.toList.drop off).take 1))) w):SO P n ops ⟨some d,.load T x,ty,ps,af,none⟩ f w K:=vS H i hi F ox hx (fun _=>rfl) hl h
end
def FP {α:Type} [GT α] (P:Program) (g:FuncId) (ae:List Value) (M:Nat→Prop) (w:World) (xs:List α) (p:α→Bool):Prop:=
 cu P g∧∀w1 v x,x∈xs→Ext w w1→RV M w1 v x→Calls P g ([v]++ae).toArray w1 (cg fun u w2=>u=.bool (p x)∧Ext w1 w2)
theorem FP.sub {α:Type} [GT α] {P:Program} {g:FuncId} {ae:List Value} {M M':Nat→Prop} {w w':World} {xs:List α} {p:α→Bool} (h:FP P g ae M w xs p) (e:Ext w w') (hM:∀b,M b→M' b):FP P g ae M' w' xs p:=
 ⟨h.1,fun w1 v x hx e' hv=>h.2 w1 v x hx (e.trans e') (hv.lift (Up.less fun b _ hb=>hM b hb))⟩
theorem UB {M0:Nat→Prop} {l:List Item}:∀b,M0 b→MS M0 l b:=fun _ h=>.inl h
theorem nH {α:Type} {r:List α} {k:Nat} {x:α} (h:r[((k:Nat):Int).toNat]? =some x):r.take (k+1)=r.take k++[x]:=by
 rw[dv] at h
 rw[anZ,h];rfl
theorem l5 {α:Type} {r:List α} {k:Nat} (h:r.length≤k):r.take k=r:=ant h
theorem po {α:Type} {r:List α} {k:Nat} {x:α} {p:α→Bool} (h:r[((k:Nat):Int).toNat]? =some x) (h1:(r.take k).any p=false) (h2:p x=false):(r.take (k+1)).any p=false:=by
 rw[nH h];simp[h1,h2]
def eA {α:Type} (p:α→Bool) (r:List α):Int:=match r.findIdx? p with|some i=>i|none=> -1
theorem ue {α:Type} {r:List α} {k:Nat} {x:α} {p:α→Bool} (h:r[((k:Nat):Int).toNat]? =some x) (h1:(r.take k).any p=false) (h2:p x=true):(k:Int)=eA p r:=by
 rw[dv] at h
 obtain⟨hk,hx⟩:=dC.1 h
 have:r.findIdx? p=some k:=by
  rw[anF]
  refine⟨hk,by rw[hx];exact h2,fun j hj=>?_⟩
  have hm:r[j]∈r.take k:=by
   rw[List.mem_take_iff_getElem]
   exact⟨j,by omega,J⟩
  have:=ao5.1 h1 _ hm
  simpa using this
 simp[eA,this]
theorem uX {α:Type} {r:List α} {k:Nat} {p:α→Bool} (h1:(r.take k).any p=false) (h2:r.length≤k):(-1:Int)=eA p r:=by
 rw[l5 h2] at h1
 have:r.findIdx? p=none:=by
  rw[aoZ]
  intro x hx
  simpa using ao5.1 h1 x hx
 simp[eA,this]
theorem uf {α:Type} {p:α→Bool} {r:List α}:decide ((0:Int)≤eA p r)=r.any p:=by
 unfold eA
 cases h:r.findIdx? p with
 |none=>
  rw[aoZ] at h
  have:r.any p=false:=ao5.2 (by intro x hx;simp[h x hx])
  simp[this]
 |some i=>
  rw[anF] at h
  obtain⟨hi,hp,_⟩:=h
  have:r.any p=true:=anV.2 ⟨_,apE hi,hp⟩
  simp[this]
theorem wm {α:Type} {p:α→Bool} {r:List α}: -1≤eA p r∧eA p r≤r.length:=by
 unfold eA
 cases h:r.findIdx? p with
 |none=>simp only[];omega
 |some i=>
  rw[anF] at h
  obtain⟨hi,_⟩:=h
  simp only[];omega
theorem bf {α:Type} [GT α] {M:Nat→Prop} {w:World} {a:Option Addr} {n c:Nat} {xs:List α} (h:RV M w (.slice a n c) xs):xs.length≤9223372036854775807:=by
 obtain⟨a',m,c',e,h2,h3,h4, -⟩:=RV.list.1 h
 injection e with e1 e2 e3
 unfold maxLen at h4
 omega
def bj {α:Type} [GT α] (M:Nat→Prop) (e:TypeId) (w0:World) (xs:List α) (v:Value) (w:World):Prop:=
 Ext w0 w∧(∀b,v.ownBlock=some b→b<w.heap.size)∧(own w0.heap.size e v xs).holds (fun b=>M b∨v.ownBlock=some b) w
section
variable {M0:Nat→Prop} {w0 w w':World} {l:List Item} {α:Type} [GT α] {v:Value} {xs:List α} {e:TypeId}
theorem HI.eL (H:HI M0 w0 w l) (h:bj (MS M0 l) e w xs v w'):HI M0 w0 w' (own w0.heap.size e v xs::l):=by
 obtain⟨hx,hb,cs,h1,h2⟩:=h
 have zd:∀(B:Nat),B≤w.heap.size→w'.ownsRow B e (GT.size α) v xs.length cs:=by
  intro B hB
  refine⟨h1.1,?_⟩
  rcases h1.2 with h3|⟨g,cap,cur,rfl,h3,h4⟩
  ·exact .inl h3
  ·exact .inr ⟨g,cap,cur,J,Nat.le_trans hB h3,h4⟩
 have u0:∀b,v.ownBlock=some b→w.heap.size≤b:=fun b vT=>(h1.lt b vT).1
 cases hv:v.ownBlock with
 |none=>
  refine(H.ext hx).put hv ⟨cs,zd _ H.below.size,bu.lift (Up.less ?_) h2⟩
  intro b BO hM
  exact .inl hM
 |some b=>
  refine H.new hx b hv (u0 b hv) (hb b hv) ⟨cs,zd _ H.below.size,bu.lift (Up.less ?_) h2⟩
  rintro c hc (hM|⟨it,hit,acQ⟩)
  ·exact .inl (.inl hM)
  ·rcases anC.1 hit with rfl|hit
   ·exact .inr acQ
   ·exact .inl (.inr ⟨it,hit,acQ⟩)
theorem HI.df (H:HI M0 w0 w l) (i:Nat) (hi:l[i]? =some (own w0.heap.size e v xs)):bj M0 e w0 xs v w:=by
 obtain⟨cs,h1,h2⟩:=H.at_ i hi
 refine⟨H.below,fun b hb=>(wi H hi b hb).2,cs,h1,bu.lift (Up.less ?_) h2⟩
 rintro b _ (hM|hb)
 ·exact .inl hM
 ·exact .inr ⟨_,dB hi,hb⟩
theorem fN {M:Nat→Prop} (h:Ext w0 w):bj M e w0 ([]:List α) (.slice none 0 0) w:=⟨h,fun b hb=>(by cases hb),[],World.ownsRow_nil w _ e _,rfl⟩
theorem bj.rv {M:Nat→Prop} (h:bj M e w xs v w') (hM:∀b,M b→b<w.heap.size):RV M w' v xs:=by
 obtain⟨_,hb,ho⟩:=h
 refine zL ho (fun b _ u3=>.inl u3)<|fun b vT hMb=>?_
 obtain⟨cs,h1,_⟩:=ho
 have:=(h1.lt b vT).1
 have:=hM b hMb
 omega
end
section
variable {α:Type} {β:Type} {γ:Type} {δ:Type} {ε:Type} {ζ:Type} {V:Type} {a a':α} {b b':β} {c c':γ} {d d':δ} {e e':ε} {z z':ζ}
theorem iB (f:α→V) (h1:a=a'):f a=f a':=by rw[h1]
theorem nA (f:α→β→V) (h1:a=a') (h2:b=b'):f a b=f a' b':=by rw[h1,h2]
theorem qN (f:α→β→γ→V) (h1:a=a') (h2:b=b') (h3:c=c'):f a b c=f a' b' c':=by rw[h1,h2,h3]
theorem T3 (f:α→β→γ→δ→V) (h1:a=a') (h2:b=b') (h3:c=c') (h4:d=d'):f a b c d=f a' b' c' d':=by rw[h1,h2,h3,h4]
end
theorem mK {α:Type} [GT α] {M0:Nat→Prop} {l:List Item} {it:Item} {w:World} {v:Value} {x:α} (hn:it.jC=none) (h:RV (MS M0 (it::l)) w v x):RV (MS M0 l) w v x:=by rwa [aG hn] at h
end Go.Ew
namespace Go.Ew
open Go.RowKit Go.WideShapes Go.ChangeShapes
abbrev M6:Nat→Prop:=fun _=>False
section
variable {P:Program} {t e:TypeId}
theorem T8 {W:World} {a:Addr} {n:Nat} {cs:List Value} (h:W.cells? 0 a n=some cs):∀j v,cs[j]? =some v→W.cell? (a.add j)=some v:=by
 intro j v hv
 simp only[World.cells?,aoD,aoX] at h
 have hl:=mapM_some_length h
 have hj:j<cs.length:=(dC.1 hv).1
 rw[apf] at hl
 have:=mapM_some_get h j j<|by rw[aoi aq]
 rw[this,hv]
theorem Ey {α:Type} {Q:Nat→α→Prop}:∀n:Nat,(∀i,i<n→∃y,Q i y)→∃l:List α,l.length=n∧∀(i:Nat) (y:α),l[i]? =some y→Q i y
 |0,_=>⟨[],rfl,fun i y h=>by simp at h⟩
 |n+1,h=>by
  obtain⟨l,hl,hq⟩:=Ey n fun i hi=>h i aq
  obtain⟨y,hy⟩:=h n aq
  refine⟨l++[y],by simp[hl],fun i z hz=>?_⟩
  by_cases hi:i<l.length
  ·rw[oT hi] at hz;exact hq i z hz
  ·rw[og aq] at hz
   have Jg:i-l.length=0:=by
    have:=(dC.1 hz).1
    simp at this;omega
   rw[Jg] at hz
   simp at hz
   subst hz
   rw[show i=n from by omega]
   exact hy
section
variable {H:Type} {enc:TypeId×Value→H} {W:World} {base:Nat} {v:Value} {d:DataW H} {ps:List MemPlace}
theorem Zk {k:IntKind} (ht:P.underlying t=some (.int k)) (hv:Value.okWide P W .any base t v) (h:DataW.Trod enc P W 0 (fun _=>true) true t v d ps):∃n:Int,v=.int k n∧(Lit.int k n).wf=true:=by
 obtain⟨n,h⟩:=h
 obtain⟨m,rfl⟩:=okWide_int ht hv
 obtain⟨m',e, -,hw⟩:=DataW.trod_int ht h
 simp[Value.cells] at e
 subst e
 exact⟨m,J,hw⟩
theorem Rw (ht:P.underlying t=some (.int .u8)) (hv:Value.okWide P W .any base t v) (h:DataW.Trod enc P W 0 (fun _=>true) true t v d ps):∃x:BitVec 8,v=U8 x:=by
 obtain⟨n,rfl,hw⟩:=Zk ht hv h
 have hb:=bounds_u8 hw
 refine⟨BitVec.ofNat 8 n.toNat,?_⟩
 have:((BitVec.ofNat 8 n.toNat).toNat:Int)=n:=by rw[BitVec.toNat_ofNat];omega
 rw[U8,this]
theorem D4 {W':World} {T:TypeId→Prop} (K:Kids P T) (hz:∀t e,T t→P.underlying t=some (.slice e)→0<P.cellsOf e) (e:Ext W W') {sp:Nat→Bool}:
  ∀{ts:List TypeId} {vs:List Value} {ds:List (DataW H)} {ps:List MemPlace},(∀t∈ts,T t)→DataW.TrodAll enc P W 0 (fun _=>true) true ts vs ds ps→(∀p∈ps,sp p.block=true)→DataW.TrodAll enc P W' 0 sp true ts vs ds ps
 |[],[],[],_,_,h,_=>h
 |t::_,v::_,_::_,_,hT,⟨p,q,⟨n,h1⟩,h2,hp⟩,hs=>by
  refine⟨p,q,⟨n,?_⟩,D4 K hz e (fun t ht=>hT t<|anC.2<|Or.inr ht) h2 (fun x hx=>hs x<|by rw[hp];exact aow _ hx),hp⟩
  have hr:=DataW.trod_respare K hz n _ _ _ (hT _<|anC.2<|Or.inl J) h1 (spare':=sp)<|fun x hx=>hs x<|by rw[hp];exact aoC _ hx
  exact DataW.trod_carry n _ _ _ hr fun x hx=>Below.same e.toBelow (DataW.trod_lt n _ _ _ h1 x hx)
 |[],[],_::_,_,_,h,_=>h.elim
 |[],_::_,_,_,_,h,_=>h.elim
 |_::_,[],_,_,_,h,_=>h.elim
 |_::_,_::_,[],_,_,h,_=>h.elim
theorem SD {f:Func} {s:ChangeSpec} {apart fresh handsOn again:Bool} {W W':World} {args:Array Value} {ds gs:List (DataW H)} {before:List MemPlace} {tb:TypeId}
  (K:Kids P (·<P.types.size)) (hz:∀t e,t<P.types.size→P.underlying t=some (.slice e)→0<P.cellsOf e) (hts:∀t∈f.params.toList,t<P.types.size)
  (XW:s.vars=[]) (hW:DataW.Whole enc P f.params.toList s.vars apart W args.toList ds gs before) (e:Ext W W') (hrt:f.resultTypes=#[tb]) (hu:P.underlying tb=some .bool)
  (h1:(s.fn H (ds++gs)).results=[.lit (.bool true)]) (h2:(s.fn H (ds++gs)).args=ds) (h3:(s.fn H (ds++gs)).vars=[]):
  s.post enc P f apart fresh handsOn again W args (.bool true) W':=by
 have ep:∀p∈before,p.block<W.heap.size:=fun p hp=>hW.lt p hp
 have hW2:=hW
 obtain⟨p,q,hA,hV,Gy,hfz,lO⟩:=hW2
 rw[XW] at hV
 have hq:gs=[]∧q=[]:=by
  cases gs with
  |nil=>exact⟨rfl,hV⟩
  |cons _ _=>exact hV.elim
 obtain⟨rfl,rfl⟩:=hq
 rw[aoT] at Gy
 subst Gy
 have hold:∀x∈before,(fun b=>decide (b<W.heap.size)) x.block=true:=fun x hx=>by simpa using ep x hx
 have acx:∀(b:Nat) (sp:Nat→Bool) (hd:Bool),DataW.TrodAll enc P W' b sp hd f.resultTypes.toList ((Value.bool true).resultList f.resultTypes.size) (s.fn H (ds++[])).results []:=by
  intro b sp hd
  rw[h1,hrt]
  exact trodAll_mk1<|shut_bool hu _
 have QD:∀sp:Nat→Bool,(∀x∈before,sp x.block=true)→DataW.TrodAll enc P W' 0 sp true f.params.toList args.toList (s.fn H (ds++[])).args before:=by
  intro sp hsp
  rw[h2]
  exact D4 K hz e hts hA hsp
 have hvs:∀sp:Nat→Bool,DataW.TrodVars enc P W' sp s.vars (s.fn H (ds++[])).vars []:=by
  intro sp
  rw[h3,XW]
  rfl
 refine⟨ds,[],before,[],before,[],hW,acx _ _ _,QD _ hold,hvs _,World.keptBut_mono (fun x hx=>⟨hx,.inr (.inl hx)⟩) (e.frame (·∈before)),fun _=>?_⟩
 refine⟨ok_one (by rw[hrt]) rfl (okWide_bool_mk hu _),(s.fn H<|ds++[]).results++(s.fn H<|ds++[]).args,(s.fn H<|ds++[]).vars,([]++before)++[],⟨[]++before,[],trodAll_append (QD _<|fun _ _=>rfl) (acx _ _ _),hvs _,J,?_,?_⟩,?_⟩
 ·intro b off hp
  have sr:MemPlace.cell b off∈before:=by simpa using hp
  rw[Below.frozen e.toBelow (ep _ sr)]
  exact hfz b off sr
 ·intro ha
  simpa using lO ha
 ·intro x hx _
  simpa using hx
end
end
end Go.Ew
namespace Go.Ew
open Go.RowKit
def P8 (Φ:List (Nat→Nat→Value→World→Prop)) (i lo hi:Nat):Value→World→Prop:=Φ.getD i (fun _ _ _ _=>True) lo hi
structure UE (P:Program) (n:Nat) (l:List Oper) (k:Nat) (Φ:List (Nat→Nat→Value→World→Prop)) (f0:aQ) (w0:World) (i:Nat) (o:Oper):Prop where
 go:∀f w,(∀t,(jg k l).contains t=false→f t=f0 t)→Ext w0 w→(∀j,kN o j=true→Nat.blt j k=true→∃lo hi,w0.heap.size≤lo∧hi≤w.heap.size∧P8 Φ j lo hi (f (iW l j)) w)→
  SO P n l.toArray o f w (fun f' w'=>∃v,f'=cX f o.dst v∧Ext w w'∧P8 Φ i w.heap.size w'.heap.size v w')
 mono:∀lo hi v w w',Ext w w'→P8 Φ i lo hi v w→P8 Φ i lo hi v w'
def wH (P:Program) (n:Nat) (l:List Oper) (k:Nat) (Φ:List (Nat→Nat→Value→World→Prop)) (f0:aQ) (w0:World):Nat→List Oper→Prop
 |_,[]=>True
 |i,o::r=>(Nat.blt i k=true→UE P n l k Φ f0 w0 i o)∧wH P n l k Φ f0 w0 (i+1) r
section
variable {P:Program} {n:Nat} {l:List Oper} {k:Nat} {Φ:List (Nat→Nat→Value→World→Prop)} {f0:aQ} {w0:World}
theorem wH.at_:∀(r:List Oper) (i:Nat),wH P n l k Φ f0 w0 i r→∀j o,r[j]? =some o→Nat.blt (i+j) k=true→UE P n l k Φ f0 w0 (i+j) o
 |[],_,_,j,o,h,_=>by simp at h
 |x::r,i,h,0,o,hj,hk=>by
  simp only[anA,anx] at hj
  subst hj
  exact h.1 hk
 |x::r,i,h,j+1,o,hj,hk=>by
  simp only[anG] at hj
  have:=wH.at_ r (i+1) h.2 j o hj<|by rw[show i+1+j=i+(j+1) from by omega];exact hk
  rwa [show i+1+j=i+(j+1) from by omega] at this
theorem wH.rest {i:Nat} (h:Nat.ble k i=true):∀r,wH P n l k Φ f0 w0 i r:=by
 intro r
 induction r generalizing i with
 |nil=>exact trivial
 |cons o r ih=>
  simp only[ap9] at h
  exact⟨fun hk=>by simp only[apr] at hk;omega,ih (by simp only[ap9];omega)⟩
section
variable {M0:Nat→Prop} {zA w w':World} {l:List Item} {v:Value} {z:Value} {T:TypeId} {lo hi:Nat}
def Rg (b:Nat) (cs:Array Value) (t:TypeId) (lo hi:Nat) (w:World):Prop:=lo≤b∧b<hi∧w.heap[b]? =some (.cells cs t (0,0))
theorem Rg.ext {b:Nat} {cs:Array Value} {t:TypeId} (h:Rg b cs t lo hi w) (e:Ext w w'):Rg b cs t lo hi w':=
 ⟨h.1,h.2.1,(e.block b (anQ.1 h.2.2).1).trans h.2.2⟩
theorem HI.laid {b:Nat} {cs:Array Value} {t:TypeId} (H:HI M0 zA w l) (x:Ext w w') (hb:w.heap.size≤b) (h:w'.heap[b]? =some (.cells cs t (0,0))):HI M0 zA w' (box b cs t::l):=
 H.new x b rfl hb (anQ.1 h).1 h
end
section
variable {x:Operand} {v:Value} {ops:Array Oper} {f:aQ} {w:World} {K:aQ→World→Prop} {d:Nat} {ty T:TypeId} {ps:String} {af:Array Edge} {bytes size:Nat} {agg:Bool} {z:Value}
end
end
end Go.Ew
namespace Go.Ew
open Go.RowKit
inductive Kd where
 |v
 |n
 |s (a j:Nat)
def ab9:Kd→Option Nat
 | .s a _=>some a
 |_=>none
def Qj (Ks:List Kd) (i:Nat):Kd:=Ks.getD i .v
def HG (Φ:List (Value→Prop)) (i:Nat):Value→Prop:=Φ.getD i (fun _=>True)
def zv (Z:List (Array Value×TypeId)) (i:Nat):Array Value×TypeId:=Z.getD i (#[],0)
def YZ (P:Program) (n:Nat) (l:List Oper) (Ks:List Kd) (Φ:List (Value→Prop)) (Z:List (Array Value×TypeId)) (f0:aQ) (w0:World) (i:Nat) (o:Oper):Prop:=
 match Qj Ks i with
 | .v=>o.dst.isSome=true∧∀f w,(∀t,(jg l.length l).contains t=false→f t=f0 t)→Ext w0 w→(∀j,kN o j=true→(∃x,l[j]? =some x∧x.dst.isSome=true)→HG Φ j (f (iW l j)))→
   SO P n l.toArray o f w (fun f' w'=>∃v,f'=cX f o.dst v∧w'=w∧HG Φ i v)
 | .n=>o.dst.isSome=true∧∀f w,(∀t,(jg l.length l).contains t=false→f t=f0 t)→Ext w0 w→(∀j,kN o j=true→(∃x,l[j]? =some x∧x.dst.isSome=true)→HG Φ j (f (iW l j)))→
   SO P n l.toArray o f w (fun f' w'=>f'=cX f o.dst (.pointer (some ⟨w.heap.size,0,none⟩))∧w'=w.alloc (.cells (zv Z i).1 (zv Z i).2)∧HG Φ i (.pointer (some ⟨w.heap.size,0,none⟩)))
 | .s a j=>o.dst=none∧kN o a=true∧kN o j=true∧(∃x,l[a]? =some x∧x.dst.isSome=true)∧(∃x,l[j]? =some x∧x.dst.isSome=true)∧(match Qj Ks a with| .n=>True|_=>False)∧(∀v,HG Φ j v→v.cells.size=(zv Z a).1.size)∧
   ∀f w b cur,Ext w0 w→f (iW l a)=.pointer (some ⟨b,0,none⟩)→w.heap[b]? =some (.cells cur (zv Z a).2 (0,0))→cur.size=(zv Z a).1.size→HG Φ j (f (iW l j))→
   SO P n l.toArray o f w (fun f' w'=>f'=f∧w'=w.setRow b (f (iW l j)).cells)
def Hh (P:Program) (n:Nat) (l:List Oper) (Ks:List Kd) (Φ:List (Value→Prop)) (Z:List (Array Value×TypeId)) (f0:aQ) (w0:World):Nat→List Oper→Prop
 |_,[]=>True
 |i,o::r=>YZ P n l Ks Φ Z f0 w0 i o∧Hh P n l Ks Φ Z f0 w0 (i+1) r
section
variable {P:Program} {n:Nat} {l:List Oper} {Ks:List Kd} {Φ:List (Value→Prop)} {Z:List (Array Value×TypeId)} {f0:aQ} {w0:World}
theorem Hh.at_:∀(r:List Oper) (i:Nat),Hh P n l Ks Φ Z f0 w0 i r→∀j o,r[j]? =some o→YZ P n l Ks Φ Z f0 w0 (i+j) o
 |[],_,_,j,o,h=>by simp at h
 |x::r,i,h,0,o,hj=>by
  simp only[anA,anx] at hj
  subst hj
  exact h.1
 |x::r,i,h,j+1,o,hj=>by
  simp only[anG] at hj
  have:=Hh.at_ r (i+1) h.2 j o hj
  rwa [show i+1+j=i+(j+1) from by omega] at this
def aeL (l:List Oper) (Ks:List Kd) (Z:List (Array Value×TypeId)) (L:Nat→Bool) (f:aQ) (i:Nat) (cur:Array Value):Prop:=
 cur.size=(zv Z i).1.size∧(∀s j,Ks[s]? =some (.s i j)→L s=true→cur=(f (iW l j)).cells)∧((∀s j,Ks[s]? =some (.s i j)→L s=false)→cur=(zv Z i).1)
theorem adQ (hN:nodupB (jg l.length l)=true) {i j:Nat} {oi oj:Oper} (hi:l[i]? =some oi) (hj:l[j]? =some oj) {di dj:Nat} (u2:oi.dst=some di) (Em:oj.dst=some dj) (gH:i≠j):dj≠di:=by
 rintro rfl
 have lO:=oI _ hN
 unfold jg at lO
 rw[aod] at lO
 exact gH<|hQ (·.dst) l lO i j oi oj hi hj (by simp[u2])<|by simp[u2,Em]
theorem O7 {i:Nat} {o:Oper} (hi:l[i]? =some o) {d:Nat} (hd:o.dst=some d):iW l i=d:=by unfold iW;rw[hi];simp[hd]
end
theorem aeL.zero {l:List Oper} {Ks:List Kd} {Z:List (Array Value×TypeId)} {f:aQ} {i:Nat} {cur:Array Value} (h:aeL l Ks Z (fun _=>true) f i cur) (hn:(Ks.filterMap ab9).contains i=false):cur=(zv Z i).1:=by
 refine h.2.2 fun s j hs=>?_
 exfalso
 have:i∈Ks.filterMap ab9:=anN.2 ⟨_,dB hs,rfl⟩
 rw[←anY,hn] at this
 cases this
section
variable {P:Program} {n:Nat} {ops:Array Oper} {f:aQ} {w ws:World} {K:aQ→World→Prop} {x y:Operand} {d:Nat} {ty T e:TypeId} {ps:String} {af:Array Edge} {v:Value} {M:Nat→Prop} {kk:IntKind} {bytes:Nat} {z:Value} {ad:Addr} {size:Nat} {agg:Bool}
end
end Go.Ew
namespace Go.Ew
open Go.RowKit
def Cn (Φ:List ((Nat→Prop)→Value→World→Prop)) (i:Nat):(Nat→Prop)→Value→World→Prop:=Φ.getD i (fun _ _ _=>True)
def aeF (N N':Nat→Prop) (w w':World):Prop:=w.heap.size≤w'.heap.size∧(∀c,c<w.heap.size→¬N c→w'.heap[c]? =w.heap[c]?)∧∀c,c<w.heap.size→N' c→N c
def Y0 (P:Program) (n:Nat) (l:List Oper) (Ks:List Kd) (Φ:List ((Nat→Prop)→Value→World→Prop)) (Z:List (Array Value×TypeId)) (f0:aQ) (w0:World) (i:Nat) (o:Oper):Prop:=
 (∀N N' v w w',aeF N N' w w'→Cn Φ i N v w→Cn Φ i N' v w')∧
 match Qj Ks i with
 | .v=>o.dst.isSome=true∧∀f w N,(∀t,(jg l.length l).contains t=false→f t=f0 t)→Ext w0 w→(∀c,N c→w0.heap.size≤c∧c<w.heap.size)→(∀j,kN o j=true→(∃x,l[j]? =some x∧x.dst.isSome=true)→Cn Φ j N (f (iW l j)) w)→
   SO P n l.toArray o f w (fun f' w'=>∃v,f'=cX f o.dst v∧Ext w w'∧Cn Φ i N v w')
 | .n=>o.dst.isSome=true∧(∀N v w,Cn Φ i N v w)∧∀f w N,(∀t,(jg l.length l).contains t=false→f t=f0 t)→Ext w0 w→(∀c,N c→w0.heap.size≤c∧c<w.heap.size)→(∀j,kN o j=true→(∃x,l[j]? =some x∧x.dst.isSome=true)→Cn Φ j N (f (iW l j)) w)→
   SO P n l.toArray o f w (fun f' w'=>f'=cX f o.dst (.pointer (some ⟨w.heap.size,0,none⟩))∧w'=w.alloc (.cells (zv Z i).1 (zv Z i).2))
 | .s a j=>o.dst=none∧kN o a=true∧kN o j=true∧(∃x,l[a]? =some x∧x.dst.isSome=true)∧(∃x,l[j]? =some x∧x.dst.isSome=true)∧a≠j∧(match Qj Ks a with| .n=>True|_=>False)∧(∀N v w,Cn Φ j N v w→v.cells.size=(zv Z a).1.size)∧
   ∀f w N b cur,Ext w0 w→f (iW l a)=.pointer (some ⟨b,0,none⟩)→w.heap[b]? =some (.cells cur (zv Z a).2 (0,0))→cur.size=(zv Z a).1.size→Cn Φ j N (f (iW l j)) w→
   SO P n l.toArray o f w (fun f' w'=>f'=f∧w'=w.setRow b (f (iW l j)).cells)
def Hi (P:Program) (n:Nat) (l:List Oper) (Ks:List Kd) (Φ:List ((Nat→Prop)→Value→World→Prop)) (Z:List (Array Value×TypeId)) (f0:aQ) (w0:World):Nat→List Oper→Prop
 |_,[]=>True
 |i,o::r=>Y0 P n l Ks Φ Z f0 w0 i o∧Hi P n l Ks Φ Z f0 w0 (i+1) r
section
variable {P:Program} {n:Nat} {l:List Oper} {Ks:List Kd} {Φ:List ((Nat→Prop)→Value→World→Prop)} {Z:List (Array Value×TypeId)} {f0:aQ} {w0:World}
theorem Hi.at_:∀(r:List Oper) (i:Nat),Hi P n l Ks Φ Z f0 w0 i r→∀j o,r[j]? =some o→Y0 P n l Ks Φ Z f0 w0 (i+j) o
 |[],_,_,j,o,h=>by simp at h
 |x::r,i,h,0,o,hj=>by
  simp only[anA,anx] at hj
  subst hj
  exact h.1
 |x::r,i,h,j+1,o,hj=>by
  simp only[anG] at hj
  have:=Hi.at_ r (i+1) h.2 j o hj
  rwa [show i+1+j=i+(j+1) from by omega] at this
end
section
variable {α:Type} [GT α] {M N N':Nat→Prop} {w0 w w':World} {v:Value} {x:α}
end
end Go.Ew
namespace Go.Ew
open Go.RowKit
def FP2 {α β:Type} [GT α] [GT β] (P:Program) (g:FuncId) (ae:List Value) (M:Nat→Prop) (w:World) (xs:List α) (ys:List β) (q:α→β→Bool):Prop:=
 cu P g∧∀w1 v x u y,x∈xs→y∈ys→Ext w w1→RV M w1 v x→RV M w1 u y→Calls P g ([v,u]++ae).toArray w1 (cg fun r w2=>r=.bool (q x y)∧Ext w1 w2)
theorem FP2.sub {α β:Type} [GT α] [GT β] {P:Program} {g:FuncId} {ae:List Value} {M M':Nat→Prop} {w w':World} {xs:List α} {ys:List β} {q:α→β→Bool} (h:FP2 P g ae M w xs ys q) (e:Ext w w') (hM:∀b,M b→M' b):FP2 P g ae M' w' xs ys q:=
 ⟨h.1,fun w1 v x u y hx hy e' hv hu=>h.2 w1 v x u y hx hy (e.trans e') (hv.lift (Up.less fun b _ hb=>hM b hb)) (hu.lift (Up.less fun b _ hb=>hM b hb))⟩
end Go.Ew
namespace Go.Ew
open Go.RowKit
structure SV where
 a:Option Addr
 n:Nat
 c:Nat
def SV.v (s:SV):Value:=.slice s.a s.n s.c
instance gSV:GT SV where
 size:=1
 agg:=false
 rep _ _ cs s:=cs=[s.v]
 len h:=by rw[h];rfl
 one h:=by rw[h];simp[Value.oneCell',SV.v]
 single _:=rfl
 pos:=by decide
 lift h _:=h
theorem RV.sv {M:Nat→Prop} {w:World} {v:Value} {s:SV}:RV M w v s↔v=s.v:=by
 constructor
 ·rintro⟨cs,rfl,rfl⟩;rfl
 ·rintro rfl;exact⟨_,rfl,rfl⟩
section
variable {α:Type} [GT α] {B:Nat} {e E:TypeId} {ss:List SV} {xs:List (List α)} {l l':List Item} {M0:Nat→Prop} {w0 w w':World} {s:SV} {x y:List α} {i:Nat}
def bC (B:Nat) (e:TypeId) (ss:List SV) (xs:List (List α)):List Item:=List.zipWith (fun s x=>own B e s.v x) ss xs
def zI (ss:List SV) (xs:List (List α)):List Item:=List.zipWith (fun s x=>tg s.v x) ss xs
theorem px (hs:ss[i]? =some s) (hx:xs[i]? =some x):(l++bC B e ss xs)[l.length+i]? =some (own B e s.v x):=by
 rw[og aq,show l.length+i-l.length=i from by omega]
 unfold bC
 rw[apc,hs,hx]
theorem Zv (hs:ss[i]? =some s):(l++bC B e ss xs).set (l.length+i) (own B e s.v y)=l++bC B e ss (xs.set i y):=by
 rw[aoH _ _ aq,show l.length+i-l.length=i from by omega]
 congr 1
 unfold bC
 apply anT
 intro j
 rw[aoE,apc,apc,aoE,List.length_zipWith]
 by_cases e:i=j
 ·subst e
  have hl:=(dC.1 hs).1
  by_cases hx:i<xs.length
  ·rw[ann rfl,ann rfl,ann aq,ann hx,hs]
  ·rw[ann rfl,ann rfl,anp aq,anp hx,hs]
 ·rw[anp e,anp e]
theorem RR (h:ss.length=xs.length):bC B e (ss++[s]) (xs++[x])=bC B e ss xs++[own B e s.v x]:=by
 unfold bC
 rw[List.zipWith_append h];rfl
theorem HI.perm (H:HI M0 w0 w l) (hp:l'.Perm l):HI M0 w0 w l':=
 H.pick l' (fun it hit=>hp.mem_iff.1 hit) ((hp.filterMap _).nodup_iff.2 H.nodup)
theorem HI.abo (H:HI M0 w0 w (own B e s.v x::(l++bC B e ss xs))) (h:ss.length=xs.length):HI M0 w0 w (l++bC B e (ss++[s]) (xs++[x])):=by
 rw[RR h,←anU]
 exact H.perm<|List.perm_append_singleton _ _
theorem Mo {A B:Type} {f g:A→Option B}:∀{l:List A},(∀a∈l,f a=g a)→l.filterMap f=l.filterMap g
 |[],_=>rfl
 |a::l,h=>by rw[an9,an9,h a an8,Mo fun b hb=>h b (anP _ hb)]
theorem Mn {A:Type}:∀t:List A,(List.range t.length).filterMap (fun i=>t[i]?)=t
 |[]=>rfl
 |a::t=>by
  rw[iM,List.range_succ_eq_map,an9,aql]
  have:((fun i=>(a::t)[i]?)∘Nat.succ)=fun i=>t[i]?:=by funext i;rfl
  rw[this,Mn t];rfl
theorem HI.aR {t:List Item} (H:HI M0 w0 w (l++t)) (is:List Nat) (hn:is.Nodup) (hb:is.all (fun i=>Nat.blt i l.length)=true) (he:is.filterMap (fun i=>l[i]?)=l'):HI M0 w0 w (l'++t):=by
 refine H.bU (is++(List.range t.length).map (l.length+·)) ?_ ?_
 ·rw[ao4]
  refine⟨hn,?_,?_⟩
  ·rw[List.nodup_iff_pairwise_ne,List.pairwise_map]
   exact List.Pairwise.imp (fun h=>by omega) apD
  ·intro a ha b u3 Jj
   subst Jj
   obtain⟨j, -,rfl⟩:=an6.1 u3
   have:=anr.1 hb _ ha
   have:l.length+j<l.length:=by simpa using this
   omega
 ·rw[apx,←he]
  congr 1
  ·refine Mo fun i hi=>?_
   have:=anr.1 hb _ hi
   rw[oT (by simpa using this)]
  ·rw[aql]
   have:((fun i=>(l++t)[i]?)∘(l.length+·))=fun i=>t[i]?:=by
    funext i
    simp only[Function.comp]
    rw[og aq,show l.length+i-l.length=i from by omega]
   rw[this]
   exact Mn t
theorem HI.GL:∀(ss:List SV) (xs:List (List α)) (l:List Item),HI M0 w0 w (l++bC B e ss xs)→HI M0 w0 w (l++zI ss xs)
 |[],xs,l,H=>H
 |s::ss,[],l,H=>H
 |s::ss,x::xs,l,H=>by
  have h1:(l++bC B e (s::ss) (x::xs))[l.length]? =some (own B e s.v x):=by rw[og (anl _),aol];rfl
  have H1:=H.freeze l.length h1
  have h2:(l++bC B e (s::ss) (x::xs)).set l.length (tg s.v x)=(l++[tg s.v x])++bC B e ss xs:=by
   rw[aoH _ _ (anl _),aol,anU];rfl
  rw[h2] at H1
  have H2:=HI.GL ss xs _ H1
  rwa [anU] at H2
theorem Ex {M:Nat→Prop}:∀{ss:List SV} {xs:List (List α)} {cs:List Value},ss.length=xs.length→(∀(i:Nat) (s:SV) (x:List α),ss[i]? =some s→xs[i]? =some x→RV M w s.v x)→bu M w cs ss→bu M w cs xs
 |[],[],cs,_,_,h=>h
 |s::ss,x::xs,cs,hl,hr,⟨c1,c2,h1,h2,h3⟩=>by
  refine⟨c1,c2,h1,⟨s.v,h2,RV.list.1 (hr 0 s x J J)⟩,Ex (by simpa using hl) (fun i s' x' hs hx=>hr (i+1) s' x' hs hx) h3⟩
 |[],_::_,_,h,_,_=>by cases h
 |_::_,[],_,h,_,_=>by cases h
theorem HI.deep {v:Value} (H:HI M0 w0 w (own B E v ss::(l++bC B e ss xs))) (hl:ss.length=xs.length):HI M0 w0 w (own B E v xs::l):=by
 have H1:HI M0 w0 w (own B E v ss::(l++zI ss xs)):=HI.GL ss xs (own B E v ss::l) H
 obtain⟨cs,h1,h2⟩:=H1.at_ 0 rfl
 have key:∀(i:Nat) (s:SV) (x:List α),ss[i]? =some s→xs[i]? =some x→RV (MS M0 (own B E v ss::(l++zI ss xs))) w s.v x:=by
  intro i s x hs hx
  refine H1.all (tg s.v x) (anP _<|aow _ ?_)
  unfold zI
  exact dB (i:=i)<|by rw[apc,hs,hx]
 have H2:=H1.vB (nu:=own B E v xs) 0 rfl rfl rfl rfl (anl _) (anl _) (fun _ _ _=>rfl) (fun b hb=>⟨(H1.jq _ (an8) b hb).2,.inl hb⟩) (by
  refine⟨cs,?_,bu.lift (M:=MS M0 (own B E v ss::(l++zI ss xs))) (Up.less ?_) (Ex hl key h2)⟩
  ·rw[←hl];exact h1
  ·rintro b _ (hb|⟨it,hit,hb⟩)
   ·exact .inl hb
   ·rcases anC.1 hit with rfl|hit
    ·exact .inr ⟨_,an8,hb⟩
    ·exact .inr ⟨it,anP _ hit,hb⟩)
 refine H2.pick _ (fun it hit=>?_) ?_
 ·rcases anC.1 hit with rfl|hit
  ·exact an8
  ·exact anP _<|aoC _ hit
 ·refine apT ?_ H2.nodup
  refine List.Sublist.filterMap _ ?_
  exact(List.sublist_append_left l _).cons_cons _
theorem HI.join (H:HI M0 w0 w l) (H':HI (MS M0 l) w w' l'):HI M0 w0 w' (l'++l):=by
 have hM:∀b,MS (MS M0 l) l' b↔MS M0 (l'++l) b:=by
  intro b
  constructor
  ·rintro((h|⟨it,hit,hb⟩)|⟨it,hit,hb⟩)
   ·exact .inl h
   ·exact .inr ⟨it,aow _ hit,hb⟩
   ·exact .inr ⟨it,aoC _ hit,hb⟩
  ·rintro(h|⟨it,hit,hb⟩)
   ·exact .inl (.inl h)
   ·rcases anK.1 hit with hit|hit
    ·exact .inr ⟨it,hit,hb⟩
    ·exact .inl (.inr ⟨it,hit,hb⟩)
 refine⟨H.below.trans H'.below,H.m0,?_,?_,?_⟩
 ·intro it hit b hb
  rcases anK.1 hit with hit|hit
  ·exact⟨Nat.le_trans H.below.size (H'.jq it hit b hb).1,(H'.jq it hit b hb).2⟩
  ·exact⟨(H.jq it hit b hb).1,anR (H.jq it hit b hb).2 H'.below.size⟩
 ·rw[apx,ao4]
  refine⟨H'.nodup,H.nodup,fun b hb c hc hbc=>?_⟩
  subst hbc
  obtain⟨i,hi,BK⟩:=anN.1 hb
  obtain⟨j,hj,vU⟩:=anN.1 hc
  have h1:=(H'.jq i hi b BK).1
  have h2:=(H.jq j hj b vU).2
  omega
 ·intro it hit
  rcases anK.1 hit with hit|hit
  ·exact it.lift (H'.all it hit) (Up.less fun b _ hb=>(hM b).2 hb) fun _ _=>rfl
  ·refine it.lift (H.all it hit) ⟨H'.below.size,fun c hc hMc=>⟨H'.below.block c hc,fun hb=>?_⟩⟩ fun b hb=>H'.below.block b (H.jq it hit b hb).2
   rcases (hM c).2 hb with hb|⟨i,hi,BK⟩
   ·exact hMc hb
   ·have:=(H'.jq i hi c BK).1;omega
theorem HI.weaken (H:HI M0 w0 w l) (hl:l'.map (·.jC)=l.map (·.jC)) (hh:∀(i:Nat) it nu,l[i]? =some it→l'[i]? =some nu→∀M,it.holds M w→nu.holds M w):HI M0 w0 w l':=by
 have hlen:l'.length=l.length:=by simpa using ani List.length hl
 have ug:∀(i:Nat) nu,l'[i]? =some nu→∃it,l[i]? =some it∧it.jC=nu.jC:=by
  intro i nu hi
  have h1:=ani (fun z=>z[i]?) hl
  simp only[anu,hi,aoy] at h1
  cases kQ:l[i]? with
  |none=>rw[kQ] at h1;cases h1
  |some it=>rw[kQ] at h1;exact⟨it,rfl,(anm h1).symm⟩
 have hMS:∀b,MS M0 l' b→MS M0 l b:=by
  rintro b (h|⟨nu,hit,hb⟩)
  ·exact .inl h
  ·obtain⟨i,hi⟩:=anE.1 hit
   obtain⟨it,h1,h2⟩:=ug i nu hi
   exact .inr ⟨it,dB h1,h2.trans hb⟩
 refine⟨H.below,H.m0,?_,?_,?_⟩
 ·intro nu hit b hb
  obtain⟨i,hi⟩:=anE.1 hit
  obtain⟨it,h1,h2⟩:=ug i nu hi
  exact H.jq it (dB h1) b<|h2.trans hb
 ·have:∀m:List Item,m.filterMap (·.jC)=(m.map (·.jC)).filterMap id:=by intro m;rw[aql];rfl
  rw[this,hl,←this];exact H.nodup
 ·intro nu hit
  obtain⟨i,hi⟩:=anE.1 hit
  obtain⟨it,h1,h2⟩:=ug i nu hi
  have:=hh i it nu h1 hi _<|H.all it (dB h1)
  exact nu.lift this (Up.less fun b _ hb=>hMS b hb) fun _ _=>rfl
theorem Og {β:Type} [GT β] {B B':Nat} {v:Value} {ys:List β} {M:Nat→Prop} (hB:B'≤B) (h:(own B e v ys).holds M w):(own B' e v ys).holds M w:=by
 obtain⟨cs,h1,h2⟩:=h
 refine⟨cs,⟨h1.1,?_⟩,h2⟩
 rcases h1.2 with h3|⟨g,cap,cur,rfl,h3,h4⟩
 ·exact .inl h3
 ·exact .inr ⟨g,cap,cur,J,Nat.le_trans hB h3,h4⟩
def Kp (M:Nat→Prop) (E e:TypeId) (w0:World) (ss:List SV) (xs:List (List α)) (v:Value) (w:World):Prop:=ss.length=xs.length∧HI M w0 w (own w0.heap.size E v ss::bC w0.heap.size e ss xs)
theorem HI.F_ {v:Value} (H:HI M0 w0 w l) (h:Kp (MS M0 l) E e w ss xs v w'):HI M0 w0 w' (own w0.heap.size E v ss::(l++bC w0.heap.size e ss xs)):=by
 have H1:=H.join h.2
 have H2:HI M0 w0 w' ((own w0.heap.size E v ss::bC w0.heap.size e ss xs)++l):=by
  refine H1.weaken ?_ ?_
  ·simp only[ao2,anM]
   congr 2
   unfold bC
   rw[List.map_zipWith,List.map_zipWith];rfl
  ·intro i it nu hi oK M hh
   have hB:w0.heap.size≤w.heap.size:=H.below.size
   cases i with
   |zero=>
    simp only[apG,anA,anx] at hi oK
    subst hi;subst oK;exact Og hB hh
   |succ i=>
    simp only[apG,anG] at hi oK
    have hlen:∀B,(bC B e ss xs).length=min ss.length xs.length:=by intro B;unfold bC;simp
    by_cases jF:i<min ss.length xs.length
    ·rw[oT (by rw[hlen];exact jF)] at hi oK
     unfold bC at hi oK
     rw[apc,eB aq,eB aq] at hi oK
     simp only[anx] at hi oK
     subst hi;subst oK;exact Og hB hh
    ·rw[og (by rw[hlen];omega),hlen] at hi oK
     rw[hi] at oK
     cases oK;exact hh
 refine H2.perm ?_
 exact List.Perm.cons _ List.perm_append_comm
theorem tX (H:HI M0 w0 w (l++bC B e ss xs)) (hl:ss.length=xs.length) {i:Nat} (hi:i<ss.length):∃(a:Option Addr) (x:List α) (c:Nat),ss[i]? =some (⟨a,x.length,c⟩:SV)∧xs[i]? =some x:=by
 have hs:ss[i]? =some ss[i]:=eB hi
 have hx:xs[i]? =some (xs[i]'aq):=eB aq
 obtain⟨cs,h1,h2⟩:=H.at_ _ (px (l:=l) (B:=B) (e:=e) hs hx)
 have hn:ss[i].n=(xs[i]'aq).length:=by
  rcases h1.2 with ⟨h3,h4⟩|⟨g,cap,cur,h3, -⟩
  ·rw[h4];unfold SV.v at h3;injection h3
  ·unfold SV.v at h3;injection h3
 refine⟨ss[i].a,xs[i]'aq,ss[i].c,?_,hx⟩
 rw[hs,←hn]
theorem HI.zH {M:Nat→Prop} {it:Item} (H:HI M0 w0 w ((l++bC B e ss xs).set (l.length+i) (own B e s.v y))) (hs:ss[i]? =some s):HI M0 w0 w (l++bC B e ss (xs.set i y)):=by
 rw[Zv hs] at H;exact H
theorem abm (H:HI M0 w0 w (l++bC B e ss xs)) (hs:ss[i]? =some s) (hx:xs[i]? =some x):RV (fun _=>False) w s.v x:=
 zL (H.at_ _ (px (l:=l) (B:=B) (e:=e) hs hx)) (fun _ _ h=>h.elim) (fun _ _ h=>h.elim)
end
section
variable {P:Program} {n:Nat} {ops:Array Oper} {f:aQ} {w:World} {K:aQ→World→Prop} {M:Nat→Prop} {ad:Addr} {T:TypeId} {bytes:Nat} {z:Value} {x:Operand} {d:Nat} {ty:TypeId} {ps:String} {af:Array Edge}
theorem I4 {s:SV} (hA:hG M w ad s) (F:ei P T 1 false bytes z) (ox:bG n x=true) (hx:ev f x=.pointer (some ad)) (h:K (cb f d s.v) w):
  SO P n ops ⟨some d,.load T x,ty,ps,af,none⟩ f w K:=nt hA F ox hx fun v hv=>by rw[RV.sv.1 hv];exact h
end
end Go.Ew
namespace Go.Ew
open Go.RowKit
def nC {α:Type} [GT α] (B:Nat) (e:TypeId) (v:Value) (xs:List α):Item:=
 ⟨v.ownBlock,fun M w=>∃cs,bu M w cs xs∧((v=.slice none 0 0∧xs=[])∨∃g o c cur,v=.slice (some ⟨g,o,none⟩) xs.length c∧B≤g∧w.heap[g]? =some (.cells cur e (0,0))∧xs.length≤c∧c≤maxLen∧o+c*GT.size α≤cur.size∧(cur.toList.drop o).take (xs.length*GT.size α)=cs),fun {M M' w w'} h u hb=>by
  obtain⟨cs,h2,h1⟩:=h
  refine⟨cs,bu.lift u h2,?_⟩
  rcases h1 with h3|⟨g,o,c,cur,rfl,h4,h5,h6⟩
  ·exact .inl h3
  ·exact .inr ⟨g,o,c,cur,rfl,h4,(hb g rfl).trans h5,h6⟩⟩
theorem Oh {α:Type} [GT α] {B:Nat} {e:TypeId} {v:Value} {xs:List α} {M:Nat→Prop} {w:World} (h:(own B e v xs).holds M w):(nC B e v xs).holds M w:=by
 obtain⟨cs,h1,h2⟩:=h
 refine⟨cs,h2,?_⟩
 rcases h1.2 with ⟨rfl,h3⟩|⟨g,cap,cur,rfl,h3,h4,h5,h6,h7,h8⟩
 ·exact .inl ⟨J,aoJ h3⟩
 ·exact .inr ⟨g,0,cap,cur,J,h3,h4,h5,h6,by omega,by rw[apW];exact h8⟩
section
variable {P:Program} {n:Nat} {ops:Array Oper} {f:aQ} {w:World} {K:aQ→World→Prop} {x y:Operand} {d:Nat} {ty T e:TypeId} {ps:String} {af:Array Edge} {v u:Value} {M M0:Nat→Prop} {w0:World} {l:List Item} {bytes:Nat} {z:Value} {B:Nat} {kk:IntKind} {agg:Bool} {α:Type} [GT α] {xs ys:List α}
theorem HI.toQ (H:HI M0 w0 w l) (i:Nat) (hi:l[i]? =some (own B e v xs)):HI M0 w0 w (l.set i (nC B e v xs)):=by
 have jF:=(dC.1 hi).1
 refine H.weaken ?_ ?_
 ·apply anT
  intro j
  rw[anu,anu]
  by_cases h:i=j
  ·subst h;rw[anB jF,hi];rfl
  ·rw[anS h]
 ·intro j it nu hj ra M hh
  by_cases h:i=j
  ·subst h
   rw[anB jF] at ra
   rw[hi] at hj
   cases hj;cases ra
   exact Oh hh
  ·rw[anS h,hj] at ra;cases ra;exact hh
theorem iaQ {i:Int} (hO:(nC B e v xs).holds M w) (ox:bG n x=true) (oy:bG n y=true) (hx:ev f x=v) (hy:ev f y=.int kk i) (hi:0≤i∧i<xs.length) (hu:P.underlying T=some (.slice e)) (F:ei P e (GT.size α) agg bytes z)
  (h:∀ad xv,xs[i.toNat]? =some xv→hG M w ad xv→K (cb f d (.pointer (some ad))) w):SO P n ops ⟨some d,.indexAddr T x y,ty,ps,af,none⟩ f w K:=by
 obtain⟨cs,h2,h1⟩:=hO
 rcases h1 with ⟨_,h3⟩|⟨g,o,c,cur,rfl,h3,h4,h5,h6,h7,h8⟩
 ·rw[h3] at hi;simp at hi;omega
 ·have ep:i.toNat<xs.length:=by omega
  have lj:∀j,(⟨g,o,none⟩:Addr).add j=⟨g,o+j,none⟩:=fun j=>by unfold Addr.add;split<;>simp_all
  refine SO.value (v:=.pointer (some ⟨g,o+i.toNat*GT.size α,none⟩)) ?_<|h _ xs[i.toNat] (eB ep) ?_
  ·have hb:0≤i∧i<(xs.length:Int):=by omega
   simp[execOp,aN ox,aN oy,hx,hy,Instr.indexAt,asIntOf,gG hu,hb,F.jm,lj]
  ·obtain⟨c',yD,Ad⟩:=bu.at_ h2 i.toNat xs[i.toNat] (eB ep)
   refine⟨c',yD,fun j u hu=>?_⟩
   have uA:=Ad j u hu
   have afo:(⟨g,o+i.toNat*GT.size α,none⟩:Addr).add j=⟨g,o+i.toNat*GT.size α+j,none⟩:=by unfold Addr.add;split<;>simp_all
   rw[afo,cell_of_row w g _ cur e (0,0) h4]
   rw[←h8] at uA
   obtain⟨h9,h10⟩:=dC.1 uA
   rw[aoh (by rw[gY] at h9;omega),an2,←ap2] at uA
   rw[←uA,aox]
theorem slQ {lo:Int} {qY:Operand} (H:HI M0 w0 w l) (i:Nat) (hi:l[i]? =some (nC B e v xs)) (ox:bG n x=true) (ol:bG n qY=true) (hx:ev f x=v) (hl:ev f qY=.int kk lo) (hb:0≤lo∧lo≤xs.length) (hu:P.underlying T=some (.slice e)) (F:ei P e (GT.size α) agg bytes z)
  (h:∀a c,HI M0 w0 w (l.set i (nC B e (.slice a (xs.drop lo.toNat).length c) (xs.drop lo.toNat)))→K (cb f d (.slice a (xs.drop lo.toNat).length c)) w):
  SO P n ops ⟨some d,.slice T x (some qY) none none,ty,ps,af,none⟩ f w K:=by
 have hO:=H.at_ i hi
 have jF:=(dC.1 hi).1
 obtain⟨cs,h2,h1⟩:=hO
 have hlen:(xs.drop lo.toNat).length=xs.length-lo.toNat:=by simp
 obtain⟨ao,cc,rfl,hcc⟩:∃ao cc,v=.slice ao xs.length cc∧xs.length≤cc:=by
  rcases h1 with ⟨rfl,h3⟩|⟨g,o,c,cur,rfl,h3,h4,h5,h6⟩
  ·exact⟨none,0,by rw[h3];rfl,by rw[h3];exact anl _⟩
  ·exact⟨_,_,J,h5⟩
 refine SO.value (v:=.slice (if cc=lo.toNat then ao else ao.map (·.add (lo.toNat*GT.size α))) (xs.length-lo.toNat) (cc-lo.toNat)) (w':=w) ?_ ?_
 ·have u1:P.underlying T=some (.slice (P.elem T)):=by rw[hu];simp[Program.elem,hu]
  have uh:P.elem T=e:=by simp[Program.elem,hu]
  simp[execOp,aN ox,aN ol,hx,hl,Instr.sliceAt,gG hu]
  have:=run_slice_l (P:=P) (w:=w) T ao xs.length cc u1 kk lo hb.1 aq
  rw[uh,F.jm] at this
  simp[this,sliced]
 ·rw[hlen] at h
  refine h _ _ ?_
  have hblk:∀(aa:Option Addr) (c1 c2 c3 c4:Nat) (f2:Addr→Addr),(∀q,(f2 q).block=q.block)→Value.ownBlock (.slice (aa.map f2) c1 c2)=Value.ownBlock (.slice aa c3 c4):=by
   intro aa c1 c2 c3 c4 f2 hf
   cases aa with
   |none=>rfl
   |some q=>show some _=some _;rw[hf]
  refine H.weaken ?_ ?_
  ·apply anT
   intro j
   rw[anu,anu]
   by_cases hj:i=j
   ·subst hj
    rw[anB jF,hi]
    show some (Value.ownBlock _)=some (Value.ownBlock _)
    split
    ·cases ao<;>rfl
    ·rw[hblk ao _ _ xs.length cc _ (fun q=>vk q _)]
   ·rw[anS hj]
  ·intro j it nu hj ra M' hh
   by_cases ny:i=j
   ·subst ny
    rw[anB jF] at ra
    rw[hi] at hj
    cases hj;cases ra
    obtain⟨ds,k2,k1⟩:=hh
    rcases k1 with ⟨k3,k4⟩|⟨g,o,c,cur,k3,k4,k5,k6,k7,k8,k9⟩
    ·have e1:lo.toNat=0:=by rw[k4] at hb;simp at hb;omega
     subst k4
     injection k3 with k3a k3b k3c
     subst k3a;subst k3c
     refine⟨[],by simp;rfl,.inl ⟨?_,by simp⟩⟩
     rw[e1];rfl
    ·injection k3 with k3a k3b k3c
     subst k3a;subst k3c
     have lj:∀j,(⟨g,o,none⟩:Addr).add j=⟨g,o+j,none⟩:=fun j=>by unfold Addr.add;split<;>simp_all
     refine⟨ds.drop (lo.toNat*GT.size α),?_,.inr ?_⟩
     ·have:∀(k:Nat) (xs:List α) (cs:List Value),k≤xs.length→bu M' w cs xs→bu M' w (cs.drop (k*GT.size α)) (xs.drop k):=by
       intro k
       induction k with
       |zero=>intro xs cs _ hc;simpa using hc
       |succ k ih=>
        intro xs cs hk hc
        cases xs with
        |nil=>simp at hk
        |cons q xs=>
         obtain⟨c1,c2,rfl,m1,m2⟩:=hc
         have:=ih xs c2 (by simpa using hk) m2
         rw[List.drop_succ_cons,show (k+1)*GT.size α=c1.length+k*GT.size α from by rw[GT.len m1,an'];omega,←aog,List.drop_left]
         exact this
      exact this _ _ _ aq k2
     ·by_cases rC:cc=lo.toNat
      ·rw[ann rC]
       have hz:xs.drop lo.toNat=[]:=aoU aq
       refine⟨g,o,cc-lo.toNat,cur,by rw[hlen],k4,k5,by rw[hlen];omega,by omega,?_,?_⟩
       ·have:(cc-lo.toNat)*GT.size α≤cc*GT.size α:=aom _ aq
        omega
       ·rw[hz,←k9]
        rw[gr,apP,apk,aoU]
        rw[gY]
        have:xs.length*GT.size α≤lo.toNat*GT.size α:=aom _ aq
        omega
      ·rw[anp rC]
       refine⟨g,o+lo.toNat*GT.size α,cc-lo.toNat,cur,by rw[hlen];simp[lj],k4,k5,by rw[hlen];omega,by omega,?_,?_⟩
       ·have:lo.toNat*GT.size α+(cc-lo.toNat)*GT.size α=cc*GT.size α:=by rw[←an'];congr 1;omega
        omega
       ·rw[←k9,hlen,aqg,aog]
        congr 1
        rw[←Nat.sub_mul]
   ·rw[anS ny,hj] at ra;cases ra;exact hh
theorem apQ (H:HI M0 w0 w l) (i:Nat) (hi:l[i]? =some (nC B e v xs)) (hB:B=w0.heap.size) (ox:bG n x=true) (oy:bG n y=true) (hx:ev f x=v) (hy:ev f y=u)
  (hs:Src (MS M0 l) w u ys) (gH:0<ys.length) (hu:P.underlying T=some (.slice e)) (F:ei P e (GT.size α) agg bytes z) (hz:z.cells.size=GT.size α) (hl:(xs.length+ys.length)*bytes≤140737488355328) (kQ:xs.length+ys.length≤9223372036854775807)
  (h:∀a c w',HI M0 w0 w' (l.set i (nC B e (.slice a (xs++ys).length c) (xs++ys)))→K (cb f d (.slice a (xs++ys).length c)) w'):
  SO P n ops ⟨some d,.call {callee:=.builtin .append,args:=#[x,y],argTypes:=#[T,T]},ty,ps,af,none⟩ f w K:=by
 subst hB
 obtain⟨cs,h2,h1⟩:=H.at_ i hi
 obtain⟨a0,c0,rfl,Fl⟩:=hs
 obtain⟨inf,su,tM,uZ,CP⟩:=F.info
 have ep:∀b,v.ownBlock=some b→w0.heap.size≤b∧b<w.heap.size:=H.jq _ (dB hi)
 obtain⟨ad,rfl,ds,tN,CQ⟩:∃ad,a0=some ad∧∃cs,bu (MS M0 l) w cs ys∧∀j u,cs[j]? =some u→w.cell? (ad.add j)=some u:=by
  rcases Fl with h0|h0
  ·omega
  ·exact h0
 have rC:=bu.length h2
 have yC:=bu.length tN
 have OU:∀(v':Value) (w':World) (B':Nat) (qs:List α) (M':Nat→Prop) (es:List Value),w0.heap.size≤B'→w'.ownsRow B' e (GT.size α) v' qs.length es→bu M' w' es qs→(nC w0.heap.size e v' qs).holds M' w':=by
  intro v' w' B' qs M' es hB' ho hc
  refine Oh ⟨es,⟨ho.1,?_⟩,hc⟩
  rcases ho.2 with h3|⟨g,cap,cur,rfl,h3,h4⟩
  ·exact .inl h3
  ·exact .inr ⟨g,cap,cur,J,Nat.le_trans hB' h3,h4⟩
 obtain⟨a',c',w',kH,rb,BN,afj⟩:∃a' c' w',(Builtin.append_ #[T,T] ty #[v,.slice (some ad) ys.length c0]).run P w=.ok (.slice a' (xs.length+ys.length) c') w'∧w.grownBy w' v.ownBlock∧
   ((Value.slice a' (xs.length+ys.length) c').ownBlock=v.ownBlock∨∀b,(Value.slice a' (xs.length+ys.length) c').ownBlock=some b→w.heap.size≤b∧b<w'.heap.size)∧
   ∀M',Up (MS M0 l) w M' w'→(nC w0.heap.size e (.slice a' (xs++ys).length c') (xs++ys)).holds M' w':=by
  rcases h1 with ⟨rfl,rfl⟩|⟨g,o,c,cur,rfl,h3,h4,h5,h6,h7,h8⟩
  ·obtain⟨v',w',r1,r2,r3,_,r4⟩:=run_append_own_at (P:=P) w w0.heap.size T ty e inf z (GT.size α) bytes hu su tM uZ CP hz GT.pos (.slice none 0 0) 0 [] (World.ownsRow_nil w _ e _) ad ys.length c0 ds yC CQ (bu.AY tN) (by simp only[maxLen];simp at kQ;omega) (by simpa using hl) H.below.size
   obtain⟨a',c',rfl⟩:=vD r2
   refine⟨a',c',w',by simpa using r1,r3,?_,fun M' qA=>?_⟩
   ·rcases r4 with hb|hb
    ·exact .inl (by simpa using hb)
    ·refine .inr fun b vT=>⟨?_,(r2.lt b<|by simpa using vT).2⟩
     simp only[gr,an5] at vT hb
     rw[hb] at vT;cases vT;exact anl _
   ·refine OU _ _ w0.heap.size _ M' ds (anl _) ?_ ?_
    ·simpa using r2
    ·simpa using bu.lift qA tN
  ·by_cases Qs:xs.length+ys.length≤c
   ·have V4:o+xs.length*GT.size α+ds.length≤cur.size:=by
     have:(xs.length+ys.length)*GT.size α≤c*GT.size α:=aom _ Qs
     rw[an'] at this
     omega
    have hf:=run_firstCells_some (P:=P) w inf.size ys.length ad ys.length c0 ds (by rw[uZ];exact yC) CQ
    rw[uZ] at hf
    have qB:=run_storeCells_at P g (o+xs.length*GT.size α) e ds 0 cur w h4 (by simpa using V4)<|bu.AY tN
    simp only[an0] at qB
    have lj:∀j,(⟨g,o,none⟩:Addr).add j=⟨g,o+j,none⟩:=fun j=>by unfold Addr.add;split<;>simp_all
    have kH:(Builtin.append_ #[T,T] ty #[.slice (some ⟨g,o,none⟩) xs.length c,.slice (some ad) ys.length c0]).run P w=.ok (.slice (some ⟨g,o,none⟩) (xs.length+ys.length) c) (w.setRow g (cur.toList.take (o+xs.length*GT.size α)++ds++cur.toList.drop (o+xs.length*GT.size α+ds.length)).toArray):=by
     simp[Builtin.append_,gG hu,sizeOf,typeInfo,su,Builtin.lenOf,Qs,hf,uZ,lj,qB]
    refine⟨_,_,_,kH,⟨J,J,J,by simp,fun k _ hk=>setRow_other w g k _ (fun e=>hk<|by simp[Value.ownBlock,e])⟩,.inl rfl,fun M' qA=>?_⟩
    refine⟨cs++ds,bu.append (bu.lift qA h2) (bu.lift qA tN),.inr ⟨g,o,c,_,J,h3,setRow_heap w g cur _ e _ h4,by rw[fA];exact Qs,h6,?_,?_⟩⟩
    ·simp only[aoQ,fA,gY,anI,an4]
     omega
    ·rw[fA,an',←yC]
     have acZ:cur.toList.length=cur.size:=by simp
     have e1:(cur.toList.take (o+xs.length*GT.size α)).length=o+xs.length*GT.size α:=by rw[gY];omega
     show List.take _ (List.drop o (cur.toList.take (o+xs.length*GT.size α)++ds++cur.toList.drop (o+xs.length*GT.size α+ds.length)))=_
     rw[anU,aqb aq,aqg,show o+xs.length*GT.size α-o=xs.length*GT.size α from by omega,h8]
     rw[←anU,apL (by rw[fA,rC])]
   ·have holds:∀j u,cs[j]? =some u→w.cell? ((⟨g,o,none⟩:Addr).add j)=some u:=by
     intro j u X'
     have lj:(⟨g,o,none⟩:Addr).add j=⟨g,o+j,none⟩:=by unfold Addr.add;split<;>simp_all
     rw[lj,cell_of_row w g _ cur e (0,0) h4]
     rw[←h8] at X'
     obtain⟨k1,k2⟩:=dC.1 X'
     rw[aoh (by rw[gY] at k1;omega),an2] at X'
     rw[←X',aox]
    obtain⟨v',w',r1,r2,r3⟩:=run_append_arg_grows (P:=P) w T ty e inf z (GT.size α) bytes hu su tM uZ CP hz GT.pos ⟨g,o,none⟩ xs.length c cs rC holds ad ys.length c0 ds yC CQ aq (by simp only[maxLen];omega) hl
    obtain⟨a',c',rfl⟩:=vD r2
    refine⟨a',c',w',r1,⟨r3.os,r3.tape,r3.output,r3.size,fun k hk _=>r3.block k hk (by simp)⟩,.inr fun b vT=>r2.lt b vT,fun M' qA=>?_⟩
    refine OU _ _ w.heap.size _ M' (cs++ds) H.below.size (by rw[fA];exact r2)<|bu.append (bu.lift qA h2)<|bu.lift qA tN
 refine SO.value (v:=.slice a' (xs.length+ys.length) c') (w':=w') ?_ ?_
 ·simp[execOp,resolve,invoke,builtin,aN ox,aN oy,hx,hy,kH]
 ·have:=h a' c' w'
  rw[fA] at this
  refine this ?_
  have hblk:∀b,(nC w0.heap.size e (.slice a' (xs.length+ys.length) c') (xs++ys)).jC=some b→b<w'.heap.size∧((nC w0.heap.size e v xs).jC=some b∨w.heap.size≤b):=by
   intro b hb
   rcases BN with BN|BN
   ·have vV:v.ownBlock=some b:=BN.symm.trans hb
    exact⟨anR (ep b vV).2 rb.size,.inl vV⟩
   ·exact⟨(BN b hb).2,.inr (BN b hb).1⟩
  refine H.vB i hi rb.os rb.tape rb.output rb.size (sf _ kH) (fun c hc gH=>rb.block c hc<|fun e=>gH e.symm) hblk ?_
  have h9:=afj (MS M0<|l.set i (nC w0.heap.size e (.slice a' (xs.length+ys.length) c')<|xs++ys)) ?_
  ·rw[fA] at h9;exact h9
  ·refine⟨rb.size,fun b hb hM=>⟨rb.block b hb (fun e=>hM<|.inr ⟨_,dB hi,e.symm⟩),?_⟩⟩
   rintro(CW|⟨it,hit,l9⟩)
   ·exact hM<|.inl CW
   ·rcases an_ hit with hit|rfl
    ·exact hM<|.inr ⟨it,hit,l9⟩
    ·rcases (hblk b l9).2 with h'|h'
     ·exact hM<|.inr ⟨_,dB hi,h'⟩
     ·omega
end
end Go.Ew
namespace Go.Ew
open Go.RowKit
section
variable {P:Program} {n:Nat} {ops:Array Oper} {f:aQ} {w:World} {K:aQ→World→Prop} {x y:Operand} {d:Nat} {ty T e:TypeId} {ps:String} {af:Array Edge} {v u:Value} {M M0:Nat→Prop} {w0:World} {l:List Item} {bytes:Nat} {z:Value} {B:Nat}
theorem cpO {xs ys:List (BitVec 64)} (H:HI M0 w0 w l) (i:Nat) (hi:l[i]? =some (own B e v xs)) (hB:B=w0.heap.size) (ox:bG n x=true) (oy:bG n y=true) (hx:ev f x=v) (hy:ev f y=u)
  (hs:Src (MS M0 l) w u ys) (hu:P.underlying T=some (.slice e)) (F:ei P e 1 false bytes z) (hl:ys.length=xs.length) (hp:0<xs.length)
  (h:∀w',HI M0 w0 w' (l.set i (own B e v ys))→K (cb f d (.int .i64 (ys.length:Int))) w'):
  SO P n ops ⟨some d,.call {callee:=.builtin .copy,args:=#[x,y],argTypes:=#[T,T]},ty,ps,af,none⟩ f w K:=by
 subst hB
 obtain⟨cs,h1,h2⟩:=H.at_ i hi
 obtain⟨a0,c0,rfl,Fl⟩:=hs
 obtain⟨inf,su,tM,uZ,CP⟩:=F.info
 rcases h1.2 with ⟨rfl,h3⟩|⟨g',cap,cur,rfl,h3,h4,h5,h6,h7,h8⟩
 ·omega
 ·rcases Fl with h0|⟨ad,rfl,ds,tN,CQ⟩
  ·omega
  ·have yC:ds.length=ys.length:=by have:=bu.length tN;simpa [GT.size] using this
   have pA:cur.size=cap:=by rw[h7];simp[GT.size]
   have kH:=run_copy_row (P:=P) w T T ty e g' 0 xs.length cap ad ys.length c0 cur e ds hu (by rw[su];simp[uZ]) h4 (by rw[yC,hl];simp) CQ aq<|bu.AY tN
   refine SO.value (v:=.int .i64 (ys.length:Int)) (w':=w.setRow g' (wr cur 0 ds)) ?_<|h _ ?_
   ·have z1:(Builtin.copy_ #[T,T] ty #[.slice (some ⟨g',0,none⟩) xs.length cap,.slice (some ad) ys.length c0]).run P w=.ok (.int .i64 (ys.length:Int)) (w.setRow g' (wr cur 0 ds)):=by
     rw[kH,←yC];rfl
    simp[execOp,resolve,invoke,builtin,aN ox,aN oy,hx,hy,z1]
   ·have CM:∀c,c<w.heap.size→(own w0.heap.size e (Value.slice (some ⟨g',0,none⟩) xs.length cap) xs).jC≠some c→(w.setRow g' (wr cur 0 ds)).heap[c]? =w.heap[c]?:=
     fun c hc gH=>setRow_other w g' c _ (fun e=>gH (by rw[e];rfl))
    have hblk:∀b,(own w0.heap.size e (Value.slice (some ⟨g',0,none⟩) xs.length cap) ys).jC=some b→b<(w.setRow g' (wr cur 0 ds)).heap.size∧((own w0.heap.size e (Value.slice (some ⟨g',0,none⟩) xs.length cap) xs).jC=some b∨w.heap.size≤b):=by
     intro b hb
     refine⟨?_,.inl hb⟩
     rw[size_setRow]
     exact(H.jq _ (dB hi) b hb).2
    refine H.vB i hi J J J (by simp) (anl _) CM hblk ?_
    refine⟨ds,⟨by simpa [GT.size] using yC,.inr ⟨g',cap,wr cur 0 ds,by rw[hl],h3,setRow_heap w g' cur _ e _ h4,by omega,h6,?_,?_⟩⟩,?_⟩
    ·simp only[wr,aoQ,fA,gY,anI,an4]
     omega
    ·simp only[wr]
     rw[apk,List.nil_append,an5,apL (by simpa [GT.size] using yC)]
    ·have qA:Up (MS M0 l) w (MS M0 (l.set i (own w0.heap.size e (Value.slice (some ⟨g',0,none⟩) xs.length cap) ys))) (w.setRow g' (wr cur 0 ds)):=by
      refine⟨by simp,fun b hb hM=>⟨setRow_other w g' b _ (fun e=>hM<|.inr ⟨_,dB hi,by rw[e];rfl⟩),?_⟩⟩
      rintro(CW|⟨it,hit,l9⟩)
      ·exact hM<|.inl CW
      ·rcases an_ hit with hit|rfl
       ·exact hM<|.inr ⟨it,hit,l9⟩
       ·exact hM<|.inr ⟨_,dB hi,l9⟩
     exact bu.lift qA tN
end
theorem Z2 {α:Type} {ss:List SV} {xs:List (List α)} {i k L:Nat} {s s2:SV} {x x2:List α} (hs:ss[i]? =some s) (gK:ss[k]? =some s2) (hx:xs[i]? =some x) (iA:xs[k]? =some x2):L+i≠L+k∨(s.v=s2.v∧x2=x):=by
 by_cases h:i=k
 ·subst h
  right
  rw[hs] at gK;rw[hx] at iA
  cases gK;cases iA
  exact⟨J,J⟩
 ·left;omega
end Go.Ew
namespace Go.Ew
open Go.RowKit
def l_ (a:Option Addr) (c lo:Nat):Option Addr:=if c=lo then a else a.map (·.add (lo*1))
def FE (xs:List Int) (k:Nat):List Int:=xs.take k++((xs.take k).take (xs.length-k)++xs.drop (k+min k (xs.length-k)))
theorem FQ (g j:Nat):(⟨g,0,none⟩:Addr).add j=⟨g,j,none⟩:=by unfold Addr.add;split<;>simp_all
theorem qW {M:Nat→Prop} {w:World}:∀(k:Nat) {xs:List Int} {cs:List Value},bu M w cs xs→bu M w (cs.take k) (xs.take k)∧bu M w (cs.drop k) (xs.drop k)
 |0,xs,cs,h=>⟨by rw[apk,apk];rfl,by simpa using h⟩
 |k+1,[],cs,h=>by
  rw[show cs=[] from h]
  exact⟨J,J⟩
 |k+1,x::xs,cs,h=>by
  obtain⟨c1,c2,rfl,h2,h3⟩:=h
  obtain⟨i1,i2⟩:=qW k h3
  obtain⟨e,hx⟩:=h2
  subst e
  exact⟨⟨[.int .i64 x],c2.take k,J,⟨J,hx⟩,i1⟩,i2⟩
section
variable {P:Program} {n:Nat} {ops:Array Oper} {f:aQ} {w:World} {K:aQ→World→Prop} {x y:Operand} {d:Nat} {ty T e:TypeId} {ps:String} {af:Array Edge} {v u:Value} {M M0:Nat→Prop} {w0:World} {l:List Item} {bytes:Nat} {z:Value} {B:Nat} {kk:IntKind} {agg:Bool} {xs ys:List Int} {a:Option Addr} {k c:Nat}
theorem Cq (hO:(own B e (.slice a k c) xs).holds M w):k=xs.length∧xs.length≤c:=by
 obtain⟨cs,h1,h2⟩:=hO
 rcases h1.2 with ⟨h3,h4⟩|⟨g,cap,cur,h3,h4,h5,h6,h7⟩
 ·cases h3;omega
 ·cases h3;exact⟨rfl,h6⟩
theorem E9 {α:Type} [GT α] {xs:List α} (hO:(own B e (.slice a k c) xs).holds M w):k=xs.length:=by
 obtain⟨cs,h1,h2⟩:=hO
 rcases h1.2 with ⟨h3,h4⟩|⟨g,cap,cur,h3,h4,h5,h6,h7⟩
 ·cases h3;omega
 ·cases h3;rfl
theorem abb {lo:Int} {qY:Operand} (hO:(own B e (.slice a k c) xs).holds M w) (ox:bG n x=true) (ol:bG n qY=true) (hx:ev f x=.slice a k c) (hl:ev f qY=.int kk lo) (hb:0≤lo∧lo≤xs.length) (hu:P.underlying T=some (.slice e)) (F:ei P e 1 agg bytes z)
  (h:K (cb f d (.slice (l_ a c lo.toNat) (k-lo.toNat) (c-lo.toNat))) w):
  SO P n ops ⟨some d,.slice T x (some qY) none none,ty,ps,af,none⟩ f w K:=by
 obtain⟨hk,hc⟩:=Cq hO
 refine SO.value (v:=.slice (l_ a c lo.toNat) (k-lo.toNat) (c-lo.toNat)) (w':=w) ?_ h
 have u1:P.underlying T=some (.slice (P.elem T)):=by rw[hu];simp[Program.elem,hu]
 have uh:P.elem T=e:=by simp[Program.elem,hu]
 simp[execOp,aN ox,aN ol,hx,hl,Instr.sliceAt,gG hu]
 have:=run_slice_l (P:=P) (w:=w) T a k c u1 kk lo hb.1 aq
 rw[uh,F.jm] at this
 simp[this,sliced,l_]
theorem abc {hi:Int} {oX:Operand} (hO:(own B e (.slice a k c) xs).holds M w) (ox:bG n x=true) (oh:bG n oX=true) (hx:ev f x=.slice a k c) (hh:ev f oX=.int kk hi) (hb:0≤hi∧hi≤xs.length) (hu:P.underlying T=some (.slice e)) (F:ei P e 1 agg bytes z)
  (h:K (cb f d (.slice (l_ a c 0) hi.toNat c)) w):
  SO P n ops ⟨some d,.slice T x none (some oX) none,ty,ps,af,none⟩ f w K:=by
 obtain⟨hk,hc⟩:=Cq hO
 refine SO.value (v:=.slice (l_ a c 0) hi.toNat c) (w':=w) ?_ h
 have u1:P.underlying T=some (.slice (P.elem T)):=by rw[hu];simp[Program.elem,hu]
 have uh:P.elem T=e:=by simp[Program.elem,hu]
 simp[execOp,aN ox,aN oh,hx,hh,Instr.sliceAt,gG hu]
 have:=run_slice_h (P:=P) (w:=w) T a k c u1 kk hi hb.1 aq
 rw[uh,F.jm] at this
 simp[this,sliced,l_]
theorem HI.Lh (H:HI M0 w0 w l) (i:Nat) {g cap:Nat} {cur:Array Value} {cs ds:List Value} {o:Nat} (hi:l[i]? =some (own w0.heap.size e (.slice (some ⟨g,0,none⟩) xs.length cap) xs))
  (h3:w0.heap.size≤g) (h4:w.heap[g]? =some (.cells cur e (0,0))) (h5:xs.length≤cap) (h6:cap≤maxLen) (h7:cur.size=cap) (h8:cur.toList.take xs.length=cs)
  (hc:bu (MS M0 l) w cs xs) (hd:bu (MS M0 l) w ds ys) (ho:o+ys.length≤xs.length):
  HI M0 w0 (w.setRow g (cur.toList.take o++ds++cur.toList.drop (o+ds.length)).toArray) (l.set i (own w0.heap.size e (.slice (some ⟨g,0,none⟩) xs.length cap) (xs.take o++(ys++xs.drop (o+ys.length))))):=by
 have yC:ds.length=ys.length:=by have:=bu.length hd;simpa [GT.size] using this
 have rC:cs.length=xs.length:=by have:=bu.length hc;simpa [GT.size] using this
 have GA:(xs.take o++(ys++xs.drop (o+ys.length))).length=xs.length:=by simp;omega
 have acZ:cur.toList.length=cap:=by simpa using h7
 have CM:∀q,q<w.heap.size→(own w0.heap.size e (Value.slice (some ⟨g,0,none⟩) xs.length cap) xs).jC≠some q→(w.setRow g (cur.toList.take o++ds++cur.toList.drop (o+ds.length)).toArray).heap[q]? =w.heap[q]?:=
  fun q hq gH=>setRow_other w g q _ (fun e=>gH (by rw[e];rfl))
 refine H.vB i hi J J J (by simp) (anl _) CM ?_ ?_
 ·intro b hb
  refine⟨?_,.inl hb⟩
  rw[size_setRow]
  exact(H.jq _ (dB hi) b hb).2
 ·have qA:Up (MS M0 l) w (MS M0 (l.set i (own w0.heap.size e (Value.slice (some ⟨g,0,none⟩) xs.length cap) (xs.take o++(ys++xs.drop (o+ys.length)))))) (w.setRow g (cur.toList.take o++ds++cur.toList.drop (o+ds.length)).toArray):=by
   refine⟨by simp,fun b hb hM=>⟨setRow_other w g b _ (fun e=>hM<|.inr ⟨_,dB hi,by rw[e];rfl⟩),?_⟩⟩
   rintro(CW|⟨it,hit,l9⟩)
   ·exact hM<|.inl CW
   ·rcases an_ hit with hit|rfl
    ·exact hM<|.inr ⟨it,hit,l9⟩
    ·exact hM<|.inr ⟨_,dB hi,l9⟩
  refine⟨cs.take o++(ds++cs.drop (o+ds.length)),⟨by simp[GT.size];omega,.inr ⟨g,cap,_,by rw[GA],h3,setRow_heap w g cur _ e _ h4,by omega,h6,?_,?_⟩⟩,?_⟩
  ·simp only[aoQ,fA,gY,anI,GT.size]
   omega
  ·rw[GA]
   show (cur.toList.take o++ds++cur.toList.drop (o+ds.length)).take (xs.length*1)=_
   rw[←h8,apu,anU,apC,apC,gY,aon aq,aoO,aoO,aqg,ant (by omega:ds.length≤xs.length-o),Nat.min_comm o xs.length,
    show xs.length-o-ds.length=xs.length-(o+ds.length) from by omega]
  ·have e9:xs.drop (o+ys.length)=xs.drop (o+ds.length):=by rw[yC]
   have q:=bu.lift qA (qW (o+ds.length) hc).2
   exact bu.append (bu.lift qA (qW o hc).1)<|bu.append (bu.lift qA hd)<|(ani (fun r=>bu _ _ _ r) e9).mpr q
theorem aju (H:HI M0 w0 w l) (i:Nat) (hi:l[i]? =some (own B e (.slice a k c) xs)) (hB:B=w0.heap.size) (ox:bG n x=true) (oy:bG n y=true) (hx:ev f x=.slice a k c) (hy:ev f y=u)
  (hs:Src (MS M0 l) w u ys) (hu:P.underlying T=some (.slice e)) (F:ei P e 1 agg bytes z) (hl:ys.length≤xs.length) (hp:0<ys.length)
  (h:∀w',HI M0 w0 w' (l.set i (own B e (.slice a k c) (ys++xs.drop ys.length)))→K (cb f d (.int .i64 (ys.length:Int))) w'):
  SO P n ops ⟨some d,.call {callee:=.builtin .copy,args:=#[x,y],argTypes:=#[T,T]},ty,ps,af,none⟩ f w K:=by
 subst hB
 obtain⟨cs,h1,h2⟩:=H.at_ i hi
 obtain⟨a0,c0,rfl,Fl⟩:=hs
 obtain⟨inf,su,tM,uZ,CP⟩:=F.info
 rcases h1.2 with ⟨h0,h3⟩|⟨g',c1,cur,h0,h3,h4,h5,h6,h7,h8⟩
 ·omega
 ·cases h0
  rcases Fl with h0|⟨ad,rfl,ds,tN,CQ⟩
  ·omega
  ·have yC:ds.length=ys.length:=by have:=bu.length tN;simpa [GT.size] using this
   have pA:cur.size=c:=by rw[h7];simp[GT.size]
   have kH:=run_copy_row (P:=P) w T T ty e g' 0 xs.length c ad ys.length c0 cur e ds hu (by rw[su];simp[uZ]) h4 (by rw[yC];simp[aon hl]) CQ aq<|bu.AY tN
   refine SO.value (v:=.int .i64 (ys.length:Int)) (w':=w.setRow g' (cur.toList.take 0++ds++cur.toList.drop (0+ds.length)).toArray) ?_<|h _ ?_
   ·have z1:(Builtin.copy_ #[T,T] ty #[.slice (some ⟨g',0,none⟩) xs.length c,.slice (some ad) ys.length c0]).run P w=.ok (.int .i64 (ys.length:Int)) (w.setRow g' (cur.toList.take 0++ds++cur.toList.drop (0+ds.length)).toArray):=by
     rw[kH,←yC];rfl
    simp[execOp,resolve,invoke,builtin,aN ox,aN oy,hx,hy,z1]
   ·rw[show ys++xs.drop ys.length=xs.take 0++(ys++xs.drop (0+ys.length)) from by simp]
    exact HI.Lh (ys:=ys) (ds:=ds) (o:=0) H i hi h3 h4 h5 h6 pA (by simpa [GT.size] using h8) h2 tN aq
theorem ajv (H:HI M0 w0 w l) (i:Nat) (hi:l[i]? =some (own B e (.slice a k c) xs)) (hB:B=w0.heap.size) (ox:bG n x=true) (oy:bG n y=true) {q:Nat} (hx:ev f x=.slice (l_ a c q) (k-q) (c-q)) (hy:ev f y=.slice (l_ a c 0) q c)
  (hu:P.underlying T=some (.slice e)) (F:ei P e 1 agg bytes z) (hq:0<q∧q<xs.length)
  (h:∀w',HI M0 w0 w' (l.set i (own B e (.slice a k c) (FE xs q)))→K (cb f d (.int .i64 ((min q (xs.length-q):Nat):Int))) w'):
  SO P n ops ⟨some d,.call {callee:=.builtin .copy,args:=#[x,y],argTypes:=#[T,T]},ty,ps,af,none⟩ f w K:=by
 subst hB
 obtain⟨cs,h1,h2⟩:=H.at_ i hi
 obtain⟨inf,su,tM,uZ,CP⟩:=F.info
 rcases h1.2 with ⟨h0,h3⟩|⟨g',c1,cur,h0,h3,h4,h5,h6,h7,h8⟩
 ·omega
 ·cases h0
  have pA:cur.size=c:=by rw[h7];simp[GT.size]
  have lj:∀j,(⟨g',0,none⟩:Addr).add j=⟨g',j,none⟩:=FQ g'
  have Te:l_ (some ⟨g',0,none⟩) c q=some ⟨g',q,none⟩:=by unfold l_;rw[anp aq,apu];show some (Addr.add _ q)=_;rw[lj]
  have hcB:l_ (some ⟨g',0,none⟩) c 0=some ⟨g',0,none⟩:=by unfold l_;rw[anp aq];show some (Addr.add _ (0*1))=_;rw[lj]
  rw[Te] at hx;rw[hcB] at hy
  have rC:cs.length=xs.length:=by have:=bu.length h2;simpa [GT.size] using this
  have hd:bu (MS M0 l) w ((cs.take q).take (xs.length-q)) ((xs.take q).take (xs.length-q)):=(qW _ (qW q h2).1).1
  have sx:((cs.take q).take (xs.length-q)).length=min q (xs.length-q):=by simp;omega
  have kH:=run_copy_row (P:=P) w T T ty e g' q (xs.length-q) (c-q) ⟨g',0,none⟩ q c cur e ((cs.take q).take (xs.length-q)) hu (by rw[su];simp[uZ]) h4 (by rw[sx]) (by
   intro j v hv
   have xp:=(dC.1 hv).1
   rw[sx] at xp
   rw[aoh aq,aoh aq,←h8,aoh (by simp[GT.size];omega)] at hv
   rw[lj,cell_of_row w g' _ cur e (0,0) h4,←hv,aox]) (by rw[sx];omega) (bu.AY hd)
  refine SO.value (v:=.int .i64 ((min q (xs.length-q):Nat):Int)) (w':=w.setRow g' (cur.toList.take q++(cs.take q).take (xs.length-q)++cur.toList.drop (q+((cs.take q).take (xs.length-q)).length)).toArray) ?_<|h _ ?_
  ·have z1:(Builtin.copy_ #[T,T] ty #[.slice (some ⟨g',q,none⟩) (xs.length-q) (c-q),.slice (some ⟨g',0,none⟩) q c]).run P w=.ok (.int .i64 ((min q (xs.length-q):Nat):Int)) (w.setRow g' (cur.toList.take q++(cs.take q).take (xs.length-q)++cur.toList.drop (q+((cs.take q).take (xs.length-q)).length)).toArray):=by
    rw[kH,sx];rfl
   simp[execOp,resolve,invoke,builtin,aN ox,aN oy,hx,hy,z1]
  ·have:=HI.Lh (ys:=(xs.take q).take (xs.length-q)) (o:=q) H i hi h3 h4 h5 h6 pA (by simpa [GT.size] using h8) h2 hd<|by simp;omega
   rw[show ((xs.take q).take (xs.length-q)).length=min q (xs.length-q) from by simp;omega] at this
   exact this
end
end Go.Ew
namespace Go.Ew
open Go.RowKit
def FPH (P:Program) (g:FuncId) (ae:List Value) (M:Nat→Prop) (w:World) (it:List Int→Item) (r:List Item) (xs:List Int) (p:Int→Bool):Prop:=
 cu P g∧∀w1 ys,HI M w w1 ([it ys]++r)→∀x,x∈xs→aM x→Calls P g ([Value.int .i64 x]++ae).toArray w1 (cg fun u w2=>u=.bool (p x)∧Ext w1 w2)
theorem FPH.fp {P:Program} {g:FuncId} {ae:List Value} {M M':Nat→Prop} {w w1:World} {it:List Int→Item} {r:List Item} {xs ys:List Int} {p:Int→Bool} (h:FPH P g ae M w it r xs p) (H:HI M w w1 ([it ys]++r)):FP P g ae M' w1 xs p:=
 ⟨h.1,fun w2 v x hx e hv=>by
  obtain⟨cs,⟨e1,hi⟩,e2⟩:=hv
  rw[e1] at e2
  cases e2
  exact h.2 w2 ys (H.ext e) x hx hi⟩
theorem JH (v:Value):∀n,(Builtin.zeroCells #[v] n).toList=List.replicate n v:=by
 intro n
 unfold Builtin.zeroCells
 apply anT
 intro i
 simp only[Array.toList_map,anu,Array.toList_range,ao6]
 by_cases h:i<n
 ·rw[aoi (by simpa using h),ann h]
  simp[Nat.mod_one]
 ·rw[anz (by simpa using h),anp h];rfl
section
variable {P:Program} {n:Nat} {ops:Array Oper} {f:aQ} {w:World} {K:aQ→World→Prop} {x y:Operand} {d:Nat} {ty T e:TypeId} {ps:String} {af:Array Edge} {v u:Value} {M M0:Nat→Prop} {w0:World} {l:List Item} {bytes:Nat} {B:Nat} {kk:IntKind} {agg:Bool} {xs ys:List Int} {a:Option Addr} {k c:Nat}
theorem ae1 {hi:Int} {oX:Operand} (H:HI M0 w0 w l) (i:Nat) (oK:l[i]? =some (own B e (.slice a k c) xs)) (ox:bG n x=true) (oh:bG n oX=true) (hx:ev f x=.slice a k c) (hh:ev f oX=.int kk hi) (hb:0≤hi∧hi≤xs.length) (hu:P.underlying T=some (.slice e)) (F:ei P e 1 agg bytes (.int .i64 0))
  (h:HI M0 w0 w (l.set i (own B e (.slice a (xs.take hi.toNat).length c) (xs.take hi.toNat)))→K (cb f d (.slice a (xs.take hi.toNat).length c)) w):
  SO P n ops ⟨some d,.slice T x none (some oX) none,ty,ps,af,none⟩ f w K:=by
 have hO:=H.at_ i oK
 have jF:=(dC.1 oK).1
 have hlen:(xs.take hi.toNat).length=hi.toNat:=by simp;omega
 have Fp:l_ a c 0=a:=by
  unfold l_
  split
  ·rfl
  ·obtain⟨cs,h1,h2⟩:=hO
   rcases h1.2 with ⟨h3,h4⟩|⟨g,cap,cur,h3,h4⟩
   ·cases h3;rfl
   ·cases h3
    show some (Addr.add _ (0*1))=_
    rw[FQ]
 refine abc hO ox oh hx hh hb hu F ?_
 rw[Fp]
 rw[hlen] at h
 refine h ?_
 refine H.weaken ?_ ?_
 ·apply anT
  intro j
  rw[anu,anu]
  by_cases hj:i=j
  ·subst hj;rw[anB jF,oK];cases a<;>rfl
  ·rw[anS hj]
 ·intro j it nu hj ra M S9
  by_cases qe:i=j
  ·subst qe
   rw[anB jF] at ra
   rw[oK] at hj
   cases hj;cases ra
   obtain⟨cs,h1,h2⟩:=S9
   have rC:=bu.length h2
   refine⟨cs.take hi.toNat,⟨by rw[hlen];simp only[GT.size] at rC ⊢;rw[gY];omega,?_⟩,(qW _ h2).1⟩
   rcases h1.2 with ⟨h3,h4⟩|⟨g,cap,cur,h3,h4,h5,h6,h7,h8,h9⟩
   ·cases h3
    refine .inl ⟨by rw[show hi.toNat=0 from by omega],by rw[hlen];omega⟩
   ·cases h3
    refine .inr ⟨g,c,cur,by rw[hlen],h4,h5,by omega,h7,h8,?_⟩
    rw[←h9,hlen,aoO]
    congr 1
    simp only[GT.size];omega
  ·rw[anS qe,hj] at ra;cases ra;exact S9
theorem clO (H:HI M0 w0 w l) (i:Nat) (hi:l[i]? =some (own B e (.slice a k c) xs)) (hB:B=w0.heap.size) (ox:bG n x=true) {q:Nat} (hx:ev f x=.slice (l_ a c q) (k-q) (c-q))
  (hu:P.underlying T=some (.slice e)) (F:ei P e 1 agg bytes (.int .i64 0)) (hq:q≤xs.length)
  (h:∀w',HI M0 w0 w' (l.set i (own B e (.slice a k c) (xs.take q++(List.replicate (xs.length-q) 0++[]))))→K f w'):
  SO P n ops ⟨none,.call {callee:=.builtin .clear,args:=#[x],argTypes:=#[T]},ty,ps,af,none⟩ f w K:=by
 subst hB
 have hO:=H.at_ i hi
 have jF:=(dC.1 hi).1
 obtain⟨hk,hc⟩:=Cq hO
 obtain⟨cs,h1,h2⟩:=hO
 by_cases nw:q=xs.length
 ·have hz:k-q=0:=by omega
  refine SO.value (d:=none) (v:=.tuple #[]) (w':=w) ?_<|h w ?_
  ·have z1:(Builtin.clear_ #[T] ty #[.slice (l_ a c q) 0 (c-q)]).run P w=.ok (.tuple #[]) w:=by
    cases hca:l_ a c q<;>simp[Builtin.clear_,run_underlying hu]
   rw[hz] at hx
   simp[execOp,resolve,invoke,builtin,aN ox,hx,z1]
  ·have e9:xs.take q++(List.replicate (xs.length-q) 0++[])=xs:=by rw[nw];simp
   rw[e9]
   have:l.set i (own w0.heap.size e (.slice a k c) xs)=l:=by
    apply anT
    intro j
    by_cases hj:i=j
    ·subst hj;rw[anB jF,hi]
    ·rw[anS hj]
   rw[this];exact H
 ·rcases h1.2 with ⟨h0,h3⟩|⟨g',c1,cur,h0,h3,h4,h5,h6,h7,h8⟩
  ·omega
  ·cases h0
   have pA:cur.size=c:=by rw[h7];simp[GT.size]
   have Te:l_ (some ⟨g',0,none⟩) c q=some ⟨g',q,none⟩:=by unfold l_;rw[anp aq,apu];show some (Addr.add _ q)=_;rw[FQ]
   rw[Te] at hx
   have hz:bu (MS M0 l) w (List.replicate (xs.length-q) (Value.int .i64 0)) (List.replicate (xs.length-q) (0:Int)):=by
    have:∀m,bu (MS M0 l) w (List.replicate m (Value.int .i64 0)) (List.replicate m (0:Int)):=by
     intro m
     induction m with
     |zero=>rfl
     |succ m ih=>exact⟨[.int .i64 0],List.replicate m (.int .i64 0),by rw[aob];rfl,⟨rfl,by unfold aM;omega⟩,ih⟩
    exact this _
   have qB:=run_storeCells_at P g' q e (List.replicate (xs.length-q)<|Value.int .i64 0) 0 cur w h4 (by rw[od];omega)<|bu.AY hz
   refine SO.value (d:=none) (v:=.tuple #[]) (w':=w.setRow g' (cur.toList.take q++List.replicate (xs.length-q) (Value.int .i64 0)++cur.toList.drop (q+(List.replicate (xs.length-q)<|Value.int .i64 0).length)).toArray) ?_<|h _ ?_
   ·obtain⟨m,hm⟩:∃m,xs.length-q=m+1:=⟨xs.length-q-1,by omega⟩
    have z1:(Builtin.clear_ #[T] ty #[.slice (some ⟨g',q,none⟩) (xs.length-q) (c-q)]).run P w=.ok (.tuple #[]) (w.setRow g' (cur.toList.take q++List.replicate (xs.length-q) (Value.int .i64 0)++cur.toList.drop (q+(List.replicate (xs.length-q) (Value.int .i64 0)).length)).toArray):=by
     have rD:(Builtin.zeroCells (Value.int .i64 0).cells (xs.length-q)).toList=List.replicate (xs.length-q) (Value.int .i64 0):=JH _ _
     rw[an0] at qB
     rw[hm] at qB rD ⊢
     simp[Builtin.clear_,run_underlying hu,F.tU,rD,qB]
    simp[execOp,resolve,invoke,builtin,aN ox,hx,z1]
   ·have:=HI.Lh (ys:=List.replicate (xs.length-q) 0) (ds:=List.replicate (xs.length-q) (Value.int .i64 0)) (o:=q) H i hi h3 h4 h5 h6 pA (by simpa [GT.size] using h8) h2 hz<|by rw[od];omega
    have e8:xs.drop (q+(List.replicate (xs.length-q) (0:Int)).length)=[]:=by rw[od];exact aoU aq
    rw[e8] at this
    exact this
end
end Go.Ew
namespace Go.Ew
def ka (i:Int):BitVec 64:=if 0≤i∧i≤63 then 1#64 <<< i.toNat else 0#64
theorem IV {i:Int} (h:aM i):((BitVec.ofInt 64 i).toNat:Int)=if 0≤i then i else i+18446744073709551616:=by
 rw[←yX,IntKind.wrap_u64];unfold aM at h;split<;>omega
theorem aaD {i:Int} (h:aM i) (h1:63<(BitVec.ofInt 64 i).toNat):0#64=ka i:=by
 unfold ka;rw[anp];have:=IV h;unfold aM at h;split at this<;>omega
theorem aaC {i:Int} (h:aM i) (h1:¬63<(BitVec.ofInt 64 i).toNat):1#64 <<< ((BitVec.ofInt 64 i).toNat:Int).toNat=ka i:=by
 have h2:=IV h
 unfold ka;unfold aM at h
 split at h2
 ·rw[ann aq];congr 1;omega
 ·omega
def xy (w:BitVec 64) (i:Int):Bool:=decide (0≤i)&&w.getLsbD i.toNat
theorem aaH (w:BitVec 64) (k:Nat) (hk:k<64):(w &&& 1#64 <<< k=0#64)↔w.getLsbD k=false:=by
 constructor
 ·intro h
  have:=ani (·.getLsbD k) h
  simpa [hk] using this
 ·intro h
  apply apo
  intro j hj
  simp only[apt,apV,BitVec.getLsbD_zero]
  by_cases Je:j=k
  ·subst Je;simp[h]
  ·by_cases ep:j<k
   ·simp[ep]
   ·have:j-k≠0:=by omega
    simp[this]
theorem Z7 (w:BitVec 64) (i:Int):(!decide (w &&& ka i=0#64))=xy w i:=by
 unfold ka xy
 by_cases h:0≤i∧i≤63
 ·rw[ann h,anH]
  have:=aaH w i.toNat aq
  simp[this,h.1]
 ·rw[anp h]
  by_cases h0:0≤i
  ·have:w.getLsbD i.toNat=false:=BitVec.getLsbD_of_ge w _ aq
   simp[this]
  ·simp[h0]
abbrev Row:=List (BitVec 64)
def fg (r:Row) (i:Int):Bool:=decide (0≤i)&&(r.getD (i.toNat/64) 0#64).getLsbD (i.toNat%64)
def jr (r:Row) (i:Int):Bool:=decide (0≤i∧i<64*(r.length:Int))
theorem Z4 {r:Row} {i:Int} (h:0≤i):decide (i/64<(r.length:Int))=jr r i:=by
 unfold jr;congr 1;apply propext;omega
theorem ab_ {r:Row} {i:Int} (h:i<0):false=jr r i:=by
 unfold jr;simp;omega
theorem Z_ {r:Row} {i:Int} (h:jr r i=true) {x:BitVec 64} (hx:r[(i/64).toNat]? =some x):xy x (i%64)=fg r i:=by
 unfold jr at h;simp only[ank] at h
 unfold xy fg
 have e1:(i/64).toNat=i.toNat/64:=by omega
 have e2:(i%64).toNat=i.toNat%64:=by omega
 rw[e1] at hx
 rw[e2,gZ,hx]
 simp[h.1,ap']
theorem xz {r:Row} {i:Int} (h:jr r i=false):false=fg r i:=by
 unfold jr at h;simp only[anw] at h
 unfold fg
 by_cases h0:0≤i
 ·rw[gZ,anz aq];simp
 ·simp[h0]
def eb (r:Row) (i:Int):Row:=if jr r i then r.set (i.toNat/64) (r.getD (i.toNat/64) 0#64 ||| ka (i%64)) else r
theorem N4 {r:Row} {i:Int} (h:jr r i=true) {x:BitVec 64} (hx:r[(i/64).toNat]? =some x):r.set (i/64).toNat (x ||| ka (i%64))=eb r i:=by
 unfold eb;rw[ann h]
 unfold jr at h;simp only[ank] at h
 have e1:(i/64).toNat=i.toNat/64:=by omega
 rw[e1] at hx
 rw[e1,gZ,hx];rfl
theorem EX {r:Row} {i:Int} (h:jr r i=false):r=eb r i:=by
 unfold eb;rw[anp (by simp[h])]
end Go.Ew
namespace Go.Ew
def WI (x:Nat):Nat→Nat
 |0=>0
 |k+1=>WI x k+(x.testBit k).toNat
def Ak (x:BitVec 64):Nat:=WI x.toNat 64
def rep (m:Nat):Nat→Nat
 |0=>0
 |n+1=>m+256*rep m n
def s1 (n x:Nat):Nat:=(x/2 &&& rep 0x55 n)+(x &&& rep 0x55 n)
def s2 (n x:Nat):Nat:=(x/4 &&& rep 0x33 n)+(x &&& rep 0x33 n)
def s3 (n x:Nat):Nat:=(x/16+x) &&& rep 0x0f n
def Kl (a:Nat):Nat:=(a/2 &&& 0x55)+(a &&& 0x55)
def Kk (a:Nat):Nat:=(a/4 &&& 0x33)+(a &&& 0x33)
theorem b3:∀a<256,Kk (Kl a)<69∧Kk (Kl a)%16<5∧Kk (Kl a)%16+Kk (Kl a)/16=WI a 8:=by decide +kernel
theorem d1 {a b:Nat} (h:a<256):(a+256*b)/256=b:=by omega
theorem d2 {a b c:Nat} (h:a<256) (h':b<256):(a+256*(b+256*c))/65536=c:=by omega
end Go.Ew
namespace Go.Ew
def C8 (r:Row):Nat:=(r.map Ak).sum
def ae7 (x y:BitVec 64):Bool:=decide (x &&& ~~~y=0#64)
def aeV (a b:Row) (i:Nat):Bool:=ae7 (a.getD i 0#64) (b.getD i 0#64)
def aeU (a b:Row) (k:Nat):Bool:=(List.range k).all (aeV a b)
def KP (a b:Row):Bool:=aeU a b a.length
theorem wG {r:Row} {k:Nat} {x:BitVec 64} (h:r[((k:Nat):Int).toNat]? =some x):r.getD k 0#64=x:=by
 rw[dv] at h;rw[gZ,h];rfl
theorem r7 {r:Row} {k:Nat} (h:r.length≤k):r.getD k 0#64=0#64:=by
 rw[gZ,anz h];rfl
def words (n:Int):Nat:=((max n 0+63)/64).toNat
def d_ (n:Int):Row:=List.replicate (words n) 0#64
theorem Ga (x:BitVec 64) (i j:Nat) (hi:i<64) (hj:j<64):(x ||| ka (i:Int)).getLsbD j=(x.getLsbD j||decide (j=i)):=by
 unfold ka
 rw[ann aq,BitVec.getLsbD_or,apV,dv]
 congr 1
 by_cases h:j=i
 ·subst h;simp[hi]
 ·by_cases h2:j<i
  ·simp[h,h2]
  ·have:j-i≠0:=by omega
   simp[h,h2,this,hj]
theorem ku (r:Row) (i:Int):(eb r i).length=r.length:=by unfold eb;split<;>simp
theorem OJ (r:Row) (i j:Int):jr (eb r i) j=jr r j:=by unfold jr;rw[ku]
theorem K5 {r:Row} {i:Int} (h:jr r i=true) (k:Nat) (hk:k<r.length):(eb r i).getD k 0#64=if k=i.toNat/64 then r.getD k 0#64 ||| ka ((i.toNat%64:Nat):Int) else r.getD k 0#64:=by
 unfold eb;rw[ann h]
 unfold jr at h;simp only[ank] at h
 have e:i%64=((i.toNat%64:Nat):Int):=by omega
 simp only[gZ]
 by_cases Aa:k=i.toNat/64
 ·subst Aa
  rw[anB hk,ann rfl,e];rfl
 ·rw[anS (fun e=>Aa e.symm),anp Aa]
theorem JN {r:Row} {i:Int}:fg (eb r i) i=jr r i:=by
 by_cases h:jr r i=true
 ·have h':=h
  unfold jr at h';simp only[ank] at h'
  have hm:i.toNat%64<64:=Nat.mod_lt _ aw
  rw[h];unfold fg
  rw[K5 h _ aq,ann rfl,Ga _ _ _ hm hm]
  simp[h'.1]
 ·have h2:jr (eb r i) i=false:=by rw[OJ];simpa using h
  rw[←xz h2];simpa using h
theorem QC {r:Row} {i:Int} (h:fg r i=true):jr r i=true:=by
 cases h1:jr r i with
 |true=>rfl
 |false=>rw[←xz h1] at h;cases h
end Go.Ew
namespace Go.Ew
abbrev Rows:=List (List (BitVec 64))
def Cr (n k:Int):Bool:=decide (k<0)||decide (n≤k)
def ko (n:Int) (l:List Int):Bool:=!l.any (Cr n)
theorem jh {n a b:Int}:ko n [a,b]=true↔(0≤a∧a<n)∧(0≤b∧b<n):=by
 unfold ko Cr
 simp
theorem j4 {n a b:Int}:ko n [a,b]=false↔¬((0≤a∧a<n)∧(0≤b∧b<n)):=by
 rw[←jh];simp
def rowAt (rs:Rows) (i:Int):Row:=rs.getD i.toNat []
theorem rX {rs:Rows} {i:Int} {x:Row} (h:rs[i.toNat]? =some x):rowAt rs i=x:=by unfold rowAt;rw[gZ,h];rfl
def rj (rs:Rows) (p:Int×Int):Rows:=rs.set p.1.toNat (eb (rowAt rs p.1) p.2)
theorem Nk (rs:Rows) (p:Int×Int):(rj rs p).length=rs.length:=by unfold rj;simp
theorem Hy {rs:Rows} {i j:Int} {x:Row} (h:rs[i.toNat]? =some x):rs.set i.toNat (eb x j)=rj rs (i,j):=by unfold rj;rw[rX h]
def Cw (n:Int):Bool:=decide (0≤n)&&decide (n≤4096)
theorem sh {n:Int}:Cw n=true↔0≤n∧n≤4096:=by unfold Cw;simp
theorem zS {n:Int}:Cw n=false↔¬(0≤n∧n≤4096):=by rw[←sh];simp
def vF (n:Int):Rows:=List.replicate n.toNat (d_ n)
def ou (n:Int):Int:=if Cw n then n else 0
def iK (n:Int):Rows:=if Cw n then vF n else []
def rN (n:Int):Int:=if Cw n then 0 else 1
theorem xf {n:Int} (h:Cw n=true):ou n=n∧iK n=vF n∧rN n=0:=by simp[ou,iK,rN,h]
theorem wC {n:Int} (h:Cw n=false):ou n=0∧iK n=[]∧rN n=1:=by simp[ou,iK,rN,h]
theorem pR (n:Int):(vF n).length=n.toNat:=by unfold vF;simp
def ve {α:Type} (m k:Nat) (a b:α):List α:=List.replicate k a++List.replicate (m-k) b
theorem NH {α:Type} (m:Nat) (a b:α):List.replicate m b=ve m 0 a b:=by simp[ve]
theorem QY {α:Type} {m k:Nat} {a b:α} (h:k<m):(ve m k a b).set k a=ve m (k+1) a b:=by
 unfold ve
 obtain⟨q,hq⟩:∃q,m-k=q+1:=⟨m-k-1,by omega⟩
 rw[hq,aoH _ _ (by simp),show m-(k+1)=q from by omega,od,aol,aob,ao9,List.replicate_succ',anU]
 rfl
theorem QZ {α:Type} {m k:Nat} {a b:α} (h:k=m):ve m k a b=List.replicate m a:=by subst h;simp[ve]
def foldM (n:Int) (ps:List (Int×Int)):Rows:=ps.foldl rj (vF n)
theorem vX:∀(ps:List (Int×Int)) (rs:Rows),(ps.foldl rj rs).length=rs.length
 |[],_=>rfl
 |p::ps,rs=>by rw[apN,vX ps,Nk]
theorem C0 (n:Int) (ps:List (Int×Int)):(foldM n ps).length=n.toNat:=by unfold foldM;rw[vX,pR]
theorem QU {n:Int} {ps:List (Int×Int)} {j:Nat} {p:Int×Int} (h:ps[((j:Nat):Int).toNat]? =some p):foldM n (ps.take (j+1))=rj (foldM n (ps.take j)) p:=by
 unfold foldM;rw[nH h,apg];rfl
theorem FO {α:Type} {l:List α} {q:α→Bool} {j:Nat} {x:α} (h:l[((j:Nat):Int).toNat]? =some x) (h1:(l.take j).all q=true) (h2:q x=true):(l.take (j+1)).all q=true:=by
 rw[nH h,List.all_append,h1];simp[h2]
theorem MV {α:Type} {l:List α} {q:α→Bool} {i:Nat} {x:α} (h:l[i]? =some x) (h2:q x=false):l.all q=false:=by
 rw[List.all_eq_false];exact⟨x,dB h,by simp[h2]⟩
theorem RO {m:Nat} {rs:Rows} {p:Int×Int} (h:∀x∈rs,x.length=m):∀x∈rj rs p,x.length=m:=by
 intro x hx
 unfold rj at hx
 by_cases hi:p.1.toNat<rs.length
 ·rcases an_ hx with hx|rfl
  ·exact h x hx
  ·rw[ku]
   unfold rowAt
   rw[gZ,eB hi]
   exact h _<|apE hi
 ·rw[List.set_eq_of_length_le aq] at hx
  exact h x hx
theorem yH {m:Nat}:∀(ps:List (Int×Int)) (rs:Rows),(∀x∈rs,x.length=m)→∀x∈ps.foldl rj rs,x.length=m
 |[],_,h=>h
 |p::ps,rs,h=>by rw[apN];exact yH ps _ (RO h)
theorem pQ (n:Int):(d_ n).length=words n:=by unfold d_;simp
theorem Ty {n:Int} {ps:List (Int×Int)} {i:Nat} {x:Row} (h:(foldM n ps)[i]? =some x):x.length=words n:=
 yH ps (vF n) (by
  intro x hx
  unfold vF at hx
  rw[List.eq_of_mem_replicate hx,pQ]) x (dB h)
theorem ER {n:Int} (h:n≤4096):words n≤64:=by unfold words;omega
def ie (n:Int) (i j:Int):Int:=if ko n [i,j] then n else 0
def j2 (n:Int) (rs:Rows) (i j:Int):Rows:=if ko n [i,j] then rj rs (i,j) else []
def lC (n:Int) (i j:Int):Int:=if ko n [i,j] then 0 else 1
def eF (n:Int) (rs:Rows) (i j:Int):Bool:=ko n [i,j]&&fg (rowAt rs i) j
theorem pO {n i j:Int} {rs:Rows} (h:ko n [i,j]=true):ie n i j=n∧j2 n rs i j=rj rs (i,j)∧lC n i j=0:=by simp[ie,j2,lC,h]
theorem oB {n i j:Int} {rs:Rows} (h:ko n [i,j]=false):ie n i j=0∧j2 n rs i j=[]∧lC n i j=1:=by simp[ie,j2,lC,h]
theorem nq {α:Type} {l:List α} {i:Nat} {x y:α} (h:l[i]? =some x) (e:l[i]? =some y):x=y:=anm (h.symm.trans e)
theorem ab' {n i j:Int}:ko n [i,j]=(decide (0≤i)&&decide (i<n)&&decide (0≤j)&&decide (j<n)):=by
 rw[anH,jh];simp[and_assoc]
end Go.Ew
namespace Go.Ew
theorem LO {r:Row} {i:Int} (h0:0≤i) (h:i<64*(r.length:Int)):jr r i=true:=by unfold jr;simp[h0,h]
theorem OK {r:Row} {i:Int} (h:¬(0≤i∧i<64*(r.length:Int))):jr r i=false:=by unfold jr;simp;omega
theorem Z9 {r:Row} {i:Int} (h:¬(0≤i∧i<64*(r.length:Int))):false=fg r i:=xz (OK h)
theorem Zr {r:Row} {i:Int} (h:¬(0≤i∧i<64*(r.length:Int))):r=eb r i:=EX (OK h)
end Go.Ew
namespace Go.Ew
open Go.RowKit Go.WideShapes Go.ChangeShapes
def wS:List Nat:=[0,1,56,2,57,49,28,3,61,58,42,50,38,29,17,4,62,47,59,36,45,43,51,22,53,39,33,30,24,18,12,5,63,55,48,27,60,41,37,16,46,35,44,21,52,32,23,11,54,26,40,15,34,20,31,10,25,14,19,9,13,8,7,6]
def fP (g:Nat) (w:World):Prop:=∀i,i<64→w.cell? ⟨g,i,none⟩=some (.int .u8 ((wS.getD i 0:Nat):Int))
theorem fP.ext {g:Nat} {w w':World} (h:fP g w) (e:Ext w w'):fP g w':=by
 intro i hi
 have h1:=h i hi
 rw[Below.cell e.toBelow (p:=⟨g,i,none⟩) (pJ h1)]
 exact h1
def vC (i:Nat):BitVec 8:=BitVec.ofNat 8 (wS.getD i 0)
theorem aa7:∀i<64,wS.getD i 0<64:=by decide
theorem KN {i:Nat} (h:i<64):((vC i).toNat:Int)=((wS.getD i 0:Nat):Int):=by
 have:=aa7 i h
 unfold vC
 rw[BitVec.toNat_ofNat]
 omega
theorem fP.at_ {g:Nat} {w:World} {M:Nat→Prop} (h:fP g w) {i:Nat} (hi:i<64):hG M w ⟨g,i,none⟩ (vC i):=by
 refine⟨[U8 (vC i)],J,fun j v hv=>?_⟩
 cases j with
 |zero=>
  simp at hv;subst hv
  rw[show (⟨g,i,none⟩:Addr).add 0=⟨g,i,none⟩ from rfl,h i hi,U8,KN hi]
 |succ j=>simp at hv
theorem ahF {g:Nat} {w0 w:World} {M:Nat→Prop} (h:fP g w0) (e:Ext w0 w) {i:Nat} {ad:Addr} (ha:(⟨g,0,none⟩:Addr).add (i*1)=ad) (hi:i<64):hG M w ad (vC i):=by
 have:ad=⟨g,i,none⟩:=by
  rw[←ha,apu]
  unfold Addr.add
  split
  ·rename_i h;rw[h]
  ·simp
 rw[this]
 exact(h.ext e).at_ hi
theorem Ni {P:Program} {g:Nat} {t e:TypeId} {name:String} {D:DataW Unit} {W:World} (hg:P.globalNamed name=some g) (ht:(P.globals[g]?).map (·.type)=some t)
  (hu:P.underlying t=some (.array 64 e)) (he:P.underlying e=some (.int .u8)) (hc:P.cellsOf e=1) (hD:D=.agg (wS.map fun k=>.lit (.int .u8 ((k:Nat):Int)))) (h:laidMetH P [(name,D)] W)
  (hp:laidMetH P [(name,D)] W↔laidMet P [(name,D)] W):fP g W:=by
 rw[hp] at h
 obtain⟨ps,⟨g0,t0,YO,f0,p0,q0,hg0,ht0,iq,Ma,_⟩,_⟩:=h
 obtain rfl:=anm (hg.symm.trans hg0)
 obtain rfl:=anm (ht.symm.trans ht0)
 obtain⟨xs,m,rfl,hx,hlen,hn,u1⟩:=DataW.trod_array hu Ma
 intro i hi
 have h1:=u1 i hi
 rw[hc,apu,eB (by omega:i<xs.length)] at h1
 obtain⟨k,e1,e2,_⟩:=DataW.trod_int he h1
 simp only[an1] at hx
 have h2:(DataW.agg (wS.map fun k=>DataW.lit (Lit.int .u8 ((k:Nat):Int))):DataW Unit)=.agg (xs.map (·.1)):=by rw[←hD];exact hx.1
 injection h2 with h3
 have h4:=ani (fun l=>l[i]?) h3
 have hti:i<wS.length:=by simpa [wS] using hi
 simp only[anu,eB hti,eB (by omega:i<xs.length),aoy,e2,anx] at h4
 injection h4 with h5
 injection h5 with h6 h7
 have h8:wS.getD i 0=wS[i]:=by rw[gZ,eB hti];rfl
 rw[h8,h7]
 have:=World.var?_cell hg0 iq i
 have Ad:YO[i]? =some (.int .u8 k):=by
  have:(YO.toList.drop i).head?=some (.int .u8 k):=by
   have h9:((YO.toList.drop i).take 1).head?=some (.int .u8 k):=by rw[e1];rfl
   cases hq:YO.toList.drop i with
   |nil=>rw[hq] at h9;simp at h9
   |cons a b=>rw[hq] at h9;simpa using h9
  rw[List.head?_drop] at this
  simpa using this
 rw[Ad] at this
 simpa using this
end Go.Ew
namespace Go.Ew
def oA (x:BitVec 64):List Nat:=(List.range 64).filter fun k=>x.getLsbD k
def fC (x:BitVec 64):Nat:=(oA x).headD 64
theorem vc {p:Nat→Bool}:∀(n:Nat),(∃k<n,p k=true)→∃k,k<n∧p k=true∧(∀j,j<k→p j=false)∧∃l,(List.range n).filter p=k::l∧l=(List.range n).filter (fun i=>p i&&!decide (i=k))
 |0,⟨k,h,_⟩=>by omega
 |n+1,h=>by
  by_cases h1:∃k<n,p k=true
  ·obtain⟨k,hk,hp,hl,l,e1,e2⟩:=vc n h1
   refine⟨k,by omega,hp,hl,l++[n].filter p,?_,?_⟩
   ·rw[aoS,aoM,e1];rfl
   ·rw[aoS,aoM,←e2]
    congr 1
    have:¬n=k:=by omega
    simp[List.filter_cons,this]
  ·obtain⟨k,hk,hp⟩:=h
   have yy:k=n:=by
    apply an3
    intro gH
    exact h1 ⟨k,by omega,hp⟩
   subst yy
   have Gz:∀j,j<k→p j=false:=by
    intro j hj
    cases hb:p j with
    |false=>rfl
    |true=>exact absurd ⟨j,hj,hb⟩ h1
   have hf:(List.range k).filter p=[]:=by
    rw[aoq]
    intro j hj
    rw[ano] at hj
    simp[Gz j hj]
   have L6:(List.range k).filter (fun i=>p i&&!decide (i=k))=[]:=by
    rw[aoq]
    intro j hj
    rw[ano] at hj
    simp[Gz j hj]
   refine⟨k,by omega,hp,Gz,[],?_,?_⟩
   ·rw[aoS,aoM,hf];simp[hp]
   ·rw[aoS,aoM,L6];simp
theorem Ud {x:BitVec 64} (h:x≠0#64):∃k<64,x.getLsbD k=true:=by
 apply an3
 intro hn
 apply h
 apply apo
 intro i hi
 rw[BitVec.getLsbD_zero]
 cases hb:x.getLsbD i with
 |false=>rfl
 |true=>exact absurd ⟨i,hi,hb⟩ hn
theorem least {x:BitVec 64} (h:x≠0#64):∃l,fC x<64∧x.getLsbD (fC x)=true∧(∀j,j<fC x→x.getLsbD j=false)∧oA x=fC x::l∧l=(List.range 64).filter (fun i=>x.getLsbD i&&!decide (i=fC x)):=by
 obtain⟨k,hk,hp,hl,l,e1,e2⟩:=vc 64 (Ud h)
 have hf:fC x=k:=by unfold fC oA;rw[e1];rfl
 rw[hf]
 exact⟨l,hk,hp,hl,e1,e2⟩
theorem Jx {x:BitVec 64} {k:Nat} (hp:x.getLsbD k=true) (hl:∀j,j<k→x.getLsbD j=false) (i:Nat):(∃j,j<i∧x.getLsbD j=true)↔k<i:=by
 constructor
 ·rintro⟨j,hj,h⟩
  rcases ap8 k i with h1|h1
  ·exact h1
  ·rw[hl j aq] at h;cases h
 ·intro h;exact⟨k,h,hp⟩
theorem SB {x:BitVec 64} (h:x≠0#64):x &&& -x=1#64 <<< fC x:=by
 obtain⟨l,hk,hp,hl, -, -⟩:=least h
 apply apo
 intro i hi
 rw[apt,BitVec.getLsbD_neg,apV]
 simp only[Jx hp hl i]
 by_cases h1:i=fC x
 ·subst h1;simp[hp,hk]
 ·by_cases h2:i<fC x
  ·simp[hl i h2,h2]
  ·have h3:fC x<i:=by omega
   have h4:i-fC x≠0:=by omega
   cases hx:x.getLsbD i<;>simp[h2,h3,h4,hi]
theorem clear {x:BitVec 64} (h:x≠0#64):oA x=fC x::oA (x &&& (x-1#64)):=by
 obtain⟨l,hk,hp,hl,e1,e2⟩:=least h
 rw[e1,e2]
 congr 1
 unfold oA
 apply apw
 intro i hi
 rw[ano] at hi
 have e:x-1#64= ~~~(-x):=by
  rw[BitVec.not_neg,BitVec.sub_eq_add_neg]
 rw[apt,e,BitVec.getLsbD_not,BitVec.getLsbD_neg]
 simp only[Jx hp hl i]
 by_cases h1:i=fC x
 ·subst h1;simp[hp,hk]
 ·by_cases h2:i<fC x
  ·simp[hl i h2]
  ·have h3:fC x<i:=by omega
   cases hx:x.getLsbD i<;>simp[h1,h3,hi]
theorem Ub:∀k<64,((1#64 <<< k*285870213051353865#64) >>> 58).toNat<64∧wS.getD ((1#64 <<< k*285870213051353865#64) >>> 58).toNat 0=k:=by decide +kernel
theorem EP {x:BitVec 64} (h:x≠0#64):(((x &&& -x)*285870213051353865#64) >>> 58).toNat<64:=by
 obtain⟨l,hk, -⟩:=least h
 rw[SB h];exact(Ub _ hk).1
theorem UH {x:BitVec 64} (h:x≠0#64):((vC (((x &&& -x)*285870213051353865#64) >>> 58).toNat).toNat:Int)=((fC x:Nat):Int):=by
 obtain⟨l,hk, -⟩:=least h
 rw[KN (EP h),SB h,(Ub _ hk).2]
theorem Gk:oA 0#64=[]:=by
 unfold oA
 rw[aoq]
 intro i _
 simp
theorem Er:fC 0#64=64:=by unfold fC;rw[Gk];rfl
theorem yI (x:BitVec 64):fC x≤64:=by
 by_cases h:x=0#64
 ·subst h;rw[Er];exact anl _
 ·obtain⟨l,hk, -⟩:=least h;omega
end Go.Ew
namespace Go.Ew
def p9 (j:Nat) (x:BitVec 64):List Int:=(oA x).map fun k=>(j:Int)*64+((k:Nat):Int)
def rz (r:Row) (j:Nat):List Int:=(List.range j).flatMap fun i=>p9 i (r.getD i 0#64)
def cV (r:Row):List Int:=rz r r.length
theorem Qk (j:Nat):p9 j 0#64=[]:=by unfold p9;rw[Gk];rfl
theorem Ql {j:Nat} {x:BitVec 64} (h:x≠0#64):p9 j x=((j:Int)*64+((fC x:Nat):Int))::p9 j (x &&& (x-1#64)):=by
 unfold p9;rw[clear h];rfl
theorem LC (x:BitVec 64):(oA x).length≤64:=by
 unfold oA
 exact Nat.le_trans (aoj _ _)<|by simp
theorem CF (j:Nat) (x:BitVec 64):(p9 j x).length≤64:=by unfold p9;rw[anW];exact LC x
theorem y_ (r:Row) (j:Nat):rz r (j+1)=rz r j++p9 j (r.getD j 0#64):=by
 unfold rz;rw[aoS,ao7];simp
theorem vG (r:Row):∀j,(rz r j).length≤64*j
 |0=>by simp[rz]
 |j+1=>by
  have:=vG r j
  have:=CF j<|r.getD j 0#64
  rw[y_,fA];omega
theorem Q5 {x:BitVec 64} (h:x≠0#64):(oA (x &&& (x-1#64))).length<(oA x).length:=by
 rw[clear h];simp
theorem mT (r:Row):(cV r).length≤64*r.length:=vG r _
end Go.Ew
namespace Go.Ew
def sY (a b:Row) (i:Nat):BitVec 64:=a.getD i 0#64 ||| b.getD i 0#64
def jE (a b:Row):Row:=(List.range (max a.length b.length)).map (sY a b)
theorem Sp (a b:Row) (i:Nat):sY a b i=sY b a i:=BitVec.or_comm _ _
theorem Lm (a b:Row):jE a b=jE b a:=by
 unfold jE
 rw[Nat.max_comm]
 exact aor fun i _=>Sp a b i
theorem AW (a b:Row):(jE a b).length=max a.length b.length:=by unfold jE;simp
def pU (m:Nat) (a b z:Row) (j:Nat):Row:=(List.range m).map fun i=>if i<j then sY a b i else z.getD i 0#64
theorem yZ (m:Nat) (a b z:Row) (j:Nat):(pU m a b z j).length=m:=by unfold pU;simp
theorem Cs (a b z:Row):z=pU z.length a b z 0:=by
 apply aoV
 ·rw[yZ]
 ·intro i h1 h2
  unfold pU
  simp[gZ,h1]
theorem AV {m:Nat} {a b z:Row} {j:Nat} {x:BitVec 64} (h:(pU m a b z j)[((j:Nat):Int).toNat]? =some x):x=z.getD j 0#64:=by
 rw[dv] at h
 obtain⟨h1,h2⟩:=dC.1 h
 rw[←h2]
 unfold pU
 simp
theorem E_ {m:Nat} {a b z:Row} {j:Nat} {v:BitVec 64} (hv:v=sY a b j):(pU m a b z j).set j v=pU m a b z (j+1):=by
 apply aoV
 ·simp[yZ]
 ·intro i h1 h2
  have hm:i<m:=by rw[yZ] at h2;exact h2
  rw[ap4]
  unfold pU
  simp only[List.getElem_map,apS]
  by_cases Jf:j=i
  ·subst Jf;simp[hv]
  ·have:(i<j+1)↔(i<j):=by omega
   simp[Jf,this]
theorem xb {a b z:Row} {j m:Nat} (hm:m=max a.length b.length) (h:∀i,j≤i→i<m→z.getD i 0#64=sY a b i):pU m a b z j=jE a b:=by
 unfold pU jE
 subst hm
 apply aor
 intro i hi
 rw[ano] at hi
 split
 ·rfl
 ·exact h i aq hi
theorem yd {a b:Row} {i:Nat} (h:b.length≤i):a.getD i 0#64=sY a b i:=by
 unfold sY;rw[r7 h,BitVec.or_zero]
def JY (r:Row) (n:Nat):List Int:=((List.range n).filter fun k=>fg r ((k:Nat):Int)).map fun k=>((k:Nat):Int)
theorem nJ (m k:Nat):List.range (m+k)=List.range m++(List.range k).map (fun i=>m+i):=by
 apply aoV
 ·simp
 ·intro i h1 h2
  simp only[apS]
  by_cases h:i<m
  ·rw[List.getElem_append_left (by simpa using h)];simp
  ·rw[List.getElem_append_right (by simpa using h)];simp;omega
theorem u4 (r:Row) (j k:Nat) (hk:k<64):fg r (((64*j+k:Nat):Nat):Int)=(r.getD j 0#64).getLsbD k:=by
 unfold fg
 rw[dv,show (64*j+k)/64=j from by omega,show (64*j+k)%64=k from by omega]
 simp only[Bool.and_eq_right_iff_imp,ank]
 intro _;omega
theorem Gm (r:Row):∀j,JY r (64*j)=rz r j
 |0=>rfl
 |j+1=>by
  rw[y_,←Gm r j,show 64*(j+1)=64*j+64 from by omega]
  unfold JY p9 oA
  rw[nJ,aoM,ao2]
  congr 1
  rw[List.filter_map,List.map_map]
  have e:(List.range 64).filter ((fun k=>fg r ((k:Nat):Int))∘fun i=>64*j+i)=(List.range 64).filter fun k=>(r.getD j 0#64).getLsbD k:=by
   apply apw
   intro k hk
   rw[ano] at hk
   exact u4 r j k hk
  rw[e]
  apply aor
  intro k _
  show ((64*j+k:Nat):Int)=(j:Int)*64+((k:Nat):Int)
  omega
theorem SC (r:Row):JY r (64*r.length)=cV r:=Gm r r.length
theorem Sx {j:Nat} {x:BitVec 64} {i:Int}:i∈p9 j x↔∃k<64,x.getLsbD k=true∧i=(j:Int)*64+((k:Nat):Int):=by
 unfold p9 oA
 simp only[an6,anD,ano]
 constructor
 ·rintro⟨k,⟨h1,h2⟩,rfl⟩;exact⟨k,h1,h2,rfl⟩
 ·rintro⟨k,h1,h2,rfl⟩;exact⟨k,⟨h1,h2⟩,rfl⟩
theorem uU {r:Row} {i:Int}:i∈cV r↔fg r i=true:=by
 unfold cV rz
 simp only[aqw,ano,Sx]
 constructor
 ·rintro⟨j,hj,k,hk,hx,rfl⟩
  have:=u4 r j k hk
  rw[show (j:Int)*64+((k:Nat):Int)=((64*j+k:Nat):Int) from by omega,this];exact hx
 ·intro h
  have hi:=QC h
  unfold jr at hi
  simp only[ank] at hi
  have hw:=u4 r (i.toNat/64) (i.toNat%64) aq
  rw[show (((64*(i.toNat/64)+i.toNat%64:Nat):Nat):Int)=i from by omega,h] at hw
  exact⟨i.toNat/64,by omega,i.toNat%64,by omega,hw.symm,by omega⟩
end Go.Ew
namespace Go.Ew
theorem uj (r:Row) {i:Int} (h:i<0):fg r i=false:=(Z9 aq).symm
theorem uk (r:Row) (n:Nat):fg r ((n:Nat):Int)=(r.getD (n/64) 0#64).getLsbD (n%64):=by
 unfold fg;rw[dv];simp
theorem CT {r:Row} {i k:Int}:fg (eb r i) k=(fg r k||(decide (k=i)&&jr r i)):=by
 cases h:jr r i with
 |false=>rw[←EX h];simp
 |true=>
  by_cases hk:k=i
  ·subst hk;rw[JN,h];simp
  ·simp only[hk,decide_false,aqh,aoN]
   by_cases cB:k<0
   ·rw[uj _ cB,uj _ cB]
   ·obtain⟨n,rfl⟩:∃n:Nat,k=((n:Nat):Int):=⟨k.toNat,by omega⟩
    have h':=h
    unfold jr at h';simp only[ank] at h'
    rw[uk,uk]
    by_cases hw:n/64<r.length
    ·rw[K5 h _ hw]
     split
     ·rename_i e
      rw[Ga _ _ _ aq aq]
      have:¬n%64=i.toNat%64:=by omega
      simp[this]
     ·rfl
    ·rw[r7 (by rw[ku];omega),r7 aq]
theorem Zw {a b:Row} (hl:a.length=b.length) (h:∀n:Nat,fg a ((n:Nat):Int)=fg b ((n:Nat):Int)):a=b:=by
 apply aoV hl
 intro j h1 h2
 apply apo
 intro k hk
 have e1:=u4 a j k hk
 have e2:=u4 b j k hk
 rw[h,e2,gZ,gZ,eB h1,eB h2] at e1
 simpa using e1.symm
theorem vW:∀(l:List Int) (r:Row),(l.foldl eb r).length=r.length
 |[],_=>rfl
 |i::l,r=>by rw[apN,vW l,ku]
theorem Af:∀(l:List Int) (r:Row) (k:Int),fg (l.foldl eb r) k=(fg r k||(l.any fun i=>decide (k=i)&&jr r i))
 |[],r,k=>by simp
 |i::l,r,k=>by
  rw[apN,Af l,CT]
  simp only[OJ,List.any_cons,Bool.or_assoc]
theorem Fb (n k:Int):fg (d_ n) k=false:=by
 by_cases hk:k<0
 ·exact uj _ hk
 ·obtain⟨m,rfl⟩:∃m:Nat,k=((m:Nat):Int):=⟨k.toNat,by omega⟩
  rw[uk]
  unfold d_
  rw[gZ]
  by_cases h:m/64<words n
  ·simp[ao6,h]
  ·simp[ao6,h]
theorem Z8 (a b:Row) (i:Int):fg (jE a b) i=(fg a i||fg b i):=by
 by_cases hk:i<0
 ·rw[uj _ hk,uj _ hk,uj _ hk];rfl
 ·obtain⟨n,rfl⟩:∃n:Nat,i=((n:Nat):Int):=⟨i.toNat,by omega⟩
  rw[uk,uk,uk]
  by_cases h:n/64<max a.length b.length
  ·have:(jE a b).getD (n/64) 0#64=sY a b (n/64):=by
    rw[gZ,eB (by rw[AW];exact h)]
    unfold jE
    simp
   rw[this,sY,BitVec.getLsbD_or]
  ·rw[r7 (by rw[AW];omega),r7 aq,r7 aq];simp
end Go.Ew
namespace Go.Ew
open Go.RowKit
theorem At.s1 {α β:Type} [GT α] [GT β] {M:Nat→Prop} {w:World} {ad:Addr} {x:α×β} (h:At M w ad x):At M w (ad.add (GT.size α)) x.2:=h.snd
theorem At.s2 {α β γ:Type} [GT α] [GT β] [GT γ] {M:Nat→Prop} {w:World} {ad:Addr} {x:α×β×γ} (h:At M w ad x):At M w (ad.add (GT.size α+GT.size β)) x.2.2:=by have h_:=h.s1.snd;rwa [add_add] at h_
theorem At.s3 {α β γ δ:Type} [GT α] [GT β] [GT γ] [GT δ] {M:Nat→Prop} {w:World} {ad:Addr} {x:α×β×γ×δ} (h:At M w ad x):At M w (ad.add (GT.size α+GT.size β+GT.size γ)) x.2.2.2:=by have h_:=h.s2.snd;rwa [add_add] at h_
theorem At.s4 {α β γ δ ε:Type} [GT α] [GT β] [GT γ] [GT δ] [GT ε] {M:Nat→Prop} {w:World} {ad:Addr} {x:α×β×γ×δ×ε} (h:At M w ad x):At M w (ad.add (GT.size α+GT.size β+GT.size γ+GT.size δ)) x.2.2.2.2:=by have h_:=h.s3.snd;rwa [add_add] at h_
theorem At.s5 {α β γ δ ε ζ:Type} [GT α] [GT β] [GT γ] [GT δ] [GT ε] [GT ζ] {M:Nat→Prop} {w:World} {ad:Addr} {x:α×β×γ×δ×ε×ζ} (h:At M w ad x):At M w (ad.add (GT.size α+GT.size β+GT.size γ+GT.size δ+GT.size ε)) x.2.2.2.2.2:=by have h_:=h.s4.snd;rwa [add_add] at h_
theorem At.s6 {α β γ δ ε ζ η:Type} [GT α] [GT β] [GT γ] [GT δ] [GT ε] [GT ζ] [GT η] {M:Nat→Prop} {w:World} {ad:Addr} {x:α×β×γ×δ×ε×ζ×η} (h:At M w ad x):At M w (ad.add (GT.size α+GT.size β+GT.size γ+GT.size δ+GT.size ε+GT.size ζ)) x.2.2.2.2.2.2:=by have h_:=h.s5.snd;rwa [add_add] at h_
theorem hG.s1 {α β:Type} [GT α] [GT β] {M:Nat→Prop} {w:World} {ad:Addr} {x:α×β} (h:hG M w ad x):hG M w (ad.add (GT.size α)) x.2:=h.snd
theorem hG.s2 {α β γ:Type} [GT α] [GT β] [GT γ] {M:Nat→Prop} {w:World} {ad:Addr} {x:α×β×γ} (h:hG M w ad x):hG M w (ad.add (GT.size α+GT.size β)) x.2.2:=by have h_:=h.s1.snd;rwa [add_add] at h_
theorem hG.s3 {α β γ δ:Type} [GT α] [GT β] [GT γ] [GT δ] {M:Nat→Prop} {w:World} {ad:Addr} {x:α×β×γ×δ} (h:hG M w ad x):hG M w (ad.add (GT.size α+GT.size β+GT.size γ)) x.2.2.2:=by have h_:=h.s2.snd;rwa [add_add] at h_
theorem hG.s4 {α β γ δ ε:Type} [GT α] [GT β] [GT γ] [GT δ] [GT ε] {M:Nat→Prop} {w:World} {ad:Addr} {x:α×β×γ×δ×ε} (h:hG M w ad x):hG M w (ad.add (GT.size α+GT.size β+GT.size γ+GT.size δ)) x.2.2.2.2:=by have h_:=h.s3.snd;rwa [add_add] at h_
theorem hG.s5 {α β γ δ ε ζ:Type} [GT α] [GT β] [GT γ] [GT δ] [GT ε] [GT ζ] {M:Nat→Prop} {w:World} {ad:Addr} {x:α×β×γ×δ×ε×ζ} (h:hG M w ad x):hG M w (ad.add (GT.size α+GT.size β+GT.size γ+GT.size δ+GT.size ε)) x.2.2.2.2.2:=by have h_:=h.s4.snd;rwa [add_add] at h_
theorem hG.s6 {α β γ δ ε ζ η:Type} [GT α] [GT β] [GT γ] [GT δ] [GT ε] [GT ζ] [GT η] {M:Nat→Prop} {w:World} {ad:Addr} {x:α×β×γ×δ×ε×ζ×η} (h:hG M w ad x):hG M w (ad.add (GT.size α+GT.size β+GT.size γ+GT.size δ+GT.size ε+GT.size ζ)) x.2.2.2.2.2.2:=by have h_:=h.s5.snd;rwa [add_add] at h_
section
variable {P:Program}
def It (P:Program) (t:TypeId) (v u:Value) (r:Bool):Prop:=(∀w,(isAgg t).run P w=.ok false w)∧∀d w,(Op.equalIn (d+1) t v u).run P w=.ok r w
theorem AZ {t:TypeId} {d:TypeDesc} (h:P.underlying t=some d) (hd:(match d with| .struct _| .array _ _=>false|_=>true)=true) (w:World):(isAgg t).run P w=.ok false w:=by
 cases d<;>first|(cases hd;done)|simp[isAgg,underlying,h]
theorem Qh {t:TypeId} {k kk:IntKind} {a b:Int} (h:P.underlying t=some (.int k)):It P t (.int kk a) (.int kk b) (decide (a=b)):=
 ⟨AZ h rfl,fun d w=>by rw[run_equalIn_int w d t kk k a b h];congr 1⟩
theorem afb {t:TypeId} {a b:Bool} (h:P.underlying t=some .bool):It P t (.bool a) (.bool b) (decide (a=b)):=
 ⟨AZ h rfl,fun d w=>by rw[run_equalIn_bool' w d t a b h];congr 1⟩
theorem afa {t:TypeId} {a b:ByteArray} (h:P.underlying t=some .string):It P t (.string a) (.string b) (decide (a=b)):=
 ⟨AZ h rfl,fun d w=>by
  have e:(a.toList==b.toList)=decide (a=b):=by
   rw[←beq_toListBytes,anH]
   rcases a with ⟨x⟩
   rcases b with ⟨y⟩
   show (x==y)=true↔_
   simp
  rw[run_equalIn_string w d t a b h,e]⟩
theorem mF {t:TypeId} {cs:Array Value} {off:Nat} {v:Value} (h:∀w,(isAgg t).run P w=.ok false w) (hc:cs[off]? =some v) (w:World):(part t cs off).run P w=.ok v w:=by
 simp[part,h w,hc]
def mU (P:Program) (t:TypeId):Option Nat:=match P.underlying t with|some (.int _)=>some 0|some .bool=>some 1|some .string=>some 2|_=>none
def QW (P:Program) (T:TypeId):List (Option (Nat×Nat)):=(P.fieldsOf T).toList.map fun f=>if f.name= "_" then none else (mU P f.type).map fun k=>(f.offset,k)
def Dl (xs ys:Array Value):List (Option (Nat×Nat))→List Bool→Prop
 |[],[]=>True
 |some (o,0)::ks,r::rs=>(∃kk a b,xs[o]? =some (.int kk a)∧ys[o]? =some (.int kk b)∧r=decide (a=b))∧Dl xs ys ks rs
 |some (o,1)::ks,r::rs=>(∃a b,xs[o]? =some (.bool a)∧ys[o]? =some (.bool b)∧r=decide (a=b))∧Dl xs ys ks rs
 |some (o,2)::ks,r::rs=>(∃a b,xs[o]? =some (.string a)∧ys[o]? =some (.string b)∧r=decide (a=b))∧Dl xs ys ks rs
 |_,_=>False
theorem Gp {t:TypeId} (h:mU P t=some 0):∃k,P.underlying t=some (.int k):=by
 unfold mU at h;split at h<;>simp_all
theorem Qg {t:TypeId} (h:mU P t=some 1):P.underlying t=some .bool:=by
 unfold mU at h;split at h<;>simp_all
theorem Qf {t:TypeId} (h:mU P t=some 2):P.underlying t=some .string:=by
 unfold mU at h;split at h<;>simp_all
theorem TM {xs ys:Array Value}:∀{fs:List Field} {rs:List Bool} (d:Nat) (w:World),Dl xs ys (fs.map fun f=>if f.name= "_" then none else (mU P f.type).map fun k=>(f.offset,k)) rs→(Op.eqFields (d+1) xs ys fs).run P w=.ok (rs.all id) w
 |[],[],d,w,_=>by simp[Op.eqFields]
 |[],_::_,d,w,h=>by simp[Dl] at h
 |f::fs,rs,d,w,h=>by
  rw[anM] at h
  by_cases hn:f.name= "_"
  ·rw[ann hn] at h;cases rs<;>simp[Dl] at h
  ·rw[anp hn] at h
   have key:∀(a b:Value) (r:Bool) (XC:List Bool),It P f.type a b r→xs[f.offset]? =some a→ys[f.offset]? =some b→
     Dl xs ys (fs.map fun f=>if f.name= "_" then none else (mU P f.type).map fun k=>(f.offset,k)) XC→(Op.eqFields (d+1) xs ys (f::fs)).run P w=.ok ((r::XC).all id) w:=by
    intro a b r XC hl ha hb ht
    have ih:=TM d w ht
    simp only[Op.eqFields,apK,hn,not_false_eq_true,aoX,Sem.run_bind,mF hl.1 ha w,mF hl.1 hb w,hl.2 d w,Result.andThen_ok]
    cases r
    ·simp
    ·simp[ih]
   cases hk:mU P f.type with
   |none=>rw[hk] at h;cases rs<;>simp[Dl] at h
   |some k=>
    rw[hk,aoy] at h
    cases rs with
    |nil=>simp[Dl] at h
    |cons r XC=>
     match k,hk,h with
     |0,hk,⟨⟨kk,a,b,ha,hb,hr⟩,ht⟩=>
      obtain⟨q,hq⟩:=Gp hk
      rw[hr];exact key _ _ _ _ (Qh hq) ha hb ht
     |1,hk,⟨⟨a,b,ha,hb,hr⟩,ht⟩=>rw[hr];exact key _ _ _ _ (afb (Qg hk)) ha hb ht
     |2,hk,⟨⟨a,b,ha,hb,hr⟩,ht⟩=>rw[hr];exact key _ _ _ _ (afa (Qf hk)) ha hb ht
     |(n+3),hk,h=>simp[Dl] at h
structure Pt (P:Program) (T:TypeId) (ks:List (Option (Nat×Nat))):Prop where
 u:P.underlying T=some (.struct (P.fieldsOf T))
 s:P.stoodInHeld T=false
 g:P.eqGuardType P.depth T=false
 k:QW P T=ks
theorem Pt.eq {T:TypeId} {ks:List (Option (Nat×Nat))} (F:Pt P T ks) {xs ys:Array Value} {rs:List Bool} (h:Dl xs ys ks rs) (d:Nat) (w:World):(Op.equalIn (d+2) T (.agg xs) (.agg ys)).run P w=.ok (rs.all id) w:=by
 rw[run_equalIn_agg w (d+1) T xs ys F.u F.s]
 exact TM d w<|by rw[←F.k] at h;exact h
structure UG (P:Program) (T:TypeId):Prop where
 h:∃e k i,P.underlying T=some (.array 2 e)∧P.underlying e=some (.int k)∧P.info? e=some i∧P.cellsOf e=1
 g:P.eqGuardType P.depth T=false
theorem arF {T e:TypeId} {k:IntKind} (h1:P.underlying T=some (.array 2 e)) (h2:P.underlying e=some (.int k)) (h3:(P.info? e).isSome=true) (h4:P.cellsOf e=1) (g:P.eqGuardType P.depth T=false):UG P T:=by
 obtain⟨i,hi⟩:=anJ.1 h3
 exact⟨⟨e,k,i,h1,h2,hi,h4⟩,g⟩
theorem UG.eq {T:TypeId} (F:UG P T) {k1 k2:IntKind} {a b c d:Int} (m:Nat) (w:World):(Op.equalIn (m+2) T (.agg #[.int k1 a,.int k2 b]) (.agg #[.int k1 c,.int k2 d])).run P w=.ok (decide (a=c)&&decide (b=d)) w:=by
 obtain⟨e,k,i,h1,h2,h3,h4⟩:=F.h
 have l1:It P e (.int k1 a) (.int k1 c) (decide (a=c)):=Qh h2
 have l2:It P e (.int k2 b) (.int k2 d) (decide (b=d)):=Qh h2
 have p1:(part e #[.int k1 a,.int k2 b] 0).run P w=.ok (.int k1 a) w:=mF l1.1 rfl w
 have p2:(part e #[.int k1 c,.int k2 d] 0).run P w=.ok (.int k1 c) w:=mF l1.1 rfl w
 have p3:(part e #[.int k1 a,.int k2 b] 1).run P w=.ok (.int k2 b) w:=mF l1.1 rfl w
 have p4:(part e #[.int k1 c,.int k2 d] 1).run P w=.ok (.int k2 d) w:=mF l1.1 rfl w
 rw[run_equalIn_array w (m+1) _ _ h1 h3,h4,show List.range 2=[0,1] from rfl]
 simp only[Op.eqItems,Sem.run_bind,Sem.run_ite,Sem.run_pure,apu,p1,p2,p3,p4,l1.2 m w,l2.2 m w,Result.andThen_ok]
 by_cases e1:a=c<;>by_cases e2:b=d<;>simp[e1,e2]
section
variable {n:Nat} {ops:Array Oper} {f:aQ} {w:World} {K:aQ→World→Prop} {x y c:Operand} {d:Nat} {ty T T2:TypeId} {ps:String} {af:Array Edge}
end
abbrev K2 (p:Int×Int):Value:=.agg #[.int .i64 p.1,.int .i64 p.2]
abbrev KV:=List ((Int×Int)×Int)
structure Dk (P:Program) (kt:TypeId):Prop where
 u:∃d,P.underlying kt=some d
 eq:∀a b w,(Op.equal kt (K2 a) (K2 b)).run P w=.ok (decide (a=b)) w
 BU:∀e a w,(Instr.checkKey e 10000 kt (K2 a)).run P w=.ok () w
theorem Lk (a b:Int×Int):(decide (a.1=b.1)&&decide (a.2=b.2))=decide (a=b):=by
 rw[anH];simp[Prod.ext_iff]
theorem Bn {t:TypeId} {k kk:IntKind} {a:Int} (h:P.underlying t=some (.int k)) (e:Bool) (m:Nat) (w:World):(Instr.checkKey e (m+1) t (.int kk a)).run P w=.ok () w:=by
 simp[Instr.checkKey,underlying,h]
theorem af4 {T:TypeId} (h:QW P T=[some (0,0),some (1,0)]):∃f g,(P.fieldsOf T).toList=[f,g]∧f.name≠ "_"∧g.name≠ "_"∧f.offset=0∧g.offset=1∧(∃k,P.underlying f.type=some (.int k))∧∃k,P.underlying g.type=some (.int k):=by
 unfold QW at h
 rcases hl:(P.fieldsOf T).toList with _|⟨f,_|⟨g,_|⟨q,r⟩⟩⟩
 ·rw[hl] at h;simp at h
 ·rw[hl] at h;simp at h
 ·rw[hl] at h
  simp only[anM,List.map_nil,aop,and_true] at h
  obtain⟨h1,h2⟩:=h
  have side:∀(q:Field) (o:Nat),(if q.name= "_" then none else (mU P q.type).map fun k=>(q.offset,k))=some (o,0)→q.name≠ "_"∧q.offset=o∧∃k,P.underlying q.type=some (.int k):=by
   intro q o hq
   split at hq
   ·cases hq
   ·rename_i hn
    obtain⟨k,hk,he⟩:=anL.1 hq
    simp only[an1] at he
    obtain⟨rfl,rfl⟩:=he
    exact⟨hn,J,Gp hk⟩
  obtain⟨a1,a2,a3⟩:=side f 0 h1
  obtain⟨b1,b2,b3⟩:=side g 1 h2
  exact⟨f,g,J,a1,b1,a2,b2,a3,b3⟩
 ·rw[hl] at h;simp at h
theorem za {kt:TypeId} (F:Pt P kt [some (0,0),some (1,0)]):Dk P kt where
 u:=⟨_,F.u⟩
 eq a b w:=by
  have h:=F.eq (xs:=#[.int .i64 a.1,.int .i64 a.2]) (ys:=#[.int .i64 b.1,.int .i64 b.2]) (rs:=[decide (a.1=b.1),decide (a.2=b.2)]) ⟨⟨_,_,_,J,J,J⟩,⟨_,_,_,J,J,J⟩,trivial⟩ 9998 w
  rw[show Op.equal kt (K2 a) (K2 b)=Op.equalIn (9998+2) kt (K2 a) (K2 b) from rfl,h,←Lk]
  simp
 BU e a w:=by
  obtain⟨f,g,hl,h1,h2,h3,h4,⟨k1,h5⟩,⟨k2,h6⟩⟩:=af4 F.k
  have p1:(part f.type #[.int .i64 a.1,.int .i64 a.2] 0).run P w=.ok (.int .i64 a.1) w:=mF (AZ h5 rfl) rfl w
  have p2:(part g.type #[.int .i64 a.1,.int .i64 a.2] 1).run P w=.ok (.int .i64 a.2) w:=mF (AZ h6 rfl) rfl w
  have c1:=Bn (P:=P) (kk:=.i64) (a:=a.1) h5 e 9998 w
  have c2:=Bn (P:=P) (kk:=.i64) (a:=a.2) h6 e 9998 w
  show (Instr.checkKey e (9999+1) kt (.agg #[.int .i64 a.1,.int .i64 a.2])).run P w=_
  rw[show (9999:Nat)=9998+1 from rfl]
  generalize 9998=q at c1 c2 ⊢
  unfold Instr.checkKey
  simp only[Sem.run_bind,run_underlying F.u,Result.andThen_ok]
  rw[←Array.forIn_toList,hl]
  simp only[List.forIn_cons,List.forIn_nil,apK,h1,h2,h3,h4,not_false_eq_true,aoX,Sem.run_bind,p1,p2,Result.andThen_ok,Sem.run_pure,c1,c2]
theorem Qi {kt:TypeId} (F:UG P kt):Dk P kt where
 u:=by obtain⟨e,k,i,h1,_⟩:=F.h;exact⟨_,h1⟩
 eq a b w:=by rw[show Op.equal kt (K2 a) (K2 b)=Op.equalIn (9998+2) kt (K2 a) (K2 b) from rfl,F.eq 9998 w,Lk]
 BU e a w:=by
  obtain⟨t,k,i,h1,h2,h3,h4⟩:=F.h
  have p1:(part t #[.int .i64 a.1,.int .i64 a.2] 0).run P w=.ok (.int .i64 a.1) w:=mF (AZ h2 rfl) rfl w
  have p2:(part t #[.int .i64 a.1,.int .i64 a.2] 1).run P w=.ok (.int .i64 a.2) w:=mF (AZ h2 rfl) rfl w
  have c1:=Bn (P:=P) (kk:=.i64) (a:=a.1) h2 e 9998 w
  have c2:=Bn (P:=P) (kk:=.i64) (a:=a.2) h2 e 9998 w
  show (Instr.checkKey e (9999+1) kt (.agg #[.int .i64 a.1,.int .i64 a.2])).run P w=_
  have hs:(sizeOf t).run P w=.ok 1 w:=by rw[run_sizeOf w h3,h4]
  rw[show (9999:Nat)=9998+1 from rfl]
  generalize 9998=q at c1 c2 ⊢
  unfold Instr.checkKey
  simp only[Sem.run_bind,run_underlying h1,Result.andThen_ok,Std.Legacy.Range.forIn_eq_forIn_range',Std.Legacy.Range.size,ap7,Nat.add_one_sub_one,Nat.div_one]
  rw[show List.range' 0 2=[0,1] from rfl]
  simp only[List.forIn_cons,List.forIn_nil,Sem.run_bind,hs,p1,p2,apP,Nat.one_mul,Result.andThen_ok,Sem.run_pure,c1,c2]
theorem get_map {w:World} {r:Nat} {es:Array MapEntry} {clock:Nat} (hb:w.heap[r]? =some (.map es clock)):(getObj r).run P w=.ok (.map es clock) w:=by
 simp[getObj,Sem.run,hb]
theorem DB {w:World} {r:Nat} {es:Array MapEntry} {clock:Nat} (o:Obj) (hb:w.heap[r]? =some (.map es clock)):(setObj r o).run P w=.ok () {w with heap:=w.heap.setIfInBounds r o}:=by
 simp[setObj,Sem.run,hb]
theorem AJ {w:World} {r:Nat} {o o':Obj} (hb:w.heap[r]? =some o):(w.heap.setIfInBounds r o')[r]? =some o'∧∀r',r'≠r→(w.heap.setIfInBounds r o')[r']? =w.heap[r']?:=by
 have ep:r<w.heap.size:=(anQ.1 hb).1
 exact⟨by simp[ep],fun r' gH=>by simp[Ne.symm gH]⟩
def getM:KV→Int×Int→Option Int
 |[],_=>none
 |x::xs,k=>if k=x.1 then some x.2 else getM xs k
def jn:KV→Int×Int→Int→KV
 |[],k,v=>[(k,v)]
 |x::xs,k,v=>if k=x.1 then (k,v)::xs else x::jn xs k v
theorem Wh (m:KV) (k k':Int×Int) (v:Int):getM (jn m k v) k'=if k'=k then some v else getM m k':=by
 induction m with
 |nil=>simp[jn,getM]
 |cons x xs ih=>
  unfold jn
  by_cases h:k=x.1
  ·subst h
   simp only[aoX,getM]
   by_cases h':k'=x.1<;>simp[h']
  ·rw[anp h]
   simp only[getM,ih]
   by_cases h':k'=x.1
   ·rw[ann h',ann h',anp (by rw[h'];exact fun e=>h e.symm)]
   ·rw[anp h',anp h']
def pg:KV→Int×Int→Nat→Option (Nat×Value)
 |[],_,_=>none
 |x::xs,k,i=>if k=x.1 then some (i,.int .i64 x.2) else pg xs k (i+1)
theorem Jo:∀(m:KV) (k:Int×Int) (i:Nat),(pg m k i).map (·.2)=(getM m k).map fun v=>Value.int .i64 v
 |[],_,_=>rfl
 |x::xs,k,i=>by
  unfold pg getM
  split
  ·rfl
  ·exact Jo xs k<|i+1
def kj (es:List MapEntry) (m:KV):Prop:=es.map (fun e=>(e.key,e.val))=m.map fun x=>(K2 x.1,Value.int .i64 x.2)
theorem Pq {kt:TypeId} (F:Dk P kt) (k:Int×Int) (w:World):∀(m:KV) (es:List MapEntry) (i:Nat),kj es m→(Instr.findAsking kt (K2 k) es i).run P w=.ok (pg m k i) w
 |[],es,i,h=>by
  have:es=[]:=by simpa [kj] using h
  subst this;simp[Instr.findAsking,pg]
 |x::xs,es,i,h=>by
  match es,h with
  |e::es,h=>
   simp only[kj,anM,aop,an1] at h
   obtain⟨⟨h1,h2⟩,h3⟩:=h
   have ih:=Pq F k w xs es (i+1) h3
   by_cases hk:k=x.1
   ·simp[Instr.findAsking,pg,h1,h2,F.eq,hk]
   ·simp[Instr.findAsking,pg,h1,h2,F.eq,hk,ih]
  |[],h=>simp[kj] at h
theorem Et (d:TypeDesc) (cs:Array Value) (e:MapEntry) (es:List MapEntry) (i:Nat):Instr.findNow d (.agg cs) (e::es) i=none:=by
 have:Instr.sameNow d (.agg cs) e.key=none:=by
  cases d<;>cases e.key<;>rfl
 simp[Instr.findNow,this]
theorem Mq {kt:TypeId} (F:Dk P kt) (k:Int×Int) (w:World) {m:KV} {es:List MapEntry} (h:kj es m):(Instr.findKey kt (K2 k) es).run P w=.ok (pg m k 0) w:=by
 obtain⟨d,hd⟩:=F.u
 cases es with
 |nil=>
  have:m=[]:=by simpa [kj] using h.symm
  subst this
  simp[Instr.findKey,run_underlying hd,Result.andThen,Instr.findNow,pg]
 |cons e es=>
  have h0:Instr.findNow d (K2 k) (e::es) 0=none:=Et d _ e es 0
  simp[Instr.findKey,run_underlying hd,Result.andThen,h0,Pq F k w m _ 0 h]
theorem GZ:∀(m:KV) (es:List MapEntry) (k:Int×Int) (i j:Nat) (v:Value),kj es m→pg m k i=some (j,v)→∃q e,j=i+q∧es[q]? =some e∧e.key=K2 k∧∀(c:Nat) (u:Int),kj (es.modify q fun e=>{e with key:=K2 k,val:=.int .i64 u}) (jn m k u)
 |[],_,_,_,_,_,_,h=>by cases h
 |x::xs,es,k,i,j,v,hr,h=>by
  match es,hr with
  |[],hr=>simp[kj] at hr
  |e::es,hr=>
   simp only[kj,anM,aop,an1] at hr
   obtain⟨⟨h1,h2⟩,h3⟩:=hr
   unfold pg at h
   split at h
   ·rename_i hk
    simp only[anx,an1] at h
    refine⟨0,e,h.1.symm,J,by rw[h1,hk],fun c u=>?_⟩
    unfold jn
    rw[ann hk]
    simp[kj,h3]
   ·rename_i hk
    obtain⟨q,e',I9,nw,Ej,Ei⟩:=GZ xs es k (i+1) j v h3 h
    refine⟨q+1,e',by omega,by simpa using nw,Ej,fun c u=>?_⟩
    have:=Ei c u
    unfold jn
    rw[anp hk]
    simp only[kj,List.modify_succ_cons,anM,aop,an1]
    exact⟨⟨h1,h2⟩,this⟩
theorem G0:∀(m:KV) (es:List MapEntry) (k:Int×Int) (i:Nat),kj es m→pg m k i=none→∀(c:Nat) (u:Int),kj (es++[⟨K2 k,.int .i64 u,c⟩]) (jn m k u)
 |[],es,k,_,hr,_,c,u=>by
  have:es=[]:=by simpa [kj] using hr
  subst this;simp[kj,jn]
 |x::xs,es,k,i,hr,h,c,u=>by
  match es,hr with
  |[],hr=>simp[kj] at hr
  |e::es,hr=>
   simp only[kj,anM,aop,an1] at hr
   obtain⟨⟨h1,h2⟩,h3⟩:=hr
   unfold pg at h
   split at h
   ·cases h
   ·rename_i hk
    have:=G0 xs es k (i+1) h3 h c u
    unfold jn
    rw[anp hk]
    simp only[kj,apG,anM,aop,an1]
    exact⟨⟨h1,h2⟩,this⟩
def bX (b:Nat) (m:KV):Item:=
 ⟨some b,fun _ w=>∃es clock,w.heap[b]? =some (.map es clock)∧kj es.toList m∧∀x∈m,aM x.2,fun h _ hb=>by
  obtain⟨es,c,h1,h2⟩:=h
  exact⟨es,c,(hb b rfl).trans h1,h2⟩⟩
theorem aab {m:KV} (h:∀x∈m,aM x.2) {k:Int×Int} {v:Int} (hv:getM m k=some v):aM v:=by
 induction m with
 |nil=>cases hv
 |cons x xs ih=>
  unfold getM at hv
  split at hv
  ·cases hv;exact h x (by simp)
  ·exact ih (fun y hy=>h y<|by simp[hy]) hv
theorem Oa {m:KV} (h:∀x∈m,aM x.2) (k:Int×Int) {v:Int} (hv:aM v):∀x∈jn m k v,aM x.2:=by
 induction m with
 |nil=>intro x hx;simp[jn] at hx;subst hx;exact hv
 |cons y ys ih=>
  intro x hx
  unfold jn at hx
  split at hx
  ·rcases anC.1 hx with rfl|hx
   ·exact hv
   ·exact h x<|by simp[hx]
  ·rcases anC.1 hx with rfl|hx
   ·exact h x<|by simp
   ·exact ih (fun z hz=>h z<|by simp[hz]) x hx
structure Is (P:Program) (T:TypeId):Prop where
 h:∃kt et,P.underlying T=some (.map kt et)∧Dk P kt∧∀w,(zeroValue et).run P w=.ok (.int .i64 0) w
theorem VH {T kt et:TypeId} {k b:Nat} {a:Bool} (h:P.underlying T=some (.map kt et)) (K:Dk P kt) (F:ei P et k a b (.int .i64 0)):Is P T:=⟨kt,et,h,K,F.tU⟩
section
variable {n:Nat} {ops:Array Oper} {f:aQ} {w:World} {K:aQ→World→Prop} {x y c:Operand} {d:Nat} {ty T T2:TypeId} {ps:String} {af:Array Edge} {M0:Nat→Prop} {w0:World} {l:List Item} {m:KV} {b:Nat}
theorem mm (H:HI M0 w0 w l) (h:∀b w',Ext w w'→HI M0 w0 w' (bX b []::l)→K (cb f d (.map (some b))) w'):SO P n ops ⟨some d,.makeMap T none,ty,ps,af,none⟩ f w K:=
 SO.value (v:=.map (some w.heap.size)) (w':=w.alloc (.map #[] 0)) (by simp[execOp,run_makeMap]) (h _ _ (Ext.alloc w _)
  (H.new (Ext.alloc w _) w.heap.size rfl (anl _) (by simp) ⟨#[],0,heap_alloc_new w _,rfl,fun _ h=>(by cases h)⟩))
theorem XK {k:Int×Int} (F:Is P T) (H:HI M0 w0 w l) (i:Nat) (hi:l[i]? =some (bX b m)) (ox:bG n x=true) (oy:bG n y=true) (hx:ev f x=.map (some b)) (hy:ev f y=K2 k)
  (h:aM ((getM m k).getD 0)→K (cb f d (.tuple #[.int .i64 ((getM m k).getD 0),.bool (getM m k).isSome])) w):SO P n ops ⟨some d,.lookup T x y true,ty,ps,af,none⟩ f w K:=by
 obtain⟨kt,et,h1,h2,h3⟩:=F.h
 obtain⟨es,clock,g1,g2,g3⟩:=H.at_ i hi
 have hI:aM ((getM m k).getD 0):=by
  cases hg:getM m k with
  |none=>unfold aM;simp
  |some v=>exact aab g3 hg
 refine SO.value (v:=.tuple #[.int .i64 ((getM m k).getD 0),.bool (getM m k).isSome]) (w':=w) ?_<|h hI
 have hf:=Jo m k 0
 have hr:=Mq h2 k w g2
 simp only[execOp,aN ox,aN oy,hx,hy,Instr.lookup,Sem.run_bind,run_underlying h1,get_map g1,h2.BU,hr,Result.andThen_ok,Sem.run_pure]
 cases hq:pg m k 0 with
 |none=>
  have hg:getM m k=none:=by rw[hq] at hf;simpa using hf.symm
  simp[hq,hg,h3 w]
 |some p=>
  obtain⟨j,v⟩:=p
  rw[hq] at hf
  cases hg:getM m k with
  |none=>rw[hg] at hf;cases hf
  |some u=>
   rw[hg] at hf
   simp only[aoy,anx] at hf
   subst hf
   simp
theorem XG {dd:Option Nat} {k:Int×Int} {v:Int} (F:Is P T) (H:HI M0 w0 w l) (i:Nat) (hi:l[i]? =some (bX b m)) (ox:bG n x=true) (oy:bG n y=true) (oc:bG n c=true) (hx:ev f x=.map (some b)) (hy:ev f y=K2 k) (hc:ev f c=.int .i64 v) (hv:aM v)
  (h:∀w',HI M0 w0 w' (l.set i (bX b (jn m k v)))→K (cX f dd undef) w'):SO P n ops ⟨dd,.mapUpdate T x y c,ty,ps,af,none⟩ f w K:=by
 obtain⟨kt,et,h1,h2,h3⟩:=F.h
 obtain⟨es,clock,g1,g2,g3⟩:=H.at_ i hi
 have hr:=Mq h2 k w g2
 have ep:b<w.heap.size:=(anQ.1 g1).1
 have fin:∀(o:Obj),(∀M w',w'.heap[b]? =some o→(bX b (jn m k v)).holds M w')→
   HI M0 w0 {w with heap:=w.heap.setIfInBounds b o} (l.set i (bX b (jn m k v))):=by
  intro o ho
  refine H.vB i hi J J J (by simp) (anl _) (fun q hq gH=>?_) (fun q hq=>?_)<|ho _ _ (AJ g1).1
  ·exact(AJ g1).2 q fun e=>gH (by rw[e];rfl)
  ·cases hq
   exact⟨by simpa using ep,.inl rfl⟩
 cases hq:pg m k 0 with
 |none=>
  refine SO.skip (w':={w with heap:=w.heap.setIfInBounds b (.map (es.push ⟨K2 k,.int .i64 v,clock⟩) (clock+1))}) ?_ (h _<|fin _ ?_)
  ·simp[execOp,aN ox,aN oy,aN oc,hx,hy,hc,Instr.mapUpdate,run_underlying h1,get_map g1,h2.BU,hr,hq,DB _ g1]
  ·intro M w' hw
   exact⟨_,_,hw,by rw[Array.toList_push];exact G0 m es.toList k 0 g2 hq clock v,Oa g3 k hv⟩
 |some p=>
  obtain⟨j,u⟩:=p
  obtain⟨q,e,I9,nw,Ej,Ei⟩:=GZ m es.toList k 0 j u g2 hq
  obtain rfl:j=q:=by omega
  have he:es[j]? =some e:=by simpa using nw
  have hsb:(Instr.keyThatStays e.key (K2 k)).run P w=.ok (K2 k) w:=by
   rw[Ej];simp[Instr.keyThatStays,Instr.sameBits]
  refine SO.skip (w':={w with heap:=w.heap.setIfInBounds b (.map (es.modify j fun e=>{e with key:=K2 k,val:=.int .i64 v}) clock)}) ?_ (h _<|fin _ ?_)
  ·simp[execOp,aN ox,aN oy,aN oc,hx,hy,hc,Instr.mapUpdate,run_underlying h1,get_map g1,h2.BU,hr,hq,he,hsb,DB _ g1]
  ·intro M w' hw
   exact⟨_,_,hw,by rw[Array.toList_modify];exact Ei clock v,Oa g3 k hv⟩
end
end
end Go.Ew
namespace Go.Ew
end Go.Ew
namespace Go.Ew
abbrev iP:=Bool×ByteArray×Int
abbrev aI:=Int×Int×Bool×Int×Int
abbrev cD:=List (List iP)
def vO (c:UInt8):Bool:=!(decide (((c.toNat:Nat):Int)<97))&&!(decide ((122:Int)<((c.toNat:Nat):Int)))
def lS (s:ByteArray):Bool:=s.data.toList.all vO&&decide (1≤s.size)&&decide (s.size≤8)
theorem Pj {s:ByteArray} {j:Nat} {c:UInt8} (h:s[((j:Nat):Int).toNat]? =some c):s.data.toList[((j:Nat):Int).toNat]? =some c:=by
 rw[dv] at h ⊢
 rw[aox]
 have hj:j<s.size:=by
  refine an3 fun hn=>?_
  rw[getElem?_neg s j hn] at h;cases h
 rw[getElem?_pos s j hj] at h
 rw[Array.getElem?_eq_getElem hj]
 exact h
theorem Oy {s:ByteArray} {j:Nat} {c:UInt8} (h:s[((j:Nat):Int).toNat]? =some c) (h1:vO c=false):false=lS s:=by
 unfold lS;rw[MV (Pj h) h1];rfl
theorem Lx {s:ByteArray} {j:Nat} (h:(s.data.toList.take j).all vO=true) (hj:s.size≤j):s.data.toList.all vO=true:=by
 rwa [ant (by rw[an4];exact hj)] at h
theorem abz {c:UInt8} (h:decide (((c.toNat:Nat):Int)<97)=true):vO c=false:=by unfold vO;rw[h];rfl
theorem abA {c:UInt8} (h:decide ((122:Int)<((c.toNat:Nat):Int))=true):vO c=false:=by unfold vO;rw[h];simp
theorem ZI {c:UInt8} (h:decide (((c.toNat:Nat):Int)<97)=false) (h1:decide ((122:Int)<((c.toNat:Nat):Int))=false):vO c=true:=by unfold vO;rw[h,h1];rfl
theorem u6 {α:Type} {h:List (List α)} {j:Nat} {x:List α} (hx:h[((j:Nat):Int).toNat]? =some x):(h.take (j+1)).flatten=(h.take j).flatten++x:=by
 rw[nH hx];simp
theorem uq {α:Type} {h:List (List α)} {j:Nat} {x:List α} (hx:h[((j:Nat):Int).toNat]? =some x):((h.take j).flatten).length+x.length≤h.flatten.length:=by
 have h1:h.flatten=(h.take (j+1)).flatten++(h.drop (j+1)).flatten:=by rw[←aqc,aov]
 rw[h1,u6 hx];simp
def zQ (o:iP):Bool:=lS o.2.1
def gC (h:cD):Bool:=h.flatten.all zQ&&decide (h.flatten.length≤4096)
theorem U6 {h:cD} {i:Nat} {x:iP} (hx:h.flatten[i]? =some x) (h1:lS x.2.1=false):false=gC h:=by
 unfold gC;rw[MV hx h1];rfl
theorem RZ {h:cD} {j:Nat} (hs:(h.flatten.take j).all zQ=true) (hj:h.flatten.length≤j):decide ((h.flatten.length:Int)≤4096)=gC h:=by
 unfold gC;rw[l5 hj] at hs;rw[hs,aoe,aoA];omega
def zO (o:iP):Bool:=decide (o.2.1.size≤20)
def iG (h:cD) (m:Int):Bool:=decide ((h.length:Int)≤m)&&decide ((h.flatten.length:Int)≤m)&&h.flatten.all zO
theorem IF {h:cD} {m:Int}:iG h m=true↔(h.length:Int)≤m∧(h.flatten.length:Int)≤m∧∀o∈h.flatten,o.2.1.size≤20:=by
 unfold iG
 rw[eI,eI,ank,ank,anr,and_assoc]
 unfold zO
 simp only[ank]
theorem RJ {h:cD} {m:Int} (hm:m<(h.length:Int)):false=iG h m:=by unfold iG;rw[ans aq];rfl
theorem RI {h:cD} {m:Int} (hm:m<(h.flatten.length:Int)):false=iG h m:=by unfold iG;rw[show decide ((h.flatten.length:Int)≤m)=false from ans aq];simp
theorem RH {h:cD} {m:Int} {i:Nat} {x:iP} (hx:h.flatten[i]? =some x) (h1:20<(x.2.1.size:Int)):false=iG h m:=by
 unfold iG;rw[MV hx (show zO x=false from ans aq)];simp
theorem RL {h:cD} {m:Int} {j:Nat} (h1:¬m<(h.length:Int)) (h2:¬m<(h.flatten.length:Int)) (hs:(h.flatten.take j).all zO=true) (hj:h.flatten.length≤j):true=iG h m:=by
 unfold iG;rw[l5 hj] at hs;rw[hs,anq aq,anq aq];rfl
def Gu (s:ByteArray) (t:ByteArray):Bool:=decide (t=s)
def gz (l:List ByteArray) (s:ByteArray):Int:=eA (Gu s) l
def Io (vs:List ByteArray) (s:ByteArray):List ByteArray:=if gz vs s<0 then vs++[s] else vs
def Lr (vs:List ByteArray) (s:ByteArray):Int:=if gz vs s<0 then (vs.length:Int) else gz vs s
abbrev yT:=List ByteArray×List aI
def uy (i:Nat) (st:yT) (x:iP×Nat):yT:=(Io st.1 x.1.2.1,st.2++[(((i:Nat):Int),((x.2:Nat):Int),x.1.1,Lr st.1 x.1.2.1,x.1.2.2)])
def jD (i:Nat) (st:yT) (ops:List iP) (k:Nat):yT:=((ops.take k).zipIdx).foldl (uy i) st
def K7 (i:Nat) (st:yT) (ops:List iP):yT:=jD i st ops ops.length
def gW (h:cD) (j:Nat):yT:=((h.take j).zipIdx).foldl (fun st x=>K7 x.2 st x.1) ([],[])
theorem Ay {α:Type} {l:List α} {k:Nat} {x:α} (hx:l[((k:Nat):Int).toNat]? =some x):(l.take (k+1)).zipIdx=(l.take k).zipIdx++[(x,k)]:=by
 have hk:k<l.length:=by rw[dv] at hx;exact(dC.1 hx).1
 rw[nH hx,List.zipIdx_append]
 simp;omega
theorem AG (i:Nat) (st:yT) (ops:List iP):jD i st ops 0=st:=rfl
theorem wQ {i k:Nat} {st:yT} {ops:List iP} {x:iP} (hx:ops[((k:Nat):Int).toNat]? =some x):jD i st ops (k+1)=uy i (jD i st ops k) (x,k):=by
 unfold jD;rw[Ay hx,apg];rfl
theorem vj {h:cD} {j:Nat} {x:List iP} (hx:h[((j:Nat):Int).toNat]? =some x):gW h (j+1)=K7 j (gW h j) x:=by
 unfold gW;rw[Ay hx,apg];rfl
theorem fq {α:Type} {h:List (List α)} {j:Nat} {x:List α} (hx:h[((j:Nat):Int).toNat]? =some x):h.getD j []=x:=by
 rw[dv] at hx;rw[gZ,hx];rfl
theorem Bs {h:cD} {j k:Nat} (hj:j<h.length) (hk:(h.getD j []).length≤k):jD j (gW h j) (h.getD j []) k=gW h (j+1):=by
 have hx:h[((j:Nat):Int).toNat]? =some h[j]:=by rw[dv];exact eB hj
 rw[vj hx,fq hx] at *
 unfold K7 jD
 rw[ant hk,aod]
theorem Hw (i:Nat) (st:yT) (ops:List iP):∀k,k≤ops.length→(jD i st ops k).2.length=st.2.length+k∧(jD i st ops k).1.length≤st.1.length+k
 |0,_=>by rw[AG];omega
 |k+1,h=>by
  have ih:=Hw i st ops k aq
  have hx:ops[((k:Nat):Int).toNat]? =some ops[k]:=by rw[dv];exact eB aq
  rw[wQ hx]
  have e1:(uy i (jD i st ops k) (ops[k],k)).2.length=(jD i st ops k).2.length+1:=by unfold uy;simp
  have e2:(uy i (jD i st ops k) (ops[k],k)).1.length≤(jD i st ops k).1.length+1:=by unfold uy Io;simp only;split<;>simp
  omega
theorem Bq (h:cD):∀j,j≤h.length→(gW h j).2.length=((h.take j).flatten).length∧(gW h j).1.length≤((h.take j).flatten).length
 |0,_=>by simp[gW]
 |j+1,hj=>by
  have ih:=Bq h j aq
  have hx:h[((j:Nat):Int).toNat]? =some h[j]:=by rw[dv];exact eB aq
  rw[vj hx,u6 hx,fA]
  have:=Hw j (gW h j) h[j] h[j].length<|anl _
  unfold K7
  omega
theorem pP {h:cD} {j k:Nat} {x:List iP} (hx:h[((j:Nat):Int).toNat]? =some x) (hk:k<x.length):
  (jD j (gW h j) x k).2.length+1≤h.flatten.length∧(jD j (gW h j) x k).1.length+1≤h.flatten.length:=by
 have hj:j<h.length:=by rw[dv] at hx;exact(dC.1 hx).1
 have h1:=Bq h j aq
 have h2:=Hw j (gW h j) x k aq
 have h3:=uq hx
 omega
def yJ (h:cD):List ByteArray:=(gW h h.length).1
def fT (h:cD):List aI:=(gW h h.length).2
theorem Jp (h:cD):(fT h).length=h.flatten.length:=by
 have:=(Bq h h.length<|anl _).1
 rwa [aod] at this
def mc (h:cD):List ByteArray:=if gC h then yJ h else []
def cN (h:cD):List aI:=if gC h then fT h else []
def lu (h:cD):Int:=if gC h then 0 else 1
theorem rM {h:cD} (hr:gC h=true):mc h=yJ h∧cN h=fT h∧lu h=0:=by unfold mc cN lu;simp[hr]
theorem xe {h:cD} (hr:gC h=false):mc h=[]∧cN h=[]∧lu h=1:=by unfold mc cN lu;simp[hr]
theorem Oo (h:cD):(cN h).length≤h.flatten.length:=by
 unfold cN;split
 ·rw[Jp];exact anl _
 ·simp
theorem wU {i k:Nat} {st:yT} {ops:List iP} {x:iP} (hx:ops[((k:Nat):Int).toNat]? =some x) (hf:gz (jD i st ops k).1 x.2.1<0):
  (jD i st ops k).1++[x.2.1]=(jD i st ops (k+1)).1∧(jD i st ops k).2++[(((i:Nat):Int),((k:Nat):Int),x.1,((jD i st ops k).1.length:Int),x.2.2)]=(jD i st ops (k+1)).2:=by
 rw[wQ hx];unfold uy Io Lr;rw[ann hf,ann hf];exact⟨rfl,rfl⟩
theorem wT {i k:Nat} {st:yT} {ops:List iP} {x:iP} (hx:ops[((k:Nat):Int).toNat]? =some x) (hf:¬gz (jD i st ops k).1 x.2.1<0):
  (jD i st ops k).1=(jD i st ops (k+1)).1∧(jD i st ops k).2++[(((i:Nat):Int),((k:Nat):Int),x.1,gz (jD i st ops k).1 x.2.1,x.2.2)]=(jD i st ops (k+1)).2:=by
 rw[wQ hx];unfold uy Io Lr;rw[anp hf,anp hf];exact⟨rfl,rfl⟩
def kF (v val:Int) (x:aI):Bool:=x.2.2.1&&decide (x.2.2.2.1=v)&&decide (x.2.2.2.2=val)
def gm (aH:List aI) (v val:Int):Int:=eA (kF v val) aH
def xO (aH:List aI) (j:Nat) (x:aI):Bool:=x.2.2.1&&(decide (x.2.2.2.2=0)||decide (max (gm aH x.2.2.2.1 x.2.2.2.2) 0<((j:Nat):Int)))
def nG (aH:List aI) (j:Nat):Bool:=(aH[j]?).any (xO aH j)
def G1 (aH:List aI):Option Nat:=(List.range aH.length).find? (nG aH)
def cT (aH:List aI):Int×Int×Int:=match G1 aH with
 |none=>(0,0,0)
 |some j=>match aH[j]? with
  |none=>(0,0,0)
  |some x=>if x.2.2.2.2=0 then (((j:Nat):Int),((j:Nat):Int),5) else (max (gm aH x.2.2.2.1 x.2.2.2.2) 0,((j:Nat):Int),4)
theorem aai {aH:List aI} {j:Nat} (h:∀k,k<j→nG aH k=false) (hj:aH.length≤j):G1 aH=none:=by
 unfold G1;rw[aoL]
 intro k hk
 rw[ano] at hk
 rw[h k aq];simp
theorem O0 {aH:List aI} {j:Nat} (h:∀k,k<j→nG aH k=false) (hj:j<aH.length) (hb:nG aH j=true):G1 aH=some j:=by
 unfold G1
 rw[apv]
 refine⟨hb,List.range j,(List.range<|aH.length-j-1).map (fun i=>j+1+i),?_,fun a ha=>by rw[h a (ano.1 ha)];rfl⟩
 have:aH.length=j+(1+(aH.length-j-1)):=by omega
 rw[this,nJ,nJ]
 simp[ap2]
theorem Dd {aH:List aI} {j:Nat} {x:aI} (hx:aH[((j:Nat):Int).toNat]? =some x):nG aH j=xO aH j x:=by
 rw[dv] at hx;unfold nG;rw[hx];rfl
theorem Bp {aH:List aI} {j:Nat} {x:aI} (h:∀k,k<j→nG aH k=false) (hx:aH[((j:Nat):Int).toNat]? =some x) (hb:xO aH j x=false):∀k,k<j+1→nG aH k=false:=by
 intro k hk
 rcases ao0.1 hk with h1|rfl
 ·exact h k h1
 ·rw[Dd hx];exact hb
theorem uw {aH:List aI} {j:Nat} (h:∀k,k<j→nG aH k=false) (hj:aH.length≤j):cT aH=(0,0,0):=by
 unfold cT;rw[aai h hj]
theorem uv {aH:List aI} {j:Nat} {x:aI} (h:∀k,k<j→nG aH k=false) (hx:aH[((j:Nat):Int).toNat]? =some x) (hw:x.2.2.1=true) (h0:x.2.2.2.2=0):cT aH=(((j:Nat):Int),((j:Nat):Int),5):=by
 have hj:j<aH.length:=by rw[dv] at hx;exact(dC.1 hx).1
 have hb:nG aH j=true:=by rw[Dd hx];unfold xO;simp[hw,h0]
 unfold cT;rw[O0 h hj hb]
 rw[dv] at hx
 simp only[hx,h0,aoX]
theorem sC {aH:List aI} {j:Nat} {x:aI} (h:∀k,k<j→nG aH k=false) (hx:aH[((j:Nat):Int).toNat]? =some x) (hw:x.2.2.1=true) (h0:¬x.2.2.2.2=0)
  (h1:max (gm aH x.2.2.2.1 x.2.2.2.2) 0<((j:Nat):Int)):cT aH=(max (gm aH x.2.2.2.1 x.2.2.2.2) 0,((j:Nat):Int),4):=by
 have hj:j<aH.length:=by rw[dv] at hx;exact(dC.1 hx).1
 have hb:nG aH j=true:=by rw[Dd hx];unfold xO;simp[hw,h1]
 unfold cT;rw[O0 h hj hb]
 rw[dv] at hx
 simp only[hx,h0,aoa]
theorem MI {aH:List aI} {j:Nat} {x:aI} (hw:x.2.2.1=false):xO aH j x=false:=by unfold xO;rw[hw];rfl
theorem MJ {aH:List aI} {j:Nat} {x:aI} (h0:¬x.2.2.2.2=0) (h1:¬max (gm aH x.2.2.2.1 x.2.2.2.2) 0<((j:Nat):Int)):xO aH j x=false:=by
 unfold xO;rw[ans h0,ans h1];simp
theorem Ro {aH:List aI} {j:Nat} {x:aI} {v val:Int} (hx:aH[((j:Nat):Int).toNat]? =some x) (h1:x.2.2.1=true) (h2:decide (x.2.2.2.1=v)=true) (h3:decide (x.2.2.2.2=val)=true) (hs:(aH.take j).any (kF v val)=false):((j:Nat):Int)=gm aH v val:=
 ue hx hs (by unfold kF;rw[h1,h2,h3];rfl)
theorem NS {aH:List aI} {j:Nat} {v val:Int} (hs:(aH.take j).any (kF v val)=false) (h:aH.length≤j):(-1:Int)=gm aH v val:=uX hs h
theorem Z3 {x:aI} {v val:Int} (h:x.2.2.1=false):kF v val x=false:=by unfold kF;rw[h];rfl
theorem OF {x:aI} {v val:Int} (h:decide (x.2.2.2.1=v)=false):kF v val x=false:=by unfold kF;rw[h];simp
theorem OE {x:aI} {v val:Int} (h:decide (x.2.2.2.2=val)=false):kF v val x=false:=by unfold kF;rw[h];simp
def tC (aH:List aI) (j:Nat) (m:KV):Prop:=∀p:Int×Int,getM m p=((aH.take j).findIdx? (kF p.1 p.2)).map fun i=>((i:Nat):Int)
theorem GW (aH:List aI):tC aH 0 []:=by intro p;simp[getM]
theorem CG {aH:List aI} {p:aI→Bool} {j i:Nat} (h:(aH.take j).findIdx? p=some i):eA p aH=((i:Nat):Int):=by
 unfold eA
 have:aH.findIdx? p=some i:=by
  conv=>lhs;rw[←aov j aH]
  rw[ap_,h];rfl
 rw[this]
theorem I7 {aH:List aI} {p:aI→Bool} {j:Nat} {x:aI} (hx:aH[((j:Nat):Int).toNat]? =some x) (hp:p x=true) (h:(aH.take j).findIdx? p=none):eA p aH=((j:Nat):Int):=by
 refine(ue hx ?_ hp).symm
 rw[aoZ] at h
 rw[ao5]
 intro y hy;rw[h y hy];simp
theorem Jm {aH:List aI} {p:aI→Bool} {j:Nat} {x:aI} (hx:aH[((j:Nat):Int).toNat]? =some x):
  (aH.take (j+1)).findIdx? p=((aH.take j).findIdx? p).or (if p x then some j else none):=by
 have hj:j<aH.length:=by rw[dv] at hx;exact(dC.1 hx).1
 rw[nH hx,ap_,gY,aon aq]
 congr 1
 cases hp:p x<;>simp[List.findIdx?_cons,hp]
theorem Es {aH:List aI} {j:Nat} {m:KV} {x:aI} (h:tC aH j m) (hx:aH[((j:Nat):Int).toNat]? =some x) (hw:x.2.2.1=false):tC aH (j+1) m:=by
 intro p
 rw[h p,Jm hx,show kF p.1 p.2 x=false from by unfold kF;rw[hw];rfl]
 simp
theorem GV {aH:List aI} {j:Nat} {m:KV} {x:aI} (h:tC aH j m) (hx:aH[((j:Nat):Int).toNat]? =some x) (hw:x.2.2.1=true) (hn:getM m (x.2.2.2.1,x.2.2.2.2)=none):tC aH (j+1) (jn m (x.2.2.2.1,x.2.2.2.2) ((j:Nat):Int)):=by
 intro p
 rw[Wh,Jm hx]
 by_cases e:p=(x.2.2.2.1,x.2.2.2.2)
 ·subst e
  rw[h] at hn
  have LY:(aH.take j).findIdx? (kF x.2.2.2.1 x.2.2.2.2)=none:=by simpa using hn
  rw[ann rfl]
  simp only[LY,show kF x.2.2.2.1 x.2.2.2.2 x=true from by unfold kF;simp[hw]]
  simp
 ·rw[anp e,h p,show kF p.1 p.2 x=false from by
   unfold kF;rw[hw]
   simp only[aoe,ap6,anw]
   by_cases e1:x.2.2.2.1=p.1
   ·exact .inr fun e2=>e (by rw[Prod.ext_iff];exact⟨e1.symm,e2.symm⟩)
   ·exact .inl e1]
  simp
theorem AK {aH:List aI} {j:Nat} {m:KV} {x:aI} (h:tC aH j m) (hx:aH[((j:Nat):Int).toNat]? =some x) (hs:(getM m (x.2.2.2.1,x.2.2.2.2)).isSome=true):
  (getM m (x.2.2.2.1,x.2.2.2.2)).getD 0=max (gm aH x.2.2.2.1 x.2.2.2.2) 0∧max (gm aH x.2.2.2.1 x.2.2.2.2) 0<((j:Nat):Int):=by
 rw[h] at hs ⊢
 cases hf:(aH.take j).findIdx? (kF x.2.2.2.1 x.2.2.2.2) with
 |none=>simp[hf] at hs
 |some i=>
  have hi:i<j:=by
   have:=(anF.1 hf).1
   rw[gY] at this;omega
  have:=CG hf
  unfold gm
  rw[this]
  simp only[hf,aoy,apy]
  omega
theorem N5 {aH:List aI} {j:Nat} {m:KV} {x:aI} (h:tC aH j m) (hx:aH[((j:Nat):Int).toNat]? =some x) (hw:x.2.2.1=true) (hs:(getM m (x.2.2.2.1,x.2.2.2.2)).isSome=false):
  getM m (x.2.2.2.1,x.2.2.2.2)=none∧gm aH x.2.2.2.1 x.2.2.2.2=((j:Nat):Int):=by
 have h0:getM m (x.2.2.2.1,x.2.2.2.2)=none:=by simpa using hs
 refine⟨h0,?_⟩
 rw[h] at h0
 have h1:(aH.take j).findIdx? (kF x.2.2.2.1 x.2.2.2.2)=none:=by simpa using h0
 exact I7 hx (by unfold kF;simp[hw]) h1
end Go.Ew
namespace Go.Ew
open Go.RowKit
section
variable {P:Program} {n:Nat} {ops:Array Oper} {f:aQ} {w:World} {K:aQ→World→Prop} {x y:Operand} {d:Nat} {ty T T2 e:TypeId} {ps:String} {af:Array Edge} {M:Nat→Prop} {B:Nat} {a:Option Addr} {k c:Nat} {s t:Int}
theorem w8 {i:Int} (h0:0≤i) (h1:i≤255):IntKind.u8.wrap i=i∧(((BitVec.ofInt 8 i).toNat:Nat):Int)=i:=by
 constructor
 ·unfold IntKind.wrap
  simp[IntKind.bits,IntKind.signed]
  omega
 ·rw[ao']
  show ((i%256).toNat:Int)=i
  omega
end
end Go.Ew
namespace Go.Ew
open Go.RowKit
section
variable {P:Program} {n:Nat} {ops:Array Oper} {f:aQ} {w:World} {K:aQ→World→Prop} {x:Operand} {d:Nat} {ty:TypeId} {ps:String} {af:Array Edge} {a:Addr}
theorem nc (ox:bG n x=true) (hx:ev f x=.pointer (some a)) (h:K (cb f d (.pointer (some a))) w):SO P n ops ⟨some d,.nilCheck x,ty,ps,af,none⟩ f w K:=
 SO.value (v:=.pointer (some a)) (w':=w) (by simp[execOp,aN ox,hx]) h
theorem mf0 {f:aQ}:([]:List Operand).map (ev f)=[]:=rfl
theorem XL {f:aQ} {x:Operand} {v:Value} {L:List Operand} {V:List Value} (h:ev f x=v) (t:L.map (ev f)=V):(x::L).map (ev f)=v::V:=by rw[anM,h,t]
theorem mf2 {fn:Fn} {ae:List Operand} {V:List Value} (oc:Gc n ae=true) (hC:ae.map (ev f)=V) (h:K (cb f d (.func fn #[] V.toArray)) w):SO P n ops ⟨some d,.makeFunc fn #[] ae.toArray,ty,ps,af,none⟩ f w K:=by
 refine mf oc ?_
 rw[hC];exact h
end
theorem MA {α0 α1 α2 α3 α4 α5 α6 α7 α8 α9 β:Type} (f:α0→α1→α2→α3→α4→α5→α6→α7→α8→α9→β) {x0 y0:α0} {x1 y1:α1} {x2 y2:α2} {x3 y3:α3} {x4 y4:α4} {x5 y5:α5} {x6 y6:α6} {x7 y7:α7} {x8 y8:α8} {x9 y9:α9} (h0:x0=y0) (h1:x1=y1) (h2:x2=y2) (h3:x3=y3) (h4:x4=y4) (h5:x5=y5) (h6:x6=y6) (h7:x7=y7) (h8:x8=y8) (h9:x9=y9):f x0 x1 x2 x3 x4 x5 x6 x7 x8 x9=f y0 y1 y2 y3 y4 y5 y6 y7 y8 y9:=by
 subst h0;subst h1;subst h2;subst h3;subst h4;subst h5;subst h6;subst h7;subst h8;subst h9;rfl
end Go.Ew
namespace Go.Ew
open Go.RowKit
theorem uR {α:Type} {p:α→Bool} {l:List α} (h:l.Nodup):(l.filter p).Nodup:=apT List.filter_sublist h
def oz (l:List Oper) (cn:Nat→Option Nat) (L:Nat→Bool) (j:Nat):Bool:=(Nat.ble l.length j||L j)&&(match cn j with|none=>true|some i=>!L i)
def EY (l:List Oper) (cn:Nat→Option Nat) (aH:Nat→Value→List Item) (m:Nat) (L:Nat→Bool) (V:Nat→Value):List Item:=((List.range m).filter (oz l cn L)).flatMap fun j=>aH j (V j)
def waits (T:List Nat) (i j:Nat):Bool:=Nat.testBit (T.getD i 0) j
def E5 (T:List Nat) (o:Oper):Nat→Nat
 |0=>0
 |j+1=>bif kN o j then E5 T o j ||| (2^j ||| T.getD j 0) else E5 T o j
def XE (l:List Oper) (T:List Nat):Bool:=(List.range l.length).all fun i=>match l[i]? with|some o=>Nat.beq (T.getD i 0) (E5 T o i)|none=>true
theorem E4 {T:List Nat} {o:Oper} {m:Nat}:∀i,Nat.testBit (E5 T o i) m=true→∃j,j<i∧kN o j=true∧(m=j∨waits T j m=true)
 |0,h=>by simp[E5] at h
 |i+1,h=>by
  unfold E5 at h
  cases ho:kN o i with
  |false=>
   rw[ho] at h
   obtain⟨j,h1,h2⟩:=E4 i h
   exact⟨j,by omega,h2⟩
  |true=>
   rw[ho] at h
   have h:Nat.testBit (E5 T o i ||| (2^i ||| T.getD i 0)) m=true:=h
   rw[Nat.testBit_or,Nat.testBit_or,anv,anv,Nat.testBit_two_pow] at h
   rcases h with h|h|h
   ·obtain⟨j,h1,h2⟩:=E4 i h
    exact⟨j,by omega,h2⟩
   ·exact⟨i,by omega,ho,.inl (an7 h).symm⟩
   ·exact⟨i,by omega,ho,.inr h⟩
theorem AB {l:List Oper} {T:List Nat} (hT:XE l T=true) {L:Nat→Bool} (hC:∀j o,L j=true→l[j]? =some o→∀q,kN o q=true→L q=true) (hL:∀j,L j=true→j<l.length):
  ∀(n i:Nat) (o:Oper),i≤n→l[i]? =some o→(∀j,kN o j=true→L j=true)→∀m,waits T i m=true→L m=true
 |n,i,o,sr,ho,hd,m,hm=>by
  have jF:=(dC.1 ho).1
  have h1:=anr.1 hT i<|ano.2 jF
  rw[ho] at h1
  have h1:=aou h1
  unfold waits at hm
  rw[h1] at hm
  obtain⟨j,hj,X6,Ab⟩:=E4 i hm
  have xB:=hd j X6
  rcases Ab with rfl|Ab
  ·exact xB
  ·have xp:=hL j xB
   have qD:l[j]? =some l[j]:=eB xp
   cases n with
   |zero=>omega
   |succ n=>exact AB hT hC hL n j l[j] aq qD (hC j l[j] xB qD) m Ab
def Qc (l:List Oper) (cn:Nat→Option Nat) (T:List Nat) (m i:Nat) (o:Oper) (D:List Nat):Bool:=
 nodupB D&&D.all (fun j=>Nat.blt j m&&(Nat.ble l.length j||waits T i j)&&(match cn j with|none=>true|some c=>Nat.beq c i||(Nat.blt c l.length&&waits T c i)))&&(List.range m).all (fun j=>match cn j with|none=>true|some c=>!Nat.beq c i||D.contains j)
def Gt (cn:Nat→Option Nat) (i:Nat) (D:List Nat):List Nat:=D.filter fun j=>match cn j with|none=>true|some c=>!Nat.beq c i
def XF (n:Nat) (l:List Oper) (cn:Nat→Option Nat) (T:List Nat) (m:Nat) (Ds:List (List Nat)):Bool:=
 XE l T&&qU 0 l&&nodupB (jg l.length l)&&(jg l.length l).all (fun d=>Nat.blt d n)&&Nat.ble l.length m&&(List.range l.length).all fun i=>match l[i]? with|some o=>Qc l cn T m i o (Ds.getD i [])|none=>true
section
variable {P:Program} {n:Nat} {l:List Oper} {cn:Nat→Option Nat} {aH:Nat→Value→List Item} {m:Nat} {T:List Nat} {Ds:List (List Nat)} {Φ:Nat→Value→Prop} {f0:aQ} {M0:Nat→Prop} {w0:World} {base:List Item}
def GStep (P:Program) (n:Nat) (l:List Oper) (cn:Nat→Option Nat) (T:List Nat) (aH:Nat→Value→List Item) (Φ:Nat→Value→Prop) (f0:aQ) (M0:Nat→Prop) (w0:World) (base:List Item) (i:Nat) (o:Oper) (D:List Nat):Prop:=
 ∀(f:aQ) (w:World) (V:Nat→Value) (r:List Item),(∀t,(jg l.length l).contains t=false→f t=f0 t)→(∀j x,l[j]? =some x→x.dst.isSome=true→waits T i j=true→f (iW l j)=V j∧Φ j (V j))→(∀j x,l[j]? =some x→x.dst.isSome=true→(j=i∨waits T j i=true)→f (iW l j)=f0 (iW l j))→
  HI M0 w0 w (base++(D.flatMap (fun j=>aH j (V j))++r))→SO P n l.toArray o f w (fun f' w'=>∃v,f'=cX f o.dst v∧Φ i v∧HI M0 w0 w' (base++(((Gt cn i D).flatMap fun j=>aH j (V j))++(aH i v++r))))
def xV (P:Program) (n:Nat) (l:List Oper) (cn:Nat→Option Nat) (T:List Nat) (aH:Nat→Value→List Item) (Φ:Nat→Value→Prop) (f0:aQ) (M0:Nat→Prop) (w0:World) (base:List Item) (Ds:List (List Nat)):Nat→List Oper→Prop
 |_,[]=>True
 |i,o::r=>GStep P n l cn T aH Φ f0 M0 w0 base i o (Ds.getD i [])∧xV P n l cn T aH Φ f0 M0 w0 base Ds (i+1) r
theorem xV.at_:∀(r:List Oper) (i:Nat),xV P n l cn T aH Φ f0 M0 w0 base Ds i r→∀j o,r[j]? =some o→GStep P n l cn T aH Φ f0 M0 w0 base (i+j) o (Ds.getD (i+j) [])
 |[],_,_,j,o,h=>by simp at h
 |x::r,i,h,0,o,hj=>by
  simp only[anA,anx] at hj
  subst hj
  exact h.1
 |x::r,i,h,j+1,o,hj=>by
  simp only[anG] at hj
  have:=xV.at_ r (i+1) h.2 j o hj
  rwa [show i+1+j=i+(j+1) from by omega] at this
def JG (l:List Oper) (cn:Nat→Option Nat) (aH:Nat→Value→List Item) (m:Nat) (Φ:Nat→Value→Prop) (f0:aQ) (M0:Nat→Prop) (w0:World) (base:List Item) (L:Nat→Bool) (f:aQ) (w:World):Prop:=
 ∃V:Nat→Value,(∀t,(jg l.length l).contains t=false→f t=f0 t)∧(∀j x,l[j]? =some x→x.dst.isSome=true→f (iW l j)=if L j=true then V j else f0 (iW l j))∧(∀j,j<l.length→L j=true→Φ j (V j))∧(∀j o,L j=true→l[j]? =some o→∀q,kN o q=true→L q=true)∧HI M0 w0 w (base++EY l cn aH m L V)
theorem drg {id:Nat} {Q:Exit→Act→World→Prop} {f:aQ} {w:World} (cn:Nat→Option Nat) (T:List Nat) (aH:Nat→Value→List Item) (m:Nat) (Ds:List (List Nat)) (Φ:Nat→Value→Prop) (base:List Item) (V0:Nat→Value) (hm:P.follows .mixedOrders=true) (qd:XF n l cn T m Ds=true)
  (hH:HI M0 w0 w (base++((List.range m).filter (fun j=>Nat.ble l.length j)).flatMap fun j=>aH j (V0 j))) (sy:∀j i,cn j=some i→i<l.length)
  (hS:xV P n l cn T aH Φ f M0 w0 base Ds 0 l)
  (vJ:∀(f':aQ) (w':World) (V:Nat→Value),(∀t,(jg l.length l).contains t=false→f' t=f t)→(∀j x,l[j]? =some x→x.dst.isSome=true→f' (iW l j)=V j∧Φ j (V j))→HI M0 w0 w' (base++((List.range m).filter (fun j=>(cn j).isNone)).flatMap fun j=>aH j (V j))→Q .normal (b9 n f') w'):
  WC P n (.region id l.toArray true) Q f w:=by
 simp only[XF,eI] at qd
 obtain⟨⟨⟨⟨⟨adh,hE⟩,hN⟩,hn⟩,hlm⟩,hU⟩:=qd
 have hlm:l.length≤m:=aot hlm
 have acm:∀V,EY l cn aH m (fun _=>false) V=((List.range m).filter (fun j=>Nat.ble l.length j)).flatMap fun j=>aH j (V j):=by
  intro V
  unfold EY
  congr 1
  refine apw fun j hj=>?_
  unfold oz
  cases cn j<;>simp
 refine drj (JG l cn aH m Φ f M0 w0 base) hm hE ⟨V0,fun _ _=>rfl,fun j x _ _=>(by simp),fun j _ h=>(by cases h),fun j o h=>(by cases h),?_⟩ ?_ ?_
 ·rw[acm]
  exact hH.ext (Ext.drew w)
 ·rintro L f' w' i o qb tP adk Ye ⟨V,hs,hv,hφ,hC,hH⟩
  have jF:=(dC.1 qb).1
  have XV:∀j,waits T i j=true→L j=true:=fun j hj=>AB adh hC adk i i o (anl _) qb Ye j hj
  have VV:∀c oc,L c=true→l[c]? =some oc→∀j,waits T c j=true→L j=true:=fun c oc Tk S0 j hj=>AB adh hC adk c c oc (anl _) S0 (hC c oc Tk S0) j hj
  have qB:=xV.at_ l 0 hS i o qb
  simp only[an5] at qB
  have hu:=anr.1 hU i<|ano.2 jF
  rw[qb] at hu
  simp only[Qc,eI] at hu
  obtain⟨⟨Tm,hDu⟩,hDc⟩:=hu
  have Tm:=oI _ Tm
  generalize hD:Ds.getD i []=D at qB Tm hDu hDc
  have Yt:∀j∈D,j<m∧oz l cn L j=true:=by
   intro j hj
   have:=anr.1 hDu j hj
   simp only[eI,anv,apr] at this
   obtain⟨⟨h1,h2⟩,h3⟩:=this
   refine⟨h1,?_⟩
   unfold oz
   rw[eI,anv]
   refine⟨h2.imp (fun h=>h) (XV j),?_⟩
   revert h3
   cases OQ:cn j with
   |none=>intro _;rfl
   |some c=>
    intro h3
    simp only[anv] at h3
    show (!L c)=true
    rcases h3 with h3|h3
    ·rw[aou h3,tP];rfl
    ·cases Tk:L c with
     |false=>rfl
     |true=>
      exfalso
      simp only[eI,apr] at h3
      have:=VV c l[c] Tk (eB h3.1) i h3.2
      rw[tP] at this;cases this
  have hiD:i∉D:=by
   intro hi
   have:=(Yt i hi).2
   unfold oz at this
   rw[tP,show Nat.ble l.length i=false from by
    cases hb:Nat.ble l.length i with
    |false=>rfl
    |true=>have:=aot hb;omega] at this
   simp at this
  
  have afi:((List.range m).filter (oz l cn L)).Perm (D++((List.range m).filter fun j=>oz l cn L j&&!D.contains j)):=by
   refine(List.perm_ext_iff_of_nodup (uR apD) ?_).2 fun j=>?_
   ·rw[ao4]
    refine⟨Tm,uR apD,fun a ha b hb Jj=>?_⟩
    subst Jj
    have:=(anD.1 hb).2
    simp[ha] at this
   ·simp only[anD,ano,anK,eI,aos,apF,anw]
    constructor
    ·rintro⟨h1,h2⟩
     by_cases hj:j∈D
     ·exact .inl hj
     ·exact .inr ⟨h1,h2,hj⟩
    ·rintro(h|⟨h1,h2, -⟩)
     ·exact Yt j h
     ·exact⟨h1,h2⟩
  have hH2:HI M0 w0 w' (base++(D.flatMap (fun j=>aH j (V j))++((List.range m).filter fun j=>oz l cn L j&&!D.contains j).flatMap fun j=>aH j (V j))):=by
   refine hH.perm ?_
   unfold EY
   rw[←ao7]
   exact List.Perm.append_left _<|afi.symm.flatMap_right _
  refine(qB f' w' V _ hs (fun j x yA GC X6=>?_) (fun j x yA GC ny=>?_) hH2).mono fun f2 w2 hK=>?_
  ·have:=hv j x yA GC
   rw[ann (XV j X6)] at this
   exact⟨this,hφ j (dC.1 yA).1 (XV j X6)⟩
  ·have:=hv j x yA GC
   have xB:L j=false:=by
    rcases ny with rfl|ny
    ·exact tP
    ·cases xB:L j with
     |false=>rfl
     |true=>have:=VV j x xB yA i ny;rw[tP] at this;cases this
   rw[xB] at this
   simpa using this
  ·obtain⟨v,rfl,ahX,hH3⟩:=hK
   refine⟨fun j=>if j=i then v else V j,fun t ht=>?_,fun j x yA GC=>?_,fun j hj xB=>?_,fun j oj xB qD q hq=>?_,?_⟩
   ·cases u2:o.dst with
    |none=>exact hs t ht
    |some di=>
     have gH:t≠di:=by
      rintro rfl
      have:=qz (k:=l.length) qb jF u2
      rw[←anY,ht] at this
      cases this
     rw[show cX f' (some di) v=cb f' di v from rfl,jx f' v gH]
     exact hs t ht
   ·dsimp only
    by_cases ny:j=i
    ·subst ny
     rw[qb] at yA;cases yA
     obtain⟨di,u2⟩:=anJ.1 GC
     rw[ann (by simp),ann rfl,O7 qb u2,u2]
     exact iR f' di v
    ·have h1:=hv j x yA GC
     obtain⟨dj,Em⟩:=anJ.1 GC
     have h2:cX f' o.dst v (iW l j)=f' (iW l j):=by
      cases u2:o.dst with
      |none=>rfl
      |some di=>
       rw[O7 yA Em]
       exact jx f' v<|adQ hN qb yA u2 Em<|fun e=>ny e.symm
     rw[h2,h1];simp[ny]
   ·dsimp only at xB ⊢
    by_cases ny:j=i
    ·subst ny;rw[ann rfl];exact ahX
    ·rw[anp ny]
     rw[ans ny,aoN] at xB
     exact hφ j hj xB
   ·dsimp only at xB ⊢
    by_cases ny:j=i
    ·subst ny
     rw[qb] at qD;cases qD
     rw[Ye q hq];rfl
    ·rw[ans ny,aoN] at xB
     rw[hC j oj xB qD q hq];rfl
   ·refine hH3.perm ?_
    have Eo:∀j,oz l cn (fun k=>L k||decide (k=i)) j=true↔(j=i∨(oz l cn L j=true∧∀c,cn j=some c→c≠i)):=by
     intro j
     unfold oz
     simp only[eI,anv,ank]
     constructor
     ·rintro⟨h1,h2⟩
      by_cases ny:j=i
      ·exact .inl ny
      ·refine .inr ⟨⟨h1.imp (fun h=>h) fun h=>h.resolve_right ny,?_⟩,?_⟩
       ·revert h2
        cases cn j with
        |none=>intro _;rfl
        |some c=>intro h2;simp at h2 ⊢;exact h2.1
       ·intro c hc
        rw[hc] at h2
        simp at h2
        exact h2.2
     ·rintro(rfl|⟨⟨h1,h2⟩,h3⟩)
      ·refine⟨.inr (.inr rfl),?_⟩
       cases OQ:cn j with
       |none=>rfl
       |some c=>
        have rC:=sy j c OQ
        have S0:l[c]? =some l[c]:=eB rC
        have XY:=anr.1 hU c<|ano.2 rC
        rw[S0] at XY
        simp only[Qc,eI] at XY
        have sr:=anr.1 XY.2 j<|ano.2 aq
        rw[OQ] at sr
        have sr:j∈Ds.getD c []:=by
         have hb:Nat.beq c c=true:=Nat.beq_refl c
         simp only[hb,apI,apd,apF,ank] at sr
         exact sr
        have Em:=anr.1 XY.1.2 j sr
        simp only[eI,anv] at Em
        have uY:waits T c j=true:=by
         rcases Em.1.2 with h|h
         ·have:=aot h;omega
         ·exact h
        have ait:c≠j:=by
         rintro rfl
         have:=XV c uY
         rw[tP] at this;cases this
        show (!(L c||decide (c=j)))=true
        rw[ans ait,aoN]
        cases Tk:L c with
        |false=>rfl
        |true=>have:=VV c l[c] Tk S0 j uY;rw[tP] at this;cases this
      ·refine⟨h1.imp (fun h=>h) .inl,?_⟩
       revert h2 h3
       cases cn j with
       |none=>intro _ _;rfl
       |some c=>
        intro h3 h2
        simp at h2 ⊢
        exact⟨h2,h3 c rfl⟩
    have SZ:((List.range m).filter (oz l cn fun k=>L k||decide (k=i))).Perm (Gt cn i D++([i]++((List.range m).filter fun j=>oz l cn L j&&!D.contains j))):=by
     refine(List.perm_ext_iff_of_nodup (uR apD) ?_).2 fun j=>?_
     ·rw[ao4]
      refine⟨uR Tm,?_,fun a ha b hb Jj=>?_⟩
      ·rw[List.singleton_append,aoo]
       refine⟨fun hi=>?_,uR apD⟩
       have:=(anD.1 hi).2
       simp only[eI] at this
       have h1:=this.1
       unfold oz at h1
       rw[tP,show Nat.ble l.length i=false from by
        cases hb:Nat.ble l.length i with
        |false=>rfl
        |true=>have:=aot hb;omega] at h1
       simp at h1
      ·subst Jj
       have haD:=(anD.1 ha).1
       rcases anC.1 hb with rfl|hb
       ·exact hiD haD
       ·have:=(anD.1 hb).2
        simp[haD] at this
     ·rw[anD,Eo,ano,anK,anK,aoz,anD]
      unfold Gt
      rw[anD,ano]
      simp only[eI,aos,apF,anw]
      have oe:(match cn j with|none=>true|some c=>!Nat.beq c i)=true↔∀c,cn j=some c→c≠i:=by
       cases OQ:cn j with
       |none=>simp
       |some c=>
        simp only[aos,anx]
        constructor
        ·rintro h d rfl rfl
         rw[Nat.beq_refl] at h;cases h
        ·intro h
         cases hb:Nat.beq c i with
         |false=>rfl
         |true=>exact absurd (aou hb) (h c rfl)
      rw[oe]
      constructor
      ·rintro⟨h1,h2|⟨h2,h3⟩⟩
       ·exact .inr (.inl h2)
       ·by_cases hjD:j∈D
        ·exact .inl ⟨hjD,h3⟩
        ·exact .inr (.inr ⟨h1,h2,hjD⟩)
      ·rintro(⟨h1,h2⟩|rfl|⟨h1,h2,h3⟩)
       ·exact⟨(Yt j h1).1,.inr ⟨(Yt j h1).2,h2⟩⟩
       ·exact⟨by omega,.inl rfl⟩
       ·refine⟨h1,.inr ⟨h2,fun c hc hci=>?_⟩⟩
        subst hci
        have sr:=anr.1 hDc j<|ano.2 h1
        rw[hc] at sr
        have hb:Nat.beq c c=true:=Nat.beq_refl c
        simp only[hb,apI,apd,apF,ank] at sr
        exact h3 sr
    refine List.Perm.append_left _ ?_
    unfold EY
    refine(SZ.flatMap_right _).trans ?_
    rw[ao7,ao7,List.flatMap_singleton]
    dsimp only
    rw[ann rfl]
    have Td:∀A:List Nat,i∉A→A.flatMap (fun j=>aH j (if j=i then v else V j))=A.flatMap fun j=>aH j (V j):=by
     intro A hA
     induction A with
     |nil=>rfl
     |cons a A ihA=>
      rw[aoR,aoR,ihA fun h=>hA (anP _ h),anp fun (e:a=i)=>hA (e▸an8)]
    rw[Td (Gt cn i D) (fun h=>hiD (anD.1 h).1),Td]
    intro hi
    have:=(anD.1 hi).2
    simp only[eI] at this
    have h1:=this.1
    unfold oz at h1
    rw[tP,show Nat.ble l.length i=false from by
     cases hb:Nat.ble l.length i with
     |false=>rfl
     |true=>have:=aot hb;omega] at h1
    simp at h1
 ·rintro f' w' ⟨V,hs,hv,hφ, -,hH⟩
  refine vJ f' w' V hs (fun j x yA GC=>?_) ?_
  ·have xp:=(dC.1 yA).1
   have:=hv j x yA GC
   rw[ann (anq xp)] at this
   exact⟨this,hφ j xp (anq xp)⟩
  ·have:EY l cn aH m (fun k=>decide (k<l.length)) V=((List.range m).filter (fun j=>(cn j).isNone)).flatMap fun j=>aH j (V j):=by
    unfold EY
    congr 1
    refine apw fun j hj=>?_
    unfold oz
    have h1:(Nat.ble l.length j||decide (j<l.length))=true:=by
     rw[anv,ank]
     by_cases h:j<l.length
     ·exact .inr h
     ·exact .inl (Nat.ble_eq_true_of_le aq)
    rw[h1,aoe]
    cases OQ:cn j with
    |none=>rfl
    |some c=>
     have:=sy j c OQ
     simp[this]
   rw[←this];exact hH
end
def vP:Value→Addr
 | .pointer (some a)=>a
 |_=>⟨0,0,none⟩
theorem afn {G6:List (Option Nat)} {N:Nat} (h:G6.all (fun c=>match c with|none=>true|some i=>Nat.blt i N)=true):∀j i,G6.getD j none=some i→i<N:=by
 intro j i hj
 rw[gZ] at hj
 cases hc:G6[j]? with
 |none=>rw[hc] at hj;cases hj
 |some c=>
  rw[hc] at hj
  have hj:c=some i:=hj
  subst hj
  have:=anr.1 h _<|dB hc
  simpa using this
theorem Ww {P:Program} {n:Nat} {l:List Oper} {id:Nat} {Q:Exit→Act→World→Prop} {f:aQ} {w:World} {M0:Nat→Prop} {w0:World} (G6:List (Option Nat)) (T:List Nat) (A9:List (Value→List Item)) (Ds:List (List Nat)) (ΦL:List (Value→Prop)) (base:List Item)
  (hm:P.follows .mixedOrders=true) (qd:XF n l (fun j=>G6.getD j none) T A9.length Ds=true) (hc:G6.all (fun c=>match c with|none=>true|some i=>Nat.blt i l.length)=true)
  (hH:HI M0 w0 w (base++((A9.drop l.length).flatMap fun g=>g undef)))
  (hS:xV P n l (fun j=>G6.getD j none) T (fun j=>A9.getD j (fun _=>[])) (fun j=>ΦL.getD j (fun _=>True)) f M0 w0 base Ds 0 l)
  (vJ:∀(f':aQ) (w':World) (V:Nat→Value),(∀t,(jg l.length l).contains t=false→f' t=f t)→(∀j x,l[j]? =some x→x.dst.isSome=true→f' (iW l j)=V j∧(ΦL.getD j (fun _=>True)) (V j))→HI M0 w0 w' (base++((List.range A9.length).filter (fun j=>(G6.getD j none).isNone)).flatMap fun j=>(A9.getD j (fun _=>[])) (V j))→Q .normal (b9 n f') w'):
  WC P n (.region id l.toArray true) Q f w:=by
 have hlm:l.length≤A9.length:=by
  simp only[XF,eI] at qd
  exact aot qd.1.2
 refine drg (fun j=>G6.getD j none) T (fun j=>A9.getD j<|fun _=>[]) A9.length Ds (fun j=>ΦL.getD j<|fun _=>True) base (fun _=>undef) hm qd ?_ (afn hc) hS vJ
 have key:∀(L:List (Value→List Item)) (k s:Nat),((List.range' s L.length).filter (fun j=>Nat.ble k j)).flatMap (fun j=>((List.replicate s (fun _=>[]))++L).getD j (fun _=>[]) undef)=(L.drop (k-s)).flatMap fun g=>g undef:=by
  intro L
  induction L with
  |nil=>intro k s;simp
  |cons g L ih=>
   intro k s
   have ah6:List.replicate s (fun _:Value=>([]:List Item))++g::L=(List.replicate s (fun _:Value=>([]:List Item))++[g])++L:=by simp
   have ug:∀j∈List.range' (s+1) L.length,(List.replicate s (fun _:Value=>([]:List Item))++g::L).getD j (fun _=>[]) undef=(List.replicate (s+1) (fun _:Value=>([]:List Item))++L).getD j (fun _=>[]) undef:=by
    intro j hj
    have hj:=(List.mem_range'_1.1 hj).1
    rw[gZ,gZ,ah6,og (by simp;omega),og (by simp;omega)]
    simp
   have Yb:∀A:List Nat,(∀j∈A,j∈List.range' (s+1) L.length)→A.flatMap (fun j=>(List.replicate s (fun _:Value=>([]:List Item))++g::L).getD j (fun _=>[]) undef)=A.flatMap fun j=>(List.replicate (s+1) (fun _:Value=>([]:List Item))++L).getD j (fun _=>[]) undef:=by
    intro A hA
    induction A with
    |nil=>rfl
    |cons a A ihA=>rw[aoR,aoR,ihA fun j hj=>hA j (anP _ hj),ug a (hA a an8)]
   rw[iM,List.range'_succ,List.filter_cons]
   by_cases hk:Nat.ble k s=true
   ·have Jd:=aot hk
    rw[ann hk,aoR,Yb _ fun j hj=>(anD.1 hj).1,ih k (s+1),show k-s=0 from by omega,show k-(s+1)=0 from by omega,apW,apW,aoR]
    congr 1
    rw[gZ,og (by simp)]
    simp
   ·have Jd:¬k≤s:=fun h=>hk (Nat.ble_eq_true_of_le h)
    rw[anp hk,Yb _ fun j hj=>(anD.1 hj).1,ih k (s+1),show k-s=(k-(s+1))+1 from by omega,List.drop_succ_cons]
 have:=key A9 l.length 0
 rw[List.replicate_zero,List.nil_append,ap7,←List.range_eq_range'] at this
 rw[this]
 exact hH
theorem aby {α:Type} [GT α] {B:Nat} {e:TypeId} {v:Value} {xs:List α} {M:Nat→Prop} {w:World} {g j:Nat} {x:α} (h:(own B e v xs).holds M w) (hv:v.ownBlock=some g) (hx:xs[j]? =some x):hG M w ⟨g,j*GT.size α,none⟩ x:=by
 obtain⟨cs,h1,h2⟩:=h
 rcases h1.2 with ⟨rfl,h3⟩|⟨g',cap,cur,rfl,h3,h4,h5,h6,h7,h8⟩
 ·cases hv
 ·obtain rfl:g'=g:=anm hv
  have lj:(⟨g',0,none⟩:Addr).add (j*GT.size α)=⟨g',j*GT.size α,none⟩:=by unfold Addr.add;split<;>simp_all
  obtain⟨c,yD,Ad⟩:=bu.at_ h2 j x hx
  refine⟨c,yD,fun i u hu=>?_⟩
  have uA:=h1.cells (g:=g') J (j*GT.size α+i) u<|Ad i u hu
  rwa [←add_add,lj] at uA
theorem j' {α:Type} [GT α] {B:Nat} {e:TypeId} {v:Value} {xs:List α} {M:Nat→Prop} {w:World} (h:(own B e v xs).holds M w):xs.length≤9223372036854775807:=by
 obtain⟨cs,h1,h2⟩:=h
 rcases h1.2 with ⟨rfl,h3⟩|⟨g',cap,cur,rfl,h3,h4,h5,h6,h7,h8⟩
 ·omega
 ·have:maxLen=9223372036854775807:=rfl
  omega
end Go.Ew
namespace Go.Ew
open Go.RowKit
def af9 (m k:Nat):Bool:=Nat.beq (Nat.land 1 (Nat.shiftRight m k)) 1
def mask (T:List Nat) (j:Nat) (V:Nat→Value) (k:Nat):Value:=bif (Nat.beq k j||af9 (T.getD j 0) k) then V k else undef
section
variable {P:Program} {n:Nat} {l:List Oper} {cn:Nat→Option Nat} {aH:Nat→(Nat→Value)→List Item} {m:Nat} {T:List Nat} {Ds:List (List Nat)} {Φ:Nat→Value→Prop} {f0:aQ} {M0:Nat→Prop} {w0:World} {base:List Item}
def UD (P:Program) (n:Nat) (l:List Oper) (cn:Nat→Option Nat) (T:List Nat) (aH:Nat→(Nat→Value)→List Item) (Φ:Nat→Value→Prop) (f0:aQ) (M0:Nat→Prop) (w0:World) (base:List Item) (i:Nat) (o:Oper) (D:List Nat):Prop:=
 ∀(f:aQ) (w:World) (V:Nat→Value) (r:List Item),(∀t,(jg l.length l).contains t=false→f t=f0 t)→(∀j x,l[j]? =some x→x.dst.isSome=true→waits T i j=true→f (iW l j)=V j∧Φ j (V j))→(∀j x,l[j]? =some x→x.dst.isSome=true→(j=i∨waits T j i=true)→f (iW l j)=f0 (iW l j))→
  HI M0 w0 w (base++(D.flatMap (fun j=>aH j (mask T j V))++r))→SO P n l.toArray o f w (fun f' w'=>∃v,f'=cX f o.dst v∧Φ i v∧HI M0 w0 w' (base++(((Gt cn i D).flatMap fun j=>aH j (mask T j V))++(aH i (mask T i (fun k=>if k=i then v else V k))++r))))
def DY (P:Program) (n:Nat) (l:List Oper) (cn:Nat→Option Nat) (T:List Nat) (aH:Nat→(Nat→Value)→List Item) (Φ:Nat→Value→Prop) (f0:aQ) (M0:Nat→Prop) (w0:World) (base:List Item) (Ds:List (List Nat)):Nat→List Oper→Prop
 |_,[]=>True
 |i,o::r=>UD P n l cn T aH Φ f0 M0 w0 base i o (Ds.getD i [])∧DY P n l cn T aH Φ f0 M0 w0 base Ds (i+1) r
theorem DY.at_:∀(r:List Oper) (i:Nat),DY P n l cn T aH Φ f0 M0 w0 base Ds i r→∀j o,r[j]? =some o→UD P n l cn T aH Φ f0 M0 w0 base (i+j) o (Ds.getD (i+j) [])
 |[],_,_,j,o,h=>by simp at h
 |x::r,i,h,0,o,hj=>by
  simp only[anA,anx] at hj
  subst hj
  exact h.1
 |x::r,i,h,j+1,o,hj=>by
  simp only[anG] at hj
  have:=DY.at_ r (i+1) h.2 j o hj
  rwa [show i+1+j=i+(j+1) from by omega] at this
end
end Go.Ew
namespace Go.Ew
open Go.RowKit
section
variable {P:Program} {n:Nat} {ops:Array Oper} {f:aQ} {w:World} {K:aQ→World→Prop} {x y:Operand} {d:Nat} {ty T e:TypeId} {ps:String} {af:Array Edge} {M0:Nat→Prop} {w0:World} {l:List Item} {bytes:Nat} {z:Value} {agg:Bool} {kk:IntKind}
theorem Lz {fn:Fn} {v:Value} (ox:bG n x=true) (hx:ev f x=v) (h:K (cb f d (.func fn #[v] #[])) w):SO P n ops ⟨some d,.makeFunc fn #[x] #[],ty,ps,af,none⟩ f w K:=
 SO.value (v:=.func fn #[v] #[]) (by simp[execOp,Instr.makeFunc,aN ox,hx]) h
theorem MB {fx:Operand} {g:FuncId} {b:Value} {L:List Operand} {vs:List Value} {MT:Array TypeId} {ai:Value→World→Prop} (G:cu P g)
  (ofx:bG n fx=true) (ol:Gc n L=true) (hfx:ev f fx=.func (.func g) #[b] #[]) (hL:L.map (ev f)=vs)
  (hc:Calls P g (b::vs).toArray w (cg ai)) (h:∀v w',ai v w'→K (cb f d v) w'):
  SO P n ops ⟨some d,.call {callee:=.value fx,args:=L.toArray,argTypes:=MT},ty,ps,af,none⟩ f w K:=by
 obtain⟨fn,c,hf,hb,hn⟩:=G
 subst hL
 exact SO.enter (g:=g) (args:=(b::L.map (ev f)).toArray) (w':=w) (by
  simp only[execOp,resolve,apm,yK ol,aN ofx,hfx]
  simp[Deferred.ofValue,invoke,xN hf hb hn]) (hc.mono fun e w' hr=>by
   obtain⟨v,rfl,hv⟩:=hr
   exact⟨v,rfl,h v w' hv⟩)
theorem bsB {len:Nat} {L:List (Nat×Operand)} {V:List (Nat×Value)} {cells:Array Value} (H:HI M0 w0 w l) (ol:Gc n (L.map (·.2))=true) (hL:(L.map fun p=>(p.1,ev f p.2))=V)
  (hb:∀w,(Instr.buildSlice T len V.toArray).run P w=.ok (.slice (some ⟨w.heap.size,0,none⟩) len len) (w.alloc (.cells cells e)))
  (h:∀g w',Ext w w'→HI M0 w0 w' (box g cells e::l)→K (cb f d (.slice (some ⟨g,0,none⟩) len len)) w'):
  SO P n ops ⟨some d,.buildSlice T len L.toArray,ty,ps,af,none⟩ f w K:=by
 subst hL
 refine SO.value (v:=.slice (some ⟨w.heap.size,0,none⟩) len len) (w':=w.alloc (.cells cells e)) ?_<|h _ _ (Ext.alloc w _) ?_
 ·have he:(L.map fun p=>(p.1,(b9 n f).eval p.2))=L.map fun p=>(p.1,ev f p.2):=by
   apply aor
   intro p hp
   rw[aN (anr.1 ol p.2 (an6.2 ⟨p,hp,rfl⟩))]
  simp only[execOp,apm]
  have:=hb w
  rw[←he] at this
  simp[this]
 ·exact H.new (Ext.alloc w _) w.heap.size J (anl _) (by simp)<|heap_alloc_new w _
theorem Oe {α:Type} [GT α] {B:Nat} {a:Option Addr} {k c:Nat} {xs:List α} {M:Nat→Prop} (hO:(own B e (.slice a k c) xs).holds M w) (h:a.isNone=true):xs=[]:=by
 obtain⟨cs,h1,h2⟩:=hO
 rcases h1.2 with ⟨h3,h4⟩|⟨g,cap,cur,h3,h4⟩
 ·exact aok.1 h4
 ·cases h3;cases h
theorem LP {g len c:Nat} {i:Int} (ox:bG n x=true) (oy:bG n y=true) (hx:ev f x=.slice (some ⟨g,0,none⟩) len c) (hy:ev f y=.int kk i) (k:Nat) (hi:i=((k:Nat):Int)) (hl:k<len) (hu:P.underlying T=some (.slice e)) (F:ei P e 1 agg bytes z)
  (h:K (cb f d (.pointer (some ⟨g,k,none⟩))) w):SO P n ops ⟨some d,.indexAddr T x y,ty,ps,af,none⟩ f w K:=by
 have lj:(⟨g,0,none⟩:Addr).add (k*1)=⟨g,k,none⟩:=by unfold Addr.add;split<;>simp_all
 refine SO.value (v:=.pointer (some ⟨g,k,none⟩)) ?_ h
 subst hi
 have hb:(0:Int)≤((k:Nat):Int)∧((k:Nat):Int)<(len:Int):=by omega
 simp only[execOp,aN ox,aN oy,hx,hy]
 simp[Instr.indexAt,asIntOf,gG hu,hb,F.jm]
 rw[ann hl,show (⟨g,0,none⟩:Addr).add k=⟨g,k,none⟩ by rw[←lj,apu]]
end
theorem bj.anyM {α:Type} [GT α] [Flat α] {M M':Nat→Prop} {e:TypeId} {w w':World} {v:Value} {xs:List α} (h:bj M e w xs v w'):bj M' e w xs v w':=by
 obtain⟨hx,hb,cs,h1,h2⟩:=h
 exact⟨hx,hb,cs,h1,bu.flat h2⟩
theorem U4 {w:World} {B B':Nat} {e:TypeId} {sz n:Nat} {v:Value} {cs:List Value} (h:w.ownsRow B e sz v n cs) (hB:B'≤B):w.ownsRow B' e sz v n cs:=by
 refine⟨h.1,?_⟩
 rcases h.2 with h2|⟨g,cap,cur,h1,h2,h3⟩
 ·exact .inl h2
 ·exact .inr ⟨g,cap,cur,h1,Nat.le_trans hB h2,h3⟩
theorem U3 {w w':World} {B:Nat} {e:TypeId} {sz n:Nat} {v:Value} {cs:List Value} (h:w.ownsRow B e sz v n cs) (hb:∀b,v.ownBlock=some b→w'.heap[b]? =w.heap[b]?):w'.ownsRow B e sz v n cs:=by
 refine⟨h.1,?_⟩
 rcases h.2 with h2|⟨g,cap,cur,h1,h2,h3,h4⟩
 ·exact .inl h2
 ·exact .inr ⟨g,cap,cur,h1,h2,by rw[hb g (by rw[h1];rfl)];exact h3,h4⟩
theorem bj.base {α:Type} [GT α] {M:Nat→Prop} {e:TypeId} {w w' w0:World} {v:Value} {xs:List α} (h:bj M e w xs v w') (x:Ext w0 w):bj M e w0 xs v w':=by
 obtain⟨hx,hb,cs,h1,h2⟩:=h
 exact⟨x.trans hx,hb,cs,U4 h1 x.size,h2⟩
theorem bj.LJ {α:Type} [GT α] [Flat α] {M:Nat→Prop} {e:TypeId} {w w' w0:World} {v:Value} {xs:List α} (h:bj M e w0 xs v w) (x:Ext w w'):bj M e w0 xs v w':=by
 obtain⟨hx,hb,cs,h1,h2⟩:=h
 exact⟨hx.trans x,fun b u3=>anR (hb b u3) x.size,cs,U3 h1 fun b u3=>x.block b (hb b u3),bu.flat h2⟩
theorem bj.rvN {α:Type} [GT α] [Flat α] {M:Nat→Prop} {e:TypeId} {w w' w0:World} {v:Value} {xs:List α} (h:bj M e w xs v w') (x:Ext w0 w):RV (fun b=>b<w0.heap.size) w' v xs:=by
 obtain⟨hx,hb,cs,h1,h2⟩:=h
 have:bj (fun b=>b<w.heap.size) e w xs v w':=⟨hx,hb,cs,h1,bu.flat h2⟩
 exact(this.rv fun b hb=>hb).lift (Up.less fun b _ hb=>anR hb x.size)
theorem K8 {α:Type} [GT α] {M0:Nat→Prop} {w0 zA w:World} {l:List Item} {v:Value} {xs:List α} (h:RV (fun b=>b<w0.heap.size) w v xs) (H:HI M0 zA w0 l):RV (MS M0 l) w v xs:=h.lift (Up.less fun b _ hb=>H.mb b hb)
theorem abf {α:Type} [GT α] {M0:Nat→Prop} {w0 zA w:World} {l:List Item} {v:Value} {xs:List α} (h:RV (fun b=>b<w0.heap.size) w v xs) (H:HI M0 zA w0 l):RV (fun b=>b<zA.heap.size) w v xs:=h.lift (Up.less fun b _ hb=>anR hb H.below.size)
end Go.Ew
namespace Go.Ew
theorem Wp (aH:List aI):(G1 aH=none∧(∀k,nG aH k=false))∨∃j,j<aH.length∧G1 aH=some j∧nG aH j=true∧∀k,k<j→nG aH k=false:=by
 unfold G1
 cases h:(List.range aH.length).find? (nG aH) with
 |none=>
  left
  refine⟨J,fun k=>?_⟩
  rw[aoL] at h
  by_cases hk:k<aH.length
  ·simpa using h k (ano.2 hk)
  ·unfold nG;rw[anz aq];rfl
 |some j=>
  right
  rw[apv] at h
  obtain⟨hb,as,bs,he,ha⟩:=h
  have hj:j<aH.length:=by
   have:j∈List.range aH.length:=by rw[he];simp
   exact ano.1 this
  have hlen:as.length=j:=by
   have h1:(List.range aH.length)[as.length]? =some j:=by rw[he];simp
   have h2:as.length<aH.length:=by
    have:=ani List.length he
    simp at this;omega
   rw[aoi h2] at h1
   exact anm h1
  refine⟨j,hj,J,hb,fun k hk=>?_⟩
  have h1:(List.range aH.length)[k]? =as[k]?:=by rw[he,oT aq]
  rw[aoi aq,eB aq] at h1
  have:=ha as[k]<|apE _
  rw[←anm h1] at this
  simpa using this
theorem T1 {aH:List aI} (h:(cT aH).2.2=0):G1 aH=none∧∀k,nG aH k=false:=by
 rcases Wp aH with h1|⟨j,hj,hf,hb,hl⟩
 ·exact h1
 ·exfalso
  unfold cT at h
  rw[hf] at h
  simp only[eB hj] at h
  split at h<;>simp at h
theorem Pe {aH:List aI} (h:(cT aH).2.2=0):(cT aH).1=0∧(cT aH).2.1=0:=by
 unfold cT;rw[(T1 h).1];exact⟨rfl,rfl⟩
theorem Y' {aH:List aI} {j:Nat} {x:aI} (hx:aH[((j:Nat):Int).toNat]? =some x) (hw:x.2.2.1=true):0≤gm aH x.2.2.2.1 x.2.2.2.2∧gm aH x.2.2.2.1 x.2.2.2.2≤((j:Nat):Int):=by
 have hp:kF x.2.2.2.1 x.2.2.2.2 x=true:=by unfold kF;simp[hw]
 cases hf:(aH.take j).findIdx? (kF x.2.2.2.1 x.2.2.2.2) with
 |none=>have:=I7 hx hp hf;unfold gm;rw[this];omega
 |some i=>
  have:=CG hf
  have hi:=(anF.1 hf).1
  rw[gY] at hi
  unfold gm;rw[this];omega
theorem xM {aH:List aI} (h:(cT aH).2.2=0) {j:Nat} {x:aI} (hx:aH[((j:Nat):Int).toNat]? =some x) (hw:x.2.2.1=true):x.2.2.2.2≠0∧gm aH x.2.2.2.1 x.2.2.2.2=((j:Nat):Int):=by
 have hb:=(T1 h).2 j
 rw[Dd hx] at hb
 unfold xO at hb
 rw[hw,aoe,aoP,anw,anw] at hb
 have:=Y' hx hw
 omega
theorem Xl {aH:List aI} {v val:Int} (h:0≤gm aH v val):∃x,aH[(gm aH v val).toNat]? =some x∧kF v val x=true:=by
 unfold gm eA at h ⊢
 cases hf:aH.findIdx? (kF v val) with
 |none=>rw[hf] at h;simp at h
 |some i=>
  obtain⟨hi,hp, -⟩:=anF.1 hf
  exact⟨aH[i],by simp[hi],hp⟩
theorem OG {v val:Int} {x:aI}:kF v val x=true↔x.2.2.1=true∧x.2.2.2.1=v∧x.2.2.2.2=val:=by unfold kF;simp[and_assoc]
end Go.Ew
namespace Go.Ew
def rE (aH:List aI) (x:aI):Int:=if x.2.2.1 then -3 else if x.2.2.2.2=0 then -1 else if 0≤gm aH x.2.2.2.1 x.2.2.2.2 then max (gm aH x.2.2.2.1 x.2.2.2.2) 0 else -2
def gx (aH:List aI):List Int:=aH.map (rE aH)
def uz (aH:List aI) (j:Nat):KV:=((aH.take j).zipIdx).foldl (fun m x=>if x.1.2.2.1 then jn m (x.1.2.2.2.1,x.1.2.2.2.2) ((x.2:Nat):Int) else m) []
def xF (m:KV) (x:aI):Int:=if x.2.2.1 then -3 else if x.2.2.2.2=0 then -1 else if (getM m (x.2.2.2.1,x.2.2.2.2)).isSome then (getM m (x.2.2.2.1,x.2.2.2.2)).getD 0 else -2
def gJ (aH:List aI):List Int:=aH.map (xF (uz aH aH.length))
theorem y' {aH:List aI} {j:Nat} {x:aI} (hx:aH[((j:Nat):Int).toNat]? =some x) (hw:x.2.2.1=true):jn (uz aH j) (x.2.2.2.1,x.2.2.2.2) ((j:Nat):Int)=uz aH (j+1):=by
 unfold uz;rw[Ay hx,apg];simp[hw]
theorem A7 {aH:List aI} {j:Nat} {x:aI} (hx:aH[((j:Nat):Int).toNat]? =some x) (hw:x.2.2.1=false):uz aH j=uz aH (j+1):=by
 unfold uz;rw[Ay hx,apg];simp[hw]
def CZ (m:KV) (aH:List aI) (j:Nat):List Int:=(aH.take j).map (xF m)++List.replicate (aH.length-j) 0
theorem Tx (m:KV) (aH:List aI):List.replicate aH.length 0=CZ m aH 0:=by unfold CZ;simp
theorem jQ {m:KV} {aH:List aI} {j:Nat} {x:aI} {v:Int} (hx:aH[((j:Nat):Int).toNat]? =some x) (hv:v=xF m x):(CZ m aH j).set j v=CZ m aH (j+1):=by
 have hj:j<aH.length:=by rw[dv] at hx;exact(dC.1 hx).1
 unfold CZ
 have h1:aH.length-j=(aH.length-(j+1))+1:=by omega
 rw[nH hx,ao2,h1,aob,aoH _ _ (by simp;omega)]
 have h2:j-((aH.take j).map (xF m)).length=0:=by simp;omega
 rw[h2,ao9,hv]
 simp
theorem Wl {m:KV} {aH:List aI} {j:Nat} (h:aH.length≤j):CZ m aH j=aH.map (xF m):=by
 unfold CZ;rw[ant h,show aH.length-j=0 from by omega];simp
theorem Kf {m:KV} {x:aI} (hw:x.2.2.1=true):(-3:Int)=xF m x:=by unfold xF;simp[hw]
theorem Ki {m:KV} {x:aI} (hw:x.2.2.1=false) (h0:x.2.2.2.2=0):(-1:Int)=xF m x:=by unfold xF;simp[hw,h0]
theorem Kg {m:KV} {x:aI} (hw:x.2.2.1=false) (h0:¬x.2.2.2.2=0) (hs:(getM m (x.2.2.2.1,x.2.2.2.2)).isSome=true):(getM m (x.2.2.2.1,x.2.2.2.2)).getD 0=xF m x:=by unfold xF;simp[hw,h0,hs]
theorem Kh {m:KV} {x:aI} (hw:x.2.2.1=false) (h0:¬x.2.2.2.2=0) (hs:(getM m (x.2.2.2.1,x.2.2.2.2)).isSome=false):(-2:Int)=xF m x:=by unfold xF;simp only[hw,h0,hs];rfl
theorem GM {aH:List aI} {x:aI} (hw:x.2.2.1=true):(-3:Int)=rE aH x:=by unfold rE;simp[hw]
theorem GR {aH:List aI} {x:aI} (hw:x.2.2.1=false) (h0:x.2.2.2.2=0):(-1:Int)=rE aH x:=by unfold rE;simp[hw,h0]
theorem GP {aH:List aI} {x:aI} (hw:x.2.2.1=false) (h0:¬x.2.2.2.2=0) (hs:decide (0≤gm aH x.2.2.2.1 x.2.2.2.2)=true):max (gm aH x.2.2.2.1 x.2.2.2.2) 0=rE aH x:=by unfold rE;simp only[hw,h0,an7 hs];rfl
theorem GQ {aH:List aI} {x:aI} (hw:x.2.2.1=false) (h0:¬x.2.2.2.2=0) (hs:decide (0≤gm aH x.2.2.2.1 x.2.2.2.2)=false):(-2:Int)=rE aH x:=by unfold rE;simp only[hw,h0,aoW hs];rfl
theorem iF {aH:List aI} {j:Nat} {x:aI} {v:Int} (hx:aH[((j:Nat):Int).toNat]? =some x) (hv:v=rE aH x):(aH.take j).map (rE aH)++[v]=(aH.take (j+1)).map (rE aH):=by
 rw[nH hx,ao2,hv];rfl
theorem Gq {aH:List aI} (h:(cT aH).2.2=0):∀j,j≤aH.length→tC aH j (uz aH j)
 |0,_=>GW aH
 |j+1,hj=>by
  have ih:=Gq h j aq
  have hx:aH[((j:Nat):Int).toNat]? =some aH[j]:=by rw[dv];exact eB aq
  cases hw:(aH[j]).2.2.1 with
  |false=>rw[←A7 hx hw];exact Es ih hx hw
  |true=>
   rw[←y' hx hw]
   refine GV ih hx hw ?_
   rw[ih]
   have hg:=(xM h hx hw).2
   cases hf:(aH.take j).findIdx? (kF (aH[j]).2.2.2.1 (aH[j]).2.2.2.2) with
   |none=>simp[hf]
   |some i=>
    exfalso
    have h1:=CG hf
    have h2:=(anF.1 hf).1
    rw[gY] at h2
    unfold gm at hg
    omega
theorem adG {aH:List aI} (h:(cT aH).2.2=0) (x:aI):xF (uz aH aH.length) x=rE aH x:=by
 have hF:=Gq h aH.length (anl _) (x.2.2.2.1,x.2.2.2.2)
 rw[aod] at hF
 unfold xF rE gm eA
 rw[hF]
 dsimp only
 cases hf:aH.findIdx? (kF x.2.2.2.1 x.2.2.2.2) with
 |none=>simp
 |some i=>simp
theorem HU {aH:List aI} (h:(cT aH).2.2=0):gJ aH=gx aH:=by
 unfold gJ gx
 exact aor fun x _=>adG h x
end Go.Ew
namespace Go.Ew
theorem Tt (aH:List aI):(gJ aH).length=aH.length:=by unfold gJ;simp
theorem CX (aH:List aI):(gx aH).length=aH.length:=by unfold gx;simp
theorem Nu {aH:List aI} {x:aI} {t:Int} (ht:t=rE aH x):(x.2.2.1==decide (t= -3))=true∧(t= -1→x.2.2.2.2=0)∧ -3≤t∧t<(aH.length:Int)∧
  (0≤t→∃y,aH[t.toNat]? =some y∧y.2.2.1=true∧y.2.2.2.1=x.2.2.2.1∧y.2.2.2.2=x.2.2.2.2∧x.2.2.2.2≠0)∧
  (t= -2→∀y∈aH,y.2.2.1=true→y.2.2.2.1=x.2.2.2.1→y.2.2.2.2≠x.2.2.2.2):=by
 have hr:=wm (p:=kF x.2.2.2.1 x.2.2.2.2) (r:=aH)
 have ep:0≤gm aH x.2.2.2.1 x.2.2.2.2→gm aH x.2.2.2.1 x.2.2.2.2<(aH.length:Int):=by
  intro h0
  obtain⟨y,hy, -⟩:=Xl h0
  have:=(dC.1 hy).1
  omega
 subst ht
 unfold rE
 by_cases hw:x.2.2.1=true
 ·simp only[hw,aoX]
  refine⟨by simp,fun h=>aq,by omega,by omega,fun h=>aq,fun h=>aq⟩
 ·have yt:x.2.2.1=false:=by simpa using hw
  simp only[yt,aqm,aoa]
  by_cases h0:x.2.2.2.2=0
  ·simp only[h0,aoX]
   refine⟨by simp,fun _=>(by first|trivial|rfl),by omega,by omega,fun h=>aq,fun h=>aq⟩
  ·simp only[h0,aoa]
   by_cases hp:0≤gm aH x.2.2.2.1 x.2.2.2.2
   ·simp only[hp,aoX]
    have hl:=ep hp
    obtain⟨y,hy,hyp⟩:=Xl hp
    obtain⟨y1,y2,y3⟩:=OG.1 hyp
    have e:max (gm aH x.2.2.2.1 x.2.2.2.2) 0=gm aH x.2.2.2.1 x.2.2.2.2:=by omega
    rw[e]
    refine⟨?_,fun h=>aq,by omega,hl,fun _=>⟨y,hy,y1,y2,y3,h0⟩,fun h=>aq⟩
    rw[ans aq];rfl
   ·simp only[hp,aoa]
    refine⟨J,fun h=>aq,by omega,by omega,fun h=>aq,fun _ y hy hyw hyv hyn=>?_⟩
    apply hp
    unfold gm eA
    cases hf:aH.findIdx? (kF x.2.2.2.1 x.2.2.2.2) with
    |none=>
     rw[aoZ] at hf
     have:=hf y hy
     rw[OG.2 ⟨hyw,hyv,hyn⟩] at this
     cases this
    |some i=>simp
end Go.Ew
namespace Go.Ew
def gR (n:Nat) (p:Nat→Bool):Row:=(((List.range n).filter p).map fun k=>((k:Nat):Int)).foldl eb (d_ ((n:Nat):Int))
theorem qk (n:Nat):words ((n:Nat):Int)=(n+63)/64:=by unfold words;omega
theorem jz (n:Nat) (p:Nat→Bool):(gR n p).length=words ((n:Nat):Int):=by unfold gR;rw[vW,pQ]
theorem VS {n:Nat} {i:Int} (h0:0≤i) (h:i<((n:Nat):Int)):jr (d_ ((n:Nat):Int)) i=true:=LO h0 (by rw[pQ,qk];omega)
theorem iS (n:Nat) (p:Nat→Bool) (i:Int):fg (gR n p) i=(decide (0≤i)&&decide (i<((n:Nat):Int))&&p i.toNat):=by
 unfold gR
 rw[Af,Fb,apd,anH]
 simp only[anV,an6,anD,ano,eI,ank]
 constructor
 ·rintro⟨z,⟨k,⟨hk,hp⟩,rfl⟩,rfl, -⟩
  exact⟨⟨by omega,by omega⟩,by simpa using hp⟩
 ·rintro⟨⟨h0,h1⟩,hp⟩
  exact⟨i,⟨i.toNat,⟨by omega,hp⟩,by omega⟩,J,VS h0 h1⟩
theorem zF {r:Row} {n:Nat} {p:Nat→Bool} (hl:r.length=words ((n:Nat):Int)) (h:∀k:Nat,fg r ((k:Nat):Int)=(decide (k<n)&&p k)):r=gR n p:=by
 refine Zw (by rw[hl,jz]) fun k=>?_
 rw[h,iS]
 simp
theorem kA {n:Nat} {p q:Nat→Bool} (h:∀k,k<n→p k=q k):gR n p=gR n q:=
 zF (jz n p) fun k=>by
  rw[iS]
  by_cases hk:k<n
  ·simp[hk,h k hk]
  ·simp[hk]
theorem Cz (n:Nat):d_ ((n:Nat):Int)=gR n fun _=>false:=zF (pQ _) fun k=>by rw[Fb];simp
theorem uH {n:Nat} {p:Nat→Bool} {j:Int} (h0:0≤j) (h1:j<((n:Nat):Int)):eb (gR n p) j=gR n fun k=>p k||decide (k=j.toNat):=by
 refine zF (by rw[ku,jz]) fun k=>?_
 rw[CT,iS]
 have sr:jr (gR n p) j=true:=LO h0 (by rw[jz,qk];omega)
 rw[sr,aqo,anH]
 simp only[anv,eI,ank,dv]
 constructor
 ·rintro(⟨⟨h2,h3⟩,h4⟩|h2)
  ·exact⟨by omega,.inl h4⟩
  ·exact⟨by omega,.inr aq⟩
 ·rintro⟨h2,h3|h3⟩
  ·exact .inl ⟨⟨by omega,by omega⟩,h3⟩
  ·exact .inr aq
def cE (n:Nat) (p:Nat→Nat→Bool):Rows:=(List.range n).map fun i=>gR n (p i)
theorem l8 (n:Nat) (p:Nat→Nat→Bool):(cE n p).length=n:=by unfold cE;simp
theorem mL {n:Nat} {p:Nat→Nat→Bool} {i:Nat} {x:Row} (h:(cE n p)[i]? =some x):i<n∧x=gR n (p i):=by
 unfold cE at h
 rw[anu] at h
 cases hr:(List.range n)[i]? with
 |none=>rw[hr] at h;cases h
 |some k=>
  rw[hr] at h
  obtain⟨h1,h2⟩:=dC.1 hr
  simp at h1 h2
  subst h2
  exact⟨h1,(anm h).symm⟩
theorem rZ {n:Nat} {p:Nat→Nat→Bool} {i:Nat} (h:i<n):(cE n p)[i]? =some (gR n (p i)):=by
 unfold cE;rw[anu,aoi h];rfl
theorem CA {rs:Rows} {n:Nat} {p:Nat→Nat→Bool} (hl:rs.length=n) (h:∀i,i<n→rs[i]? =some (gR n (p i))):rs=cE n p:=by
 apply anT
 intro i
 by_cases hi:i<n
 ·rw[h i hi,rZ hi]
 ·rw[anz aq,anz (by rw[l8];omega)]
theorem dA {n:Nat} {p q:Nat→Nat→Bool} (h:∀i j,i<n→j<n→p i j=q i j):cE n p=cE n q:=
 CA (l8 n p) fun i hi=>by rw[rZ hi,kA fun j hj=>h i j hi hj]
theorem yj (n:Nat):vF ((n:Nat):Int)=cE n fun _ _=>false:=by
 refine CA (by rw[pR];simp) fun i hi=>?_
 unfold vF
 rw[ao6,ann (by simpa using hi),Cz]
theorem xh {n:Nat} {p:Nat→Nat→Bool} {i:Nat} {q:Nat→Bool}:(cE n p).set i (gR n q)=cE n fun a b=>if a=i then q b else p a b:=by
 refine CA (by rw[anj,l8]) fun k hk=>?_
 rw[aoE]
 by_cases e:i=k
 ·subst e
  rw[ann rfl,ann (by rw[l8];exact hk)]
  congr 1
  exact kA fun j _=>by simp
 ·rw[anp e,rZ hk]
  congr 1
  exact kA fun j _=>by rw[anp fun e2=>e e2.symm]
theorem sT {n:Nat} {p:Nat→Nat→Bool} {i:Int} (h0:0≤i) (h:i<((n:Nat):Int)):rowAt (cE n p) i=gR n (p i.toNat):=rX (rZ aq)
theorem B_ {n:Nat} {p:Nat→Nat→Bool} {i j:Int} (hi:ko ((n:Nat):Int) [i,j]=true):rj (cE n p) (i,j)=cE n fun a b=>p a b||(decide (a=i.toNat)&&decide (b=j.toNat)):=by
 obtain⟨⟨h1,h2⟩,h3,h4⟩:=jh.1 hi
 unfold rj
 dsimp only
 rw[sT h1 h2,uH h3 h4,xh]
 refine dA fun a b ha hb=>?_
 by_cases e:a=i.toNat
 ·subst e;simp
 ·simp[e]
theorem Ji {n:Nat} {p:Nat→Nat→Bool} {i j:Int}:eF ((n:Nat):Int) (cE n p) i j=(ko ((n:Nat):Int) [i,j]&&p i.toNat j.toNat):=by
 unfold eF
 cases h:ko ((n:Nat):Int) [i,j] with
 |false=>rfl
 |true=>
  obtain⟨⟨h1,h2⟩,h3,h4⟩:=jh.1 h
  rw[sT h1 h2,iS,anq h3,anq h4];rfl
theorem PJ {n:Nat} {p:Nat→Nat→Bool} {i j:Int} (hi:ko ((n:Nat):Int) [i,j]=true):j2 ((n:Nat):Int) (cE n p) i j=cE n fun a b=>p a b||(decide (a=i.toNat)&&decide (b=j.toNat)):=by
 rw[(pO hi).2.1,B_ hi]
theorem Z5 {n i j:Nat}:ko ((n:Nat):Int) [((i:Nat):Int),((j:Nat):Int)]=(decide (i<n)&&decide (j<n)):=by
 rw[ab',anH]
 simp only[eI,ank]
 omega
theorem um {n:Nat} {p:Nat→Nat→Bool} {i j:Nat} (hi:i<n) (hj:j<n):eF ((n:Nat):Int) (cE n p) ((i:Nat):Int) ((j:Nat):Int)=p i j:=by
 rw[Ji,Z5];simp[hi,hj]
theorem SA {n:Nat} {p:Nat→Nat→Bool}:∀x∈cE n p,x.length=words ((n:Nat):Int):=by
 intro x hx
 obtain⟨i,hi⟩:=anE.1 hx
 rw[(mL hi).2,jz]
theorem A3 {n:Nat} {p:Nat→Nat→Bool} (h:n≤4096):∀x∈cE n p,x.length≤1000000000:=by
 intro x hx
 rw[SA x hx,qk];omega
end Go.Ew
namespace Go.Ew
abbrev A_:aI:=(0,0,false,0,0)
def jX (aH:List aI) (i:Nat):Int:=(aH.getD i A_).1
def kB (aH:List aI) (i:Nat):Int:=(aH.getD i A_).2.1
theorem I5 {aH:List aI} {i:Int} {x:aI} (h:aH[i.toNat]? =some x):aH.getD i.toNat A_=x:=by rw[gZ,h];rfl
theorem gF {aH:List aI} {i:Int} {x:aI} (h:aH[i.toNat]? =some x):jX aH i.toNat=x.1:=by unfold jX;rw[I5 h]
theorem HF {aH:List aI} {i:Int} {x:aI} (h:aH[i.toNat]? =some x):kB aH i.toNat=x.2.1:=by unfold kB;rw[I5 h]
structure gX (aH:List aI):Prop where
 first:0<aH.length→kB aH 0=0
 next:∀i,i+1<aH.length→(jX aH (i+1)=jX aH i∧kB aH (i+1)=kB aH i+1)∨(jX aH i<jX aH (i+1)∧kB aH (i+1)=0)
section
variable {aH:List aI} (o:gX aH)
include o
theorem gX.le:∀(d i:Nat),i+d<aH.length→jX aH i≤jX aH (i+d)
 |0,i,h=>aqy _
 |d+1,i,h=>by
  have h1:=gX.le d i aq
  have h2:=o.next (i+d) aq
  rw[show i+(d+1)=i+d+1 from rfl];omega
theorem gX.mono {i j:Nat} (Jf:i≤j) (h:j<aH.length):jX aH i≤jX aH j:=by
 have:=o.le (j-i) i aq
 rwa [show i+(j-i)=j from by omega] at this
theorem gX.place:∀(d i:Nat),i+d<aH.length→jX aH i=jX aH (i+d)→kB aH (i+d)=kB aH i+((d:Nat):Int)
 |0,i,h,_=>by simp
 |d+1,i,h,hs=>by
  have h1:=o.mono (i:=i) (j:=i+d) aq aq
  have h2:=o.mono (i:=i+d) (j:=i+(d+1)) aq h
  have h3:=o.next (i+d) aq
  have e:i+(d+1)=i+d+1:=rfl
  rw[e] at hs h2 ⊢
  have ih:=gX.place d i aq aq
  omega
theorem gX.zU:∀i,i<aH.length→0≤kB aH i
 |0,h=>by rw[o.first h];exact aqy _
 |i+1,h=>by
  have:=gX.zU i aq
  have:=o.next i h
  omega
theorem gX.back:∀i,i<aH.length→kB aH i≤((i:Nat):Int)∧∀k,((i:Nat):Int)-kB aH i≤((k:Nat):Int)→k≤i→jX aH k=jX aH i
 |0,h=>by
  rw[o.first h]
  exact⟨by omega,fun k _ hk=>by rw[show k=0 from by omega]⟩
 |i+1,h=>by
  obtain⟨h1,h2⟩:=gX.back i aq
  have h0:=o.zU (i+1) h
  rcases o.next i h with ⟨hs,hp⟩|⟨hs,hp⟩
  ·refine⟨by omega,fun k hk z8=>?_⟩
   by_cases e:k=i+1
   ·rw[e]
   ·rw[hs];exact h2 k aq aq
  ·refine⟨by omega,fun k hk z8=>?_⟩
   rw[show k=i+1 from by omega]
theorem gX.ahead {i j:Nat} (hi:i<aH.length) (hj:j<aH.length) (hs:jX aH i=jX aH j):(kB aH i<kB aH j↔i<j):=by
 rcases Nat.le_total i j with h|h
 ·have:=o.place (j-i) i aq<|by rw[show i+(j-i)=j from by omega];exact hs
  rw[show i+(j-i)=j from by omega] at this
  omega
 ·have:=o.place (i-j) j aq<|by rw[show j+(i-j)=i from by omega];exact hs.symm
  rw[show j+(i-j)=i from by omega] at this
  omega
end
theorem Vr {aH:List aI} (o:gX aH) {x:aI} (h0:aH.length=0→x.2.1=0) (h:∀n,aH.length=n+1→(x.1=jX aH n∧x.2.1=kB aH n+1)∨(jX aH n<x.1∧x.2.1=0)):gX (aH++[x]):=by
 have hold:∀i,i<aH.length→(aH++[x]).getD i A_=aH.getD i A_:=by
  intro i hi
  rw[gZ,gZ,oT hi]
 have Fo:(aH++[x]).getD aH.length A_=x:=by
  rw[gZ,og (anl _)];simp
 refine⟨fun hl=>?_,fun i hi=>?_⟩
 ·by_cases e:aH.length=0
  ·have:=Fo
   rw[e] at this
   unfold kB;rw[this];exact h0 e
  ·have:=o.first aq
   unfold kB at this ⊢
   rw[hold 0 aq];exact this
 ·rw[fA,apb] at hi
  by_cases e:i+1<aH.length
  ·have:=o.next i e
   unfold jX kB at this ⊢
   rw[hold i aq,hold (i+1) e];exact this
  ·have e2:aH.length=i+1:=by omega
   have:=h i e2
   unfold jX kB at this ⊢
   rw[hold i aq,←e2,Fo]
   rcases this with ⟨a,b⟩|⟨a,b⟩
   ·exact .inl ⟨a,b⟩
   ·exact .inr ⟨a,b⟩
def Nc (aH:List aI) (j:Nat):Prop:=∀x∈aH,x.1<((j:Nat):Int)
theorem VL {aH:List aI} {n:Nat} (h:aH.length=n+1):aH.getD n A_∈aH:=by
 rw[gZ,eB aq]
 exact apE _
theorem NX {j:Nat} {st:yT} {ops:List iP} (o:gX st.2) (hb:Nc st.2 j):∀k,k≤ops.length→
  gX (jD j st ops k).2∧Nc (jD j st ops k).2 (j+1)∧(0<k→∃n,(jD j st ops k).2.length=n+1∧jX (jD j st ops k).2 n=((j:Nat):Int)∧kB (jD j st ops k).2 n=((k:Nat):Int)-1)
 |0,_=>by
  rw[AG]
  exact⟨o,fun x hx=>by have:=hb x hx;omega,fun h=>aq⟩
 |k+1,hk=>by
  obtain⟨ho,BO,X8⟩:=NX (ops:=ops) o hb k aq
  have hx:ops[((k:Nat):Int).toNat]? =some ops[k]:=by rw[dv];exact eB aq
  rw[wQ hx]
  unfold uy
  dsimp only
  refine⟨Vr ho (fun h0=>?_) (fun n hn=>?_),?_,fun _=>⟨(jD j st ops k).2.length,by simp,?_,?_⟩⟩
  ·show ((k:Nat):Int)=0
   by_cases cB:0<k
   ·obtain⟨n,h1, -⟩:=X8 cB
    omega
   ·omega
  ·show (((j:Nat):Int)=_∧((k:Nat):Int)=_)∨(_<((j:Nat):Int)∧((k:Nat):Int)=0)
   by_cases cB:0<k
   ·obtain⟨n',h1,h2,h3⟩:=X8 cB
    obtain rfl:n=n':=by omega
    exact .inl ⟨h2.symm,by rw[h3];omega⟩
   ·right
    have cB:k=0:=by omega
    subst cB
    rw[AG] at hn ⊢
    exact⟨hb _ (VL hn),J⟩
  ·intro x hxm
   rcases anK.1 hxm with h|h
   ·exact BO x h
   ·rw[aoz] at h
    subst h
    show ((j:Nat):Int)<_
    omega
  ·unfold jX
   rw[gZ,og (anl _)];simp
  ·unfold kB
   rw[gZ,og (anl _)]
   simp
theorem MW (h:cD):∀j,j≤h.length→gX (gW h j).2∧Nc (gW h j).2 j
 |0,_=>⟨⟨fun h=>(by simp[gW] at h),fun i hi=>(by simp[gW] at hi)⟩,fun x hx=>(by simp[gW] at hx)⟩
 |j+1,hj=>by
  obtain⟨ho,hb⟩:=MW h j aq
  have hx:h[((j:Nat):Int).toNat]? =some h[j]:=by rw[dv];exact eB aq
  rw[vj hx]
  have:=NX (ops:=h[j]) ho hb _<|anl _
  exact⟨this.1,this.2.1⟩
theorem TJ (h:cD):gX (fT h):=(MW h h.length (anl _)).1
theorem On (h:cD):gX (cN h):=by
 unfold cN;split
 ·exact TJ h
 ·exact⟨fun h=>(by simp at h),fun i hi=>(by simp at hi)⟩
def Dg (aH:List aI) (i j:Nat):Bool:=decide (i<j)&&decide (j<aH.length)&&decide (jX aH i=jX aH j)
def oG (aH:List aI):Rows:=cE aH.length (Dg aH)
def yY (aH:List aI) (t:Int):Rows:=cE aH.length fun a b=>decide (t<((a:Nat):Int))&&Dg aH a b
theorem P7 (aH:List aI) (t:Int) (h:(aH.length:Int)-2=t):vF (aH.length:Int)=yY aH t:=by
 rw[yj]
 refine dA fun a b ha hb=>?_
 unfold Dg
 rw[anH]
 simp only[eI,ank,aqm,false_iff]
 omega
theorem Vd {aH:List aI} {t:Int} (h:t<0):yY aH t=oG aH:=by
 refine dA fun a b ha hb=>?_
 rw[anq aq];rfl
theorem kM {aH:List aI} {t:Int} (h0:0≤t) (h1:t+1<(aH.length:Int)) (hs:jX aH t.toNat=jX aH (t+1).toNat) {x:Row} (hx:(yY aH t)[(t+1).toNat]? =some x):
  (yY aH t).set t.toNat (eb x (t+1))=yY aH (t-1):=by
 unfold yY at *
 obtain⟨h2,rfl⟩:=mL hx
 rw[uH aq h1,xh]
 refine dA fun a b ha hb=>?_
 have e:(t+1).toNat=t.toNat+1:=by omega
 rw[e] at hs ⊢
 by_cases ea:a=t.toNat
 ·subst ea
  rw[ann rfl]
  unfold Dg
  rw[anH]
  simp only[eI,anv,ank]
  constructor
  ·rintro(⟨_,⟨h3,h4⟩,h5⟩|h3)
   ·exact⟨by omega,⟨by omega,h4⟩,by rw[hs,h5]⟩
   ·subst h3;exact⟨by omega,⟨by omega,by omega⟩,hs⟩
  ·rintro⟨_,⟨h3,h4⟩,h5⟩
   by_cases e2:b=t.toNat+1
   ·exact .inr e2
   ·exact .inl ⟨by omega,⟨by omega,h4⟩,by rw[←hs,h5]⟩
 ·rw[anp ea,show decide (t<((a:Nat):Int))=decide (t-1<((a:Nat):Int)) from by rw[aoA];omega]
theorem F9 {aH:List aI} (o:gX aH) {t:Int} (h0:0≤t) (h1:t+1<(aH.length:Int)) (hs:¬jX aH t.toNat=jX aH (t+1).toNat):yY aH t=yY aH (t-1):=by
 refine dA fun a b ha hb=>?_
 have e:(t+1).toNat=t.toNat+1:=by omega
 rw[e] at hs
 by_cases ea:a=t.toNat
 ·subst ea
  rw[ans aq,aqh]
  symm
  unfold Dg
  rw[ap6]
  right
  rw[ap6]
  by_cases vV:t.toNat<b
  ·right
   rw[anw]
   intro he
   have g1:=o.mono (i:=t.toNat) (j:=t.toNat+1) aq aq
   have g2:=o.mono (i:=t.toNat+1) (j:=b) aq aq
   omega
  ·left
   rw[ans aq];rfl
 ·rw[show decide (t<((a:Nat):Int))=decide (t-1<((a:Nat):Int)) from by rw[aoA];omega]
def cw (aH:List aI) (t:Int):List Int:=if 0≤t∧t<(aH.length:Int) then (List.range ((kB aH t.toNat).toNat+1)).map fun q=>(t-kB aH t.toNat)+((q:Nat):Int) else []
def uN (f:Int) (q:Nat):List Int:=(List.range q).map fun k=>f+((k:Nat):Int)
theorem Nw (f:Int) (q:Nat):uN f q++[f+((q:Nat):Int)]=uN f (q+1):=by unfold uN;rw[aoS,ao2];rfl
theorem P_ (f:Int) (q:Nat):(uN f q).length=q:=by unfold uN;simp
theorem E8 {aH:List aI} {t:Int} (h:¬(0≤t∧t<(aH.length:Int))):([]:List Int)=cw aH t:=by unfold cw;rw[anp h]
theorem Se {aH:List aI} {t:Int} {x:aI} {q:Nat} (h0:0≤t) (h:t<(aH.length:Int)) (hx:aH[t.toNat]? =some x) (hp:0≤x.2.1) (hq:((q:Nat):Int)=x.2.1+1):uN (t-x.2.1) q=cw aH t:=by
 unfold cw uN
 rw[ann ⟨h0,h⟩,HF hx,show x.2.1.toNat+1=q from by omega]
theorem ZB (aH:List aI):(oG aH).length=aH.length:=l8 _ _
theorem Vc {aH:List aI} {t:Int} {i:Nat} {x:Row} (h:(yY aH t)[i]? =some x):x.length=words ((aH.length:Nat):Int):=by rw[(mL h).2,jz]
theorem Ng {n:Nat} (h:n≤4096):words ((n:Nat):Int)≤64:=by rw[qk];omega
end Go.Ew
namespace Go.Ew
def DD (n:Int) (r:Row):Bool:=decide (((r.length:Nat):Int)=((words n:Nat):Int))&&(List.range (64*r.length)).all fun k=>decide (((k:Nat):Int)<n)||!fg r ((k:Nat):Int)
def bF (n:Int) (rs:Rows):Bool:=Cw n&&decide (((rs.length:Nat):Int)=n)&&rs.all (DD n)
theorem RX {n:Int} {r:Row} {j:Int} (hl:((r.length:Nat):Int)=((words n:Nat):Int)) (h:∀k:Int,n≤k→k<j→fg r k=false) (hj:64*((r.length:Nat):Int)≤j):DD n r=true:=by
 unfold DD
 rw[anq hl,aoe,anr]
 intro k hk
 have:=ano.1 hk
 by_cases hn:((k:Nat):Int)<n
 ·rw[anq hn];rfl
 ·rw[h _ aq aq];simp
theorem PU {n:Int} {rs:Rows} {j:Nat} (h0:0≤n) (h1:n≤4096) (h2:((rs.length:Nat):Int)=n) (hs:(rs.take j).all (DD n)=true) (hj:rs.length≤j):true=bF n rs:=by
 unfold bF;rw[l5 hj] at hs;rw[sh.2 ⟨h0,h1⟩,anq h2,hs];rfl
theorem lD {n:Nat} {p:Nat→Nat→Bool} (h:n≤4096):bF ((n:Nat):Int) (cE n p)=true:=by
 refine(PU (j:=(cE n p).length) aq aq (by rw[l8]) ?_<|anl _).symm
 rw[aod,anr]
 intro x hx
 obtain⟨i,hi⟩:=anE.1 hx
 obtain⟨h1,rfl⟩:=mL hi
 refine RX (j:=64*(((gR n<|p i).length:Nat):Int)) (by rw[jz]) (fun k hk Aa=>?_)<|aqy _
 rw[iS,ans (show ¬k<((n:Nat):Int) from by omega)];simp
def cQ (n:Int) (rs:Rows):Option Nat:=(List.range n.toNat).find? fun i=>eF n rs ((i:Nat):Int) ((i:Nat):Int)
theorem Wm {p:Nat→Bool} {n j:Nat} (hj:j<n) (hp:p j=true) (hl:∀k,k<j→p k=false):(List.range n).find? p=some j:=by
 rw[apv]
 refine⟨hp,List.range j,(List.range<|n-j-1).map (fun i=>j+1+i),?_,fun a ha=>by rw[hl a (ano.1 ha)];rfl⟩
 have:n=j+(1+(n-j-1)):=by omega
 conv=>lhs;rw[this]
 rw[nJ,nJ]
 simp[ap2]
theorem TF {p:Nat→Bool} {n j:Nat} (hj:n≤j) (hl:∀k,k<j→p k=false):(List.range n).find? p=none:=by
 rw[aoL]
 intro k hk
 rw[hl k (by have:=ano.1 hk;omega)];simp
theorem LA {n:Int} {rs:Rows} {j:Nat} (hj:((j:Nat):Int)<n) (hp:eF n rs ((j:Nat):Int) ((j:Nat):Int)=true) (hl:∀k,k<j→eF n rs ((k:Nat):Int) ((k:Nat):Int)=false):cQ n rs=some j:=Wm aq hp hl
theorem I1 {n:Int} {rs:Rows} {j:Nat} (hj:n≤((j:Nat):Int)) (hl:∀k,k<j→eF n rs ((k:Nat):Int) ((k:Nat):Int)=false):cQ n rs=none:=TF aq hl
theorem Q8 {p:Nat→Bool} {j:Nat} (hl:∀k,k<j→p k=false) (h:p j=false):∀k,k<j+1→p k=false:=by
 intro k hk
 rcases ao0.1 hk with h1|rfl
 ·exact hl k h1
 ·exact h
def xY (rs:Rows) (i:Nat):List (Int×Int):=(cV (rowAt rs ((i:Nat):Int))).map fun j=>(((i:Nat):Int),j)
def lh (rs:Rows) (i:Nat):List (Int×Int):=(List.range i).flatMap (xY rs)
def iQ (n:Int) (rs:Rows):List (Int×Int):=lh rs n.toNat
theorem Cp (rs:Rows) (i:Nat):lh rs (i+1)=lh rs i++xY rs i:=by unfold lh;rw[aoS,ao7];simp
theorem Gl (n:Nat) (q:Nat→Bool):cV (gR n q)=((List.range n).filter q).map fun k=>((k:Nat):Int):=by
 rw[←SC]
 unfold JY
 congr 1
 have hl:=jz n q
 rw[qk] at hl
 have e:64*(gR n q).length=n+(64*(gR n q).length-n):=by omega
 rw[e,nJ,aoM]
 have e2:((List.range (64*(gR n q).length-n)).map fun i=>n+i).filter (fun k=>fg (gR n q) ((k:Nat):Int))=[]:=by
  rw[aoq]
  intro k hk
  obtain⟨i, -,rfl⟩:=an6.1 hk
  rw[iS,ans (show ¬(((n+i:Nat):Nat):Int)<((n:Nat):Int) from by omega)];simp
 rw[e2,aoT]
 apply apw
 intro k hk
 have:=ano.1 hk
 rw[iS]
 simp[this]
theorem AQ {n:Nat} {p:Nat→Nat→Bool} {i:Nat} (h:i<n):xY (cE n p) i=((List.range n).filter (p i)).map fun j=>(((i:Nat):Int),((j:Nat):Int)):=by
 unfold xY
 rw[sT aq aq,dv,Gl,List.map_map];rfl
theorem yk {n:Nat} {p:Nat→Nat→Bool} {z:Int×Int}:z∈iQ ((n:Nat):Int) (cE n p)↔∃a b,a<n∧b<n∧p a b=true∧z=(((a:Nat):Int),((b:Nat):Int)):=by
 unfold iQ lh
 rw[aqw]
 constructor
 ·rintro⟨a,ha,hz⟩
  have ha:=ano.1 ha
  rw[dv] at ha
  rw[AQ ha] at hz
  obtain⟨b,hb,rfl⟩:=an6.1 hz
  rw[anD,ano] at hb
  exact⟨a,b,ha,hb.1,hb.2,J⟩
 ·rintro⟨a,b,ha,hb,hp,rfl⟩
  refine⟨a,ano.2 (by simpa using ha),?_⟩
  rw[AQ ha]
  exact an6.2 ⟨b,anD.2 ⟨ano.2 hb,hp⟩,J⟩
def Le (n:Nat) (p:Nat→Nat→Bool):Nat:=((List.range n).map fun a=>((List.range n).filter (p a)).length).sum
theorem Sh {n:Nat} {p:Nat→Nat→Bool}:(iQ ((n:Nat):Int) (cE n p)).length=Le n p:=by
 unfold iQ lh Le
 rw[List.length_flatMap,dv]
 congr 1
 apply aor
 intro a ha
 rw[AQ (ano.1 ha),anW]
theorem Nx {n:Nat} {p:Nat→Nat→Bool}:(iQ ((n:Nat):Int) (cE n p)).length≤n*n:=by
 rw[Sh];unfold Le
 have:∀l:List Nat,(l.map fun a=>((List.range n).filter (p a)).length).sum≤l.length*n:=by
  intro l
  induction l with
  |nil=>simp
  |cons a l ih=>
   have h1:=aoj (p a)<|List.range n
   rw[apf] at h1
   simp only[anM,ap3,iM,an',Nat.one_mul];omega
 have h:=this<|List.range n
 rwa [apf] at h
theorem RT {rs:Rows} (hr:∀x∈rs,x.length≤64) (i:Nat):(xY rs i).length≤4096:=by
 unfold xY
 rw[anW]
 have h1:=mT<|rowAt rs ((i:Nat):Int)
 have:(rowAt rs ((i:Nat):Int)).length≤64:=by
  unfold rowAt
  rw[gZ]
  cases h:rs[((i:Nat):Int).toNat]? with
  |none=>simp
  |some x=>exact hr x (dB h)
 omega
theorem Ed {rs:Rows} (hr:∀x∈rs,x.length≤64):∀i,(lh rs i).length≤4096*i
 |0=>by simp[lh]
 |i+1=>by
  have:=Ed hr i
  have:=RT hr i
  rw[Cp,fA];omega
theorem U1 {rs:Rows} {i:Nat} {x:Row} (hx:rs[((i:Nat):Int).toNat]? =some x):xY rs i=(cV x).map fun j=>(((i:Nat):Int),j):=by unfold xY;rw[rX hx]
theorem Sj {rs:Rows} {i q:Nat} {x:Row} {y:Int} (hy:(cV x)[((q:Nat):Int).toNat]? =some y):(lh rs i++((cV x).take q).map fun j=>(((i:Nat):Int),j))++[(((i:Nat):Int),y)]=lh rs i++((cV x).take (q+1)).map fun j=>(((i:Nat):Int),j):=by
 rw[nH hy,ao2,anU];rfl
theorem Vp {rs:Rows} {i q:Nat} {x:Row} (hx:rs[((i:Nat):Int).toNat]? =some x) (hq:(cV x).length≤q):(lh rs i++((cV x).take q).map fun j=>(((i:Nat):Int),j))=lh rs (i+1):=by
 rw[l5 hq,Cp,U1 hx]
theorem Si {rs:Rows} {n:Int} {i:Nat} (h:n≤((i:Nat):Int)) (hi:((i:Nat):Int)≤n∨i=0):lh rs i=iQ n rs:=by
 unfold iQ;rw[show n.toNat=i from by omega]
theorem Sf {aH:List aI} (o:gX aH) {t:Int} (h0:0≤t) (h:t<(aH.length:Int)):(((cw aH t).length:Nat):Int)=kB aH t.toNat+1:=by
 have:=o.zU t.toNat aq
 unfold cw;rw[ann ⟨h0,h⟩];simp;omega
theorem ZC {aH:List aI} (o:gX aH) {t:Int} (h0:0≤t) (h:t<(aH.length:Int)) {q:Nat} {x:Int} (hx:(cw aH t)[q]? =some x):0≤x∧x≤t∧x<(aH.length:Int)∧jX aH x.toNat=jX aH t.toNat∧kB aH x.toNat=((q:Nat):Int)∧x=t-kB aH t.toNat+((q:Nat):Int):=by
 obtain⟨b1,b2⟩:=o.back t.toNat aq
 have b0:=o.zU t.toNat aq
 unfold cw at hx
 rw[ann ⟨h0,h⟩,anu] at hx
 cases hr:(List.range ((kB aH t.toNat).toNat+1))[q]? with
 |none=>rw[hr] at hx;cases hx
 |some k=>
  rw[hr] at hx
  obtain⟨h1,h2⟩:=dC.1 hr
  simp only[apf] at h1
  rw[apS] at h2
  subst h2
  have hx:(t-kB aH t.toNat)+((q:Nat):Int)=x:=anm hx
  have hs:=b2 x.toNat aq aq
  refine⟨by omega,by omega,by omega,hs,?_,hx.symm⟩
  have:=o.place (t.toNat-x.toNat) x.toNat aq<|by rw[show x.toNat+(t.toNat-x.toNat)=t.toNat from by omega];exact hs
  rw[show x.toNat+(t.toNat-x.toNat)=t.toNat from by omega] at this
  omega
theorem ZT {n:Nat} {p:Nat→Nat→Bool} (h:n≤4096):∀x∈cE n p,x.length≤64:=by
 intro x hx
 obtain⟨i,hi⟩:=apj hx
 obtain⟨-,rfl⟩:=mL hi
 have h1:=jz n<|p i
 have:=ER (n:=((n:Nat):Int)) aq
 omega
end Go.Ew
namespace Go.Ew
theorem U5 {n:Nat} {r:Row} (h:DD ((n:Nat):Int) r=true):r=gR n fun k=>fg r ((k:Nat):Int):=by
 unfold DD at h
 rw[eI,ank,anr] at h
 refine zF aq fun k=>?_
 by_cases hk:k<n
 ·simp[hk]
 ·rw[ans hk,aqh]
  by_cases h2:k<64*r.length
  ·have:=h.2 k<|ano.2 h2
   rw[ans (show ¬((k:Nat):Int)<((n:Nat):Int) from by omega),apd] at this
   simpa using this
  ·exact(xz<|by unfold jr;exact ans aq).symm
theorem l6 {n:Int} {rs:Rows} (h:bF n rs=true):∃(m:Nat) (p:Nat→Nat→Bool),n=((m:Nat):Int)∧m≤4096∧rs=cE m p:=by
 unfold bF at h
 rw[eI,eI,ank,anr] at h
 obtain⟨⟨h1,h2⟩,h3⟩:=h
 have h1:=sh.1 h1
 refine⟨n.toNat,fun i j=>fg (rs.getD i []) ((j:Nat):Int),by omega,by omega,CA aq fun i hi=>?_⟩
 have hx:rs[i]? =some rs[i]:=eB aq
 have e:rs.getD i []=rs[i]:=by rw[gZ,hx];rfl
 rw[hx,e]
 have:=U5 (n:=n.toNat) (r:=rs[i])<|by rw[show ((n.toNat:Nat):Int)=n from by omega];exact h3 _ (apE _)
 rw[←this]
theorem bO {n:Int} {rs:Rows} (h:bF n rs=true):((rs.length:Nat):Int)=n∧(∀x∈rs,x.length≤1000000000)∧n≤4096∧0≤n∧∀x∈rs,x.length≤64:=by
 obtain⟨m,p,rfl,hm,rfl⟩:=l6 h
 exact⟨by rw[l8],A3 hm,by omega,by omega,ZT hm⟩
def vE (a b:Rows) (n:Nat):Rows:=(List.range n).map fun i=>jE (rowAt a ((i:Nat):Int)) (rowAt b ((i:Nat):Int))
theorem Ll (a b:Rows) (n:Nat):(vE a b n).length=n:=by unfold vE;simp
theorem Sm (a b:Rows) (n:Nat):vE a b (n+1)=vE a b n++[jE (rowAt a ((n:Nat):Int)) (rowAt b ((n:Nat):Int))]:=by unfold vE;rw[aoS,ao2];rfl
def sX (an bn:Int):Int:=if an=bn then an else 0
def l7 (an:Int) (ar:Rows) (bn:Int) (br:Rows):Rows:=if an=bn then vE ar br an.toNat else []
def xc (an bn:Int):Int:=if an=bn then 0 else 1
theorem Ln {an bn:Int} {ar br:Rows} (h:¬an=bn):sX an bn=0∧l7 an ar bn br=[]∧xc an bn=1:=by unfold sX l7 xc;simp[h]
theorem zM {an bn:Int} {ar br:Rows} (h:an=bn):sX an bn=an∧l7 an ar bn br=vE ar br an.toNat∧xc an bn=0:=by unfold sX l7 xc;simp[h]
def uP (a b:Rows) (n j:Nat):Rows:=vE a b j++List.replicate (n-j) []
theorem NA (a b:Rows) (n:Nat):List.replicate n []=uP a b n 0:=by unfold uP vE;simp
theorem P' {a b:Rows} {n j:Nat} {x y:Row} (hj:j<n) (hx:a[((j:Nat):Int).toNat]? =some x) (hy:b[((j:Nat):Int).toNat]? =some y):(uP a b n j).set j (jE x y)=uP a b n (j+1):=by
 unfold uP
 rw[Sm,rX hx,rX hy]
 have hl:=Ll a b j
 rw[aoH _ _ aq,hl,aol,show n-j=n-(j+1)+1 from by omega,aob,ao9]
 simp
theorem Qa {a b:Rows} {n j:Nat} (hj:n≤j) (h:j≤n):uP a b n j=vE a b n:=by
 obtain rfl:n=j:=by omega
 unfold uP;simp
theorem HK {n:Nat} (p q:Nat→Bool):jE (gR n p) (gR n q)=gR n fun k=>p k||q k:=by
 refine zF (by rw[AW,jz,jz];omega) fun k=>?_
 rw[Z8,iS,iS]
 by_cases hk:k<n<;>simp[hk]
theorem Sn {n:Nat} (p q:Nat→Nat→Bool):vE (cE n p) (cE n q) n=cE n fun a b=>p a b||q a b:=by
 refine CA (Ll _ _ _) fun i hi=>?_
 unfold vE
 rw[anu,aoi hi]
 simp only[aoy]
 rw[sT aq aq,sT aq aq,dv,HK]
theorem Sg {n:Nat} {p:Nat→Nat→Bool} {z:Int×Int} {q:Nat} (h:(iQ ((n:Nat):Int) (cE n p))[q]? =some z):0≤z.1∧z.1<((n:Nat):Int)∧0≤z.2∧z.2<((n:Nat):Int)∧p z.1.toNat z.2.toNat=true:=by
 obtain⟨a,b,ha,hb,hp,rfl⟩:=yk.1 (dB h)
 exact⟨by omega,by omega,by omega,by omega,by simpa using hp⟩
end Go.Ew
namespace Go.Ew
theorem kL {n:Int} {rs:Rows} (h:bF n rs=true):0≤n:=(bO h).2.2.2.1
section
variable {n:Int} {rs:Rows} {i j:Int} (h:bF n rs=true) (hi:ko n [i,j]=true)
include h hi
theorem RN:bF (ie n i j) (j2 n rs i j)=true:=by
 obtain⟨m,p,rfl,hm,rfl⟩:=l6 h
 rw[(pO (rs:=cE m p) hi).1,PJ hi]
 exact lD hm
end
theorem Nn {n:Int} {rs:Rows} (h:bF n rs=true):(iQ n rs).length≤16777216:=by
 obtain⟨m,p,rfl,hm,rfl⟩:=l6 h
 have h1:=Nx (n:=m) (p:=p)
 have h2:m*m≤4096*4096:=Nat.mul_le_mul hm hm
 omega
end Go.Ew
namespace Go.Ew
theorem SH {l:List Item} {i j:Nat} {B e:Nat} {iv fv:Value} {a b xs:Row} {q:Nat} (hj:l[j]? =some (own B e fv b)) (hi:i<l.length) (gH:i≠j∨(iv=fv∧b=a)) (Eg:xs.length=a.length) (LQ:xs=pU a.length a b a q) (hq:q≤b.length) (hlen:b.length≤a.length):
  ∃ys:Row,(l.set i (own B e iv xs))[j]? =some (own B e fv ys)∧ys.length=b.length∧∀x,ys[((q:Nat):Int).toNat]? =some x→b.getD q 0#64=x:=by
 by_cases h:i=j
 ·subst h
  rcases gH with h|⟨rfl,rfl⟩
  ·exact absurd J h
  ·refine⟨xs,by rw[anB hi],Eg,fun x hx=>?_⟩
   rw[LQ] at hx
   exact(AV hx).symm
 ·exact⟨b,by rw[anS h,hj],J,fun x hx=>wG hx⟩
theorem SG {a b xs:Row} {q:Nat} {x y:BitVec 64} (hs:xs=pU a.length a b a q) (hx:b.getD q 0#64=x) (hy:xs[((q:Nat):Int).toNat]? =some y):xs.set ((q:Nat):Int).toNat (y ||| x)=pU a.length a b a (q+1):=by
 subst hs
 have e1:=AV hy
 rw[dv]
 exact E_<|by rw[e1];unfold sY;rw[hx]
theorem VQ {a b xs:Row} {q:Nat} (hs:xs=pU a.length a b a q) (hlen:b.length≤a.length) (hq:b.length≤q):xs=jE a b:=by
 rw[hs]
 refine xb aq<|fun i h1 h2=>?_
 unfold sY
 rw[r7 (show b.length≤i by omega)];simp
theorem K4 {l:List Item} {i:Nat} {it:Item} (hi:i<l.length):(l.set i it)[i]? =some it:=anB hi
theorem set_set {l:List Item} {i:Nat} {x y:Item}:(l.set i x).set i y=l.set i y:=List.set_set ..
theorem Zq {l:List Item} {i:Nat} {x:Item} (h:l[i]? =some x):l.set i x=l:=by
 apply anT
 intro m
 rw[aoE]
 split
 ·rename_i e
  subst e
  split
  ·exact h.symm
  ·rename_i hl
   rw[anz aq]
 ·rfl
def AI (z:Int×Int):Int×Int:=(z.2,z.1)
def gI (n:Int) (rs:Rows):Rows:=foldM n ((iQ n rs).map AI)
theorem PT {n:Int} {rs:Rows} (h:bF n rs=true) {q:Nat} {z:Int×Int} (hz:(iQ n rs)[q]? =some z):0≤z.1∧z.1<n∧0≤z.2∧z.2<n:=by
 obtain⟨m,p,rfl,hm,rfl⟩:=l6 h
 obtain⟨h1,h2,h3,h4, -⟩:=Sg hz
 exact⟨h1,h2,h3,h4⟩
theorem wP {n:Int} {ps:List (Int×Int)} {i:Nat} {x:Row} (h:(foldM n ps)[i]? =some x) {k:Int} (h0:0≤k) (h1:k<n):0≤k/64∧k/64<((x.length:Nat):Int)∧(k/64).toNat<x.length∧jr x k=true:=by
 have hr:=Ty h
 have hw:x.length=(n.toNat+63)/64:=by rw[hr,←qk,show ((n.toNat:Nat):Int)=n from by omega]
 refine⟨by omega,by omega,by omega,LO h0 aq⟩
theorem Ru {n:Int} {l:List (Int×Int)} {j:Nat} {z:Int×Int} {xs:Rows} {x:Row} {u:BitVec 64} (hs:xs=foldM n ((l.map AI).take j)) (hz:l[((j:Nat):Int).toNat]? =some z) (hx:xs[z.2.toNat]? =some x) (hu:x[(z.1/64).toNat]? =some u) (h0:0≤z.1) (h1:z.1<n):
  xs.set z.2.toNat (x.set (z.1/64).toNat (u ||| ka (z.1%64)))=foldM n ((l.map AI).take (j+1)):=by
 have hr:=(wP (hs▸hx) h0 h1).2.2.2
 rw[QU (p:=(z.2,z.1)) (by rw[anu,hz];rfl),←hs,N4 hr hu]
 exact Hy hx
theorem UO {n:Int} {rs xs:Rows} {j:Nat} (hs:xs=foldM n (((iQ n rs).map AI).take j)) (hj:(iQ n rs).length≤j):xs=gI n rs:=by
 rw[hs,l5 (by rw[anW];exact hj)];rfl
theorem Rt (n:Int) (l:List (Int×Int)):List.replicate n.toNat (d_ n)=foldM n ((l.map AI).take 0):=rfl
theorem B3 (n:Int) (rs:Rows):(gI n rs).length=n.toNat:=C0 _ _
end Go.Ew
namespace Go.Ew
theorem GS {m:Nat}:∀(l:List (Int×Int)) (p:Nat→Nat→Bool),(∀z∈l,ko ((m:Nat):Int) [z.1,z.2]=true)→l.foldl rj (cE m p)=cE m fun a b=>p a b||l.any fun z=>decide (a=z.1.toNat)&&decide (b=z.2.toNat)
 |[],p,_=>by
  show cE m p=_
  exact dA fun a b _ _=>by simp
 |z::l,p,h=>by
  rw[apN,show z=(z.1,z.2) from rfl,B_ (h z an8),GS l _ fun y hy=>h y (anP _ hy)]
  exact dA fun a b _ _=>by simp[Bool.or_assoc]
theorem QV {m:Nat} {l:List (Int×Int)} (h:∀z∈l,ko ((m:Nat):Int) [z.1,z.2]=true):foldM ((m:Nat):Int) l=cE m fun a b=>l.any fun z=>decide (a=z.1.toNat)&&decide (b=z.2.toNat):=by
 unfold foldM
 rw[yj,GS l _ h]
 exact dA fun a b _ _=>by simp
theorem Vo {m:Nat} {p:Nat→Nat→Bool}:∀z∈iQ ((m:Nat):Int) (cE m p),ko ((m:Nat):Int) [z.1,z.2]=true:=by
 intro z hz
 obtain⟨a,b,ha,hb, -,rfl⟩:=yk.1 hz
 exact jh.2 ⟨⟨by omega,by omega⟩,by omega,by omega⟩
theorem Ur {m:Nat} {p:Nat→Nat→Bool} {a b:Nat} (ha:a<m) (hb:b<m):((iQ ((m:Nat):Int) (cE m p)).any fun z=>decide (a=z.1.toNat)&&decide (b=z.2.toNat))=p a b:=by
 rw[anH,anV]
 constructor
 ·rintro⟨z,hz,h⟩
  obtain⟨c,d,hc,hd,hp,rfl⟩:=yk.1 hz
  simp only[dv,eI,ank] at h
  rw[h.1,h.2];exact hp
 ·intro hp
  exact⟨_,yk.2 ⟨a,b,ha,hb,hp,J⟩,by simp⟩
theorem IB {m:Nat} {p:Nat→Nat→Bool}:gI ((m:Nat):Int) (cE m p)=cE m fun a b=>p b a:=by
 unfold gI
 rw[QV]
 ·refine dA fun a b ha hb=>?_
  rw[List.any_map,←Ur (p:=p) hb ha]
  congr 1
  funext z
  simp only[Function.comp,AI]
  exact Bool.and_comm _ _
 ·intro z hz
  obtain⟨y,hy,rfl⟩:=an6.1 hz
  have:=jh.1<|Vo y hy
  exact jh.2 ⟨this.2,this.1⟩
section
variable {n:Int} {rs:Rows} (h:bF n rs=true)
include h
theorem FZ:bF n (gI n rs)=true:=by
 obtain⟨m,p,rfl,hm,rfl⟩:=l6 h
 rw[IB];exact lD hm
end
end Go.Ew
namespace Go.Ew
theorem nI {n:Int} {mr:Rows} (h:bF n mr=true) {i:Nat} {x:Row} (hx:mr[i]? =some x):x.length=words n:=by
 obtain⟨m,p,rfl,hm,rfl⟩:=l6 h
 rw[(mL hx).2,jz]
theorem Of {n:Int} {mr xs:Rows} (h:bF n mr=true) {j:Nat} {x:Row} (hs:xs=mr.take j++List.replicate (n.toNat-j) (d_ n)) (hj:j<mr.length) (hx:xs[((j:Nat):Int).toNat]? =some x):x=d_ n:=by
 rw[dv,hs,og (by rw[gY];omega),gY,aon aq,aol] at hx
 have:=dB hx
 exact(List.mem_replicate.1 this).2
theorem ZE {n:Int} {mr xs:Rows} (h:bF n mr=true) {j:Nat} {x y:Row} (hs:xs=mr.take j++List.replicate (n.toNat-j) (d_ n)) (hy:mr[((j:Nat):Int).toNat]? =some y) (hx:xs[((j:Nat):Int).toNat]? =some x):y.length=x.length:=by
 have hj:=(dC.1 hy).1
 rw[Of h hs (by simpa using hj) hx,pQ,nI h hy]
theorem ZD {n:Int} {mr xs:Rows} (h:bF n mr=true) {j:Nat} {x y:Row} (hs:xs=mr.take j++List.replicate (n.toNat-j) (d_ n)) (hy:mr[((j:Nat):Int).toNat]? =some y) (hx:xs[((j:Nat):Int).toNat]? =some x):0<x.length:=by
 have hj:=(dC.1 hy).1
 have hl:=(bO h).1
 rw[Of h hs (by simpa using hj) hx,pQ]
 have h0:1≤n:=by rw[dv] at hj;omega
 unfold words;omega
theorem Vq {n:Int} {mr xs:Rows} (h:bF n mr=true) {j:Nat} {y:Row} (hs:xs=mr.take j++List.replicate (n.toNat-j) (d_ n)) (hy:mr[((j:Nat):Int).toNat]? =some y):xs.set ((j:Nat):Int).toNat y=mr.take (j+1)++List.replicate (n.toNat-(j+1)) (d_ n):=by
 have hj:=(dC.1 hy).1
 have hl:=(bO h).1
 rw[nH hy]
 rw[dv] at hj ⊢
 have ep:(mr.take j).length=j:=by rw[gY];omega
 rw[hs,aoH _ _ aq,ep,aol,show n.toNat-j=n.toNat-(j+1)+1 from by omega,aob,ao9]
 simp
theorem ZF {n:Int} {mr xs:Rows} {j:Nat} (h:bF n mr=true) (hs:xs=mr.take j++List.replicate (n.toNat-j) (d_ n)) (hj:mr.length≤j):xs=mr:=by
 have hl:=(bO h).1
 rw[hs,l5 hj,show n.toNat-j=0 from by omega];simp
def fW (rs:Rows) (i j:Nat):Bool:=fg (rs.getD i []) ((j:Nat):Int)
theorem Ce {n:Int} {rs:Rows} (h:bF n rs=true):rs=cE n.toNat (fW rs):=by
 obtain⟨m,p,rfl,hm,rfl⟩:=l6 h
 rw[dv]
 refine dA fun i j hi hj=>?_
 unfold fW
 rw[gZ,rZ hi]
 show p i j=fg (gR m (p i)) _
 rw[iS];simp[hj]
def wM (p:Nat→Nat→Bool):Nat→Nat→Nat→Bool
 |0,a,b=>p a b
 |k+1,a,b=>wM p k a b||(wM p k a k&&wM p k k b)
def wR (p:Nat→Nat→Bool) (k i a b:Nat):Bool:=if a<i then wM p (k+1) a b else wM p k a b
theorem Zi (p:Nat→Nat→Bool) (k b:Nat):wM p (k+1) k b=wM p k k b:=by
 show (wM p k k b||(wM p k k k&&wM p k k b))=wM p k k b
 cases wM p k k b<;>simp
theorem Zg (p:Nat→Nat→Bool) (n k:Nat):cE n (wM p k)=cE n (wR p k 0):=dA fun a b _ _=>by unfold wR;simp
theorem aaX (p:Nat→Nat→Bool) {n k i:Nat} (h:n≤i):cE n (wR p k i)=cE n (wM p (k+1)):=dA fun a b ha _=>by unfold wR;rw[ann aq]
theorem Rq {p:Nat→Nat→Bool} {n k i:Nat} {x:Row} (hx:(cE n (wR p k i))[i]? =some x):x=gR n (wM p k i):=by
 rw[(mL hx).2]
 exact kA fun b _=>by unfold wR;rw[anp aq]
theorem Zh {p:Nat→Nat→Bool} {n k i:Nat} {y:Row} (hy:(cE n (wR p k i))[k]? =some y):y=gR n (wM p k k):=by
 rw[(mL hy).2]
 exact kA fun b _=>by
  unfold wR;split
  ·exact Zi p k b
  ·rfl
theorem aaW {p:Nat→Nat→Bool} {n k i:Nat} {xs:Rows} {x y:Row} (hs:xs=cE n (wR p k i)) (hx:xs[i]? =some x) (hy:xs[k]? =some y) (hk:k<n) (h:fg x ((k:Nat):Int)=true):xs.set i (jE x y)=cE n (wR p k (i+1)):=by
 subst hs
 rw[Rq hx] at h ⊢
 rw[Zh hy,HK,xh]
 rw[iS] at h
 have tj:wM p k i k=true:=by simpa [hk] using h
 refine dA fun a b _ _=>?_
 by_cases e:a=i
 ·subst e
  rw[ann rfl]
  unfold wR
  rw[ann aq]
  show _=(wM p k a b||(wM p k a k&&wM p k k b))
  rw[tj,aoe]
 ·rw[anp e]
  unfold wR
  by_cases h2:a<i
  ·rw[ann h2,ann aq]
  ·rw[anp h2,anp aq]
theorem aeP {p:Nat→Nat→Bool} {n k i:Nat} {xs:Rows} {x:Row} (hs:xs=cE n (wR p k i)) (hx:xs[i]? =some x) (hk:k<n) (h:fg x ((k:Nat):Int)=false):xs=cE n (wR p k (i+1)):=by
 subst hs
 rw[Rq hx,iS] at h
 have tj:wM p k i k=false:=by simpa [hk] using h
 refine dA fun a b _ _=>?_
 unfold wR
 by_cases h2:a<i
 ·rw[ann h2,ann aq]
 ·by_cases e:a=i
  ·subst e
   rw[anp h2,ann aq]
   show _=(wM p k a b||(wM p k a k&&wM p k k b))
   rw[tj];simp
  ·rw[anp h2,anp aq]
def fc (n:Int) (rs:Rows):Rows:=cE n.toNat (wM (fW rs) n.toNat)
theorem KD {p:Nat→Nat→Bool} {n k i q:Nat} {x:Row} (hx:(cE n (wR p k i))[q]? =some x):x.length=words ((n:Nat):Int):=by rw[(mL hx).2,jz]
end Go.Ew
namespace Go.Ew
inductive TC (n:Nat) (p:Nat→Nat→Bool):Nat→Nat→Prop
 |one {a b:Nat}:a<n→b<n→p a b=true→TC n p a b
 |cons {a b c:Nat}:a<n→b<n→p a b=true→TC n p b c→TC n p a c
section
variable {n:Nat} {p q:Nat→Nat→Bool} {a b c:Nat}
theorem TC.lt (h:TC n p a b):a<n∧b<n:=by
 induction h with
 |one h1 h2 _=>exact⟨h1,h2⟩
 |cons h1 _ _ _ ih=>exact⟨h1,ih.2⟩
theorem TC.trans (h:TC n p a b) (k:TC n p b c):TC n p a c:=by
 induction h with
 |one h1 h2 h3=>exact .cons h1 h2 h3 k
 |cons h1 h2 h3 _ ih=>exact .cons h1 h2 h3 (ih k)
theorem TC.mono (h:TC n p a b) (Gy:∀x y,x<n→y<n→p x y=true→q x y=true):TC n q a b:=by
 induction h with
 |one h1 h2 h3=>exact .one h1 h2 (Gy _ _ h1 h2 h3)
 |cons h1 h2 h3 _ ih=>exact .cons h1 h2 (Gy _ _ h1 h2 h3) ih
theorem TC.least {ai:Nat→Nat→Prop} (h:TC n p a b) (h1:∀x y,x<n→y<n→p x y=true→ai x y) (h2:∀x y z,x<n→y<n→z<n→ai x y→ai y z→ai x z):ai a b:=by
 induction h with
 |one k1 k2 k3=>exact h1 _ _ k1 k2 k3
 |cons k1 k2 k3 k4 ih=>exact h2 _ _ _ k1 k2 k4.lt.2 (h1 _ _ k1 k2 k3) ih
theorem TC.last (h:TC n p a c):p a c=true∨∃b,TC n p a b∧p b c=true:=by
 induction h with
 |one _ _ h3=>exact .inl h3
 |cons h1 h2 h3 _ ih=>
  rcases ih with h|⟨b,h4,h5⟩
  ·exact .inr ⟨_,.one h1 h2 h3,h⟩
  ·exact .inr ⟨b,.cons h1 h2 h3 h4,h5⟩
end
theorem AD {n:Nat} {p:Nat→Nat→Bool}:∀k,k≤n→∀a b,a<n→b<n→wM p k a b=true→TC n p a b
 |0,_,a,b,ha,hb,h=>.one ha hb h
 |k+1,hk,a,b,ha,hb,h=>by
  have h:(wM p k a b||(wM p k a k&&wM p k k b))=true:=h
  rw[anv,eI] at h
  rcases h with h|⟨h1,h2⟩
  ·exact AD k aq a b ha hb h
  ·exact(AD k aq a k ha aq h1).trans (AD k aq k b aq hb h2)
theorem NV {p:Nat→Nat→Bool} {k a b:Nat}:wM p (k+1) a b=true↔wM p k a b=true∨(wM p k a k=true∧wM p k k b=true):=by
 show (wM p k a b||(wM p k a k&&wM p k k b))=true↔_
 rw[anv,eI]
theorem Py {p:Nat→Nat→Bool} {a b:Nat}:∀k,p a b=true→wM p k a b=true
 |0,h=>h
 |k+1,h=>NV.2 (.inl (Py k h))
theorem B1 {p:Nat→Nat→Bool}:∀k a b c,c<k→wM p k a c=true→wM p k c b=true→wM p k a b=true
 |0,_,_,_,h,_,_=>absurd h (apa _)
 |k+1,a,b,c,h,h1,h2=>by
  have ih:=fun a b c=>B1 (p:=p) k a b c
  rw[NV] at h1 h2 ⊢
  by_cases hc:c<k
  ·rcases h1 with h1|⟨h1,h3⟩
   ·rcases h2 with h2|⟨h2,h4⟩
    ·exact .inl (ih _ _ _ hc h1 h2)
    ·exact .inr ⟨ih _ _ _ hc h1 h2,h4⟩
   ·rcases h2 with h2|⟨h2,h4⟩
    ·exact .inr ⟨h1,ih _ _ _ hc h3 h2⟩
    ·exact .inr ⟨h1,h4⟩
  ·have:c=k:=by omega
   subst this
   have e1:wM p c a c=true:=by
    rcases h1 with h1|⟨h1,_⟩<;>exact h1
   have e2:wM p c c b=true:=by
    rcases h2 with h2|⟨_,h2⟩<;>exact h2
   exact .inr ⟨e1,e2⟩
def cl (n:Nat) (p:Nat→Nat→Bool) (a b:Nat):Bool:=wM p n a b
theorem pI {n:Nat} {p:Nat→Nat→Bool} {a b:Nat} (ha:a<n) (hb:b<n):cl n p a b=true↔TC n p a b:=
 ⟨AD n (anl _) a b ha hb,fun h=>h.least (ai:=fun x y=>cl n p x y=true) (fun x y _ _ hp=>Py n hp) fun x y z _ hy _ h1 h2=>B1 n x z y hy h1 h2⟩
theorem FI {n:Nat} {p q:Nat→Nat→Bool} (h:∀a b,a<n→b<n→p a b=q a b) {a b:Nat} (ha:a<n) (hb:b<n):cl n p a b=cl n q a b:=by
 rw[anH,pI ha hb,pI ha hb]
 exact⟨fun k=>k.mono fun x y hx hy hp=>by rw[←h x y hx hy];exact hp,fun k=>k.mono fun x y hx hy hp=>by rw[h x y hx hy];exact hp⟩
theorem vh {n:Nat} {p:Nat→Nat→Bool} {a b:Nat} (h:p a b=true):cl n p a b=true:=Py n h
theorem xL {n:Nat} {p:Nat→Nat→Bool} {a b c:Nat} (hb:b<n) (h1:cl n p a b=true) (h2:cl n p b c=true):cl n p a c=true:=B1 n a c b hb h1 h2
theorem jA {n:Nat} {p:Nat→Nat→Bool} {a b:Nat} (ha:a<n) (hb:b<n):fW (cE n p) a b=p a b:=by
 unfold fW
 rw[gZ,rZ ha]
 show fg (gR n (p a)) _=_
 rw[iS];simp[hb]
theorem Ev {n:Nat} {p:Nat→Nat→Bool}:fc ((n:Nat):Int) (cE n p)=cE n (cl n p):=by
 unfold fc
 rw[dv]
 exact dA fun a b ha hb=>FI (fun x y hx hy=>jA hx hy) ha hb
theorem oP {n:Int} {rs:Rows} (h:bF n rs=true):bF n (fc n rs)=true:=by
 obtain⟨m,p,rfl,hm,rfl⟩:=l6 h
 rw[Ev];exact lD hm
def Bw (p:Nat→Nat→Bool) (i j a b:Nat):Bool:=p a b||((decide (a=i)||p a i)&&(decide (b=j)||p j b))
theorem Bv {p:Nat→Nat→Bool} {i j a b:Nat}:Bw p i j a b=true↔p a b=true∨((a=i∨p a i=true)∧(b=j∨p j b=true)):=by
 unfold Bw;simp
theorem Uu {n:Nat} {p:Nat→Nat→Bool} (h:∀i j k,i<n→j<n→k<n→p i j=true→p j k=true→p i k=true) {i j a b:Nat} (hi:i<n) (hj:j<n) (ha:a<n) (hb:b<n):
  cl n (fun x y=>p x y||(decide (x=i)&&decide (y=j))) a b=Bw p i j a b:=by
 rw[anH,pI ha hb]
 constructor
 ·intro k
  refine k.least (ai:=fun x y=>Bw p i j x y=true) (fun x y hx hy hp=>?_) fun x y z hx hy hz h1 h2=>?_
  ·simp only[anv,eI,ank] at hp
   exact Bv.2<|hp.imp id fun ⟨h1,h2⟩=>⟨.inl h1,.inl h2⟩
  ·rw[Bv] at h1 h2 ⊢
   rcases h1 with h1|⟨h1,h3⟩
   ·rcases h2 with h2|⟨h2,h4⟩
    ·exact .inl (h _ _ _ hx hy hz h1 h2)
    ·refine .inr ⟨.inr ?_,h4⟩
     rcases h2 with rfl|h2
     ·exact h1
     ·exact h _ _ _ hx hy hi h1 h2
   ·rcases h2 with h2|⟨h2,h4⟩
    ·refine .inr ⟨h1,.inr ?_⟩
     rcases h3 with rfl|h3
     ·exact h2
     ·exact h _ _ _ hj hy hz h3 h2
    ·exact .inr ⟨h1,h4⟩
 ·intro k
  have up:∀x y,x<n→y<n→p x y=true→TC n (fun x y=>p x y||(decide (x=i)&&decide (y=j))) x y:=fun x y hx hy hp=>.one hx hy (by simp[hp])
  rcases Bv.1 k with k|⟨h1,h2⟩
  ·exact up _ _ ha hb k
  ·have m:TC n (fun x y=>p x y||(decide (x=i)&&decide (y=j))) i j:=.one hi hj (by simp)
   have m2:TC n (fun x y=>p x y||(decide (x=i)&&decide (y=j))) a j:=by
    rcases h1 with rfl|h1
    ·exact m
    ·exact(up _ _ ha hi h1).trans m
   rcases h2 with rfl|h2
   ·exact m2
   ·exact m2.trans (up _ _ hj hb h2)
def gU (n:Int) (rs:Rows) (i j:Int):Rows:=if ko n [i,j] then (if eF n rs i j then rs else cE n.toNat (Bw (fW rs) i.toNat j.toNat)) else []
theorem Ra {n:Nat} {p:Nat→Nat→Bool} {i j:Int} (hi:ko ((n:Nat):Int) [i,j]=true) (h:∀i j k,i<n→j<n→k<n→p i j=true→p j k=true→p i k=true):
  gU ((n:Nat):Int) (cE n p) i j=cE n (cl n fun a b=>p a b||(decide (a=i.toNat)&&decide (b=j.toNat))):=by
 have hr:=jh.1 hi
 unfold gU
 rw[ann hi,Ji,hi,aoe,dv]
 split
 ·rename_i hp
  refine dA fun a b ha hb=>?_
  rw[Uu h aq aq ha hb,anH,Bv]
  refine⟨.inl,fun k=>?_⟩
  rcases k with k|⟨h1,h2⟩
  ·exact k
  ·have m2:p a j.toNat=true:=by
    rcases h1 with rfl|h1
    ·exact hp
    ·exact h _ _ _ ha aq aq h1 hp
   rcases h2 with rfl|h2
   ·exact m2
   ·exact h _ _ _ ha aq hb m2 h2
 ·refine dA fun a b ha hb=>?_
  rw[Uu h aq aq ha hb]
  unfold Bw
  rw[jA ha hb,jA ha aq,jA aq hb]
theorem NP {n:Int} {rs:Rows} {i j:Int} (h:bF n rs=true):bF (ie n i j) (gU n rs i j)=true:=by
 unfold ie gU
 split
 ·split
  ·exact h
  ·obtain⟨m,p,rfl,hm,rfl⟩:=l6 h
   rw[dv];exact lD hm
 ·rfl
def rm (l:List Nat):List Int:=l.map fun k=>((k:Nat):Int)
def vQ (n:Nat) (f:Nat→Bool):List Int:=rm ((List.range n).filter f)
theorem wE {n:Nat} {f:Nat→Bool} {z:Int}:z∈vQ n f↔∃k,k<n∧f k=true∧z=((k:Nat):Int):=by
 unfold vQ rm
 simp only[an6,anD,ano]
 constructor
 ·rintro⟨k,⟨h1,h2⟩,rfl⟩;exact⟨k,h1,h2,rfl⟩
 ·rintro⟨k,h1,h2,rfl⟩;exact⟨k,⟨h1,h2⟩,rfl⟩
theorem OB (n:Nat) (f:Nat→Bool):(vQ n f).length≤n:=by
 unfold vQ rm
 rw[anW]
 have:=aoj f<|List.range n
 simpa using this
theorem yl (n:Nat) (f:Nat→Bool):cV (gR n f)=vQ n f:=Gl n f
end Go.Ew
