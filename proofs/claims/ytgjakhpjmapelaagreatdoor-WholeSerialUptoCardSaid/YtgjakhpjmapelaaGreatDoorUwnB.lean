/- Engine, part P: function values that are handed in; blocks that are only read; small words on lists. -/
import Derived.Test.YtgjakhpjmapelaaGreatDoorUwnA
import Derived.WalkKit
import Derived.ProofKit
import Derived.OpenShut
import Derived.ReadAgain
import Derived.ChangeStays
import Derived.Below
import Derived.ChangeSame
import Derived.ArgAppend
import Derived.Laws.CopyRow
import Derived.LaidMore
import Derived.Stop.Joined
import Derived.Laws.StructEq
import Derived.ChangeKeysEq
import Derived.MapKept
import Derived.Laws.BytesArg
set_option linter.unusedVariables false
set_option linter.unusedSimpArgs false
set_option linter.unusedSectionVars false
namespace Go.Ew
open Go.RowKit
variable {k:Nat}
def ro (b:Nat) (cs:Array Value) (t:TypeId):Item:=⟨none,fun M w=>w.heap[b]? =some (.cells cs t (0,0))∧¬M b,fun h u _=>by
 have hb:b<_:=(anJ.1 h.1).1
 have:=u.2 b hb h.2
 exact⟨this.1.trans h.1,this.2⟩⟩
section
variable {P:Program} {n:Nat} {ops:Array Oper} {f:aN} {w w0 w':aH} {K:aN→aH→Prop} {M0:bW} {l:List Item}
variable {d:Nat} {T ty e:TypeId} {ps:String} {af:Array Edge} {x y:Operand} {v:Value}
theorem wj {bb off:Nat} {cs:Array Value} {t:TypeId} {k bytes:Nat} {agg:Bool} {z:Value} (H:HI M0 w0 w l) (i:Nat) (hi:l[i]? =some (ro bb cs t)) (F:ef P T k agg bytes z) (ox:bI n x=true) (hx:ev f x=.pointer (some ⟨bb,off,none⟩))
  (hk:agg=false→k=1) (hl:((cs.toList.drop off).take k).length=k) (h:K (ck f d (sR agg ((cs.toList.drop off).take k))) w):SO P n ops ⟨some d,.load T x,ty,ps,af,none⟩ f w K:=by
 have hb:w.heap[bb]? =some (.cells cs t (0,0)):=(H.at_ i hi).1
 refine SO.value (v:=sR agg ((cs.toList.drop off).take k)) ?_ h
 have hc:∀j u,((cs.toList.drop off).take k)[j]? =some u→w.cell? ((⟨bb,off,none⟩:Addr).add j)=some u:=by
  intro j u hu
  rw[show (⟨bb,off,none⟩:Addr).add j=⟨bb,off+j,none⟩ from by unfold Addr.add;split<;>simp_all,cell_of_row w bb (off+j) cs t (0,0) hb]
  have hj:j<k:=by
   have:=(dE.1 hu).1
   omega
  rw[anG,anc hj,anU] at hu
  simpa using hu
 simp[execOp,aL ox,hx,Instr.loadAt,Instr.sureAddr,rV F hk hl hc]
theorem lr {bb off:Nat} {cs:Array Value} {t:TypeId} {bytes:Nat} {z:Value} (H:HI M0 w0 w l) (i:Nat) (hi:l[i]? =some (ro bb cs t)) (F:ef P T 1 false bytes z) (ox:bI n x=true) (hx:ev f x=.pointer (some ⟨bb,off,none⟩))
  (hl:((cs.toList.drop off).take 1).length=1) (h:K (ck f d (sR false ((cs.toList.drop off).take 1))) w):SO P n ops ⟨some d,.load T x,ty,ps,af,none⟩ f w K:=wj H i hi F ox hx (fun _=>rfl) hl h
end
def FP {α:Type} [GT α] (P:Program) (g:FuncId) (C:List Value) (M:bW) (w:aH) (xs:List α) (p:α→Bool):Prop:=
 cA P g∧∀w1 v x,x∈xs→Ext w w1→RV M w1 v x→Calls P g ([v]++C).toArray w1 (cp fun u w2=>u=.bool (p x)∧Ext w1 w2)
theorem FP.sub {α:Type} [GT α] {P:Program} {g:FuncId} {C:List Value} {M M':bW} {w w':aH} {xs:List α} {p:α→Bool} (h:FP P g C M w xs p) (e:Ext w w') (hM:∀b,M b→M' b):FP P g C M' w' xs p:=
 ⟨h.1,fun w1 v x hx e' hv=>h.2 w1 v x hx (e.trans e') (hv.lift (Up.less fun b _ hb=>hM b hb))⟩
theorem Uo {M0:bW} {l:List Item}:∀b,M0 b→MS M0 l b:=fun _ h=>.inl h
theorem nX {α:Type} {r:List α} {x:α} (h:r[((k:Nat):Int).toNat]? =some x):r.take (k+1)=r.take k++[x]:=by
 rw[dP] at h
 rw[anH,h];rfl
theorem mg {α:Type} {r:List α} (h:r.length≤k):r.take k=r:=anj h
theorem pN {α:Type} {r:List α} {x:α} {p:α→Bool} (h:r[((k:Nat):Int).toNat]? =some x) (h1:(r.take k).any p=false) (h2:p x=false):(r.take (k+1)).any p=false:=by
 rw[nX h];simp[h1,h2]
def eM {α:Type} (p:α→Bool) (r:List α):Int:=match r.findIdx? p with|some i=>i|none=> -1
theorem uF {α:Type} {r:List α} {x:α} {p:α→Bool} (h:r[((k:Nat):Int).toNat]? =some x) (h1:(r.take k).any p=false) (h2:p x=true):(k:Int)=eM p r:=by
 rw[dP] at h
 obtain⟨hk,hx⟩:=dE.1 h
 have:r.findIdx? p=some k:=by
  rw[anE]
  refine⟨hk,by rw[hx];exact h2,fun j hj=>?_⟩
  have hm:r[j]∈r.take k:=by
   rw[List.mem_take_iff_getElem]
   exact⟨j,by omega,J⟩
  have:=aoZ.1 h1 _ hm
  simpa using this
 simp[eM,this]
theorem vj {α:Type} {r:List α} {p:α→Bool} (h1:(r.take k).any p=false) (h2:r.length≤k):(-1:Int)=eM p r:=by
 rw[mg h2] at h1
 have:r.findIdx? p=none:=by
  rw[ao9]
  intro x hx
  simpa using aoZ.1 h1 x hx
 simp[eM,this]
theorem uG {α:Type} {p:α→Bool} {r:List α}:decide ((0:Int)≤eM p r)=r.any p:=by
 unfold eM
 cases h:r.findIdx? p with
 |none=>
  rw[ao9] at h
  have:r.any p=false:=aoZ.2<|by intro x hx;simp[h x hx]
  simp[this]
 |some i=>
  rw[anE] at h
  obtain⟨hi,hp,_⟩:=h
  have:r.any p=true:=anN.2 ⟨_,apt hi,hp⟩
  simp[this]
theorem wK {α:Type} {p:α→Bool} {r:List α}: -1≤eM p r∧eM p r≤r.length:=by
 unfold eM
 cases h:r.findIdx? p with
 |none=>simp only[];omega
 |some i=>
  rw[anE] at h
  obtain⟨hi,_⟩:=h
  simp only[];omega
theorem bj {α:Type} [GT α] {M:bW} {w:aH} {a:Option Addr} {n c:Nat} {xs:List α} (h:RV M w (.slice a n c) xs):xs.length≤9223372036854775807:=by
 obtain⟨a',m,c',e,h2,h3,h4, -⟩:=RV.list.1 h
 injection e with e1 e2 e3
 unfold maxLen at h4
 omega
def bm {α:Type} [GT α] (M:bW) (e:TypeId) (w0:aH) (xs:List α) (v:Value) (w:aH):Prop:=
 Ext w0 w∧(∀b,v.ownBlock=some b→b<w.heap.size)∧(own w0.heap.size e v xs).holds (fun b=>M b∨v.ownBlock=some b) w
section
variable {M0:bW} {w0 w w':aH} {l:List Item} {α:Type} [GT α] {v:Value} {xs:List α} {e:TypeId}
theorem HI.eT (H:HI M0 w0 w l) (h:bm (MS M0 l) e w xs v w'):HI M0 w0 w' (own w0.heap.size e v xs::l):=by
 obtain⟨hx,hb,cs,h1,h2⟩:=h
 have zF:∀(B:Nat),B≤w.heap.size→w'.ownsRow B e (GT.size α) v xs.length cs:=by
  intro B hB
  refine⟨h1.1,?_⟩
  rcases h1.2 with h3|⟨g,cap,cur,rfl,h3,h4⟩
  ·exact .inl h3
  ·exact .inr ⟨g,cap,cur,J,Nat.le_trans hB h3,h4⟩
 have B_:∀b,v.ownBlock=some b→w.heap.size≤b:=fun b wo=>(h1.lt b wo).1
 cases hv:v.ownBlock with
 |none=>
  refine(H.ext hx).put hv ⟨cs,zF _ H.below.size,bA.lift (Up.less ?_) h2⟩
  intro b Cc hM
  exact .inl hM
 |some b=>
  refine H.new hx b hv (B_ b hv) (hb b hv) ⟨cs,zF _ H.below.size,bA.lift (Up.less ?_) h2⟩
  rintro c hc (hM|⟨it,hit,acI⟩)
  ·exact .inl (.inl hM)
  ·rcases ans.1 hit with rfl|hit
   ·exact .inr acI
   ·exact .inl (.inr ⟨it,hit,acI⟩)
theorem HI.dp (H:HI M0 w0 w l) (i:Nat) (hi:l[i]? =some (own w0.heap.size e v xs)):bm M0 e w0 xs v w:=by
 obtain⟨cs,h1,h2⟩:=H.at_ i hi
 refine⟨H.below,fun b hb=>(wI H hi b hb).2,cs,h1,bA.lift (Up.less ?_) h2⟩
 rintro b _ (hM|hb)
 ·exact .inl hM
 ·exact .inr ⟨_,dC hi,hb⟩
theorem fR {M:bW} (h:Ext w0 w):bm M e w0 ([]:List α) (.slice none 0 0) w:=⟨h,fun b hb=>(by cases hb),[],World.ownsRow_nil w _ e _,rfl⟩
theorem bm.rv {M:bW} (h:bm M e w xs v w') (hM:∀b,M b→b<w.heap.size):RV M w' v xs:=by
 obtain⟨_,hb,ho⟩:=h
 refine Ah ho (fun b _ vu=>.inl vu)<|fun b wo hMb=>?_
 obtain⟨cs,h1,_⟩:=ho
 have:=(h1.lt b wo).1
 have:=hM b hMb
 omega
end
section
variable {α:Type} {β:Type} {γ:Type} {δ:Type} {ε:Type} {ζ:Type} {V:Type} {a a':α} {b b':β} {c c':γ} {d d':δ} {e e':ε} {z z':ζ}
theorem iK (f:α→V) (h1:a=a'):f a=f a':=by rw[h1]
theorem nL (f:α→β→V) (h1:a=a') (h2:b=b'):f a b=f a' b':=by rw[h1,h2]
theorem rk (f:α→β→γ→V) (h1:a=a') (h2:b=b') (h3:c=c'):f a b c=f a' b' c':=by rw[h1,h2,h3]
theorem cg4 (f:α→β→γ→δ→V) (h1:a=a') (h2:b=b') (h3:c=c') (h4:d=d'):f a b c d=f a' b' c' d':=by rw[h1,h2,h3,h4]
end
theorem ly {α:Type} [GT α] {M0:bW} {l:List Item} {it:Item} {w:aH} {v:Value} {x:α} (hn:it.jJ=none) (h:RV (MS M0 (it::l)) w v x):RV (MS M0 l) w v x:=by rwa [aD hn] at h
end Go.Ew
namespace Go.Ew
open Go.RowKit Go.WideShapes Go.ChangeShapes
abbrev JM:Nat→Prop:=fun _=>False
def agd (P:Program) (t:TypeId) (α:Type) [GT α]:Prop:=
 P.cellsOf t=GT.size α∧∀{H:Type} (enc:TypeId×Value→H) (W:aH) (n:Nat) (cs:List Value) (x:DataW H×List MemPlace),
  DataW.trod enc P W 0 (fun _=>true) true n t cs=some x→∃y:α,GT.rep JM W cs y
section
variable {P:Program} {t e:TypeId}
theorem Vi (hc:P.cellsOf t=1) (ht:P.underlying t=some (.int .u8)):agd P t (BitVec 8):=by
 refine⟨hc,fun enc W n cs x h=>?_⟩
 obtain⟨k,rfl, -,hw⟩:=DataW.trod_int ht h
 have hb:=bounds_u8 hw
 refine⟨BitVec.ofNat 8 k.toNat,?_⟩
 show [_]=[_]
 have:((BitVec.ofNat 8 k.toNat).toNat:Int)=k:=by rw[BitVec.toNat_ofNat];omega
 rw[U8,this]
theorem TY {W:aH} {a:Addr} {n:Nat} {cs:List Value} (h:W.cells? 0 a n=some cs):∀j v,cs[j]? =some v→W.cell? (a.add j)=some v:=by
 intro j v hv
 simp only[World.cells?,aok,aoP] at h
 have hl:=mapM_some_length h
 have hj:j<cs.length:=(dE.1 hv).1
 rw[ao6] at hl
 have:=mapM_some_get h j j<|by rw[aob aj]
 rw[this,hv]
theorem EO {α:Type} {Q:Nat→α→Prop}:∀n:Nat,(∀i,i<n→∃y,Q i y)→∃l:List α,l.length=n∧∀(i:Nat) (y:α),l[i]? =some y→Q i y
 |0,_=>⟨[],rfl,fun i y h=>by simp at h⟩
 |n+1,h=>by
  obtain⟨l,hl,hq⟩:=EO n fun i hi=>h i aj
  obtain⟨y,hy⟩:=h n aj
  refine⟨l++[y],by simp[hl],fun i z hz=>?_⟩
  by_cases hi:i<l.length
  ·rw[nM hi] at hz;exact hq i z hz
  ·rw[ny aj] at hz
   have Ji:i-l.length=0:=by
    have:=(dE.1 hz).1
    simp at this;omega
   rw[Ji] at hz
   simp at hz
   subst hz
   rw[show i=n from by omega]
   exact hy
section
variable {H:Type} {enc:TypeId×Value→H} {W:aH} {base:Nat} {v:Value} {d:DataW H} {ps:List MemPlace}
theorem Ef {W':aH} {T:TypeId→Prop} (K:Kids P T) (hz:∀t e,T t→P.underlying t=some (.slice e)→0<P.cellsOf e) (e:Ext W W') {sp:Nat→Bool}:
  ∀{ts:List TypeId} {vs:List Value} {ds:List (DataW H)} {ps:List MemPlace},(∀t∈ts,T t)→DataW.TrodAll enc P W 0 (fun _=>true) true ts vs ds ps→(∀p∈ps,sp p.block=true)→DataW.TrodAll enc P W' 0 sp true ts vs ds ps
 |[],[],[],_,_,h,_=>h
 |t::_,v::_,_::_,_,hT,⟨p,q,⟨n,h1⟩,h2,hp⟩,hs=>by
  refine⟨p,q,⟨n,?_⟩,Ef K hz e (fun t ht=>hT t<|ans.2<|Or.inr ht) h2 (fun x hx=>hs x<|by rw[hp];exact aot _ hx),hp⟩
  have hr:=DataW.trod_respare K hz n _ _ _ (hT _<|ans.2<|Or.inl J) h1 (spare':=sp)<|fun x hx=>hs x<|by rw[hp];exact aoy _ hx
  exact DataW.trod_carry n _ _ _ hr fun x hx=>Below.same e.toBelow (DataW.trod_lt n _ _ _ h1 x hx)
 |[],[],_::_,_,_,h,_=>h.elim
 |[],_::_,_,_,_,h,_=>h.elim
 |_::_,[],_,_,_,h,_=>h.elim
 |_::_,_::_,[],_,_,h,_=>h.elim
theorem Sw {f:Func} {s:ChangeSpec} {apart fresh handsOn again:Bool} {W W':aH} {args:Array Value} {ds gs:List (DataW H)} {before:List MemPlace} {tb:TypeId}
  (K:Kids P (·<P.types.size)) (hz:∀t e,t<P.types.size→P.underlying t=some (.slice e)→0<P.cellsOf e) (hts:∀t∈f.params.toList,t<P.types.size)
  (XG:s.vars=[]) (hW:DataW.Whole enc P f.params.toList s.vars apart W args.toList ds gs before) (e:Ext W W') (hrt:f.resultTypes=#[tb]) (hu:P.underlying tb=some .bool)
  (h1:(s.fn H (ds++gs)).results=[.lit (.bool true)]) (h2:(s.fn H (ds++gs)).args=ds) (h3:(s.fn H (ds++gs)).vars=[]):
  s.post enc P f apart fresh handsOn again W args (.bool true) W':=by
 have eo:∀p∈before,p.block<W.heap.size:=fun p hp=>hW.lt p hp
 have hW2:=hW
 obtain⟨p,q,hA,hV,GU,hfz,lU⟩:=hW2
 rw[XG] at hV
 have hq:gs=[]∧q=[]:=by
  cases gs with
  |nil=>exact⟨rfl,hV⟩
  |cons _ _=>exact hV.elim
 obtain⟨rfl,rfl⟩:=hq
 rw[aoB] at GU
 subst GU
 have hold:∀x∈before,(fun b=>decide (b<W.heap.size)) x.block=true:=fun x hx=>by simpa using eo x hx
 have aco:∀(b:Nat) (sp:Nat→Bool) (hd:Bool),DataW.TrodAll enc P W' b sp hd f.resultTypes.toList ((Value.bool true).resultList f.resultTypes.size) (s.fn H (ds++[])).results []:=by
  intro b sp hd
  rw[h1,hrt]
  exact trodAll_mk1<|shut_bool hu _
 have Qy:∀sp:Nat→Bool,(∀x∈before,sp x.block=true)→DataW.TrodAll enc P W' 0 sp true f.params.toList args.toList (s.fn H (ds++[])).args before:=by
  intro sp hsp
  rw[h2]
  exact Ef K hz e hts hA hsp
 have hvs:∀sp:Nat→Bool,DataW.TrodVars enc P W' sp s.vars (s.fn H (ds++[])).vars []:=by
  intro sp
  rw[h3,XG]
  rfl
 refine⟨ds,[],before,[],before,[],hW,aco _ _ _,Qy _ hold,hvs _,World.keptBut_mono (fun x hx=>⟨hx,.inr (.inl hx)⟩) (e.frame (·∈before)),fun _=>?_⟩
 refine⟨ok_one (by rw[hrt]) rfl (okWide_bool_mk hu _),(s.fn H<|ds++[]).results++(s.fn H<|ds++[]).args,(s.fn H<|ds++[]).vars,([]++before)++[],⟨[]++before,[],trodAll_append (Qy _<|fun _ _=>rfl) (aco _ _ _),hvs _,J,?_,?_⟩,?_⟩
 ·intro b off hp
  have sV:MemPlace.cell b off∈before:=by simpa using hp
  rw[Below.frozen e.toBelow (eo _ sV)]
  exact hfz b off sV
 ·intro ha
  simpa using lU ha
 ·intro x hx _
  simpa using hx
end
end
end Go.Ew
namespace Go.Ew
open Go.RowKit
def P4 (Φ:List (Nat→Nat→Value→aH→Prop)) (i lo hi:Nat):Value→aH→Prop:=Φ.getD i (fun _ _ _ _=>True) lo hi
structure Us (P:Program) (n:Nat) (l:de) (k:Nat) (Φ:List (Nat→Nat→Value→aH→Prop)) (f0:aN) (w0:aH) (i:Nat) (o:Oper):Prop where
 go:∀f w,(∀t,(jl k l).contains t=false→f t=f0 t)→Ext w0 w→(∀j,kU o j=true→Nat.blt j k=true→∃lo hi,w0.heap.size≤lo∧hi≤w.heap.size∧P4 Φ j lo hi (f (jb l j)) w)→
  SO P n l.toArray o f w (fun f' w'=>∃v,f'=cZ f o.dst v∧Ext w w'∧P4 Φ i w.heap.size w'.heap.size v w')
 mono:∀lo hi v w w',Ext w w'→P4 Φ i lo hi v w→P4 Φ i lo hi v w'
def xb (P:Program) (n:Nat) (l:de) (k:Nat) (Φ:List (Nat→Nat→Value→aH→Prop)) (f0:aN) (w0:aH):Nat→de→Prop
 |_,[]=>True
 |i,o::r=>(Nat.blt i k=true→Us P n l k Φ f0 w0 i o)∧xb P n l k Φ f0 w0 (i+1) r
section
variable {P:Program} {n:Nat} {l:de} {k:Nat} {Φ:List (Nat→Nat→Value→aH→Prop)} {f0:aN} {w0:aH}
theorem xb.at_:∀(r:de) (i:Nat),xb P n l k Φ f0 w0 i r→∀j o,r[j]? =some o→Nat.blt (i+j) k=true→Us P n l k Φ f0 w0 (i+j) o
 |[],_,_,j,o,h,_=>by simp at h
 |x::r,i,h,0,o,hj,hk=>by
  simp only[anq,ann] at hj
  subst hj
  exact h.1 hk
 |x::r,i,h,j+1,o,hj,hk=>by
  simp only[anv] at hj
  have:=xb.at_ r (i+1) h.2 j o hj<|by rw[show i+1+j=i+(j+1) from by omega];exact hk
  rwa [show i+1+j=i+(j+1) from by omega] at this
theorem xb.rest {i:Nat} (h:Nat.ble k i=true):∀r,xb P n l k Φ f0 w0 i r:=by
 intro r
 induction r generalizing i with
 |nil=>exact trivial
 |cons o r ih=>
  simp only[ap2] at h
  exact⟨fun hk=>by simp only[apf] at hk;omega,ih (by simp only[ap2];omega)⟩
section
variable {M0:bW} {z6 w w':aH} {l:List Item} {v:Value} {z:Value} {T:TypeId} {lo hi:Nat}
def Q' (b:Nat) (cs:Array Value) (t:TypeId) (lo hi:Nat) (w:aH):Prop:=lo≤b∧b<hi∧w.heap[b]? =some (.cells cs t (0,0))
theorem Q'.ext {b:Nat} {cs:Array Value} {t:TypeId} (h:Q' b cs t lo hi w) (e:Ext w w'):Q' b cs t lo hi w':=
 ⟨h.1,h.2.1,(e.block b (anJ.1 h.2.2).1).trans h.2.2⟩
theorem HI.laid {b:Nat} {cs:Array Value} {t:TypeId} (H:HI M0 z6 w l) (x:Ext w w') (hb:w.heap.size≤b) (h:w'.heap[b]? =some (.cells cs t (0,0))):HI M0 z6 w' (box b cs t::l):=
 H.new x b rfl hb (anJ.1 h).1 h
end
section
variable {x:Operand} {v:Value} {ops:Array Oper} {f:aN} {w:aH} {K:aN→aH→Prop} {d:Nat} {ty T:TypeId} {ps:String} {af:Array Edge} {bytes size:Nat} {agg:Bool} {z:Value}
end
end
end Go.Ew
namespace Go.Ew
open Go.RowKit
variable {i:Nat}
inductive Kd where
 |v
 |n
 |s (a j:Nat)
def ab0:Kd→Option Nat
 | .s a _=>some a
 |_=>none
def Qg (Ks:List Kd) (i:Nat):Kd:=Ks.getD i .v
def HR (Φ:List (Value→Prop)) (i:Nat):Value→Prop:=Φ.getD i (fun _=>True)
def zX (Z:List (Array Value×TypeId)) (i:Nat):Array Value×TypeId:=Z.getD i (#[],0)
def YG (P:Program) (n:Nat) (l:de) (Ks:List Kd) (Φ:List (Value→Prop)) (Z:List (Array Value×TypeId)) (f0:aN) (w0:aH) (i:Nat) (o:Oper):Prop:=
 match Qg Ks i with
 | .v=>o.dst.isSome=true∧∀f w,(∀t,(jl l.length l).contains t=false→f t=f0 t)→Ext w0 w→(∀j,kU o j=true→(∃x,l[j]? =some x∧x.dst.isSome=true)→HR Φ j (f (jb l j)))→
   SO P n l.toArray o f w (fun f' w'=>∃v,f'=cZ f o.dst v∧w'=w∧HR Φ i v)
 | .n=>o.dst.isSome=true∧∀f w,(∀t,(jl l.length l).contains t=false→f t=f0 t)→Ext w0 w→(∀j,kU o j=true→(∃x,l[j]? =some x∧x.dst.isSome=true)→HR Φ j (f (jb l j)))→
   SO P n l.toArray o f w (fun f' w'=>f'=cZ f o.dst (.pointer (some ⟨w.heap.size,0,none⟩))∧w'=w.alloc (.cells (zX Z i).1 (zX Z i).2)∧HR Φ i (.pointer (some ⟨w.heap.size,0,none⟩)))
 | .s a j=>o.dst=none∧kU o a=true∧kU o j=true∧(∃x,l[a]? =some x∧x.dst.isSome=true)∧(∃x,l[j]? =some x∧x.dst.isSome=true)∧(match Qg Ks a with| .n=>True|_=>False)∧(∀v,HR Φ j v→v.cells.size=(zX Z a).1.size)∧
   ∀f w b cur,Ext w0 w→f (jb l a)=.pointer (some ⟨b,0,none⟩)→w.heap[b]? =some (.cells cur (zX Z a).2 (0,0))→cur.size=(zX Z a).1.size→HR Φ j (f (jb l j))→
   SO P n l.toArray o f w (fun f' w'=>f'=f∧w'=w.setRow b (f (jb l j)).cells)
def Hv (P:Program) (n:Nat) (l:de) (Ks:List Kd) (Φ:List (Value→Prop)) (Z:List (Array Value×TypeId)) (f0:aN) (w0:aH):Nat→de→Prop
 |_,[]=>True
 |i,o::r=>YG P n l Ks Φ Z f0 w0 i o∧Hv P n l Ks Φ Z f0 w0 (i+1) r
section
variable {P:Program} {n:Nat} {l:de} {Ks:List Kd} {Φ:List (Value→Prop)} {Z:List (Array Value×TypeId)} {f0:aN} {w0:aH}
theorem Hv.at_:∀(r:de) (i:Nat),Hv P n l Ks Φ Z f0 w0 i r→∀j o,r[j]? =some o→YG P n l Ks Φ Z f0 w0 (i+j) o
 |[],_,_,j,o,h=>by simp at h
 |x::r,i,h,0,o,hj=>by
  simp only[anq,ann] at hj
  subst hj
  exact h.1
 |x::r,i,h,j+1,o,hj=>by
  simp only[anv] at hj
  have:=Hv.at_ r (i+1) h.2 j o hj
  rwa [show i+1+j=i+(j+1) from by omega] at this
def aeH (l:de) (Ks:List Kd) (Z:List (Array Value×TypeId)) (L:Nat→Bool) (f:aN) (i:Nat) (cur:Array Value):Prop:=
 cur.size=(zX Z i).1.size∧(∀s j,Ks[s]? =some (.s i j)→L s=true→cur=(f (jb l j)).cells)∧((∀s j,Ks[s]? =some (.s i j)→L s=false)→cur=(zX Z i).1)
theorem adK (hN:nodupB (jl l.length l)=true) {j:Nat} {oi oj:Oper} (hi:l[i]? =some oi) (hj:l[j]? =some oj) {di dj:Nat} (vt:oi.dst=some di) (EE:oj.dst=some dj) (gA:i≠j):dj≠di:=by
 rintro rfl
 have lU:=pc _ hN
 unfold jl at lU
 rw[aoa] at lU
 exact gA<|il (·.dst) l lU i j oi oj hi hj (by simp[vt])<|by simp[vt,EE]
theorem O8 {o:Oper} (hi:l[i]? =some o) {d:Nat} (hd:o.dst=some d):jb l i=d:=by unfold jb;rw[hi];simp[hd]
end
theorem aeH.zero {l:de} {Ks:List Kd} {Z:List (Array Value×TypeId)} {f:aN} {cur:Array Value} (h:aeH l Ks Z (fun _=>true) f i cur) (hn:(Ks.filterMap ab0).contains i=false):cur=(zX Z i).1:=by
 refine h.2.2 fun s j hs=>?_
 exfalso
 have:i∈Ks.filterMap ab0:=anF.2 ⟨_,dC hs,J⟩
 rw[←anQ,hn] at this
 cases this
section
variable {P:Program} {n:Nat} {ops:Array Oper} {f:aN} {w ws:aH} {K:aN→aH→Prop} {x y:Operand} {d:Nat} {ty T e:TypeId} {ps:String} {af:Array Edge} {v:Value} {M:bW} {kk:IntKind} {bytes:Nat} {z:Value} {ad:Addr} {size:Nat} {agg:Bool}
end
end Go.Ew
namespace Go.Ew
open Go.RowKit
def CH (Φ:List ((bW)→Value→aH→Prop)) (i:Nat):(bW)→Value→aH→Prop:=Φ.getD i (fun _ _ _=>True)
def aeC (N N':bW) (w w':aH):Prop:=w.heap.size≤w'.heap.size∧(∀c,c<w.heap.size→¬N c→w'.heap[c]? =w.heap[c]?)∧∀c,c<w.heap.size→N' c→N c
def YH (P:Program) (n:Nat) (l:de) (Ks:List Kd) (Φ:List ((bW)→Value→aH→Prop)) (Z:List (Array Value×TypeId)) (f0:aN) (w0:aH) (i:Nat) (o:Oper):Prop:=
 (∀N N' v w w',aeC N N' w w'→CH Φ i N v w→CH Φ i N' v w')∧
 match Qg Ks i with
 | .v=>o.dst.isSome=true∧∀f w N,(∀t,(jl l.length l).contains t=false→f t=f0 t)→Ext w0 w→(∀c,N c→w0.heap.size≤c∧c<w.heap.size)→(∀j,kU o j=true→(∃x,l[j]? =some x∧x.dst.isSome=true)→CH Φ j N (f (jb l j)) w)→
   SO P n l.toArray o f w (fun f' w'=>∃v,f'=cZ f o.dst v∧Ext w w'∧CH Φ i N v w')
 | .n=>o.dst.isSome=true∧(∀N v w,CH Φ i N v w)∧∀f w N,(∀t,(jl l.length l).contains t=false→f t=f0 t)→Ext w0 w→(∀c,N c→w0.heap.size≤c∧c<w.heap.size)→(∀j,kU o j=true→(∃x,l[j]? =some x∧x.dst.isSome=true)→CH Φ j N (f (jb l j)) w)→
   SO P n l.toArray o f w (fun f' w'=>f'=cZ f o.dst (.pointer (some ⟨w.heap.size,0,none⟩))∧w'=w.alloc (.cells (zX Z i).1 (zX Z i).2))
 | .s a j=>o.dst=none∧kU o a=true∧kU o j=true∧(∃x,l[a]? =some x∧x.dst.isSome=true)∧(∃x,l[j]? =some x∧x.dst.isSome=true)∧a≠j∧(match Qg Ks a with| .n=>True|_=>False)∧(∀N v w,CH Φ j N v w→v.cells.size=(zX Z a).1.size)∧
   ∀f w N b cur,Ext w0 w→f (jb l a)=.pointer (some ⟨b,0,none⟩)→w.heap[b]? =some (.cells cur (zX Z a).2 (0,0))→cur.size=(zX Z a).1.size→CH Φ j N (f (jb l j)) w→
   SO P n l.toArray o f w (fun f' w'=>f'=f∧w'=w.setRow b (f (jb l j)).cells)
def Hw (P:Program) (n:Nat) (l:de) (Ks:List Kd) (Φ:List ((bW)→Value→aH→Prop)) (Z:List (Array Value×TypeId)) (f0:aN) (w0:aH):Nat→de→Prop
 |_,[]=>True
 |i,o::r=>YH P n l Ks Φ Z f0 w0 i o∧Hw P n l Ks Φ Z f0 w0 (i+1) r
section
variable {P:Program} {n:Nat} {l:de} {Ks:List Kd} {Φ:List ((bW)→Value→aH→Prop)} {Z:List (Array Value×TypeId)} {f0:aN} {w0:aH}
theorem Hw.at_:∀(r:de) (i:Nat),Hw P n l Ks Φ Z f0 w0 i r→∀j o,r[j]? =some o→YH P n l Ks Φ Z f0 w0 (i+j) o
 |[],_,_,j,o,h=>by simp at h
 |x::r,i,h,0,o,hj=>by
  simp only[anq,ann] at hj
  subst hj
  exact h.1
 |x::r,i,h,j+1,o,hj=>by
  simp only[anv] at hj
  have:=Hw.at_ r (i+1) h.2 j o hj
  rwa [show i+1+j=i+(j+1) from by omega] at this
end
section
variable {α:Type} [GT α] {M N N':bW} {w0 w w':aH} {v:Value} {x:α}
end
end Go.Ew
namespace Go.Ew
open Go.RowKit
def FP2 {α β:Type} [GT α] [GT β] (P:Program) (g:FuncId) (C:List Value) (M:bW) (w:aH) (xs:List α) (ys:List β) (q:α→β→Bool):Prop:=
 cA P g∧∀w1 v x u y,x∈xs→y∈ys→Ext w w1→RV M w1 v x→RV M w1 u y→Calls P g ([v,u]++C).toArray w1 (cp fun r w2=>r=.bool (q x y)∧Ext w1 w2)
theorem FP2.sub {α β:Type} [GT α] [GT β] {P:Program} {g:FuncId} {C:List Value} {M M':bW} {w w':aH} {xs:List α} {ys:List β} {q:α→β→Bool} (h:FP2 P g C M w xs ys q) (e:Ext w w') (hM:∀b,M b→M' b):FP2 P g C M' w' xs ys q:=
 ⟨h.1,fun w1 v x u y hx hy e' hv hu=>h.2 w1 v x u y hx hy (e.trans e') (hv.lift (Up.less fun b _ hb=>hM b hb)) (hu.lift (Up.less fun b _ hb=>hM b hb))⟩
end Go.Ew
namespace Go.Ew
open Go.RowKit
structure SV where
 a:Option Addr
 n:Nat
 c:Nat
def SV.v (s:SV):Value:=.slice s.a s.n s.c
instance gSV:GT SV where
 size:=1
 agg:=false
 rep _ _ cs s:=cs=[s.v]
 len h:=by rw[h];rfl
 one h:=by rw[h];simp[Value.oneCell',SV.v]
 single _:=rfl
 pos:=by decide
 lift h _:=h
theorem RV.sv {M:bW} {w:aH} {v:Value} {s:SV}:RV M w v s↔v=s.v:=by
 constructor
 ·rintro⟨cs,rfl,rfl⟩;rfl
 ·rintro rfl;exact⟨_,rfl,rfl⟩
section
variable {α:Type} [GT α] {B:Nat} {e E:TypeId} {ss:List SV} {xs:List (List α)} {l l':List Item} {M0:bW} {w0 w w':aH} {s:SV} {x y:List α} {i:Nat}
def aU (B:Nat) (e:TypeId) (ss:List SV) (xs:List (List α)):List Item:=List.zipWith (fun s x=>own B e s.v x) ss xs
def Ae (ss:List SV) (xs:List (List α)):List Item:=List.zipWith (fun s x=>tH s.v x) ss xs
theorem oV (hs:ss[i]? =some s) (hx:xs[i]? =some x):(l++aU B e ss xs)[l.length+i]? =some (own B e s.v x):=by
 rw[ny aj,show l.length+i-l.length=i from by omega]
 unfold aU
 rw[aoC,hs,hx]
theorem Zd (hs:ss[i]? =some s):(l++aU B e ss xs).set (l.length+i) (own B e s.v y)=l++aU B e ss (xs.set i y):=by
 rw[aos _ _ aj,show l.length+i-l.length=i from by omega]
 congr 1
 unfold aU
 apply anL
 intro j
 rw[an7,aoC,aoC,an7,List.length_zipWith]
 by_cases e:i=j
 ·subst e
  have hl:=(dE.1 hs).1
  by_cases hx:i<xs.length
  ·rw[anc rfl,anc rfl,anc aj,anc hx,hs]
  ·rw[anc rfl,anc rfl,anf aj,anf hx,hs]
 ·rw[anf e,anf e]
theorem RG (h:ss.length=xs.length):aU B e (ss++[s]) (xs++[x])=aU B e ss xs++[own B e s.v x]:=by
 unfold aU
 rw[List.zipWith_append h];rfl
theorem HI.perm (H:HI M0 w0 w l) (hp:l'.Perm l):HI M0 w0 w l':=
 H.pick l' (fun it hit=>hp.mem_iff.1 hit) ((hp.filterMap _).nodup_iff.2 H.nodup)
theorem HI.abg (H:HI M0 w0 w (own B e s.v x::(l++aU B e ss xs))) (h:ss.length=xs.length):HI M0 w0 w (l++aU B e (ss++[s]) (xs++[x])):=by
 rw[RG h,←anM]
 exact H.perm<|List.perm_append_singleton _ _
theorem Mw {A B:Type} {f g:A→Option B}:∀{l:List A},(∀a∈l,f a=g a)→l.filterMap f=l.filterMap g
 |[],_=>rfl
 |a::l,h=>by rw[an0,an0,h a anY,Mw fun b hb=>h b (anI _ hb)]
theorem Mv {A:Type}:∀t:List A,(List.range t.length).filterMap (fun i=>t[i]?)=t
 |[]=>rfl
 |a::t=>by
  rw[iI,List.range_succ_eq_map,an0,aqc]
  have:((fun i=>(a::t)[i]?)∘Nat.succ)=fun i=>t[i]?:=by funext i;rfl
  rw[this,Mv t];rfl
theorem HI.aP {t:List Item} (H:HI M0 w0 w (l++t)) (is:List Nat) (hn:is.Nodup) (hb:is.all (fun i=>Nat.blt i l.length)=true) (he:is.filterMap (fun i=>l[i]?)=l'):HI M0 w0 w (l'++t):=by
 refine H.bX (is++(List.range t.length).map (l.length+·)) ?_ ?_
 ·rw[aoW]
  refine⟨hn,?_,?_⟩
  ·rw[List.nodup_iff_pairwise_ne,List.pairwise_map]
   exact List.Pairwise.imp (fun h=>by omega) aps
  ·intro a ha b vu Jl
   subst Jl
   obtain⟨j, -,rfl⟩:=anZ.1 vu
   have:=ani.1 hb _ ha
   have:l.length+j<l.length:=by simpa using this
   omega
 ·rw[apm,←he]
  congr 1
  ·refine Mw fun i hi=>?_
   have:=ani.1 hb _ hi
   rw[nM (by simpa using this)]
  ·rw[aqc]
   have:((fun i=>(l++t)[i]?)∘(l.length+·))=fun i=>t[i]?:=by
    funext i
    simp only[Function.comp]
    rw[ny aj,show l.length+i-l.length=i from by omega]
   rw[this]
   exact Mv t
theorem HI.G4:∀(ss:List SV) (xs:List (List α)) (l:List Item),HI M0 w0 w (l++aU B e ss xs)→HI M0 w0 w (l++Ae ss xs)
 |[],xs,l,H=>H
 |s::ss,[],l,H=>H
 |s::ss,x::xs,l,H=>by
  have h1:(l++aU B e (s::ss) (x::xs))[l.length]? =some (own B e s.v x):=by rw[ny (ane _),an'];rfl
  have H1:=H.freeze l.length h1
  have h2:(l++aU B e (s::ss) (x::xs)).set l.length (tH s.v x)=(l++[tH s.v x])++aU B e ss xs:=by
   rw[aos _ _ (ane _),an',anM];rfl
  rw[h2] at H1
  have H2:=HI.G4 ss xs _ H1
  rwa [anM] at H2
theorem EM {M:bW}:∀{ss:List SV} {xs:List (List α)} {cs:List Value},ss.length=xs.length→(∀(i:Nat) (s:SV) (x:List α),ss[i]? =some s→xs[i]? =some x→RV M w s.v x)→bA M w cs ss→bA M w cs xs
 |[],[],cs,_,_,h=>h
 |s::ss,x::xs,cs,hl,hr,⟨c1,c2,h1,h2,h3⟩=>by
  refine⟨c1,c2,h1,⟨s.v,h2,RV.list.1 (hr 0 s x J J)⟩,EM (by simpa using hl) (fun i s' x' hs hx=>hr (i+1) s' x' hs hx) h3⟩
 |[],_::_,_,h,_,_=>by cases h
 |_::_,[],_,h,_,_=>by cases h
theorem HI.deep {v:Value} (H:HI M0 w0 w (own B E v ss::(l++aU B e ss xs))) (hl:ss.length=xs.length):HI M0 w0 w (own B E v xs::l):=by
 have H1:HI M0 w0 w (own B E v ss::(l++Ae ss xs)):=HI.G4 ss xs (own B E v ss::l) H
 obtain⟨cs,h1,h2⟩:=H1.at_ 0 rfl
 have key:∀(i:Nat) (s:SV) (x:List α),ss[i]? =some s→xs[i]? =some x→RV (MS M0 (own B E v ss::(l++Ae ss xs))) w s.v x:=by
  intro i s x hs hx
  refine H1.all (tH s.v x) (anI _<|aot _ ?_)
  unfold Ae
  exact dC (i:=i)<|by rw[aoC,hs,hx]
 have H2:=H1.vR (nG:=own B E v xs) 0 rfl rfl rfl rfl (ane _) (ane _) (fun _ _ _=>rfl) (fun b hb=>⟨(H1.ju _ (anY) b hb).2,.inl hb⟩) (by
  refine⟨cs,?_,bA.lift (M:=MS M0 (own B E v ss::(l++Ae ss xs))) (Up.less ?_) (EM hl key h2)⟩
  ·rw[←hl];exact h1
  ·rintro b _ (hb|⟨it,hit,hb⟩)
   ·exact .inl hb
   ·rcases ans.1 hit with rfl|hit
    ·exact .inr ⟨_,anY,hb⟩
    ·exact .inr ⟨it,anI _ hit,hb⟩)
 refine H2.pick _ (fun it hit=>?_) ?_
 ·rcases ans.1 hit with rfl|hit
  ·exact anY
  ·exact anI _<|aoy _ hit
 ·refine apK ?_ H2.nodup
  refine List.Sublist.filterMap _ ?_
  exact(List.sublist_append_left l _).cons_cons _
theorem HI.join (H:HI M0 w0 w l) (H':HI (MS M0 l) w w' l'):HI M0 w0 w' (l'++l):=by
 have hM:∀b,MS (MS M0 l) l' b↔MS M0 (l'++l) b:=by
  intro b
  constructor
  ·rintro((h|⟨it,hit,hb⟩)|⟨it,hit,hb⟩)
   ·exact .inl h
   ·exact .inr ⟨it,aot _ hit,hb⟩
   ·exact .inr ⟨it,aoy _ hit,hb⟩
  ·rintro(h|⟨it,hit,hb⟩)
   ·exact .inl (.inl h)
   ·rcases anx.1 hit with hit|hit
    ·exact .inr ⟨it,hit,hb⟩
    ·exact .inl (.inr ⟨it,hit,hb⟩)
 refine⟨H.below.trans H'.below,H.m0,?_,?_,?_⟩
 ·intro it hit b hb
  rcases anx.1 hit with hit|hit
  ·exact⟨Nat.le_trans H.below.size (H'.ju it hit b hb).1,(H'.ju it hit b hb).2⟩
  ·exact⟨(H.ju it hit b hb).1,anK (H.ju it hit b hb).2 H'.below.size⟩
 ·rw[apm,aoW]
  refine⟨H'.nodup,H.nodup,fun b hb c hc hbc=>?_⟩
  subst hbc
  obtain⟨i,hi,B9⟩:=anF.1 hb
  obtain⟨j,hj,wq⟩:=anF.1 hc
  have h1:=(H'.ju i hi b B9).1
  have h2:=(H.ju j hj b wq).2
  omega
 ·intro it hit
  rcases anx.1 hit with hit|hit
  ·exact it.lift (H'.all it hit) (Up.less fun b _ hb=>(hM b).2 hb) fun _ _=>rfl
  ·refine it.lift (H.all it hit) ⟨H'.below.size,fun c hc hMc=>⟨H'.below.block c hc,fun hb=>?_⟩⟩ fun b hb=>H'.below.block b (H.ju it hit b hb).2
   rcases (hM c).2 hb with hb|⟨i,hi,B9⟩
   ·exact hMc hb
   ·have:=(H'.ju i hi c B9).1;omega
theorem HI.weaken (H:HI M0 w0 w l) (hl:l'.map (·.jJ)=l.map (·.jJ)) (hh:∀(i:Nat) it nG,l[i]? =some it→l'[i]? =some nG→∀M,it.holds M w→nG.holds M w):HI M0 w0 w l':=by
 have hlen:l'.length=l.length:=by simpa using am_ List.length hl
 have uH:∀(i:Nat) nG,l'[i]? =some nG→∃it,l[i]? =some it∧it.jJ=nG.jJ:=by
  intro i nG hi
  have h1:=am_ (fun z=>z[i]?) hl
  simp only[anl,hi,aov] at h1
  cases oe:l[i]? with
  |none=>rw[oe] at h1;cases h1
  |some it=>rw[oe] at h1;exact⟨it,rfl,(ana h1).symm⟩
 have hMS:∀b,MS M0 l' b→MS M0 l b:=by
  rintro b (h|⟨nG,hit,hb⟩)
  ·exact .inl h
  ·obtain⟨i,hi⟩:=anu.1 hit
   obtain⟨it,h1,h2⟩:=uH i nG hi
   exact .inr ⟨it,dC h1,h2.trans hb⟩
 refine⟨H.below,H.m0,?_,?_,?_⟩
 ·intro nG hit b hb
  obtain⟨i,hi⟩:=anu.1 hit
  obtain⟨it,h1,h2⟩:=uH i nG hi
  exact H.ju it (dC h1) b<|h2.trans hb
 ·have:∀m:List Item,m.filterMap (·.jJ)=(m.map (·.jJ)).filterMap id:=by intro m;rw[aqc];rfl
  rw[this,hl,←this];exact H.nodup
 ·intro nG hit
  obtain⟨i,hi⟩:=anu.1 hit
  obtain⟨it,h1,h2⟩:=uH i nG hi
  have:=hh i it nG h1 hi _<|H.all it (dC h1)
  exact nG.lift this (Up.less fun b _ hb=>hMS b hb) fun _ _=>rfl
theorem Ot {β:Type} [GT β] {B B':Nat} {v:Value} {ys:List β} {M:bW} (hB:B'≤B) (h:(own B e v ys).holds M w):(own B' e v ys).holds M w:=by
 obtain⟨cs,h1,h2⟩:=h
 refine⟨cs,⟨h1.1,?_⟩,h2⟩
 rcases h1.2 with h3|⟨g,cap,cur,rfl,h3,h4⟩
 ·exact .inl h3
 ·exact .inr ⟨g,cap,cur,J,Nat.le_trans hB h3,h4⟩
def KB (M:bW) (E e:TypeId) (w0:aH) (ss:List SV) (xs:List (List α)) (v:Value) (w:aH):Prop:=ss.length=xs.length∧HI M w0 w (own w0.heap.size E v ss::aU w0.heap.size e ss xs)
theorem HI.Gs {v:Value} (H:HI M0 w0 w l) (h:KB (MS M0 l) E e w ss xs v w'):HI M0 w0 w' (own w0.heap.size E v ss::(l++aU w0.heap.size e ss xs)):=by
 have H1:=H.join h.2
 have H2:HI M0 w0 w' ((own w0.heap.size E v ss::aU w0.heap.size e ss xs)++l):=by
  refine H1.weaken ?_ ?_
  ·simp only[aoz,anA]
   congr 2
   unfold aU
   rw[List.map_zipWith,List.map_zipWith];rfl
  ·intro i it nG hi pR M hh
   have hB:w0.heap.size≤w.heap.size:=H.below.size
   cases i with
   |zero=>
    simp only[apw,anq,ann] at hi pR
    subst hi;subst pR;exact Ot hB hh
   |succ i=>
    simp only[apw,anv] at hi pR
    have hlen:∀B,(aU B e ss xs).length=min ss.length xs.length:=by intro B;unfold aU;simp
    by_cases jN:i<min ss.length xs.length
    ·rw[nM (by rw[hlen];exact jN)] at hi pR
     unfold aU at hi pR
     rw[aoC,eI aj,eI aj] at hi pR
     simp only[ann] at hi pR
     subst hi;subst pR;exact Ot hB hh
    ·rw[ny (by rw[hlen];omega),hlen] at hi pR
     rw[hi] at pR
     cases pR;exact hh
 refine H2.perm ?_
 exact List.Perm.cons _ List.perm_append_comm
theorem ru (H:HI M0 w0 w (l++aU B e ss xs)) (hl:ss.length=xs.length) {i:Nat} (hi:i<ss.length):∃(a:Option Addr) (x:List α) (c:Nat),ss[i]? =some (⟨a,x.length,c⟩:SV)∧xs[i]? =some x:=by
 have hs:ss[i]? =some ss[i]:=eI hi
 have hx:xs[i]? =some (xs[i]'aj):=eI aj
 obtain⟨cs,h1,h2⟩:=H.at_ _ (oV (l:=l) (B:=B) (e:=e) hs hx)
 have hn:ss[i].n=(xs[i]'aj).length:=by
  rcases h1.2 with ⟨h3,h4⟩|⟨g,cap,cur,h3, -⟩
  ·rw[h4];unfold SV.v at h3;injection h3
  ·unfold SV.v at h3;injection h3
 refine⟨ss[i].a,xs[i]'aj,ss[i].c,?_,hx⟩
 rw[hs,←hn]
theorem HI.Ad {M:bW} {it:Item} (H:HI M0 w0 w ((l++aU B e ss xs).set (l.length+i) (own B e s.v y))) (hs:ss[i]? =some s):HI M0 w0 w (l++aU B e ss (xs.set i y)):=by
 rw[Zd hs] at H;exact H
theorem abe (H:HI M0 w0 w (l++aU B e ss xs)) (hs:ss[i]? =some s) (hx:xs[i]? =some x):RV (fun _=>False) w s.v x:=
 Ah (H.at_ _ (oV (l:=l) (B:=B) (e:=e) hs hx)) (fun _ _ h=>h.elim) (fun _ _ h=>h.elim)
end
section
variable {P:Program} {n:Nat} {ops:Array Oper} {f:aN} {w:aH} {K:aN→aH→Prop} {M:bW} {ad:Addr} {T:TypeId} {bytes:Nat} {z:Value} {x:Operand} {d:Nat} {ty:TypeId} {ps:String} {af:Array Edge}
theorem I5 {s:SV} (hA:hQ M w ad s) (F:ef P T 1 false bytes z) (ox:bI n x=true) (hx:ev f x=.pointer (some ad)) (h:K (ck f d s.v) w):
  SO P n ops ⟨some d,.load T x,ty,ps,af,none⟩ f w K:=nF hA F ox hx fun v hv=>by rw[RV.sv.1 hv];exact h
end
end Go.Ew
namespace Go.Ew
open Go.RowKit
def nS {α:Type} [GT α] (B:Nat) (e:TypeId) (v:Value) (xs:List α):Item:=
 ⟨v.ownBlock,fun M w=>∃cs,bA M w cs xs∧((v=.slice none 0 0∧xs=[])∨∃g o c cur,v=.slice (some ⟨g,o,none⟩) xs.length c∧B≤g∧w.heap[g]? =some (.cells cur e (0,0))∧xs.length≤c∧c≤maxLen∧o+c*GT.size α≤cur.size∧(cur.toList.drop o).take (xs.length*GT.size α)=cs),fun {M M' w w'} h u hb=>by
  obtain⟨cs,h2,h1⟩:=h
  refine⟨cs,bA.lift u h2,?_⟩
  rcases h1 with h3|⟨g,o,c,cur,rfl,h4,h5,h6⟩
  ·exact .inl h3
  ·exact .inr ⟨g,o,c,cur,rfl,h4,(hb g rfl).trans h5,h6⟩⟩
theorem Ou {α:Type} [GT α] {B:Nat} {e:TypeId} {v:Value} {xs:List α} {M:bW} {w:aH} (h:(own B e v xs).holds M w):(nS B e v xs).holds M w:=by
 obtain⟨cs,h1,h2⟩:=h
 refine⟨cs,h2,?_⟩
 rcases h1.2 with ⟨rfl,h3⟩|⟨g,cap,cur,rfl,h3,h4,h5,h6,h7,h8⟩
 ·exact .inl ⟨J,aoD h3⟩
 ·exact .inr ⟨g,0,cap,cur,J,h3,h4,h5,h6,by omega,by rw[apN];exact h8⟩
section
variable {P:Program} {n:Nat} {ops:Array Oper} {f:aN} {w:aH} {K:aN→aH→Prop} {x y:Operand} {d:Nat} {ty T e:TypeId} {ps:String} {af:Array Edge} {v u:Value} {M M0:bW} {w0:aH} {l:List Item} {bytes:Nat} {z:Value} {B:Nat} {kk:IntKind} {agg:Bool} {α:Type} [GT α] {xs ys:List α}
theorem HI.toQ (H:HI M0 w0 w l) (i:Nat) (hi:l[i]? =some (own B e v xs)):HI M0 w0 w (l.set i (nS B e v xs)):=by
 have jN:=(dE.1 hi).1
 refine H.weaken ?_ ?_
 ·apply anL
  intro j
  rw[anl,anl]
  by_cases h:i=j
  ·subst h;rw[ano jN,hi];rfl
  ·rw[anD h]
 ·intro j it nG hj rG M hh
  by_cases h:i=j
  ·subst h
   rw[ano jN] at rG
   rw[hi] at hj
   cases hj;cases rG
   exact Ou hh
  ·rw[anD h,hj] at rG;cases rG;exact hh
theorem iaQ {i:Int} (hO:(nS B e v xs).holds M w) (ox:bI n x=true) (oy:bI n y=true) (hx:ev f x=v) (hy:ev f y=.int kk i) (hi:0≤i∧i<xs.length) (hu:P.underlying T=some (.slice e)) (F:ef P e (GT.size α) agg bytes z)
  (h:∀ad xv,xs[i.toNat]? =some xv→hQ M w ad xv→K (ck f d (.pointer (some ad))) w):SO P n ops ⟨some d,.indexAddr T x y,ty,ps,af,none⟩ f w K:=by
 obtain⟨cs,h2,h1⟩:=hO
 rcases h1 with ⟨_,h3⟩|⟨g,o,c,cur,rfl,h3,h4,h5,h6,h7,h8⟩
 ·rw[h3] at hi;simp at hi;omega
 ·have eo:i.toNat<xs.length:=by omega
  have lA:∀j,(⟨g,o,none⟩:Addr).add j=⟨g,o+j,none⟩:=fun j=>by unfold Addr.add;split<;>simp_all
  refine SO.value (v:=.pointer (some ⟨g,o+i.toNat*GT.size α,none⟩)) ?_<|h _ xs[i.toNat] (eI eo) ?_
  ·have hb:0≤i∧i<(xs.length:Int):=by omega
   simp[execOp,aL ox,aL oy,hx,hy,Instr.indexAt,asIntOf,gP hu,hb,F.jr,lA]
  ·obtain⟨c',yW,AD⟩:=bA.at_ h2 i.toNat xs[i.toNat] (eI eo)
   refine⟨c',yW,fun j u hu=>?_⟩
   have uU:=AD j u hu
   have afn:(⟨g,o+i.toNat*GT.size α,none⟩:Addr).add j=⟨g,o+i.toNat*GT.size α+j,none⟩:=by unfold Addr.add;split<;>simp_all
   rw[afn,cell_of_row w g _ cur e (0,0) h4]
   rw[←h8] at uU
   obtain⟨h9,h10⟩:=dE.1 uU
   rw[aoG (by rw[iB] at h9;omega),anU,←apV] at uU
   rw[←uU,aou]
theorem slQ {lo:Int} {rD:Operand} (H:HI M0 w0 w l) (i:Nat) (hi:l[i]? =some (nS B e v xs)) (ox:bI n x=true) (ol:bI n rD=true) (hx:ev f x=v) (hl:ev f rD=.int kk lo) (hb:0≤lo∧lo≤xs.length) (hu:P.underlying T=some (.slice e)) (F:ef P e (GT.size α) agg bytes z)
  (h:∀a c,HI M0 w0 w (l.set i (nS B e (.slice a (xs.drop lo.toNat).length c) (xs.drop lo.toNat)))→K (ck f d (.slice a (xs.drop lo.toNat).length c)) w):
  SO P n ops ⟨some d,.slice T x (some rD) none none,ty,ps,af,none⟩ f w K:=by
 have hO:=H.at_ i hi
 have jN:=(dE.1 hi).1
 obtain⟨cs,h2,h1⟩:=hO
 have hlen:(xs.drop lo.toNat).length=xs.length-lo.toNat:=by simp
 obtain⟨ao,cc,rfl,hcc⟩:∃ao cc,v=.slice ao xs.length cc∧xs.length≤cc:=by
  rcases h1 with ⟨rfl,h3⟩|⟨g,o,c,cur,rfl,h3,h4,h5,h6⟩
  ·exact⟨none,0,by rw[h3];rfl,by rw[h3];exact ane _⟩
  ·exact⟨_,_,J,h5⟩
 refine SO.value (v:=.slice (if cc=lo.toNat then ao else ao.map (·.add (lo.toNat*GT.size α))) (xs.length-lo.toNat) (cc-lo.toNat)) (w':=w) ?_ ?_
 ·have vq:P.underlying T=some (.slice (P.elem T)):=by rw[hu];simp[Program.elem,hu]
  have uI:P.elem T=e:=by simp[Program.elem,hu]
  simp[execOp,aL ox,aL ol,hx,hl,Instr.sliceAt,gP hu]
  have:=run_slice_l (P:=P) (w:=w) T ao xs.length cc vq kk lo hb.1 aj
  rw[uI,F.jr] at this
  simp[this,sliced]
 ·rw[hlen] at h
  refine h _ _ ?_
  have hblk:∀(aa:Option Addr) (c1 c2 c3 c4:Nat) (f2:Addr→Addr),(∀q,(f2 q).block=q.block)→Value.ownBlock (.slice (aa.map f2) c1 c2)=Value.ownBlock (.slice aa c3 c4):=by
   intro aa c1 c2 c3 c4 f2 hf
   cases aa with
   |none=>rfl
   |some q=>show some _=some _;rw[hf]
  refine H.weaken ?_ ?_
  ·apply anL
   intro j
   rw[anl,anl]
   by_cases hj:i=j
   ·subst hj
    rw[ano jN,hi]
    show some (Value.ownBlock _)=some (Value.ownBlock _)
    split
    ·cases ao<;>rfl
    ·rw[hblk ao _ _ xs.length cc _ (fun q=>vH q _)]
   ·rw[anD hj]
  ·intro j it nG hj rG M' hh
   by_cases nJ:i=j
   ·subst nJ
    rw[ano jN] at rG
    rw[hi] at hj
    cases hj;cases rG
    obtain⟨ds,k2,k1⟩:=hh
    rcases k1 with ⟨k3,k4⟩|⟨g,o,c,cur,k3,k4,k5,k6,k7,k8,k9⟩
    ·have e1:lo.toNat=0:=by rw[k4] at hb;simp at hb;omega
     subst k4
     injection k3 with k3a k3b k3c
     subst k3a;subst k3c
     refine⟨[],by simp;rfl,.inl ⟨?_,by simp⟩⟩
     rw[e1];rfl
    ·injection k3 with k3a k3b k3c
     subst k3a;subst k3c
     have lA:∀j,(⟨g,o,none⟩:Addr).add j=⟨g,o+j,none⟩:=fun j=>by unfold Addr.add;split<;>simp_all
     refine⟨ds.drop (lo.toNat*GT.size α),?_,.inr ?_⟩
     ·have:∀(k:Nat) (xs:List α) (cs:List Value),k≤xs.length→bA M' w cs xs→bA M' w (cs.drop (k*GT.size α)) (xs.drop k):=by
       intro k
       induction k with
       |zero=>intro xs cs _ hc;simpa using hc
       |succ k ih=>
        intro xs cs hk hc
        cases xs with
        |nil=>simp at hk
        |cons q xs=>
         obtain⟨c1,c2,rfl,m1,m2⟩:=hc
         have:=ih xs c2 (by simpa using hk) m2
         rw[List.drop_succ_cons,show (k+1)*GT.size α=c1.length+k*GT.size α from by rw[GT.len m1,an2];omega,←an9,List.drop_left]
         exact this
      exact this _ _ _ aj k2
     ·by_cases rZ:cc=lo.toNat
      ·rw[anc rZ]
       have hz:xs.drop lo.toNat=[]:=aoN aj
       refine⟨g,o,cc-lo.toNat,cur,by rw[hlen],k4,k5,by rw[hlen];omega,by omega,?_,?_⟩
       ·have:(cc-lo.toNat)*GT.size α≤cc*GT.size α:=aoe _ aj
        omega
       ·rw[hz,←k9]
        rw[gj,apH,ao',aoN]
        rw[iB]
        have:xs.length*GT.size α≤lo.toNat*GT.size α:=aoe _ aj
        omega
      ·rw[anf rZ]
       refine⟨g,o+lo.toNat*GT.size α,cc-lo.toNat,cur,by rw[hlen];simp[lA],k4,k5,by rw[hlen];omega,by omega,?_,?_⟩
       ·have:lo.toNat*GT.size α+(cc-lo.toNat)*GT.size α=cc*GT.size α:=by rw[←an2];congr 1;omega
        omega
       ·rw[←k9,hlen,ap9,an9]
        congr 1
        rw[←Nat.sub_mul]
   ·rw[anD nJ,hj] at rG;cases rG;exact hh
theorem apQ (H:HI M0 w0 w l) (i:Nat) (hi:l[i]? =some (nS B e v xs)) (hB:B=w0.heap.size) (ox:bI n x=true) (oy:bI n y=true) (hx:ev f x=v) (hy:ev f y=u)
  (hs:Src (MS M0 l) w u ys) (gA:0<ys.length) (hu:P.underlying T=some (.slice e)) (F:ef P e (GT.size α) agg bytes z) (hz:z.cells.size=GT.size α) (hl:(xs.length+ys.length)*bytes≤140737488355328) (oe:xs.length+ys.length≤9223372036854775807)
  (h:∀a c w',HI M0 w0 w' (l.set i (nS B e (.slice a (xs++ys).length c) (xs++ys)))→K (ck f d (.slice a (xs++ys).length c)) w'):
  SO P n ops ⟨some d,.call {callee:=.builtin .append,args:=#[x,y],argTypes:=#[T,T]},ty,ps,af,none⟩ f w K:=by
 subst hB
 obtain⟨cs,h2,h1⟩:=H.at_ i hi
 obtain⟨a0,c0,rfl,FE⟩:=hs
 obtain⟨inf,sW,ug,vo,C'⟩:=F.info
 have eo:∀b,v.ownBlock=some b→w0.heap.size≤b∧b<w.heap.size:=H.ju _<|dC hi
 obtain⟨ad,rfl,ds,uh,Da⟩:∃ad,a0=some ad∧∃cs,bA (MS M0 l) w cs ys∧∀j u,cs[j]? =some u→w.cell? (ad.add j)=some u:=by
  rcases FE with h0|h0
  ·omega
  ·exact h0
 have rZ:=bA.length h2
 have yV:=bA.length uh
 have OZ:∀(v':Value) (w':aH) (B':Nat) (qs:List α) (M':bW) (es:List Value),w0.heap.size≤B'→w'.ownsRow B' e (GT.size α) v' qs.length es→bA M' w' es qs→(nS w0.heap.size e v' qs).holds M' w':=by
  intro v' w' B' qs M' es hB' ho hc
  refine Ou ⟨es,⟨ho.1,?_⟩,hc⟩
  rcases ho.2 with h3|⟨g,cap,cur,rfl,h3,h4⟩
  ·exact .inl h3
  ·exact .inr ⟨g,cap,cur,J,Nat.le_trans hB' h3,h4⟩
 obtain⟨a',c',w',kQ,rH,Cb,afi⟩:∃a' c' w',(Builtin.append_ #[T,T] ty #[v,.slice (some ad) ys.length c0]).run P w=.ok (.slice a' (xs.length+ys.length) c') w'∧w.grownBy w' v.ownBlock∧
   ((Value.slice a' (xs.length+ys.length) c').ownBlock=v.ownBlock∨∀b,(Value.slice a' (xs.length+ys.length) c').ownBlock=some b→w.heap.size≤b∧b<w'.heap.size)∧
   ∀M',Up (MS M0 l) w M' w'→(nS w0.heap.size e (.slice a' (xs++ys).length c') (xs++ys)).holds M' w':=by
  rcases h1 with ⟨rfl,rfl⟩|⟨g,o,c,cur,rfl,h3,h4,h5,h6,h7,h8⟩
  ·obtain⟨v',w',r1,r2,r3,_,r4⟩:=run_append_own_at (P:=P) w w0.heap.size T ty e inf z (GT.size α) bytes hu sW ug vo C' hz GT.pos (.slice none 0 0) 0 [] (World.ownsRow_nil w _ e _) ad ys.length c0 ds yV Da (bA.Bi uh) (by simp only[maxLen];simp at oe;omega) (by simpa using hl) H.below.size
   obtain⟨a',c',rfl⟩:=vT r2
   refine⟨a',c',w',by simpa using r1,r3,?_,fun M' qU=>?_⟩
   ·rcases r4 with hb|hb
    ·exact .inl (by simpa using hb)
    ·refine .inr fun b wo=>⟨?_,(r2.lt b<|by simpa using wo).2⟩
     simp only[gj,anX] at wo hb
     rw[hb] at wo;cases wo;exact ane _
   ·refine OZ _ _ w0.heap.size _ M' ds (ane _) ?_ ?_
    ·simpa using r2
    ·simpa using bA.lift qU uh
  ·by_cases Qn:xs.length+ys.length≤c
   ·have VR:o+xs.length*GT.size α+ds.length≤cur.size:=by
     have:(xs.length+ys.length)*GT.size α≤c*GT.size α:=aoe _ Qn
     rw[an2] at this
     omega
    have hf:=run_firstCells_some (P:=P) w inf.size ys.length ad ys.length c0 ds (by rw[vo];exact yV) Da
    rw[vo] at hf
    have qV:=run_storeCells_at P g (o+xs.length*GT.size α) e ds 0 cur w h4 (by simpa using VR)<|bA.Bi uh
    simp only[anR] at qV
    have lA:∀j,(⟨g,o,none⟩:Addr).add j=⟨g,o+j,none⟩:=fun j=>by unfold Addr.add;split<;>simp_all
    have kQ:(Builtin.append_ #[T,T] ty #[.slice (some ⟨g,o,none⟩) xs.length c,.slice (some ad) ys.length c0]).run P w=.ok (.slice (some ⟨g,o,none⟩) (xs.length+ys.length) c) (w.setRow g (cur.toList.take (o+xs.length*GT.size α)++ds++cur.toList.drop (o+xs.length*GT.size α+ds.length)).toArray):=by
     simp[Builtin.append_,gP hu,sizeOf,typeInfo,sW,Builtin.lenOf,Qn,hf,vo,lA,qV]
    refine⟨_,_,_,kQ,⟨J,J,J,by simp,fun k _ hk=>setRow_other w g k _ (fun e=>hk<|by simp[Value.ownBlock,e])⟩,.inl rfl,fun M' qU=>?_⟩
    refine⟨cs++ds,bA.append (bA.lift qU h2) (bA.lift qU uh),.inr ⟨g,o,c,_,J,h3,setRow_heap w g cur _ e _ h4,by rw[fF];exact Qn,h6,?_,?_⟩⟩
    ·simp only[aoK,fF,iB,anz,anW]
     omega
    ·rw[fF,an2,←yV]
     have acR:cur.toList.length=cur.size:=by simp
     have e1:(cur.toList.take (o+xs.length*GT.size α)).length=o+xs.length*GT.size α:=by rw[iB];omega
     show List.take _ (List.drop o (cur.toList.take (o+xs.length*GT.size α)++ds++cur.toList.drop (o+xs.length*GT.size α+ds.length)))=_
     rw[anM,ap5 aj,ap9,show o+xs.length*GT.size α-o=xs.length*GT.size α from by omega,h8]
     rw[←anM,apC (by rw[fF,rZ])]
   ·have holds:∀j u,cs[j]? =some u→w.cell? ((⟨g,o,none⟩:Addr).add j)=some u:=by
     intro j u XW
     have lA:(⟨g,o,none⟩:Addr).add j=⟨g,o+j,none⟩:=by unfold Addr.add;split<;>simp_all
     rw[lA,cell_of_row w g _ cur e (0,0) h4]
     rw[←h8] at XW
     obtain⟨k1,k2⟩:=dE.1 XW
     rw[aoG (by rw[iB] at k1;omega),anU] at XW
     rw[←XW,aou]
    obtain⟨v',w',r1,r2,r3⟩:=run_append_arg_grows (P:=P) w T ty e inf z (GT.size α) bytes hu sW ug vo C' hz GT.pos ⟨g,o,none⟩ xs.length c cs rZ holds ad ys.length c0 ds yV Da aj (by simp only[maxLen];omega) hl
    obtain⟨a',c',rfl⟩:=vT r2
    refine⟨a',c',w',r1,⟨r3.os,r3.tape,r3.output,r3.size,fun k hk _=>r3.block k hk (by simp)⟩,.inr fun b wo=>r2.lt b wo,fun M' qU=>?_⟩
    refine OZ _ _ w.heap.size _ M' (cs++ds) H.below.size (by rw[fF];exact r2)<|bA.append (bA.lift qU h2)<|bA.lift qU uh
 refine SO.value (v:=.slice a' (xs.length+ys.length) c') (w':=w') ?_ ?_
 ·simp[execOp,resolve,invoke,builtin,aL ox,aL oy,hx,hy,kQ]
 ·have:=h a' c' w'
  rw[fF] at this
  refine this ?_
  have hblk:∀b,(nS w0.heap.size e (.slice a' (xs.length+ys.length) c') (xs++ys)).jJ=some b→b<w'.heap.size∧((nS w0.heap.size e v xs).jJ=some b∨w.heap.size≤b):=by
   intro b hb
   rcases Cb with Cb|Cb
   ·have wu:v.ownBlock=some b:=Cb.symm.trans hb
    exact⟨anK (eo b wu).2 rH.size,.inl wu⟩
   ·exact⟨(Cb b hb).2,.inr (Cb b hb).1⟩
  refine H.vR i hi rH.os rH.tape rH.output rH.size (sN _ kQ) (fun c hc gA=>rH.block c hc<|fun e=>gA e.symm) hblk ?_
  have h9:=afi (MS M0<|l.set i (nS w0.heap.size e (.slice a' (xs.length+ys.length) c')<|xs++ys)) ?_
  ·rw[fF] at h9;exact h9
  ·refine⟨rH.size,fun b hb hM=>⟨rH.block b hb (fun e=>hM<|.inr ⟨_,dC hi,e.symm⟩),?_⟩⟩
   rintro(Df|⟨it,hit,ml⟩)
   ·exact hM<|.inl Df
   ·rcases an1 hit with hit|rfl
    ·exact hM<|.inr ⟨it,hit,ml⟩
    ·rcases (hblk b ml).2 with h'|h'
     ·exact hM<|.inr ⟨_,dC hi,h'⟩
     ·omega
end
end Go.Ew
namespace Go.Ew
open Go.RowKit
section
variable {P:Program} {n:Nat} {ops:Array Oper} {f:aN} {w:aH} {K:aN→aH→Prop} {x y:Operand} {d:Nat} {ty T e:TypeId} {ps:String} {af:Array Edge} {v u:Value} {M M0:bW} {w0:aH} {l:List Item} {bytes:Nat} {z:Value} {B:Nat}
theorem cpO {xs ys:List bt} (H:HI M0 w0 w l) (i:Nat) (hi:l[i]? =some (own B e v xs)) (hB:B=w0.heap.size) (ox:bI n x=true) (oy:bI n y=true) (hx:ev f x=v) (hy:ev f y=u)
  (hs:Src (MS M0 l) w u ys) (hu:P.underlying T=some (.slice e)) (F:ef P e 1 false bytes z) (hl:ys.length=xs.length) (hp:0<xs.length)
  (h:∀w',HI M0 w0 w' (l.set i (own B e v ys))→K (ck f d (.int .i64 (ys.length:Int))) w'):
  SO P n ops ⟨some d,.call {callee:=.builtin .copy,args:=#[x,y],argTypes:=#[T,T]},ty,ps,af,none⟩ f w K:=by
 subst hB
 obtain⟨cs,h1,h2⟩:=H.at_ i hi
 obtain⟨a0,c0,rfl,FE⟩:=hs
 obtain⟨inf,sW,ug,vo,C'⟩:=F.info
 rcases h1.2 with ⟨rfl,h3⟩|⟨g',cap,cur,rfl,h3,h4,h5,h6,h7,h8⟩
 ·omega
 ·rcases FE with h0|⟨ad,rfl,ds,uh,Da⟩
  ·omega
  ·have yV:ds.length=ys.length:=by have:=bA.length uh;simpa [GT.size] using this
   have pQ:cur.size=cap:=by rw[h7];simp[GT.size]
   have kQ:=run_copy_row (P:=P) w T T ty e g' 0 xs.length cap ad ys.length c0 cur e ds hu (by rw[sW];simp[vo]) h4 (by rw[yV,hl];simp) Da aj<|bA.Bi uh
   refine SO.value (v:=.int .i64 (ys.length:Int)) (w':=w.setRow g' (wr cur 0 ds)) ?_<|h _ ?_
   ·have Av:(Builtin.copy_ #[T,T] ty #[.slice (some ⟨g',0,none⟩) xs.length cap,.slice (some ad) ys.length c0]).run P w=.ok (.int .i64 (ys.length:Int)) (w.setRow g' (wr cur 0 ds)):=by
     rw[kQ,←yV];rfl
    simp[execOp,resolve,invoke,builtin,aL ox,aL oy,hx,hy,Av]
   ·have C8:∀c,c<w.heap.size→(own w0.heap.size e (Value.slice (some ⟨g',0,none⟩) xs.length cap) xs).jJ≠some c→(w.setRow g' (wr cur 0 ds)).heap[c]? =w.heap[c]?:=
     fun c hc gA=>setRow_other w g' c _ (fun e=>gA (by rw[e];rfl))
    have hblk:∀b,(own w0.heap.size e (Value.slice (some ⟨g',0,none⟩) xs.length cap) ys).jJ=some b→b<(w.setRow g' (wr cur 0 ds)).heap.size∧((own w0.heap.size e (Value.slice (some ⟨g',0,none⟩) xs.length cap) xs).jJ=some b∨w.heap.size≤b):=by
     intro b hb
     refine⟨?_,.inl hb⟩
     rw[size_setRow]
     exact(H.ju _ (dC hi) b hb).2
    refine H.vR i hi J J J (by simp) (ane _) C8 hblk ?_
    refine⟨ds,⟨by simpa [GT.size] using yV,.inr ⟨g',cap,wr cur 0 ds,by rw[hl],h3,setRow_heap w g' cur _ e _ h4,by omega,h6,?_,?_⟩⟩,?_⟩
    ·simp only[wr,aoK,fF,iB,anz,anW]
     omega
    ·simp only[wr]
     rw[ao',List.nil_append,anX,apC (by simpa [GT.size] using yV)]
    ·have qU:Up (MS M0 l) w (MS M0 (l.set i (own w0.heap.size e (Value.slice (some ⟨g',0,none⟩) xs.length cap) ys))) (w.setRow g' (wr cur 0 ds)):=by
      refine⟨by simp,fun b hb hM=>⟨setRow_other w g' b _ (fun e=>hM<|.inr ⟨_,dC hi,by rw[e];rfl⟩),?_⟩⟩
      rintro(Df|⟨it,hit,ml⟩)
      ·exact hM<|.inl Df
      ·rcases an1 hit with hit|rfl
       ·exact hM<|.inr ⟨it,hit,ml⟩
       ·exact hM<|.inr ⟨_,dC hi,ml⟩
     exact bA.lift qU uh
end
theorem ZI {α:Type} {ss:List SV} {xs:List (List α)} {i k L:Nat} {s s2:SV} {x x2:List α} (hs:ss[i]? =some s) (gK:ss[k]? =some s2) (hx:xs[i]? =some x) (jf:xs[k]? =some x2):L+i≠L+k∨(s.v=s2.v∧x2=x):=by
 by_cases h:i=k
 ·subst h
  right
  rw[hs] at gK;rw[hx] at jf
  cases gK;cases jf
  exact⟨J,J⟩
 ·left;omega
end Go.Ew
namespace Go.Ew
open Go.RowKit
def mo (a:Option Addr) (c lo:Nat):Option Addr:=if c=lo then a else a.map (·.add (lo*1))
def FY (xs:aA) (k:Nat):aA:=xs.take k++((xs.take k).take (xs.length-k)++xs.drop (k+min k (xs.length-k)))
theorem F_ (g j:Nat):(⟨g,0,none⟩:Addr).add j=⟨g,j,none⟩:=by unfold Addr.add;split<;>simp_all
theorem rB {M:bW} {w:aH}:∀(k:Nat) {xs:aA} {cs:List Value},bA M w cs xs→bA M w (cs.take k) (xs.take k)∧bA M w (cs.drop k) (xs.drop k)
 |0,xs,cs,h=>⟨by rw[ao',ao'];rfl,by simpa using h⟩
 |k+1,[],cs,h=>by
  rw[show cs=[] from h]
  exact⟨J,J⟩
 |k+1,x::xs,cs,h=>by
  obtain⟨c1,c2,rfl,h2,h3⟩:=h
  obtain⟨i1,i2⟩:=rB k h3
  obtain⟨e,hx⟩:=h2
  subst e
  exact⟨⟨[.int .i64 x],c2.take k,J,⟨J,hx⟩,i1⟩,i2⟩
section
variable {P:Program} {n:Nat} {ops:Array Oper} {f:aN} {w:aH} {K:aN→aH→Prop} {x y:Operand} {d:Nat} {ty T e:TypeId} {ps:String} {af:Array Edge} {v u:Value} {M M0:bW} {w0:aH} {l:List Item} {bytes:Nat} {z:Value} {B:Nat} {kk:IntKind} {agg:Bool} {xs ys:aA} {a:Option Addr} {k c:Nat}
theorem CK (hO:(own B e (.slice a k c) xs).holds M w):k=xs.length∧xs.length≤c:=by
 obtain⟨cs,h1,h2⟩:=hO
 rcases h1.2 with ⟨h3,h4⟩|⟨g,cap,cur,h3,h4,h5,h6,h7⟩
 ·cases h3;omega
 ·cases h3;exact⟨rfl,h6⟩
theorem Fm {α:Type} [GT α] {xs:List α} (hO:(own B e (.slice a k c) xs).holds M w):k=xs.length:=by
 obtain⟨cs,h1,h2⟩:=hO
 rcases h1.2 with ⟨h3,h4⟩|⟨g,cap,cur,h3,h4,h5,h6,h7⟩
 ·cases h3;omega
 ·cases h3;rfl
theorem aaV {lo:Int} {rD:Operand} (hO:(own B e (.slice a k c) xs).holds M w) (ox:bI n x=true) (ol:bI n rD=true) (hx:ev f x=.slice a k c) (hl:ev f rD=.int kk lo) (hb:0≤lo∧lo≤xs.length) (hu:P.underlying T=some (.slice e)) (F:ef P e 1 agg bytes z)
  (h:K (ck f d (.slice (mo a c lo.toNat) (k-lo.toNat) (c-lo.toNat))) w):
  SO P n ops ⟨some d,.slice T x (some rD) none none,ty,ps,af,none⟩ f w K:=by
 obtain⟨hk,hc⟩:=CK hO
 refine SO.value (v:=.slice (mo a c lo.toNat) (k-lo.toNat) (c-lo.toNat)) (w':=w) ?_ h
 have vq:P.underlying T=some (.slice (P.elem T)):=by rw[hu];simp[Program.elem,hu]
 have uI:P.elem T=e:=by simp[Program.elem,hu]
 simp[execOp,aL ox,aL ol,hx,hl,Instr.sliceAt,gP hu]
 have:=run_slice_l (P:=P) (w:=w) T a k c vq kk lo hb.1 aj
 rw[uI,F.jr] at this
 simp[this,sliced,mo]
theorem aaW {hi:Int} {px:Operand} (hO:(own B e (.slice a k c) xs).holds M w) (ox:bI n x=true) (oh:bI n px=true) (hx:ev f x=.slice a k c) (hh:ev f px=.int kk hi) (hb:0≤hi∧hi≤xs.length) (hu:P.underlying T=some (.slice e)) (F:ef P e 1 agg bytes z)
  (h:K (ck f d (.slice (mo a c 0) hi.toNat c)) w):
  SO P n ops ⟨some d,.slice T x none (some px) none,ty,ps,af,none⟩ f w K:=by
 obtain⟨hk,hc⟩:=CK hO
 refine SO.value (v:=.slice (mo a c 0) hi.toNat c) (w':=w) ?_ h
 have vq:P.underlying T=some (.slice (P.elem T)):=by rw[hu];simp[Program.elem,hu]
 have uI:P.elem T=e:=by simp[Program.elem,hu]
 simp[execOp,aL ox,aL oh,hx,hh,Instr.sliceAt,gP hu]
 have:=run_slice_h (P:=P) (w:=w) T a k c vq kk hi hb.1 aj
 rw[uI,F.jr] at this
 simp[this,sliced,mo]
theorem HI.Ln (H:HI M0 w0 w l) (i:Nat) {g cap:Nat} {cur:Array Value} {cs ds:List Value} {o:Nat} (hi:l[i]? =some (own w0.heap.size e (.slice (some ⟨g,0,none⟩) xs.length cap) xs))
  (h3:w0.heap.size≤g) (h4:w.heap[g]? =some (.cells cur e (0,0))) (h5:xs.length≤cap) (h6:cap≤maxLen) (h7:cur.size=cap) (h8:cur.toList.take xs.length=cs)
  (hc:bA (MS M0 l) w cs xs) (hd:bA (MS M0 l) w ds ys) (ho:o+ys.length≤xs.length):
  HI M0 w0 (w.setRow g (cur.toList.take o++ds++cur.toList.drop (o+ds.length)).toArray) (l.set i (own w0.heap.size e (.slice (some ⟨g,0,none⟩) xs.length cap) (xs.take o++(ys++xs.drop (o+ys.length))))):=by
 have yV:ds.length=ys.length:=by have:=bA.length hd;simpa [GT.size] using this
 have rZ:cs.length=xs.length:=by have:=bA.length hc;simpa [GT.size] using this
 have GW:(xs.take o++(ys++xs.drop (o+ys.length))).length=xs.length:=by simp;omega
 have acR:cur.toList.length=cap:=by simpa using h7
 have C8:∀q,q<w.heap.size→(own w0.heap.size e (Value.slice (some ⟨g,0,none⟩) xs.length cap) xs).jJ≠some q→(w.setRow g (cur.toList.take o++ds++cur.toList.drop (o+ds.length)).toArray).heap[q]? =w.heap[q]?:=
  fun q hq gA=>setRow_other w g q _ (fun e=>gA (by rw[e];rfl))
 refine H.vR i hi J J J (by simp) (ane _) C8 ?_ ?_
 ·intro b hb
  refine⟨?_,.inl hb⟩
  rw[size_setRow]
  exact(H.ju _ (dC hi) b hb).2
 ·have qU:Up (MS M0 l) w (MS M0 (l.set i (own w0.heap.size e (Value.slice (some ⟨g,0,none⟩) xs.length cap) (xs.take o++(ys++xs.drop (o+ys.length)))))) (w.setRow g (cur.toList.take o++ds++cur.toList.drop (o+ds.length)).toArray):=by
   refine⟨by simp,fun b hb hM=>⟨setRow_other w g b _ (fun e=>hM<|.inr ⟨_,dC hi,by rw[e];rfl⟩),?_⟩⟩
   rintro(Df|⟨it,hit,ml⟩)
   ·exact hM<|.inl Df
   ·rcases an1 hit with hit|rfl
    ·exact hM<|.inr ⟨it,hit,ml⟩
    ·exact hM<|.inr ⟨_,dC hi,ml⟩
  refine⟨cs.take o++(ds++cs.drop (o+ds.length)),⟨by simp[GT.size];omega,.inr ⟨g,cap,_,by rw[GW],h3,setRow_heap w g cur _ e _ h4,by omega,h6,?_,?_⟩⟩,?_⟩
  ·simp only[aoK,fF,iB,anz,GT.size]
   omega
  ·rw[GW]
   show (cur.toList.take o++ds++cur.toList.drop (o+ds.length)).take (xs.length*1)=_
   rw[←h8,apj,anM,apr,apr,iB,aof aj,aoJ,aoJ,ap9,anj (by omega:ds.length≤xs.length-o),Nat.min_comm o xs.length,
    show xs.length-o-ds.length=xs.length-(o+ds.length) from by omega]
  ·have e9:xs.drop (o+ys.length)=xs.drop (o+ds.length):=by rw[yV]
   have q:=bA.lift qU (rB (o+ds.length) hc).2
   exact bA.append (bA.lift qU (rB o hc).1)<|bA.append (bA.lift qU hd)<|(am_ (fun r=>bA _ _ _ r) e9).mpr q
theorem ajv (H:HI M0 w0 w l) (i:Nat) (hi:l[i]? =some (own B e (.slice a k c) xs)) (hB:B=w0.heap.size) (ox:bI n x=true) (oy:bI n y=true) (hx:ev f x=.slice a k c) (hy:ev f y=u)
  (hs:Src (MS M0 l) w u ys) (hu:P.underlying T=some (.slice e)) (F:ef P e 1 agg bytes z) (hl:ys.length≤xs.length) (hp:0<ys.length)
  (h:∀w',HI M0 w0 w' (l.set i (own B e (.slice a k c) (ys++xs.drop ys.length)))→K (ck f d (.int .i64 (ys.length:Int))) w'):
  SO P n ops ⟨some d,.call {callee:=.builtin .copy,args:=#[x,y],argTypes:=#[T,T]},ty,ps,af,none⟩ f w K:=by
 subst hB
 obtain⟨cs,h1,h2⟩:=H.at_ i hi
 obtain⟨a0,c0,rfl,FE⟩:=hs
 obtain⟨inf,sW,ug,vo,C'⟩:=F.info
 rcases h1.2 with ⟨h0,h3⟩|⟨g',c1,cur,h0,h3,h4,h5,h6,h7,h8⟩
 ·omega
 ·cases h0
  rcases FE with h0|⟨ad,rfl,ds,uh,Da⟩
  ·omega
  ·have yV:ds.length=ys.length:=by have:=bA.length uh;simpa [GT.size] using this
   have pQ:cur.size=c:=by rw[h7];simp[GT.size]
   have kQ:=run_copy_row (P:=P) w T T ty e g' 0 xs.length c ad ys.length c0 cur e ds hu (by rw[sW];simp[vo]) h4 (by rw[yV];simp[aof hl]) Da aj<|bA.Bi uh
   refine SO.value (v:=.int .i64 (ys.length:Int)) (w':=w.setRow g' (cur.toList.take 0++ds++cur.toList.drop (0+ds.length)).toArray) ?_<|h _ ?_
   ·have Av:(Builtin.copy_ #[T,T] ty #[.slice (some ⟨g',0,none⟩) xs.length c,.slice (some ad) ys.length c0]).run P w=.ok (.int .i64 (ys.length:Int)) (w.setRow g' (cur.toList.take 0++ds++cur.toList.drop (0+ds.length)).toArray):=by
     rw[kQ,←yV];rfl
    simp[execOp,resolve,invoke,builtin,aL ox,aL oy,hx,hy,Av]
   ·rw[show ys++xs.drop ys.length=xs.take 0++(ys++xs.drop (0+ys.length)) from by simp]
    exact HI.Ln (ys:=ys) (ds:=ds) (o:=0) H i hi h3 h4 h5 h6 pQ (by simpa [GT.size] using h8) h2 uh aj
theorem ajw (H:HI M0 w0 w l) (i:Nat) (hi:l[i]? =some (own B e (.slice a k c) xs)) (hB:B=w0.heap.size) (ox:bI n x=true) (oy:bI n y=true) {q:Nat} (hx:ev f x=.slice (mo a c q) (k-q) (c-q)) (hy:ev f y=.slice (mo a c 0) q c)
  (hu:P.underlying T=some (.slice e)) (F:ef P e 1 agg bytes z) (hq:0<q∧q<xs.length)
  (h:∀w',HI M0 w0 w' (l.set i (own B e (.slice a k c) (FY xs q)))→K (ck f d (.int .i64 ((min q (xs.length-q):Nat):Int))) w'):
  SO P n ops ⟨some d,.call {callee:=.builtin .copy,args:=#[x,y],argTypes:=#[T,T]},ty,ps,af,none⟩ f w K:=by
 subst hB
 obtain⟨cs,h1,h2⟩:=H.at_ i hi
 obtain⟨inf,sW,ug,vo,C'⟩:=F.info
 rcases h1.2 with ⟨h0,h3⟩|⟨g',c1,cur,h0,h3,h4,h5,h6,h7,h8⟩
 ·omega
 ·cases h0
  have pQ:cur.size=c:=by rw[h7];simp[GT.size]
  have lA:∀j,(⟨g',0,none⟩:Addr).add j=⟨g',j,none⟩:=F_ g'
  have S7:mo (some ⟨g',0,none⟩) c q=some ⟨g',q,none⟩:=by unfold mo;rw[anf aj,apj];show some (Addr.add _ q)=_;rw[lA]
  have hcB:mo (some ⟨g',0,none⟩) c 0=some ⟨g',0,none⟩:=by unfold mo;rw[anf aj];show some (Addr.add _<|0*1)=_;rw[lA]
  rw[S7] at hx;rw[hcB] at hy
  have rZ:cs.length=xs.length:=by have:=bA.length h2;simpa [GT.size] using this
  have hd:bA (MS M0 l) w ((cs.take q).take (xs.length-q)) ((xs.take q).take (xs.length-q)):=(rB _ (rB q h2).1).1
  have sX:((cs.take q).take (xs.length-q)).length=min q (xs.length-q):=by simp;omega
  have kQ:=run_copy_row (P:=P) w T T ty e g' q (xs.length-q) (c-q) ⟨g',0,none⟩ q c cur e ((cs.take q).take (xs.length-q)) hu (by rw[sW];simp[vo]) h4 (by rw[sX]) (by
   intro j v hv
   have xN:=(dE.1 hv).1
   rw[sX] at xN
   rw[aoG aj,aoG aj,←h8,aoG (by simp[GT.size];omega)] at hv
   rw[lA,cell_of_row w g' _ cur e (0,0) h4,←hv,aou]) (by rw[sX];omega) (bA.Bi hd)
  refine SO.value (v:=.int .i64 ((min q (xs.length-q):Nat):Int)) (w':=w.setRow g' (cur.toList.take q++(cs.take q).take (xs.length-q)++cur.toList.drop (q+((cs.take q).take (xs.length-q)).length)).toArray) ?_<|h _ ?_
  ·have Av:(Builtin.copy_ #[T,T] ty #[.slice (some ⟨g',q,none⟩) (xs.length-q) (c-q),.slice (some ⟨g',0,none⟩) q c]).run P w=.ok (.int .i64 ((min q (xs.length-q):Nat):Int)) (w.setRow g' (cur.toList.take q++(cs.take q).take (xs.length-q)++cur.toList.drop (q+((cs.take q).take (xs.length-q)).length)).toArray):=by
    rw[kQ,sX];rfl
   simp[execOp,resolve,invoke,builtin,aL ox,aL oy,hx,hy,Av]
  ·have:=HI.Ln (ys:=(xs.take q).take (xs.length-q)) (o:=q) H i hi h3 h4 h5 h6 pQ (by simpa [GT.size] using h8) h2 hd<|by simp;omega
   rw[show ((xs.take q).take (xs.length-q)).length=min q (xs.length-q) from by simp;omega] at this
   exact this
end
end Go.Ew
namespace Go.Ew
open Go.RowKit
def FPH (P:Program) (g:FuncId) (C:List Value) (M:bW) (w:aH) (it:aA→Item) (r:List Item) (xs:aA) (p:Int→Bool):Prop:=
 cA P g∧∀w1 ys,HI M w w1 ([it ys]++r)→∀x,x∈xs→aJ x→Calls P g ([Value.int .i64 x]++C).toArray w1 (cp fun u w2=>u=.bool (p x)∧Ext w1 w2)
theorem FPH.fp {P:Program} {g:FuncId} {C:List Value} {M M':bW} {w w1:aH} {it:aA→Item} {r:List Item} {xs ys:aA} {p:Int→Bool} (h:FPH P g C M w it r xs p) (H:HI M w w1 ([it ys]++r)):FP P g C M' w1 xs p:=
 ⟨h.1,fun w2 v x hx e hv=>by
  obtain⟨cs,⟨e1,hi⟩,e2⟩:=hv
  rw[e1] at e2
  cases e2
  exact h.2 w2 ys (H.ext e) x hx hi⟩
theorem JT (v:Value):∀n,(Builtin.zeroCells #[v] n).toList=List.replicate n v:=by
 intro n
 unfold Builtin.zeroCells
 apply anL
 intro i
 simp only[Array.toList_map,anl,Array.toList_range,an6]
 by_cases h:i<n
 ·rw[aob (by simpa using h),anc h]
  simp[Nat.mod_one]
 ·rw[anp (by simpa using h),anf h];rfl
section
variable {P:Program} {n:Nat} {ops:Array Oper} {f:aN} {w:aH} {K:aN→aH→Prop} {x y:Operand} {d:Nat} {ty T e:TypeId} {ps:String} {af:Array Edge} {v u:Value} {M M0:bW} {w0:aH} {l:List Item} {bytes:Nat} {B:Nat} {kk:IntKind} {agg:Bool} {xs ys:aA} {a:Option Addr} {k c:Nat}
theorem aeZ {hi:Int} {px:Operand} (H:HI M0 w0 w l) (i:Nat) (pR:l[i]? =some (own B e (.slice a k c) xs)) (ox:bI n x=true) (oh:bI n px=true) (hx:ev f x=.slice a k c) (hh:ev f px=.int kk hi) (hb:0≤hi∧hi≤xs.length) (hu:P.underlying T=some (.slice e)) (F:ef P e 1 agg bytes (.int .i64 0))
  (h:HI M0 w0 w (l.set i (own B e (.slice a (xs.take hi.toNat).length c) (xs.take hi.toNat)))→K (ck f d (.slice a (xs.take hi.toNat).length c)) w):
  SO P n ops ⟨some d,.slice T x none (some px) none,ty,ps,af,none⟩ f w K:=by
 have hO:=H.at_ i pR
 have jN:=(dE.1 pR).1
 have hlen:(xs.take hi.toNat).length=hi.toNat:=by simp;omega
 have FH:mo a c 0=a:=by
  unfold mo
  split
  ·rfl
  ·obtain⟨cs,h1,h2⟩:=hO
   rcases h1.2 with ⟨h3,h4⟩|⟨g,cap,cur,h3,h4⟩
   ·cases h3;rfl
   ·cases h3
    show some (Addr.add _ (0*1))=_
    rw[F_]
 refine aaW hO ox oh hx hh hb hu F ?_
 rw[FH]
 rw[hlen] at h
 refine h ?_
 refine H.weaken ?_ ?_
 ·apply anL
  intro j
  rw[anl,anl]
  by_cases hj:i=j
  ·subst hj;rw[ano jN,pR];cases a<;>rfl
  ·rw[anD hj]
 ·intro j it nG hj rG M S0
  by_cases qC:i=j
  ·subst qC
   rw[ano jN] at rG
   rw[pR] at hj
   cases hj;cases rG
   obtain⟨cs,h1,h2⟩:=S0
   have rZ:=bA.length h2
   refine⟨cs.take hi.toNat,⟨by rw[hlen];simp only[GT.size] at rZ ⊢;rw[iB];omega,?_⟩,(rB _ h2).1⟩
   rcases h1.2 with ⟨h3,h4⟩|⟨g,cap,cur,h3,h4,h5,h6,h7,h8,h9⟩
   ·cases h3
    refine .inl ⟨by rw[show hi.toNat=0 from by omega],by rw[hlen];omega⟩
   ·cases h3
    refine .inr ⟨g,c,cur,by rw[hlen],h4,h5,by omega,h7,h8,?_⟩
    rw[←h9,hlen,aoJ]
    congr 1
    simp only[GT.size];omega
  ·rw[anD qC,hj] at rG;cases rG;exact S0
theorem clO (H:HI M0 w0 w l) (i:Nat) (hi:l[i]? =some (own B e (.slice a k c) xs)) (hB:B=w0.heap.size) (ox:bI n x=true) {q:Nat} (hx:ev f x=.slice (mo a c q) (k-q) (c-q))
  (hu:P.underlying T=some (.slice e)) (F:ef P e 1 agg bytes (.int .i64 0)) (hq:q≤xs.length)
  (h:∀w',HI M0 w0 w' (l.set i (own B e (.slice a k c) (xs.take q++(List.replicate (xs.length-q) 0++[]))))→K f w'):
  SO P n ops ⟨none,.call {callee:=.builtin .clear,args:=#[x],argTypes:=#[T]},ty,ps,af,none⟩ f w K:=by
 subst hB
 have hO:=H.at_ i hi
 have jN:=(dE.1 hi).1
 obtain⟨hk,hc⟩:=CK hO
 obtain⟨cs,h1,h2⟩:=hO
 by_cases nI:q=xs.length
 ·have hz:k-q=0:=by omega
  refine SO.value (d:=none) (v:=.tuple #[]) (w':=w) ?_<|h w ?_
  ·have Av:(Builtin.clear_ #[T] ty #[.slice (mo a c q) 0 (c-q)]).run P w=.ok (.tuple #[]) w:=by
    cases hca:mo a c q<;>simp[Builtin.clear_,run_underlying hu]
   rw[hz] at hx
   simp[execOp,resolve,invoke,builtin,aL ox,hx,Av]
  ·have e9:xs.take q++(List.replicate (xs.length-q) 0++[])=xs:=by rw[nI];simp
   rw[e9]
   have:l.set i (own w0.heap.size e (.slice a k c) xs)=l:=by
    apply anL
    intro j
    by_cases hj:i=j
    ·subst hj;rw[ano jN,hi]
    ·rw[anD hj]
   rw[this];exact H
 ·rcases h1.2 with ⟨h0,h3⟩|⟨g',c1,cur,h0,h3,h4,h5,h6,h7,h8⟩
  ·omega
  ·cases h0
   have pQ:cur.size=c:=by rw[h7];simp[GT.size]
   have S7:mo (some ⟨g',0,none⟩) c q=some ⟨g',q,none⟩:=by unfold mo;rw[anf aj,apj];show some (Addr.add _ q)=_;rw[F_]
   rw[S7] at hx
   have hz:bA (MS M0 l) w (List.replicate (xs.length-q) (Value.int .i64 0)) (List.replicate (xs.length-q) (0:Int)):=by
    have:∀m,bA (MS M0 l) w (List.replicate m (Value.int .i64 0)) (List.replicate m (0:Int)):=by
     intro m
     induction m with
     |zero=>rfl
     |succ m ih=>exact⟨[.int .i64 0],List.replicate m (.int .i64 0),by rw[an4];rfl,⟨rfl,by unfold aJ;omega⟩,ih⟩
    exact this _
   have qV:=run_storeCells_at P g' q e (List.replicate (xs.length-q)<|Value.int .i64 0) 0 cur w h4 (by rw[oG];omega)<|bA.Bi hz
   refine SO.value (d:=none) (v:=.tuple #[]) (w':=w.setRow g' (cur.toList.take q++List.replicate (xs.length-q) (Value.int .i64 0)++cur.toList.drop (q+(List.replicate (xs.length-q)<|Value.int .i64 0).length)).toArray) ?_<|h _ ?_
   ·obtain⟨m,hm⟩:∃m,xs.length-q=m+1:=⟨xs.length-q-1,by omega⟩
    have Av:(Builtin.clear_ #[T] ty #[.slice (some ⟨g',q,none⟩) (xs.length-q) (c-q)]).run P w=.ok (.tuple #[]) (w.setRow g' (cur.toList.take q++List.replicate (xs.length-q) (Value.int .i64 0)++cur.toList.drop (q+(List.replicate (xs.length-q) (Value.int .i64 0)).length)).toArray):=by
     have r5:(Builtin.zeroCells (Value.int .i64 0).cells (xs.length-q)).toList=List.replicate (xs.length-q) (Value.int .i64 0):=JT _ _
     rw[anR] at qV
     rw[hm] at qV r5 ⊢
     simp[Builtin.clear_,run_underlying hu,F.uw,r5,qV]
    simp[execOp,resolve,invoke,builtin,aL ox,hx,Av]
   ·have:=HI.Ln (ys:=List.replicate (xs.length-q) 0) (ds:=List.replicate (xs.length-q) (Value.int .i64 0)) (o:=q) H i hi h3 h4 h5 h6 pQ (by simpa [GT.size] using h8) h2 hz<|by rw[oG];omega
    have e8:xs.drop (q+(List.replicate (xs.length-q) (0:Int)).length)=[]:=by rw[oG];exact aoN aj
    rw[e8] at this
    exact this
end
end Go.Ew
namespace Go.Ew
variable {i:Int}
def kl (i:Int):bt:=if 0≤i∧i≤63 then 1#64 <<< i.toNat else 0#64
theorem IW (h:aJ i):((BitVec.ofInt 64 i).toNat:Int)=if 0≤i then i else i+18446744073709551616:=by
 rw[←zw,IntKind.wrap_u64];unfold aJ at h;split<;>omega
theorem aam (h:aJ i) (h1:63<(BitVec.ofInt 64 i).toNat):0#64=kl i:=by
 unfold kl;rw[anf];have:=IW h;unfold aJ at h;split at this<;>omega
theorem aal (h:aJ i) (h1:¬63<(BitVec.ofInt 64 i).toNat):1#64 <<< ((BitVec.ofInt 64 i).toNat:Int).toNat=kl i:=by
 have h2:=IW h
 unfold kl;unfold aJ at h
 split at h2
 ·rw[anc aj];congr 1;omega
 ·omega
def xQ (w:bt) (i:Int):Bool:=decide (0≤i)&&w.getLsbD i.toNat
theorem aaq (w:bt) (k:Nat) (hk:k<64):(w &&& 1#64 <<< k=0#64)↔w.getLsbD k=false:=by
 constructor
 ·intro h
  have:=am_ (·.getLsbD k) h
  simpa [hk] using this
 ·intro h
  apply apd
  intro j hj
  simp only[api,apM,BitVec.getLsbD_zero]
  by_cases Jg:j=k
  ·subst Jg;simp[h]
  ·by_cases eo:j<k
   ·simp[eo]
   ·have:j-k≠0:=by omega
    simp[this]
theorem ZP (w:bt) (i:Int):(!decide (w &&& kl i=0#64))=xQ w i:=by
 unfold kl xQ
 by_cases h:0≤i∧i≤63
 ·rw[anc h,anw]
  have:=aaq w i.toNat aj
  simp[this,h.1]
 ·rw[anf h]
  by_cases h0:0≤i
  ·have:w.getLsbD i.toNat=false:=BitVec.getLsbD_of_ge w _ aj
   simp[this]
  ·simp[h0]
abbrev Row:=List bt
def fq (r:Row) (i:Int):Bool:=decide (0≤i)&&(r.getD (i.toNat/64) 0#64).getLsbD (i.toNat%64)
def jx (r:Row) (i:Int):Bool:=decide (0≤i∧i<64*(r.length:Int))
theorem ZL {r:Row} (h:0≤i):decide (i/64<(r.length:Int))=jx r i:=by
 unfold jx;congr 1;apply propext;omega
theorem ab1 {r:Row} (h:i<0):false=jx r i:=by
 unfold jx;simp;omega
theorem ZS {r:Row} (h:jx r i=true) {x:bt} (hx:r[(i/64).toNat]? =some x):xQ x (i%64)=fq r i:=by
 unfold jx at h;simp only[anb] at h
 unfold xQ fq
 have e1:(i/64).toNat=i.toNat/64:=by omega
 have e2:(i%64).toNat=i.toNat%64:=by omega
 rw[e1] at hx
 rw[e2,ik,hx]
 simp[h.1,apF]
theorem xR {r:Row} (h:jx r i=false):false=fq r i:=by
 unfold jx at h;simp only[anr] at h
 unfold fq
 by_cases h0:0≤i
 ·rw[ik,anp aj];simp
 ·simp[h0]
def ej (r:Row) (i:Int):Row:=if jx r i then r.set (i.toNat/64) (r.getD (i.toNat/64) 0#64 ||| kl (i%64)) else r
theorem Oc {r:Row} (h:jx r i=true) {x:bt} (hx:r[(i/64).toNat]? =some x):r.set (i/64).toNat (x ||| kl (i%64))=ej r i:=by
 unfold ej;rw[anc h]
 unfold jx at h;simp only[anb] at h
 have e1:(i/64).toNat=i.toNat/64:=by omega
 rw[e1] at hx
 rw[e1,ik,hx];rfl
theorem E' {r:Row} (h:jx r i=false):r=ej r i:=by
 unfold ej;rw[anf (by simp[h])]
end Go.Ew
namespace Go.Ew
def Wq (x:Nat):Nat→Nat
 |0=>0
 |k+1=>Wq x k+(x.testBit k).toNat
def AJ (x:bt):Nat:=Wq x.toNat 64
def rep (m:Nat):Nat→Nat
 |0=>0
 |n+1=>m+256*rep m n
def s1 (n x:Nat):Nat:=(x/2 &&& rep 0x55 n)+(x &&& rep 0x55 n)
def s2 (n x:Nat):Nat:=(x/4 &&& rep 0x33 n)+(x &&& rep 0x33 n)
def s3 (n x:Nat):Nat:=(x/16+x) &&& rep 0x0f n
def Kz (a:Nat):Nat:=(a/2 &&& 0x55)+(a &&& 0x55)
def Ky (a:Nat):Nat:=(a/4 &&& 0x33)+(a &&& 0x33)
theorem b3:∀a<256,Ky (Kz a)<69∧Ky (Kz a)%16<5∧Ky (Kz a)%16+Ky (Kz a)/16=Wq a 8:=by decide +kernel
theorem d1 {a b:Nat} (h:a<256):(a+256*b)/256=b:=by omega
theorem d2 {a b c:Nat} (h:a<256) (h':b<256):(a+256*(b+256*c))/65536=c:=by omega
end Go.Ew
namespace Go.Ew
variable {r:Row}
def Dw (r:Row):Nat:=(r.map AJ).sum
def ae6 (x y:bt):Bool:=decide (x &&& ~~~y=0#64)
def aeR (a b:Row) (i:Nat):Bool:=ae6 (a.getD i 0#64) (b.getD i 0#64)
def aeQ (a b:Row) (k:Nat):Bool:=(List.range k).all (aeR a b)
def KW (a b:Row):Bool:=aeQ a b a.length
theorem wZ {k:Nat} {x:bt} (h:r[((k:Nat):Int).toNat]? =some x):r.getD k 0#64=x:=by
 rw[dP] at h;rw[ik,h];rfl
theorem sF {k:Nat} (h:r.length≤k):r.getD k 0#64=0#64:=by
 rw[ik,anp h];rfl
def words (n:Int):Nat:=((max n 0+63)/64).toNat
def eb (n:Int):Row:=List.replicate (words n) 0#64
theorem Gu (x:bt) (i j:Nat) (hi:i<64) (hj:j<64):(x ||| kl (i:Int)).getLsbD j=(x.getLsbD j||decide (j=i)):=by
 unfold kl
 rw[anc aj,BitVec.getLsbD_or,apM,dP]
 congr 1
 by_cases h:j=i
 ·subst h;simp[hi]
 ·by_cases h2:j<i
  ·simp[h,h2]
  ·have:j-i≠0:=by omega
   simp[h,h2,this,hj]
theorem kG (r:Row) (i:Int):(ej r i).length=r.length:=by unfold ej;split<;>simp
theorem OP (r:Row) (i j:Int):jx (ej r i) j=jx r j:=by unfold jx;rw[kG]
theorem K_ {i:Int} (h:jx r i=true) (k:Nat) (hk:k<r.length):(ej r i).getD k 0#64=if k=i.toNat/64 then r.getD k 0#64 ||| kl ((i.toNat%64:Nat):Int) else r.getD k 0#64:=by
 unfold ej;rw[anc h]
 unfold jx at h;simp only[anb] at h
 have e:i%64=((i.toNat%64:Nat):Int):=by omega
 simp only[ik]
 by_cases Az:k=i.toNat/64
 ·subst Az
  rw[ano hk,anc rfl,e];rfl
 ·rw[anD (fun e=>Az e.symm),anf Az]
theorem JZ {i:Int}:fq (ej r i) i=jx r i:=by
 by_cases h:jx r i=true
 ·have h':=h
  unfold jx at h';simp only[anb] at h'
  have hm:i.toNat%64<64:=Nat.mod_lt _ au
  rw[h];unfold fq
  rw[K_ h _ aj,anc rfl,Gu _ _ _ hm hm]
  simp[h'.1]
 ·have h2:jx (ej r i) i=false:=by rw[OP];simpa using h
  rw[←xR h2];simpa using h
theorem Qx {r:Row} {i:Int} (h:fq r i=true):jx r i=true:=by
 cases h1:jx r i with
 |true=>rfl
 |false=>rw[←xR h1] at h;cases h
end Go.Ew
namespace Go.Ew
variable {n i j:Int} {x:Row} {m:Nat}
abbrev Rows:=List (List bt)
def CL (n k:Int):Bool:=decide (k<0)||decide (n≤k)
def kC (n:Int) (l:aA):Bool:=!l.any (CL n)
theorem jm {a b:Int}:kC n [a,b]=true↔(0≤a∧a<n)∧(0≤b∧b<n):=by
 unfold kC CL
 simp
theorem kc {a b:Int}:kC n [a,b]=false↔¬((0≤a∧a<n)∧(0≤b∧b<n)):=by
 rw[←jm];simp
def rowAt (rs:Rows) (i:Int):Row:=rs.getD i.toNat []
theorem sA {rs:Rows} (h:rs[i.toNat]? =some x):rowAt rs i=x:=by unfold rowAt;rw[ik,h];rfl
def rO (rs:Rows) (p:Int×Int):Rows:=rs.set p.1.toNat (ej (rowAt rs p.1) p.2)
theorem Ns (rs:Rows) (p:Int×Int):(rO rs p).length=rs.length:=by unfold rO;simp
theorem HL {rs:Rows} (h:rs[i.toNat]? =some x):rs.set i.toNat (ej x j)=rO rs (i,j):=by unfold rO;rw[sA h]
def CQ (n:Int):Bool:=decide (0≤n)&&decide (n≤4096)
theorem sP:CQ n=true↔0≤n∧n≤4096:=by unfold CQ;simp
theorem An:CQ n=false↔¬(0≤n∧n≤4096):=by rw[←sP];simp
def vV (n:Int):Rows:=List.replicate n.toNat (eb n)
def oM (n:Int):Int:=if CQ n then n else 0
def iR (n:Int):Rows:=if CQ n then vV n else []
def sh (n:Int):Int:=if CQ n then 0 else 1
theorem xH (h:CQ n=true):oM n=n∧iR n=vV n∧sh n=0:=by simp[oM,iR,sh,h]
theorem wV (h:CQ n=false):oM n=0∧iR n=[]∧sh n=1:=by simp[oM,iR,sh,h]
theorem qh (n:Int):(vV n).length=n.toNat:=by unfold vV;simp
def vE {α:Type} (m k:Nat) (a b:α):List α:=List.replicate k a++List.replicate (m-k) b
theorem NN {α:Type} (m:Nat) (a b:α):List.replicate m b=vE m 0 a b:=by simp[vE]
theorem QT {α:Type} {k:Nat} {a b:α} (h:k<m):(vE m k a b).set k a=vE m (k+1) a b:=by
 unfold vE
 obtain⟨q,hq⟩:∃q,m-k=q+1:=⟨m-k-1,by omega⟩
 rw[hq,aos _ _ (by simp),show m-(k+1)=q from by omega,oG,an',an4,apg,List.replicate_succ',anM]
 rfl
theorem QU {α:Type} {k:Nat} {a b:α} (h:k=m):vE m k a b=List.replicate m a:=by subst h;simp[vE]
def foldM (n:Int) (ps:List (Int×Int)):Rows:=ps.foldl rO (vV n)
theorem wz:∀(ps:List (Int×Int)) (rs:Rows),(ps.foldl rO rs).length=rs.length
 |[],_=>rfl
 |p::ps,rs=>by rw[apE,wz ps,Ns]
theorem Dj (n:Int) (ps:List (Int×Int)):(foldM n ps).length=n.toNat:=by unfold foldM;rw[wz,qh]
theorem QP {ps:List (Int×Int)} {j:Nat} {p:Int×Int} (h:ps[((j:Nat):Int).toNat]? =some p):foldM n (ps.take (j+1))=rO (foldM n (ps.take j)) p:=by
 unfold foldM;rw[nX h,aoX];rfl
theorem F9 {α:Type} {l:List α} {q:α→Bool} {j:Nat} {x:α} (h:l[((j:Nat):Int).toNat]? =some x) (h1:(l.take j).all q=true) (h2:q x=true):(l.take (j+1)).all q=true:=by
 rw[nX h,List.all_append,h1];simp[h2]
theorem M5 {α:Type} {l:List α} {q:α→Bool} {i:Nat} {x:α} (h:l[i]? =some x) (h2:q x=false):l.all q=false:=by
 rw[List.all_eq_false];exact⟨x,dC h,by simp[h2]⟩
theorem RD {rs:Rows} {p:Int×Int} (h:∀x∈rs,x.length=m):∀x∈rO rs p,x.length=m:=by
 intro x hx
 unfold rO at hx
 by_cases hi:p.1.toNat<rs.length
 ·rcases an1 hx with hx|rfl
  ·exact h x hx
  ·rw[kG]
   unfold rowAt
   rw[ik,eI hi]
   exact h _<|apt hi
 ·rw[List.set_eq_of_length_le aj] at hx
  exact h x hx
theorem yY {m:Nat}:∀(ps:List (Int×Int)) (rs:Rows),(∀x∈rs,x.length=m)→∀x∈ps.foldl rO rs,x.length=m
 |[],_,h=>h
 |p::ps,rs,h=>by rw[apE];exact yY ps _ (RD h)
theorem qg (n:Int):(eb n).length=words n:=by unfold eb;simp
theorem Tm {ps:List (Int×Int)} {i:Nat} (h:(foldM n ps)[i]? =some x):x.length=words n:=
 yY ps (vV n) (by
  intro x hx
  unfold vV at hx
  rw[List.eq_of_mem_replicate hx,qg]) x (dC h)
theorem E4 (h:n≤4096):words n≤64:=by unfold words;omega
def ir (n:Int) (i j:Int):Int:=if kC n [i,j] then n else 0
def ka (n:Int) (rs:Rows) (i j:Int):Rows:=if kC n [i,j] then rO rs (i,j) else []
def lI (n:Int) (i j:Int):Int:=if kC n [i,j] then 0 else 1
def eK (n:Int) (rs:Rows) (i j:Int):Bool:=kC n [i,j]&&fq (rowAt rs i) j
theorem qe {rs:Rows} (h:kC n [i,j]=true):ir n i j=n∧ka n rs i j=rO rs (i,j)∧lI n i j=0:=by simp[ir,ka,lI,h]
theorem oR {rs:Rows} (h:kC n [i,j]=false):ir n i j=0∧ka n rs i j=[]∧lI n i j=1:=by simp[ir,ka,lI,h]
theorem nA {α:Type} {l:List α} {i:Nat} {x y:α} (h:l[i]? =some x) (e:l[i]? =some y):x=y:=ana (h.symm.trans e)
theorem ab2:kC n [i,j]=(decide (0≤i)&&decide (i<n)&&decide (0≤j)&&decide (j<n)):=by
 rw[anw,jm];simp[and_assoc]
end Go.Ew
namespace Go.Ew
variable {r:Row} {i:Int}
theorem LX (h0:0≤i) (h:i<64*(r.length:Int)):jx r i=true:=by unfold jx;simp[h0,h]
theorem OQ (h:¬(0≤i∧i<64*(r.length:Int))):jx r i=false:=by unfold jx;simp;omega
theorem ZR (h:¬(0≤i∧i<64*(r.length:Int))):false=fq r i:=xR (OQ h)
theorem Y_ (h:¬(0≤i∧i<64*(r.length:Int))):r=ej r i:=E' (OQ h)
end Go.Ew
namespace Go.Ew
open Go.RowKit Go.WideShapes Go.ChangeShapes
def xo:List Nat:=[0,1,56,2,57,49,28,3,61,58,42,50,38,29,17,4,62,47,59,36,45,43,51,22,53,39,33,30,24,18,12,5,63,55,48,27,60,41,37,16,46,35,44,21,52,32,23,11,54,26,40,15,34,20,31,10,25,14,19,9,13,8,7,6]
def fU (g:Nat) (w:aH):Prop:=∀i,i<64→w.cell? ⟨g,i,none⟩=some (.int .u8 ((xo.getD i 0:Nat):Int))
theorem fU.ext {g:Nat} {w w':aH} (h:fU g w) (e:Ext w w'):fU g w':=by
 intro i hi
 have h1:=h i hi
 rw[Below.cell e.toBelow (p:=⟨g,i,none⟩) (pY h1)]
 exact h1
def vS (i:Nat):BitVec 8:=BitVec.ofNat 8 (xo.getD i 0)
theorem aaP:∀i<64,xo.getD i 0<64:=by decide
theorem KT {i:Nat} (h:i<64):((vS i).toNat:Int)=((xo.getD i 0:Nat):Int):=by
 have:=aaP i h
 unfold vS
 rw[BitVec.toNat_ofNat]
 omega
theorem fU.at_ {g:Nat} {w:aH} {M:bW} (h:fU g w) {i:Nat} (hi:i<64):hQ M w ⟨g,i,none⟩ (vS i):=by
 refine⟨[U8 (vS i)],J,fun j v hv=>?_⟩
 cases j with
 |zero=>
  simp at hv;subst hv
  rw[show (⟨g,i,none⟩:Addr).add 0=⟨g,i,none⟩ from rfl,h i hi,U8,KT hi]
 |succ j=>simp at hv
theorem ahG {g:Nat} {w0 w:aH} {M:bW} (h:fU g w0) (e:Ext w0 w) {i:Nat} {ad:Addr} (ha:(⟨g,0,none⟩:Addr).add (i*1)=ad) (hi:i<64):hQ M w ad (vS i):=by
 have:ad=⟨g,i,none⟩:=by
  rw[←ha,apj]
  unfold Addr.add
  split
  ·rename_i h;rw[h]
  ·simp
 rw[this]
 exact(h.ext e).at_ hi
theorem Nq {P:Program} {g:Nat} {t e:TypeId} {name:String} {D:DataW Unit} {W:aH} (hg:P.globalNamed name=some g) (ht:(P.globals[g]?).map (·.type)=some t)
  (hu:P.underlying t=some (.array 64 e)) (he:P.underlying e=some (.int .u8)) (hc:P.cellsOf e=1) (hD:D=.agg (xo.map fun k=>.lit (.int .u8 ((k:Nat):Int)))) (h:laidMetH P [(name,D)] W)
  (hp:laidMetH P [(name,D)] W↔laidMet P [(name,D)] W):fU g W:=by
 rw[hp] at h
 obtain⟨ps,⟨g0,t0,Yw,f0,p0,q0,hg0,ht0,iC,Mi,_⟩,_⟩:=h
 obtain rfl:=ana (hg.symm.trans hg0)
 obtain rfl:=ana (ht.symm.trans ht0)
 obtain⟨xs,m,rfl,hx,hlen,hn,vq⟩:=DataW.trod_array hu Mi
 intro i hi
 have h1:=vq i hi
 rw[hc,apj,eI (by omega:i<xs.length)] at h1
 obtain⟨k,e1,e2,_⟩:=DataW.trod_int he h1
 simp only[anS] at hx
 have h2:(DataW.agg (xo.map fun k=>DataW.lit (Lit.int .u8 ((k:Nat):Int))):DataW Unit)=.agg (xs.map (·.1)):=by rw[←hD];exact hx.1
 injection h2 with h3
 have h4:=am_ (fun l=>l[i]?) h3
 have hti:i<xo.length:=by simpa [xo] using hi
 simp only[anl,eI hti,eI (by omega:i<xs.length),aov,e2,ann] at h4
 injection h4 with h5
 injection h5 with h6 h7
 have h8:xo.getD i 0=xo[i]:=by rw[ik,eI hti];rfl
 rw[h8,h7]
 have:=World.var?_cell hg0 iC i
 have AD:Yw[i]? =some (.int .u8 k):=by
  have:(Yw.toList.drop i).head?=some (.int .u8 k):=by
   have h9:((Yw.toList.drop i).take 1).head?=some (.int .u8 k):=by rw[e1];rfl
   cases hq:Yw.toList.drop i with
   |nil=>rw[hq] at h9;simp at h9
   |cons a b=>rw[hq] at h9;simpa using h9
  rw[List.head?_drop] at this
  simpa using this
 rw[AD] at this
 simpa using this
end Go.Ew
namespace Go.Ew
variable {x:bt}
def oO (x:bt):List Nat:=(List.range 64).filter fun k=>x.getLsbD k
def fH (x:bt):Nat:=(oO x).headD 64
theorem vD {p:Nat→Bool}:∀(n:Nat),(∃k<n,p k=true)→∃k,k<n∧p k=true∧(∀j,j<k→p j=false)∧∃l,(List.range n).filter p=k::l∧l=(List.range n).filter (fun i=>p i&&!decide (i=k))
 |0,⟨k,h,_⟩=>by omega
 |n+1,h=>by
  by_cases h1:∃k<n,p k=true
  ·obtain⟨k,hk,hp,hl,l,e1,e2⟩:=vD n h1
   refine⟨k,by omega,hp,hl,l++[n].filter p,?_,?_⟩
   ·rw[aoM,aoi,e1];rfl
   ·rw[aoM,aoi,←e2]
    congr 1
    have:¬n=k:=by omega
    simp[aqo,this]
  ·obtain⟨k,hk,hp⟩:=h
   have yS:k=n:=by
    apply anV
    intro gA
    exact h1 ⟨k,by omega,hp⟩
   subst yS
   have GV:∀j,j<k→p j=false:=by
    intro j hj
    cases hb:p j with
    |false=>rfl
    |true=>exact absurd ⟨j,hj,hb⟩ h1
   have hf:(List.range k).filter p=[]:=by
    rw[aol]
    intro j hj
    rw[ang] at hj
    simp[GV j hj]
   have Md:(List.range k).filter (fun i=>p i&&!decide (i=k))=[]:=by
    rw[aol]
    intro j hj
    rw[ang] at hj
    simp[GV j hj]
   refine⟨k,by omega,hp,GV,[],?_,?_⟩
   ·rw[aoM,aoi,hf];simp[hp]
   ·rw[aoM,aoi,Md];simp
theorem T5 {x:bt} (h:x≠0#64):∃k<64,x.getLsbD k=true:=by
 apply anV
 intro hn
 apply h
 apply apd
 intro i hi
 rw[BitVec.getLsbD_zero]
 cases hb:x.getLsbD i with
 |false=>rfl
 |true=>exact absurd ⟨i,hi,hb⟩ hn
theorem least (h:x≠0#64):∃l,fH x<64∧x.getLsbD (fH x)=true∧(∀j,j<fH x→x.getLsbD j=false)∧oO x=fH x::l∧l=(List.range 64).filter (fun i=>x.getLsbD i&&!decide (i=fH x)):=by
 obtain⟨k,hk,hp,hl,l,e1,e2⟩:=vD 64 (T5 h)
 have hf:fH x=k:=by unfold fH oO;rw[e1];rfl
 rw[hf]
 exact⟨l,hk,hp,hl,e1,e2⟩
theorem JE {k:Nat} (hp:x.getLsbD k=true) (hl:∀j,j<k→x.getLsbD j=false) (i:Nat):(∃j,j<i∧x.getLsbD j=true)↔k<i:=by
 constructor
 ·rintro⟨j,hj,h⟩
  rcases ap1 k i with h1|h1
  ·exact h1
  ·rw[hl j aj] at h;cases h
 ·intro h;exact⟨k,h,hp⟩
theorem Su (h:x≠0#64):x &&& -x=1#64 <<< fH x:=by
 obtain⟨l,hk,hp,hl, -, -⟩:=least h
 apply apd
 intro i hi
 rw[api,BitVec.getLsbD_neg,apM]
 simp only[JE hp hl i]
 by_cases h1:i=fH x
 ·subst h1;simp[hp,hk]
 ·by_cases h2:i<fH x
  ·simp[hl i h2,h2]
  ·have h3:fH x<i:=by omega
   have h4:i-fH x≠0:=by omega
   cases hx:x.getLsbD i<;>simp[h2,h3,h4,hi]
theorem clear (h:x≠0#64):oO x=fH x::oO (x &&& (x-1#64)):=by
 obtain⟨l,hk,hp,hl,e1,e2⟩:=least h
 rw[e1,e2]
 congr 1
 unfold oO
 apply apl
 intro i hi
 rw[ang] at hi
 have e:x-1#64= ~~~(-x):=by
  rw[BitVec.not_neg,BitVec.sub_eq_add_neg]
 rw[api,e,BitVec.getLsbD_not,BitVec.getLsbD_neg]
 simp only[JE hp hl i]
 by_cases h1:i=fH x
 ·subst h1;simp[hp,hk]
 ·by_cases h2:i<fH x
  ·simp[hl i h2]
  ·have h3:fH x<i:=by omega
   cases hx:x.getLsbD i<;>simp[h1,h3,hi]
theorem T3:∀k<64,((1#64 <<< k*285870213051353865#64) >>> 58).toNat<64∧xo.getD ((1#64 <<< k*285870213051353865#64) >>> 58).toNat 0=k:=by decide +kernel
theorem E3 (h:x≠0#64):(((x &&& -x)*285870213051353865#64) >>> 58).toNat<64:=by
 obtain⟨l,hk, -⟩:=least h
 rw[Su h];exact(T3 _ hk).1
theorem Uv (h:x≠0#64):((vS (((x &&& -x)*285870213051353865#64) >>> 58).toNat).toNat:Int)=((fH x:Nat):Int):=by
 obtain⟨l,hk, -⟩:=least h
 rw[KT (E3 h),Su h,(T3 _ hk).2]
theorem GF:oO 0#64=[]:=by
 unfold oO
 rw[aol]
 intro i _
 simp
theorem EH:fH 0#64=64:=by unfold fH;rw[GF];rfl
theorem yZ (x:bt):fH x≤64:=by
 by_cases h:x=0#64
 ·subst h;rw[EH];exact ane _
 ·obtain⟨l,hk, -⟩:=least h;omega
end Go.Ew
namespace Go.Ew
def qw (j:Nat) (x:bt):aA:=(oO x).map fun k=>(j:Int)*64+((k:Nat):Int)
def rX (r:Row) (j:Nat):aA:=(List.range j).flatMap fun i=>qw i (r.getD i 0#64)
def cX (r:Row):aA:=rX r r.length
theorem Qh (j:Nat):qw j 0#64=[]:=by unfold qw;rw[GF];rfl
theorem Qi {j:Nat} {x:bt} (h:x≠0#64):qw j x=((j:Int)*64+((fH x:Nat):Int))::qw j (x &&& (x-1#64)):=by
 unfold qw;rw[clear h];rfl
theorem LM (x:bt):(oO x).length≤64:=by
 unfold oO
 exact Nat.le_trans (aoc _ _)<|by simp
theorem CZ (j:Nat) (x:bt):(qw j x).length≤64:=by unfold qw;rw[anO];exact LM x
theorem zB (r:Row) (j:Nat):rX r (j+1)=rX r j++qw j (r.getD j 0#64):=by
 unfold rX;rw[aoM,ao0];simp
theorem vW (r:Row):∀j,(rX r j).length≤64*j
 |0=>by simp[rX]
 |j+1=>by
  have:=vW r j
  have:=CZ j<|r.getD j 0#64
  rw[zB,fF];omega
theorem QZ {x:bt} (h:x≠0#64):(oO (x &&& (x-1#64))).length<(oO x).length:=by
 rw[clear h];simp
theorem nj (r:Row):(cX r).length≤64*r.length:=vW r _
end Go.Ew
namespace Go.Ew
variable {m j:Nat} {a b z:Row}
def tC (a b:Row) (i:Nat):bt:=a.getD i 0#64 ||| b.getD i 0#64
def jM (a b:Row):Row:=(List.range (max a.length b.length)).map (tC a b)
theorem Sf (a b:Row) (i:Nat):tC a b i=tC b a i:=BitVec.or_comm _ _
theorem Ls (a b:Row):jM a b=jM b a:=by
 unfold jM
 rw[Nat.max_comm]
 exact aon fun i _=>Sf a b i
theorem Bg (a b:Row):(jM a b).length=max a.length b.length:=by unfold jM;simp
def qk (m:Nat) (a b z:Row) (j:Nat):Row:=(List.range m).map fun i=>if i<j then tC a b i else z.getD i 0#64
theorem zA (m:Nat) (a b z:Row) (j:Nat):(qk m a b z j).length=m:=by unfold qk;simp
theorem CM (a b z:Row):z=qk z.length a b z 0:=by
 apply aoO
 ·rw[zA]
 ·intro i h1 h2
  unfold qk
  simp[ik,h1]
theorem Bf {x:bt} (h:(qk m a b z j)[((j:Nat):Int).toNat]? =some x):x=z.getD j 0#64:=by
 rw[dP] at h
 obtain⟨h1,h2⟩:=dE.1 h
 rw[←h2]
 unfold qk
 simp
theorem Fp {v:bt} (hv:v=tC a b j):(qk m a b z j).set j v=qk m a b z (j+1):=by
 apply aoO
 ·simp[zA]
 ·intro i h1 h2
  have hm:i<m:=by rw[zA] at h2;exact h2
  rw[apX]
  unfold qk
  simp only[List.getElem_map,apJ]
  by_cases Jh:j=i
  ·subst Jh;simp[hv]
  ·have:(i<j+1)↔(i<j):=by omega
   simp[Jh,this]
theorem xD (hm:m=max a.length b.length) (h:∀i,j≤i→i<m→z.getD i 0#64=tC a b i):qk m a b z j=jM a b:=by
 unfold qk jM
 subst hm
 apply aon
 intro i hi
 rw[ang] at hi
 split
 ·rfl
 ·exact h i aj hi
theorem yC {i:Nat} (h:b.length≤i):a.getD i 0#64=tC a b i:=by
 unfold tC;rw[sF h,BitVec.or_zero]
def Ki (r:Row) (n:Nat):aA:=((List.range n).filter fun k=>fq r ((k:Nat):Int)).map fun k=>((k:Nat):Int)
theorem nZ (m k:Nat):List.range (m+k)=List.range m++(List.range k).map (fun i=>m+i):=by
 apply aoO
 ·simp
 ·intro i h1 h2
  simp only[apJ]
  by_cases h:i<m
  ·rw[List.getElem_append_left (by simpa using h)];simp
  ·rw[List.getElem_append_right (by simpa using h)];simp;omega
theorem vv (r:Row) (j k:Nat) (hk:k<64):fq r (((64*j+k:Nat):Nat):Int)=(r.getD j 0#64).getLsbD k:=by
 unfold fq
 rw[dP,show (64*j+k)/64=j from by omega,show (64*j+k)%64=k from by omega]
 simp only[Bool.and_eq_right_iff_imp,anb]
 intro _;omega
theorem GH (r:Row):∀j,Ki r (64*j)=rX r j
 |0=>rfl
 |j+1=>by
  rw[zB,←GH r j,show 64*(j+1)=64*j+64 from by omega]
  unfold Ki qw oO
  rw[nZ,aoi,aoz]
  congr 1
  rw[List.filter_map,List.map_map]
  have e:(List.range 64).filter ((fun k=>fq r ((k:Nat):Int))∘fun i=>64*j+i)=(List.range 64).filter fun k=>(r.getD j 0#64).getLsbD k:=by
   apply apl
   intro k hk
   rw[ang] at hk
   exact vv r j k hk
  rw[e]
  apply aon
  intro k _
  show ((64*j+k:Nat):Int)=(j:Int)*64+((k:Nat):Int)
  omega
theorem Sv (r:Row):Ki r (64*r.length)=cX r:=GH r r.length
theorem Sq {x:bt} {i:Int}:i∈qw j x↔∃k<64,x.getLsbD k=true∧i=(j:Int)*64+((k:Nat):Int):=by
 unfold qw oO
 simp only[anZ,ant,ang]
 constructor
 ·rintro⟨k,⟨h1,h2⟩,rfl⟩;exact⟨k,h1,h2,rfl⟩
 ·rintro⟨k,h1,h2,rfl⟩;exact⟨k,⟨h1,h2⟩,rfl⟩
theorem vg {r:Row} {i:Int}:i∈cX r↔fq r i=true:=by
 unfold cX rX
 simp only[aqn,ang,Sq]
 constructor
 ·rintro⟨j,hj,k,hk,hx,rfl⟩
  have:=vv r j k hk
  rw[show (j:Int)*64+((k:Nat):Int)=((64*j+k:Nat):Int) from by omega,this];exact hx
 ·intro h
  have hi:=Qx h
  unfold jx at hi
  simp only[anb] at hi
  have hw:=vv r (i.toNat/64) (i.toNat%64) aj
  rw[show (((64*(i.toNat/64)+i.toNat%64:Nat):Nat):Int)=i from by omega,h] at hw
  exact⟨i.toNat/64,by omega,i.toNat%64,by omega,hw.symm,by omega⟩
end Go.Ew
namespace Go.Ew
theorem uK (r:Row) {i:Int} (h:i<0):fq r i=false:=(ZR aj).symm
theorem uL (r:Row) (n:Nat):fq r ((n:Nat):Int)=(r.getD (n/64) 0#64).getLsbD (n%64):=by
 unfold fq;rw[dP];simp
theorem Dc {r:Row} {i k:Int}:fq (ej r i) k=(fq r k||(decide (k=i)&&jx r i)):=by
 cases h:jx r i with
 |false=>rw[←E' h];simp
 |true=>
  by_cases hk:k=i
  ·subst hk;rw[JZ,h];simp
  ·simp only[hk,decide_false,ap_,aoI]
   by_cases cx:k<0
   ·rw[uK _ cx,uK _ cx]
   ·obtain⟨n,rfl⟩:∃n:Nat,k=((n:Nat):Int):=⟨k.toNat,by omega⟩
    have h':=h
    unfold jx at h';simp only[anb] at h'
    rw[uL,uL]
    by_cases hw:n/64<r.length
    ·rw[K_ h _ hw]
     split
     ·rename_i e
      rw[Gu _ _ _ aj aj]
      have:¬n%64=i.toNat%64:=by omega
      simp[this]
     ·rfl
    ·rw[sF (by rw[kG];omega),sF aj]
theorem Ze {a b:Row} (hl:a.length=b.length) (h:∀n:Nat,fq a ((n:Nat):Int)=fq b ((n:Nat):Int)):a=b:=by
 apply aoO hl
 intro j h1 h2
 apply apd
 intro k hk
 have e1:=vv a j k hk
 have e2:=vv b j k hk
 rw[h,e2,ik,ik,eI h1,eI h2] at e1
 simpa using e1.symm
theorem wy:∀(l:aA) (r:Row),(l.foldl ej r).length=r.length
 |[],_=>rfl
 |i::l,r=>by rw[apE,wy l,kG]
theorem AG:∀(l:aA) (r:Row) (k:Int),fq (l.foldl ej r) k=(fq r k||(l.any fun i=>decide (k=i)&&jx r i))
 |[],r,k=>by simp
 |i::l,r,k=>by
  rw[apE,AG l,Dc]
  simp only[OP,List.any_cons,Bool.or_assoc]
theorem Ft (n k:Int):fq (eb n) k=false:=by
 by_cases hk:k<0
 ·exact uK _ hk
 ·obtain⟨m,rfl⟩:∃m:Nat,k=((m:Nat):Int):=⟨k.toNat,by omega⟩
  rw[uL]
  unfold eb
  rw[ik]
  by_cases h:m/64<words n
  ·simp[an6,h]
  ·simp[an6,h]
theorem ZQ (a b:Row) (i:Int):fq (jM a b) i=(fq a i||fq b i):=by
 by_cases hk:i<0
 ·rw[uK _ hk,uK _ hk,uK _ hk];rfl
 ·obtain⟨n,rfl⟩:∃n:Nat,i=((n:Nat):Int):=⟨i.toNat,by omega⟩
  rw[uL,uL,uL]
  by_cases h:n/64<max a.length b.length
  ·have:(jM a b).getD (n/64) 0#64=tC a b (n/64):=by
    rw[ik,eI (by rw[Bg];exact h)]
    unfold jM
    simp
   rw[this,tC,BitVec.getLsbD_or]
  ·rw[sF (by rw[Bg];omega),sF aj,sF aj];simp
end Go.Ew
namespace Go.Ew
open Go.RowKit
variable {t T kt:TypeId} {k:IntKind} {a:Int} {w:aH} {r:Nat}
theorem At.s1 {α β:Type} [GT α] [GT β] {M:bW} {w:aH} {ad:Addr} {x:α×β} (h:At M w ad x):At M w (ad.add (GT.size α)) x.2:=h.snd
theorem At.s2 {α β γ:Type} [GT α] [GT β] [GT γ] {M:bW} {w:aH} {ad:Addr} {x:α×β×γ} (h:At M w ad x):At M w (ad.add (GT.size α+GT.size β)) x.2.2:=by have h_:=h.s1.snd;rwa [add_add] at h_
theorem At.s3 {α β γ δ:Type} [GT α] [GT β] [GT γ] [GT δ] {M:bW} {w:aH} {ad:Addr} {x:α×β×γ×δ} (h:At M w ad x):At M w (ad.add (GT.size α+GT.size β+GT.size γ)) x.2.2.2:=by have h_:=h.s2.snd;rwa [add_add] at h_
theorem At.s4 {α β γ δ ε:Type} [GT α] [GT β] [GT γ] [GT δ] [GT ε] {M:bW} {w:aH} {ad:Addr} {x:α×β×γ×δ×ε} (h:At M w ad x):At M w (ad.add (GT.size α+GT.size β+GT.size γ+GT.size δ)) x.2.2.2.2:=by have h_:=h.s3.snd;rwa [add_add] at h_
theorem At.s5 {α β γ δ ε ζ:Type} [GT α] [GT β] [GT γ] [GT δ] [GT ε] [GT ζ] {M:bW} {w:aH} {ad:Addr} {x:α×β×γ×δ×ε×ζ} (h:At M w ad x):At M w (ad.add (GT.size α+GT.size β+GT.size γ+GT.size δ+GT.size ε)) x.2.2.2.2.2:=by have h_:=h.s4.snd;rwa [add_add] at h_
theorem At.s6 {α β γ δ ε ζ η:Type} [GT α] [GT β] [GT γ] [GT δ] [GT ε] [GT ζ] [GT η] {M:bW} {w:aH} {ad:Addr} {x:α×β×γ×δ×ε×ζ×η} (h:At M w ad x):At M w (ad.add (GT.size α+GT.size β+GT.size γ+GT.size δ+GT.size ε+GT.size ζ)) x.2.2.2.2.2.2:=by have h_:=h.s5.snd;rwa [add_add] at h_
theorem hQ.s1 {α β:Type} [GT α] [GT β] {M:bW} {w:aH} {ad:Addr} {x:α×β} (h:hQ M w ad x):hQ M w (ad.add (GT.size α)) x.2:=h.snd
theorem hQ.s2 {α β γ:Type} [GT α] [GT β] [GT γ] {M:bW} {w:aH} {ad:Addr} {x:α×β×γ} (h:hQ M w ad x):hQ M w (ad.add (GT.size α+GT.size β)) x.2.2:=by have h_:=h.s1.snd;rwa [add_add] at h_
theorem hQ.s3 {α β γ δ:Type} [GT α] [GT β] [GT γ] [GT δ] {M:bW} {w:aH} {ad:Addr} {x:α×β×γ×δ} (h:hQ M w ad x):hQ M w (ad.add (GT.size α+GT.size β+GT.size γ)) x.2.2.2:=by have h_:=h.s2.snd;rwa [add_add] at h_
theorem hQ.s4 {α β γ δ ε:Type} [GT α] [GT β] [GT γ] [GT δ] [GT ε] {M:bW} {w:aH} {ad:Addr} {x:α×β×γ×δ×ε} (h:hQ M w ad x):hQ M w (ad.add (GT.size α+GT.size β+GT.size γ+GT.size δ)) x.2.2.2.2:=by have h_:=h.s3.snd;rwa [add_add] at h_
theorem hQ.s5 {α β γ δ ε ζ:Type} [GT α] [GT β] [GT γ] [GT δ] [GT ε] [GT ζ] {M:bW} {w:aH} {ad:Addr} {x:α×β×γ×δ×ε×ζ} (h:hQ M w ad x):hQ M w (ad.add (GT.size α+GT.size β+GT.size γ+GT.size δ+GT.size ε)) x.2.2.2.2.2:=by have h_:=h.s4.snd;rwa [add_add] at h_
theorem hQ.s6 {α β γ δ ε ζ η:Type} [GT α] [GT β] [GT γ] [GT δ] [GT ε] [GT ζ] [GT η] {M:bW} {w:aH} {ad:Addr} {x:α×β×γ×δ×ε×ζ×η} (h:hQ M w ad x):hQ M w (ad.add (GT.size α+GT.size β+GT.size γ+GT.size δ+GT.size ε+GT.size ζ)) x.2.2.2.2.2.2:=by have h_:=h.s5.snd;rwa [add_add] at h_
section
variable {P:Program}
def IB (P:Program) (t:TypeId) (v u:Value) (r:Bool):Prop:=(∀w,(isAgg t).run P w=.ok false w)∧∀d w,(Op.equalIn (d+1) t v u).run P w=.ok r w
theorem Bj {d:TypeDesc} (h:P.underlying t=some d) (hd:(match d with| .struct _| .array _ _=>false|_=>true)=true) (w:aH):(isAgg t).run P w=.ok false w:=by
 cases d<;>first|(cases hd;done)|simp[isAgg,underlying,h]
theorem Qd {kk:IntKind} {b:Int} (h:P.underlying t=some (.int k)):IB P t (.int kk a) (.int kk b) (decide (a=b)):=
 ⟨Bj h rfl,fun d w=>by rw[run_equalIn_int w d t kk k a b h];congr 1⟩
theorem afa {a b:Bool} (h:P.underlying t=some .bool):IB P t (.bool a) (.bool b) (decide (a=b)):=
 ⟨Bj h rfl,fun d w=>by rw[run_equalIn_bool' w d t a b h];congr 1⟩
theorem ae' {a b:bf} (h:P.underlying t=some .string):IB P t (.string a) (.string b) (decide (a=b)):=
 ⟨Bj h rfl,fun d w=>by
  have e:(a.toList==b.toList)=decide (a=b):=by
   rw[←beq_toListBytes,anw]
   rcases a with ⟨x⟩
   rcases b with ⟨y⟩
   show (x==y)=true↔_
   simp
  rw[run_equalIn_string w d t a b h,e]⟩
theorem mM {cs:Array Value} {off:Nat} {v:Value} (h:∀w,(isAgg t).run P w=.ok false w) (hc:cs[off]? =some v) (w:aH):(part t cs off).run P w=.ok v w:=by
 simp[part,h w,hc]
def nk (P:Program) (t:TypeId):Option Nat:=match P.underlying t with|some (.int _)=>some 0|some .bool=>some 1|some .string=>some 2|_=>none
def QR (P:Program) (T:TypeId):List (Option (Nat×Nat)):=(P.fieldsOf T).toList.map fun f=>if f.name= "_" then none else (nk P f.type).map fun k=>(f.offset,k)
def DM (xs ys:Array Value):List (Option (Nat×Nat))→List Bool→Prop
 |[],[]=>True
 |some (o,0)::ks,r::rs=>(∃kk a b,xs[o]? =some (.int kk a)∧ys[o]? =some (.int kk b)∧r=decide (a=b))∧DM xs ys ks rs
 |some (o,1)::ks,r::rs=>(∃a b,xs[o]? =some (.bool a)∧ys[o]? =some (.bool b)∧r=decide (a=b))∧DM xs ys ks rs
 |some (o,2)::ks,r::rs=>(∃a b,xs[o]? =some (.string a)∧ys[o]? =some (.string b)∧r=decide (a=b))∧DM xs ys ks rs
 |_,_=>False
theorem GJ (h:nk P t=some 0):∃k,P.underlying t=some (.int k):=by
 unfold nk at h;split at h<;>simp_all
theorem Qc (h:nk P t=some 1):P.underlying t=some .bool:=by
 unfold nk at h;split at h<;>simp_all
theorem Qb (h:nk P t=some 2):P.underlying t=some .string:=by
 unfold nk at h;split at h<;>simp_all
theorem TD {xs ys:Array Value}:∀{fs:List Field} {rs:List Bool} (d:Nat) (w:aH),DM xs ys (fs.map fun f=>if f.name= "_" then none else (nk P f.type).map fun k=>(f.offset,k)) rs→(Op.eqFields (d+1) xs ys fs).run P w=.ok (rs.all id) w
 |[],[],d,w,_=>by simp[Op.eqFields]
 |[],_::_,d,w,h=>by simp[DM] at h
 |f::fs,rs,d,w,h=>by
  rw[anA] at h
  by_cases hn:f.name= "_"
  ·rw[anc hn] at h;cases rs<;>simp[DM] at h
  ·rw[anf hn] at h
   have key:∀(a b:Value) (r:Bool) (Xj:List Bool),IB P f.type a b r→xs[f.offset]? =some a→ys[f.offset]? =some b→
     DM xs ys (fs.map fun f=>if f.name= "_" then none else (nk P f.type).map fun k=>(f.offset,k)) Xj→(Op.eqFields (d+1) xs ys (f::fs)).run P w=.ok ((r::Xj).all id) w:=by
    intro a b r Xj hl ha hb ht
    have ih:=TD d w ht
    simp only[Op.eqFields,apA,hn,not_false_eq_true,aoP,Sem.run_bind,mM hl.1 ha w,mM hl.1 hb w,hl.2 d w,Result.andThen_ok]
    cases r
    ·simp
    ·simp[ih]
   cases hk:nk P f.type with
   |none=>rw[hk] at h;cases rs<;>simp[DM] at h
   |some k=>
    rw[hk,aov] at h
    cases rs with
    |nil=>simp[DM] at h
    |cons r Xj=>
     match k,hk,h with
     |0,hk,⟨⟨kk,a,b,ha,hb,hr⟩,ht⟩=>
      obtain⟨q,hq⟩:=GJ hk
      rw[hr];exact key _ _ _ _ (Qd hq) ha hb ht
     |1,hk,⟨⟨a,b,ha,hb,hr⟩,ht⟩=>rw[hr];exact key _ _ _ _ (afa (Qc hk)) ha hb ht
     |2,hk,⟨⟨a,b,ha,hb,hr⟩,ht⟩=>rw[hr];exact key _ _ _ _ (ae' (Qb hk)) ha hb ht
     |(n+3),hk,h=>simp[DM] at h
structure Pq (P:Program) (T:TypeId) (ks:List (Option (Nat×Nat))):Prop where
 u:P.underlying T=some (.struct (P.fieldsOf T))
 s:P.stoodInHeld T=false
 g:P.eqGuardType P.depth T=false
 k:QR P T=ks
theorem Pq.eq {ks:List (Option (Nat×Nat))} (F:Pq P T ks) {xs ys:Array Value} {rs:List Bool} (h:DM xs ys ks rs) (d:Nat) (w:aH):(Op.equalIn (d+2) T (.agg xs) (.agg ys)).run P w=.ok (rs.all id) w:=by
 rw[run_equalIn_agg w (d+1) T xs ys F.u F.s]
 exact TD d w<|by rw[←F.k] at h;exact h
structure Uu (P:Program) (T:TypeId):Prop where
 h:∃e k i,P.underlying T=some (.array 2 e)∧P.underlying e=some (.int k)∧P.info? e=some i∧P.cellsOf e=1
 g:P.eqGuardType P.depth T=false
theorem arF {e:TypeId} (h1:P.underlying T=some (.array 2 e)) (h2:P.underlying e=some (.int k)) (h3:(P.info? e).isSome=true) (h4:P.cellsOf e=1) (g:P.eqGuardType P.depth T=false):Uu P T:=by
 obtain⟨i,hi⟩:=anB.1 h3
 exact⟨⟨e,k,i,h1,h2,hi,h4⟩,g⟩
theorem Uu.eq (F:Uu P T) {k1 k2:IntKind} {b c d:Int} (m:Nat) (w:aH):(Op.equalIn (m+2) T (.agg #[.int k1 a,.int k2 b]) (.agg #[.int k1 c,.int k2 d])).run P w=.ok (decide (a=c)&&decide (b=d)) w:=by
 obtain⟨e,k,i,h1,h2,h3,h4⟩:=F.h
 have l1:IB P e (.int k1 a) (.int k1 c) (decide (a=c)):=Qd h2
 have l2:IB P e (.int k2 b) (.int k2 d) (decide (b=d)):=Qd h2
 have p1:(part e #[.int k1 a,.int k2 b] 0).run P w=.ok (.int k1 a) w:=mM l1.1 J w
 have p2:(part e #[.int k1 c,.int k2 d] 0).run P w=.ok (.int k1 c) w:=mM l1.1 J w
 have p3:(part e #[.int k1 a,.int k2 b] 1).run P w=.ok (.int k2 b) w:=mM l1.1 J w
 have p4:(part e #[.int k1 c,.int k2 d] 1).run P w=.ok (.int k2 d) w:=mM l1.1 J w
 rw[run_equalIn_array w (m+1) _ _ h1 h3,h4,show List.range 2=[0,1] from rfl]
 simp only[Op.eqItems,Sem.run_bind,Sem.run_ite,Sem.run_pure,apj,p1,p2,p3,p4,l1.2 m w,l2.2 m w,Result.andThen_ok]
 by_cases e1:a=c<;>by_cases e2:b=d<;>simp[e1,e2]
section
variable {n:Nat} {ops:Array Oper} {f:aN} {w:aH} {K:aN→aH→Prop} {x y c:Operand} {d:Nat} {ty T T2:TypeId} {ps:String} {af:Array Edge}
end
abbrev K2 (p:Int×Int):Value:=.agg #[.int .i64 p.1,.int .i64 p.2]
abbrev KV:=List ((Int×Int)×Int)
structure DL (P:Program) (kt:TypeId):Prop where
 u:∃d,P.underlying kt=some d
 eq:∀a b w,(Op.equal kt (K2 a) (K2 b)).run P w=.ok (decide (a=b)) w
 Cg:∀e a w,(Instr.checkKey e 10000 kt (K2 a)).run P w=.ok () w
theorem Lq (a b:Int×Int):(decide (a.1=b.1)&&decide (a.2=b.2))=decide (a=b):=by
 rw[anw];simp[Prod.ext_iff]
theorem BM {kk:IntKind} (h:P.underlying t=some (.int k)) (e:Bool) (m:Nat) (w:aH):(Instr.checkKey e (m+1) t (.int kk a)).run P w=.ok () w:=by
 simp[Instr.checkKey,underlying,h]
theorem af1 (h:QR P T=[some (0,0),some (1,0)]):∃f g,(P.fieldsOf T).toList=[f,g]∧f.name≠ "_"∧g.name≠ "_"∧f.offset=0∧g.offset=1∧(∃k,P.underlying f.type=some (.int k))∧∃k,P.underlying g.type=some (.int k):=by
 unfold QR at h
 rcases hl:(P.fieldsOf T).toList with _|⟨f,_|⟨g,_|⟨q,r⟩⟩⟩
 ·rw[hl] at h;simp at h
 ·rw[hl] at h;simp at h
 ·rw[hl] at h
  simp only[anA,List.map_nil,aoj,and_true] at h
  obtain⟨h1,h2⟩:=h
  have side:∀(q:Field) (o:Nat),(if q.name= "_" then none else (nk P q.type).map fun k=>(q.offset,k))=some (o,0)→q.name≠ "_"∧q.offset=o∧∃k,P.underlying q.type=some (.int k):=by
   intro q o hq
   split at hq
   ·cases hq
   ·rename_i hn
    obtain⟨k,hk,he⟩:=anC.1 hq
    simp only[anS] at he
    obtain⟨rfl,rfl⟩:=he
    exact⟨hn,J,GJ hk⟩
  obtain⟨a1,a2,a3⟩:=side f 0 h1
  obtain⟨b1,b2,b3⟩:=side g 1 h2
  exact⟨f,g,J,a1,b1,a2,b2,a3,b3⟩
 ·rw[hl] at h;simp at h
theorem zD (F:Pq P kt [some (0,0),some (1,0)]):DL P kt where
 u:=⟨_,F.u⟩
 eq a b w:=by
  have h:=F.eq (xs:=#[.int .i64 a.1,.int .i64 a.2]) (ys:=#[.int .i64 b.1,.int .i64 b.2]) (rs:=[decide (a.1=b.1),decide (a.2=b.2)]) ⟨⟨_,_,_,J,J,J⟩,⟨_,_,_,J,J,J⟩,trivial⟩ 9998 w
  rw[show Op.equal kt (K2 a) (K2 b)=Op.equalIn (9998+2) kt (K2 a) (K2 b) from rfl,h,←Lq]
  simp
 Cg e a w:=by
  obtain⟨f,g,hl,h1,h2,h3,h4,⟨k1,h5⟩,⟨k2,h6⟩⟩:=af1 F.k
  have p1:(part f.type #[.int .i64 a.1,.int .i64 a.2] 0).run P w=.ok (.int .i64 a.1) w:=mM (Bj h5 J) J w
  have p2:(part g.type #[.int .i64 a.1,.int .i64 a.2] 1).run P w=.ok (.int .i64 a.2) w:=mM (Bj h6 J) J w
  have c1:=BM (P:=P) (kk:=.i64) (a:=a.1) h5 e 9998 w
  have c2:=BM (P:=P) (kk:=.i64) (a:=a.2) h6 e 9998 w
  show (Instr.checkKey e (9999+1) kt (.agg #[.int .i64 a.1,.int .i64 a.2])).run P w=_
  rw[show (9999:Nat)=9998+1 from rfl]
  generalize 9998=q at c1 c2 ⊢
  unfold Instr.checkKey
  simp only[Sem.run_bind,run_underlying F.u,Result.andThen_ok]
  rw[←Array.forIn_toList,hl]
  simp only[List.forIn_cons,List.forIn_nil,apA,h1,h2,h3,h4,not_false_eq_true,aoP,Sem.run_bind,p1,p2,Result.andThen_ok,Sem.run_pure,c1,c2]
theorem Qf (F:Uu P kt):DL P kt where
 u:=by obtain⟨e,k,i,h1,_⟩:=F.h;exact⟨_,h1⟩
 eq a b w:=by rw[show Op.equal kt (K2 a) (K2 b)=Op.equalIn (9998+2) kt (K2 a) (K2 b) from rfl,F.eq 9998 w,Lq]
 Cg e a w:=by
  obtain⟨t,k,i,h1,h2,h3,h4⟩:=F.h
  have p1:(part t #[.int .i64 a.1,.int .i64 a.2] 0).run P w=.ok (.int .i64 a.1) w:=mM (Bj h2 J) J w
  have p2:(part t #[.int .i64 a.1,.int .i64 a.2] 1).run P w=.ok (.int .i64 a.2) w:=mM (Bj h2 J) J w
  have c1:=BM (P:=P) (kk:=.i64) (a:=a.1) h2 e 9998 w
  have c2:=BM (P:=P) (kk:=.i64) (a:=a.2) h2 e 9998 w
  show (Instr.checkKey e (9999+1) kt (.agg #[.int .i64 a.1,.int .i64 a.2])).run P w=_
  have hs:(sizeOf t).run P w=.ok 1 w:=by rw[run_sizeOf w h3,h4]
  rw[show (9999:Nat)=9998+1 from rfl]
  generalize 9998=q at c1 c2 ⊢
  unfold Instr.checkKey
  simp only[Sem.run_bind,run_underlying h1,Result.andThen_ok,Std.Legacy.Range.forIn_eq_forIn_range',Std.Legacy.Range.size,ap0,Nat.add_one_sub_one,Nat.div_one]
  rw[show List.range' 0 2=[0,1] from rfl]
  simp only[List.forIn_cons,List.forIn_nil,Sem.run_bind,hs,p1,p2,apH,Nat.one_mul,Result.andThen_ok,Sem.run_pure,c1,c2]
theorem get_map {es:Array MapEntry} {clock:Nat} (hb:w.heap[r]? =some (.map es clock)):(getObj r).run P w=.ok (.map es clock) w:=by
 simp[getObj,Sem.run,hb]
theorem DV {es:Array MapEntry} {clock:Nat} (o:Obj) (hb:w.heap[r]? =some (.map es clock)):(setObj r o).run P w=.ok () {w with heap:=w.heap.setIfInBounds r o}:=by
 simp[setObj,Sem.run,hb]
theorem A4 {o o':Obj} (hb:w.heap[r]? =some o):(w.heap.setIfInBounds r o')[r]? =some o'∧∀r',r'≠r→(w.heap.setIfInBounds r o')[r']? =w.heap[r']?:=by
 have eo:r<w.heap.size:=(anJ.1 hb).1
 exact⟨by simp[eo],fun r' gA=>by simp[Ne.symm gA]⟩
def getM:KV→Int×Int→Option Int
 |[],_=>none
 |x::xs,k=>if k=x.1 then some x.2 else getM xs k
def js:KV→Int×Int→Int→KV
 |[],k,v=>[(k,v)]
 |x::xs,k,v=>if k=x.1 then (k,v)::xs else x::js xs k v
theorem V6 (m:KV) (k k':Int×Int) (v:Int):getM (js m k v) k'=if k'=k then some v else getM m k':=by
 induction m with
 |nil=>simp[js,getM]
 |cons x xs ih=>
  unfold js
  by_cases h:k=x.1
  ·subst h
   simp only[aoP,getM]
   by_cases h':k'=x.1<;>simp[h']
  ·rw[anf h]
   simp only[getM,ih]
   by_cases h':k'=x.1
   ·rw[anc h',anc h',anf (by rw[h'];exact fun e=>h e.symm)]
   ·rw[anf h',anf h']
def pJ:KV→Int×Int→Nat→Option (Nat×Value)
 |[],_,_=>none
 |x::xs,k,i=>if k=x.1 then some (i,.int .i64 x.2) else pJ xs k (i+1)
theorem Jt:∀(m:KV) (k:Int×Int) (i:Nat),(pJ m k i).map (·.2)=(getM m k).map fun v=>Value.int .i64 v
 |[],_,_=>rfl
 |x::xs,k,i=>by
  unfold pJ getM
  split
  ·rfl
  ·exact Jt xs k<|i+1
def ky (es:List MapEntry) (m:KV):Prop:=es.map (fun e=>(e.key,e.val))=m.map fun x=>(K2 x.1,Value.int .i64 x.2)
theorem Po {kt:TypeId} (F:DL P kt) (k:Int×Int) (w:aH):∀(m:KV) (es:List MapEntry) (i:Nat),ky es m→(Instr.findAsking kt (K2 k) es i).run P w=.ok (pJ m k i) w
 |[],es,i,h=>by
  have:es=[]:=by simpa [ky] using h
  subst this;simp[Instr.findAsking,pJ]
 |x::xs,es,i,h=>by
  match es,h with
  |e::es,h=>
   simp only[ky,anA,aoj,anS] at h
   obtain⟨⟨h1,h2⟩,h3⟩:=h
   have ih:=Po F k w xs es (i+1) h3
   by_cases hk:k=x.1
   ·simp[Instr.findAsking,pJ,h1,h2,F.eq,hk]
   ·simp[Instr.findAsking,pJ,h1,h2,F.eq,hk,ih]
  |[],h=>simp[ky] at h
theorem EJ (d:TypeDesc) (cs:Array Value) (e:MapEntry) (es:List MapEntry) (i:Nat):Instr.findNow d (.agg cs) (e::es) i=none:=by
 have:Instr.sameNow d (.agg cs) e.key=none:=by
  cases d<;>cases e.key<;>rfl
 simp[Instr.findNow,this]
theorem Mx {kt:TypeId} (F:DL P kt) (k:Int×Int) (w:aH) {m:KV} {es:List MapEntry} (h:ky es m):(Instr.findKey kt (K2 k) es).run P w=.ok (pJ m k 0) w:=by
 obtain⟨d,hd⟩:=F.u
 cases es with
 |nil=>
  have:m=[]:=by simpa [ky] using h.symm
  subst this
  simp[Instr.findKey,run_underlying hd,Result.andThen,Instr.findNow,pJ]
 |cons e es=>
  have h0:Instr.findNow d (K2 k) (e::es) 0=none:=EJ d _ e es 0
  simp[Instr.findKey,run_underlying hd,Result.andThen,h0,Po F k w m _ 0 h]
theorem He:∀(m:KV) (es:List MapEntry) (k:Int×Int) (i j:Nat) (v:Value),ky es m→pJ m k i=some (j,v)→∃q e,j=i+q∧es[q]? =some e∧e.key=K2 k∧∀(c:Nat) (u:Int),ky (es.modify q fun e=>{e with key:=K2 k,val:=.int .i64 u}) (js m k u)
 |[],_,_,_,_,_,_,h=>by cases h
 |x::xs,es,k,i,j,v,hr,h=>by
  match es,hr with
  |[],hr=>simp[ky] at hr
  |e::es,hr=>
   simp only[ky,anA,aoj,anS] at hr
   obtain⟨⟨h1,h2⟩,h3⟩:=hr
   unfold pJ at h
   split at h
   ·rename_i hk
    simp only[ann,anS] at h
    refine⟨0,e,h.1.symm,J,by rw[h1,hk],fun c u=>?_⟩
    unfold js
    rw[anc hk]
    simp[ky,h3]
   ·rename_i hk
    obtain⟨q,e',I_,nI,EB,EA⟩:=He xs es k (i+1) j v h3 h
    refine⟨q+1,e',by omega,by simpa using nI,EB,fun c u=>?_⟩
    have:=EA c u
    unfold js
    rw[anf hk]
    simp only[ky,List.modify_succ_cons,anA,aoj,anS]
    exact⟨⟨h1,h2⟩,this⟩
theorem Hf:∀(m:KV) (es:List MapEntry) (k:Int×Int) (i:Nat),ky es m→pJ m k i=none→∀(c:Nat) (u:Int),ky (es++[⟨K2 k,.int .i64 u,c⟩]) (js m k u)
 |[],es,k,_,hr,_,c,u=>by
  have:es=[]:=by simpa [ky] using hr
  subst this;simp[ky,js]
 |x::xs,es,k,i,hr,h,c,u=>by
  match es,hr with
  |[],hr=>simp[ky] at hr
  |e::es,hr=>
   simp only[ky,anA,aoj,anS] at hr
   obtain⟨⟨h1,h2⟩,h3⟩:=hr
   unfold pJ at h
   split at h
   ·cases h
   ·rename_i hk
    have:=Hf xs es k (i+1) h3 h c u
    unfold js
    rw[anf hk]
    simp only[ky,apw,anA,aoj,anS]
    exact⟨⟨h1,h2⟩,this⟩
def cb (b:Nat) (m:KV):Item:=
 ⟨some b,fun _ w=>∃es clock,w.heap[b]? =some (.map es clock)∧ky es.toList m∧∀x∈m,aJ x.2,fun h _ hb=>by
  obtain⟨es,c,h1,h2⟩:=h
  exact⟨es,c,(hb b rfl).trans h1,h2⟩⟩
theorem ZV {m:KV} (h:∀x∈m,aJ x.2) {k:Int×Int} {v:Int} (hv:getM m k=some v):aJ v:=by
 induction m with
 |nil=>cases hv
 |cons x xs ih=>
  unfold getM at hv
  split at hv
  ·cases hv;exact h x (by simp)
  ·exact ih (fun y hy=>h y<|by simp[hy]) hv
theorem Oj {m:KV} (h:∀x∈m,aJ x.2) (k:Int×Int) {v:Int} (hv:aJ v):∀x∈js m k v,aJ x.2:=by
 induction m with
 |nil=>intro x hx;simp[js] at hx;subst hx;exact hv
 |cons y ys ih=>
  intro x hx
  unfold js at hx
  split at hx
  ·rcases ans.1 hx with rfl|hx
   ·exact hv
   ·exact h x<|by simp[hx]
  ·rcases ans.1 hx with rfl|hx
   ·exact h x<|by simp
   ·exact ih (fun z hz=>h z<|by simp[hz]) x hx
structure IA (P:Program) (T:TypeId):Prop where
 h:∃kt et,P.underlying T=some (.map kt et)∧DL P kt∧∀w,(zeroValue et).run P w=.ok (.int .i64 0) w
theorem Vv {et:TypeId} {k b:Nat} {a:Bool} (h:P.underlying T=some (.map kt et)) (K:DL P kt) (F:ef P et k a b (.int .i64 0)):IA P T:=⟨kt,et,h,K,F.uw⟩
section
variable {n:Nat} {ops:Array Oper} {f:aN} {w:aH} {K:aN→aH→Prop} {x y c:Operand} {d:Nat} {ty T T2:TypeId} {ps:String} {af:Array Edge} {M0:bW} {w0:aH} {l:List Item} {m:KV} {b:Nat}
theorem mm (H:HI M0 w0 w l) (h:∀b w',Ext w w'→HI M0 w0 w' (cb b []::l)→K (ck f d (.map (some b))) w'):SO P n ops ⟨some d,.makeMap T none,ty,ps,af,none⟩ f w K:=
 SO.value (v:=.map (some w.heap.size)) (w':=w.alloc (.map #[] 0)) (by simp[execOp,run_makeMap]) (h _ _ (Ext.alloc w _)
  (H.new (Ext.alloc w _) w.heap.size rfl (ane _) (by simp) ⟨#[],0,heap_alloc_new w _,rfl,fun _ h=>(by cases h)⟩))
theorem Xt {k:Int×Int} (F:IA P T) (H:HI M0 w0 w l) (i:Nat) (hi:l[i]? =some (cb b m)) (ox:bI n x=true) (oy:bI n y=true) (hx:ev f x=.map (some b)) (hy:ev f y=K2 k)
  (h:aJ ((getM m k).getD 0)→K (ck f d (.tuple #[.int .i64 ((getM m k).getD 0),.bool (getM m k).isSome])) w):SO P n ops ⟨some d,.lookup T x y true,ty,ps,af,none⟩ f w K:=by
 obtain⟨kt,et,h1,h2,h3⟩:=F.h
 obtain⟨es,clock,g1,g2,g3⟩:=H.at_ i hi
 have hI:aJ ((getM m k).getD 0):=by
  cases hg:getM m k with
  |none=>unfold aJ;simp
  |some v=>exact ZV g3 hg
 refine SO.value (v:=.tuple #[.int .i64 ((getM m k).getD 0),.bool (getM m k).isSome]) (w':=w) ?_<|h hI
 have hf:=Jt m k 0
 have hr:=Mx h2 k w g2
 simp only[execOp,aL ox,aL oy,hx,hy,Instr.lookup,Sem.run_bind,run_underlying h1,get_map g1,h2.Cg,hr,Result.andThen_ok,Sem.run_pure]
 cases hq:pJ m k 0 with
 |none=>
  have hg:getM m k=none:=by rw[hq] at hf;simpa using hf.symm
  simp[hq,hg,h3 w]
 |some p=>
  obtain⟨j,v⟩:=p
  rw[hq] at hf
  cases hg:getM m k with
  |none=>rw[hg] at hf;cases hf
  |some u=>
   rw[hg] at hf
   simp only[aov,ann] at hf
   subst hf
   simp
theorem Xp {dd:Option Nat} {k:Int×Int} {v:Int} (F:IA P T) (H:HI M0 w0 w l) (i:Nat) (hi:l[i]? =some (cb b m)) (ox:bI n x=true) (oy:bI n y=true) (oc:bI n c=true) (hx:ev f x=.map (some b)) (hy:ev f y=K2 k) (hc:ev f c=.int .i64 v) (hv:aJ v)
  (h:∀w',HI M0 w0 w' (l.set i (cb b (js m k v)))→K (cZ f dd undef) w'):SO P n ops ⟨dd,.mapUpdate T x y c,ty,ps,af,none⟩ f w K:=by
 obtain⟨kt,et,h1,h2,h3⟩:=F.h
 obtain⟨es,clock,g1,g2,g3⟩:=H.at_ i hi
 have hr:=Mx h2 k w g2
 have eo:b<w.heap.size:=(anJ.1 g1).1
 have fin:∀(o:Obj),(∀M w',w'.heap[b]? =some o→(cb b (js m k v)).holds M w')→
   HI M0 w0 {w with heap:=w.heap.setIfInBounds b o} (l.set i (cb b (js m k v))):=by
  intro o ho
  refine H.vR i hi J J J (by simp) (ane _) (fun q hq gA=>?_) (fun q hq=>?_)<|ho _ _ (A4 g1).1
  ·exact(A4 g1).2 q fun e=>gA (by rw[e];rfl)
  ·cases hq
   exact⟨by simpa using eo,.inl rfl⟩
 cases hq:pJ m k 0 with
 |none=>
  refine SO.skip (w':={w with heap:=w.heap.setIfInBounds b (.map (es.push ⟨K2 k,.int .i64 v,clock⟩) (clock+1))}) ?_ (h _<|fin _ ?_)
  ·simp[execOp,aL ox,aL oy,aL oc,hx,hy,hc,Instr.mapUpdate,run_underlying h1,get_map g1,h2.Cg,hr,hq,DV _ g1]
  ·intro M w' hw
   exact⟨_,_,hw,by rw[Array.toList_push];exact Hf m es.toList k 0 g2 hq clock v,Oj g3 k hv⟩
 |some p=>
  obtain⟨j,u⟩:=p
  obtain⟨q,e,I_,nI,EB,EA⟩:=He m es.toList k 0 j u g2 hq
  obtain rfl:j=q:=by omega
  have he:es[j]? =some e:=by simpa using nI
  have hsb:(Instr.keyThatStays e.key (K2 k)).run P w=.ok (K2 k) w:=by
   rw[EB];simp[Instr.keyThatStays,Instr.sameBits]
  refine SO.skip (w':={w with heap:=w.heap.setIfInBounds b (.map (es.modify j fun e=>{e with key:=K2 k,val:=.int .i64 v}) clock)}) ?_ (h _<|fin _ ?_)
  ·simp[execOp,aL ox,aL oy,aL oc,hx,hy,hc,Instr.mapUpdate,run_underlying h1,get_map g1,h2.Cg,hr,hq,he,hsb,DV _ g1]
  ·intro M w' hw
   exact⟨_,_,hw,by rw[Array.toList_modify];exact EA clock v,Oj g3 k hv⟩
end
end
end Go.Ew
namespace Go.Ew
end Go.Ew
namespace Go.Ew
variable {s:bf} {j i k:Nat} {c:UInt8} {m v val:Int}
abbrev gT:=Bool×bf×Int
abbrev aO:=Int×Int×Bool×Int×Int
abbrev dh:=List (List gT)
def wg (c:UInt8):Bool:=!(decide (((c.toNat:Nat):Int)<97))&&!(decide ((122:Int)<((c.toNat:Nat):Int)))
def mC (s:bf):Bool:=s.data.toList.all wg&&decide (1≤s.size)&&decide (s.size≤8)
theorem Pg (h:s[((j:Nat):Int).toNat]? =some c):s.data.toList[((j:Nat):Int).toNat]? =some c:=by
 rw[dP] at h ⊢
 rw[aou]
 have hj:j<s.size:=by
  refine anV fun hn=>?_
  rw[getElem?_neg s j hn] at h;cases h
 rw[getElem?_pos s j hj] at h
 rw[Array.getElem?_eq_getElem hj]
 exact h
theorem OF (h:s[((j:Nat):Int).toNat]? =some c) (h1:wg c=false):false=mC s:=by
 unfold mC;rw[M5 (Pg h) h1];rfl
theorem LH (h:(s.data.toList.take j).all wg=true) (hj:s.size≤j):s.data.toList.all wg=true:=by
 rwa [anj (by rw[anW];exact hj)] at h
theorem abq (h:decide (((c.toNat:Nat):Int)<97)=true):wg c=false:=by unfold wg;rw[h];rfl
theorem abr (h:decide ((122:Int)<((c.toNat:Nat):Int))=true):wg c=false:=by unfold wg;rw[h];simp
theorem Zq (h:decide (((c.toNat:Nat):Int)<97)=false) (h1:decide ((122:Int)<((c.toNat:Nat):Int))=false):wg c=true:=by unfold wg;rw[h,h1];rfl
theorem vz {α:Type} {h:List (List α)} {x:List α} (hx:h[((j:Nat):Int).toNat]? =some x):(h.take (j+1)).flatten=(h.take j).flatten++x:=by
 rw[nX hx];simp
theorem uN {α:Type} {h:List (List α)} {x:List α} (hx:h[((j:Nat):Int).toNat]? =some x):((h.take j).flatten).length+x.length≤h.flatten.length:=by
 have h1:h.flatten=(h.take (j+1)).flatten++(h.drop (j+1)).flatten:=by rw[←List.flatten_append,aor]
 rw[h1,vz hx];simp
def Al (o:gT):Bool:=mC o.2.1
def jj (h:dh):Bool:=h.flatten.all Al&&decide (h.flatten.length≤4096)
theorem UR {h:dh} {x:gT} (hx:h.flatten[i]? =some x) (h1:mC x.2.1=false):false=jj h:=by
 unfold jj;rw[M5 hx h1];rfl
theorem RN {h:dh} (hs:(h.flatten.take j).all Al=true) (hj:h.flatten.length≤j):decide ((h.flatten.length:Int)≤4096)=jj h:=by
 unfold jj;rw[mg hj] at hs;rw[hs,an_,aow];omega
def Aj (o:gT):Bool:=decide (o.2.1.size≤20)
def n9 (h:dh) (m:Int):Bool:=decide ((h.length:Int)≤m)&&decide ((h.flatten.length:Int)≤m)&&h.flatten.all Aj
theorem Rz {h:dh}:n9 h m=true↔(h.length:Int)≤m∧(h.flatten.length:Int)≤m∧∀o∈h.flatten,o.2.1.size≤20:=by
 unfold n9
 rw[eW,eW,anb,anb,ani,and_assoc]
 unfold Aj
 simp only[anb]
theorem Ry {h:dh} (hm:m<(h.length:Int)):false=n9 h m:=by unfold n9;rw[ank aj];rfl
theorem Rx {h:dh} (hm:m<(h.flatten.length:Int)):false=n9 h m:=by unfold n9;rw[show decide ((h.flatten.length:Int)≤m)=false from ank aj];simp
theorem Rw {h:dh} {x:gT} (hx:h.flatten[i]? =some x) (h1:20<(x.2.1.size:Int)):false=n9 h m:=by
 unfold n9;rw[M5 hx (show Aj x=false from ank aj)];simp
theorem RA {h:dh} (h1:¬m<(h.length:Int)) (h2:¬m<(h.flatten.length:Int)) (hs:(h.flatten.take j).all Aj=true) (hj:h.flatten.length≤j):true=n9 h m:=by
 unfold n9;rw[mg hj] at hs;rw[hs,anh aj,anh aj];rfl
def GQ (s:bf) (t:bf):Bool:=decide (t=s)
def gC (l:List bf) (s:bf):Int:=eM (GQ s) l
def Iv (vs:List bf) (s:bf):List bf:=if gC vs s<0 then vs++[s] else vs
def Lx (vs:List bf) (s:bf):Int:=if gC vs s<0 then (vs.length:Int) else gC vs s
abbrev zo:=List bf×List aO
def uS (i:Nat) (st:zo) (x:gT×Nat):zo:=(Iv st.1 x.1.2.1,st.2++[(((i:Nat):Int),((x.2:Nat):Int),x.1.1,Lx st.1 x.1.2.1,x.1.2.2)])
def jL (i:Nat) (st:zo) (ops:List gT) (k:Nat):zo:=((ops.take k).zipIdx).foldl (uS i) st
def Lb (i:Nat) (st:zo) (ops:List gT):zo:=jL i st ops ops.length
def iF (h:dh) (j:Nat):zo:=((h.take j).zipIdx).foldl (fun st x=>Lb x.2 st x.1) ([],[])
theorem AU {α:Type} {l:List α} {x:α} (hx:l[((k:Nat):Int).toNat]? =some x):(l.take (k+1)).zipIdx=(l.take k).zipIdx++[(x,k)]:=by
 have hk:k<l.length:=by rw[dP] at hx;exact(dE.1 hx).1
 rw[nX hx,List.zipIdx_append]
 simp;omega
theorem A1 (i:Nat) (st:zo) (ops:List gT):jL i st ops 0=st:=rfl
theorem xn {st:zo} {ops:List gT} {x:gT} (hx:ops[((k:Nat):Int).toNat]? =some x):jL i st ops (k+1)=uS i (jL i st ops k) (x,k):=by
 unfold jL;rw[AU hx,aoX];rfl
theorem zh {h:dh} {x:List gT} (hx:h[((j:Nat):Int).toNat]? =some x):iF h (j+1)=Lb j (iF h j) x:=by
 unfold iF;rw[AU hx,aoX];rfl
theorem fB {α:Type} {h:List (List α)} {x:List α} (hx:h[((j:Nat):Int).toNat]? =some x):h.getD j []=x:=by
 rw[dP] at hx;rw[ik,hx];rfl
theorem BR {h:dh} (hj:j<h.length) (hk:(h.getD j []).length≤k):jL j (iF h j) (h.getD j []) k=iF h (j+1):=by
 have hx:h[((j:Nat):Int).toNat]? =some h[j]:=by rw[dP];exact eI hj
 rw[zh hx,fB hx] at *
 unfold Lb jL
 rw[anj hk,aoa]
theorem HK (i:Nat) (st:zo) (ops:List gT):∀k,k≤ops.length→(jL i st ops k).2.length=st.2.length+k∧(jL i st ops k).1.length≤st.1.length+k
 |0,_=>by rw[A1];omega
 |k+1,h=>by
  have ih:=HK i st ops k aj
  have hx:ops[((k:Nat):Int).toNat]? =some ops[k]:=by rw[dP];exact eI aj
  rw[xn hx]
  have e1:(uS i (jL i st ops k) (ops[k],k)).2.length=(jL i st ops k).2.length+1:=by unfold uS;simp
  have e2:(uS i (jL i st ops k) (ops[k],k)).1.length≤(jL i st ops k).1.length+1:=by unfold uS Iv;simp only;split<;>simp
  omega
theorem BP (h:dh):∀j,j≤h.length→(iF h j).2.length=((h.take j).flatten).length∧(iF h j).1.length≤((h.take j).flatten).length
 |0,_=>by simp[iF]
 |j+1,hj=>by
  have ih:=BP h j aj
  have hx:h[((j:Nat):Int).toNat]? =some h[j]:=by rw[dP];exact eI aj
  rw[zh hx,vz hx,fF]
  have:=HK j (iF h j) h[j] h[j].length<|ane _
  unfold Lb
  omega
theorem qf {h:dh} {x:List gT} (hx:h[((j:Nat):Int).toNat]? =some x) (hk:k<x.length):
  (jL j (iF h j) x k).2.length+1≤h.flatten.length∧(jL j (iF h j) x k).1.length+1≤h.flatten.length:=by
 have hj:j<h.length:=by rw[dP] at hx;exact(dE.1 hx).1
 have h1:=BP h j aj
 have h2:=HK j (iF h j) x k aj
 have h3:=uN hx
 omega
def y_ (h:dh):List bf:=(iF h h.length).1
def jy (h:dh):List aO:=(iF h h.length).2
theorem Ju (h:dh):(jy h).length=h.flatten.length:=by
 have:=(BP h h.length<|ane _).1
 rwa [aoa] at this
def mu (h:dh):List bf:=if jj h then y_ h else []
def cS (h:dh):List aO:=if jj h then jy h else []
def lE (h:dh):Int:=if jj h then 0 else 1
theorem tD {h:dh} (hr:jj h=true):mu h=y_ h∧cS h=jy h∧lE h=0:=by unfold mu cS lE;simp[hr]
theorem xG {h:dh} (hr:jj h=false):mu h=[]∧cS h=[]∧lE h=1:=by unfold mu cS lE;simp[hr]
theorem OB (h:dh):(cS h).length≤h.flatten.length:=by
 unfold cS;split
 ·rw[Ju];exact ane _
 ·simp
theorem xr {st:zo} {ops:List gT} {x:gT} (hx:ops[((k:Nat):Int).toNat]? =some x) (hf:gC (jL i st ops k).1 x.2.1<0):
  (jL i st ops k).1++[x.2.1]=(jL i st ops (k+1)).1∧(jL i st ops k).2++[(((i:Nat):Int),((k:Nat):Int),x.1,((jL i st ops k).1.length:Int),x.2.2)]=(jL i st ops (k+1)).2:=by
 rw[xn hx];unfold uS Iv Lx;rw[anc hf,anc hf];exact⟨rfl,rfl⟩
theorem xp {st:zo} {ops:List gT} {x:gT} (hx:ops[((k:Nat):Int).toNat]? =some x) (hf:¬gC (jL i st ops k).1 x.2.1<0):
  (jL i st ops k).1=(jL i st ops (k+1)).1∧(jL i st ops k).2++[(((i:Nat):Int),((k:Nat):Int),x.1,gC (jL i st ops k).1 x.2.1,x.2.2)]=(jL i st ops (k+1)).2:=by
 rw[xn hx];unfold uS Iv Lx;rw[anf hf,anf hf];exact⟨rfl,rfl⟩
def l7 (v val:Int) (x:aO):Bool:=x.2.2.1&&decide (x.2.2.2.1=v)&&decide (x.2.2.2.2=val)
def gG (aF:List aO) (v val:Int):Int:=eM (l7 v val) aF
def zR (aF:List aO) (j:Nat) (x:aO):Bool:=x.2.2.1&&(decide (x.2.2.2.2=0)||decide (max (gG aF x.2.2.2.1 x.2.2.2.2) 0<((j:Nat):Int)))
def oD (aF:List aO) (j:Nat):Bool:=(aF[j]?).any (zR aF j)
def Hg (aF:List aO):Option Nat:=(List.range aF.length).find? (oD aF)
def dv (aF:List aO):Int×Int×Int:=match Hg aF with
 |none=>(0,0,0)
 |some j=>match aF[j]? with
  |none=>(0,0,0)
  |some x=>if x.2.2.2.2=0 then (((j:Nat):Int),((j:Nat):Int),5) else (max (gG aF x.2.2.2.1 x.2.2.2.2) 0,((j:Nat):Int),4)
theorem Z4 {aF:List aO} (h:∀k,k<j→oD aF k=false) (hj:aF.length≤j):Hg aF=none:=by
 unfold Hg;rw[aoH]
 intro k hk
 rw[ang] at hk
 rw[h k aj];simp
theorem O3 {aF:List aO} (h:∀k,k<j→oD aF k=false) (hj:j<aF.length) (hb:oD aF j=true):Hg aF=some j:=by
 unfold Hg
 rw[apk]
 refine⟨hb,List.range j,(List.range<|aF.length-j-1).map (fun i=>j+1+i),?_,fun a ha=>by rw[h a (ang.1 ha)];rfl⟩
 have:aF.length=j+(1+(aF.length-j-1)):=by omega
 rw[this,nZ,nZ]
 simp[apV]
theorem Hq {aF:List aO} {x:aO} (hx:aF[((j:Nat):Int).toNat]? =some x):oD aF j=zR aF j x:=by
 rw[dP] at hx;unfold oD;rw[hx];rfl
theorem BO {aF:List aO} {x:aO} (h:∀k,k<j→oD aF k=false) (hx:aF[((j:Nat):Int).toNat]? =some x) (hb:zR aF j x=false):∀k,k<j+1→oD aF k=false:=by
 intro k hk
 rcases aoS.1 hk with h1|rfl
 ·exact h k h1
 ·rw[Hq hx];exact hb
theorem xa {aF:List aO} (h:∀k,k<j→oD aF k=false) (hj:aF.length≤j):dv aF=(0,0,0):=by
 unfold dv;rw[Z4 h hj]
theorem uQ {aF:List aO} {x:aO} (h:∀k,k<j→oD aF k=false) (hx:aF[((j:Nat):Int).toNat]? =some x) (hw:x.2.2.1=true) (h0:x.2.2.2.2=0):dv aF=(((j:Nat):Int),((j:Nat):Int),5):=by
 have hj:j<aF.length:=by rw[dP] at hx;exact(dE.1 hx).1
 have hb:oD aF j=true:=by rw[Hq hx];unfold zR;simp[hw,h0]
 unfold dv;rw[O3 h hj hb]
 rw[dP] at hx
 simp only[hx,h0,aoP]
theorem tc {aF:List aO} {j:Nat} {x:aO} (h:∀k,k<j→oD aF k=false) (hx:aF[((j:Nat):Int).toNat]? =some x) (hw:x.2.2.1=true) (h0:¬x.2.2.2.2=0)
  (h1:max (gG aF x.2.2.2.1 x.2.2.2.2) 0<((j:Nat):Int)):dv aF=(max (gG aF x.2.2.2.1 x.2.2.2.2) 0,((j:Nat):Int),4):=by
 have hj:j<aF.length:=by rw[dP] at hx;exact(dE.1 hx).1
 have hb:oD aF j=true:=by rw[Hq hx];unfold zR;simp[hw,h1]
 unfold dv;rw[O3 h hj hb]
 rw[dP] at hx
 simp only[hx,h0,an3]
theorem MR {aF:List aO} {x:aO} (hw:x.2.2.1=false):zR aF j x=false:=by unfold zR;rw[hw];rfl
theorem MT {aF:List aO} {x:aO} (h0:¬x.2.2.2.2=0) (h1:¬max (gG aF x.2.2.2.1 x.2.2.2.2) 0<((j:Nat):Int)):zR aF j x=false:=by
 unfold zR;rw[ank h0,ank h1];simp
theorem Rg {aF:List aO} {x:aO} (hx:aF[((j:Nat):Int).toNat]? =some x) (h1:x.2.2.1=true) (h2:decide (x.2.2.2.1=v)=true) (h3:decide (x.2.2.2.2=val)=true) (hs:(aF.take j).any (l7 v val)=false):((j:Nat):Int)=gG aF v val:=
 uF hx hs (by unfold l7;rw[h1,h2,h3];rfl)
theorem NX {aF:List aO} (hs:(aF.take j).any (l7 v val)=false) (h:aF.length≤j):(-1:Int)=gG aF v val:=vj hs h
theorem ZJ {x:aO} (h:x.2.2.1=false):l7 v val x=false:=by unfold l7;rw[h];rfl
theorem OL {x:aO} (h:decide (x.2.2.2.1=v)=false):l7 v val x=false:=by unfold l7;rw[h];simp
theorem OK {x:aO} (h:decide (x.2.2.2.2=val)=false):l7 v val x=false:=by unfold l7;rw[h];simp
def tX (aF:List aO) (j:Nat) (m:KV):Prop:=∀p:Int×Int,getM m p=((aF.take j).findIdx? (l7 p.1 p.2)).map fun i=>((i:Nat):Int)
theorem Hb (aF:List aO):tX aF 0 []:=by intro p;simp[getM]
theorem C0 {aF:List aO} {p:aO→Bool} (h:(aF.take j).findIdx? p=some i):eM p aF=((i:Nat):Int):=by
 unfold eM
 have:aF.findIdx? p=some i:=by
  conv=>lhs;rw[←aor j aF]
  rw[ap3,h];rfl
 rw[this]
theorem I8 {aF:List aO} {p:aO→Bool} {x:aO} (hx:aF[((j:Nat):Int).toNat]? =some x) (hp:p x=true) (h:(aF.take j).findIdx? p=none):eM p aF=((j:Nat):Int):=by
 refine(uF hx ?_ hp).symm
 rw[ao9] at h
 rw[aoZ]
 intro y hy;rw[h y hy];simp
theorem Jr {aF:List aO} {p:aO→Bool} {x:aO} (hx:aF[((j:Nat):Int).toNat]? =some x):
  (aF.take (j+1)).findIdx? p=((aF.take j).findIdx? p).or (if p x then some j else none):=by
 have hj:j<aF.length:=by rw[dP] at hx;exact(dE.1 hx).1
 rw[nX hx,ap3,iB,aof aj]
 congr 1
 cases hp:p x<;>simp[List.findIdx?_cons,hp]
theorem EI {aF:List aO} {m:KV} {x:aO} (h:tX aF j m) (hx:aF[((j:Nat):Int).toNat]? =some x) (hw:x.2.2.1=false):tX aF (j+1) m:=by
 intro p
 rw[h p,Jr hx,show l7 p.1 p.2 x=false from by unfold l7;rw[hw];rfl]
 simp
theorem Ha {aF:List aO} {m:KV} {x:aO} (h:tX aF j m) (hx:aF[((j:Nat):Int).toNat]? =some x) (hw:x.2.2.1=true) (hn:getM m (x.2.2.2.1,x.2.2.2.2)=none):tX aF (j+1) (js m (x.2.2.2.1,x.2.2.2.2) ((j:Nat):Int)):=by
 intro p
 rw[V6,Jr hx]
 by_cases e:p=(x.2.2.2.1,x.2.2.2.2)
 ·subst e
  rw[h] at hn
  have L8:(aF.take j).findIdx? (l7 x.2.2.2.1 x.2.2.2.2)=none:=by simpa using hn
  rw[anc rfl]
  simp only[L8,show l7 x.2.2.2.1 x.2.2.2.2 x=true from by unfold l7;simp[hw]]
  simp
 ·rw[anf e,h p,show l7 p.1 p.2 x=false from by
   unfold l7;rw[hw]
   simp only[an_,apZ,anr]
   by_cases e1:x.2.2.2.1=p.1
   ·exact .inr fun e2=>e (by rw[Prod.ext_iff];exact⟨e1.symm,e2.symm⟩)
   ·exact .inl e1]
  simp
theorem A5 {aF:List aO} {j:Nat} {m:KV} {x:aO} (h:tX aF j m) (hx:aF[((j:Nat):Int).toNat]? =some x) (hs:(getM m (x.2.2.2.1,x.2.2.2.2)).isSome=true):
  (getM m (x.2.2.2.1,x.2.2.2.2)).getD 0=max (gG aF x.2.2.2.1 x.2.2.2.2) 0∧max (gG aF x.2.2.2.1 x.2.2.2.2) 0<((j:Nat):Int):=by
 rw[h] at hs ⊢
 cases hf:(aF.take j).findIdx? (l7 x.2.2.2.1 x.2.2.2.2) with
 |none=>simp[hf] at hs
 |some i=>
  have hi:i<j:=by
   have:=(anE.1 hf).1
   rw[iB] at this;omega
  have:=C0 hf
  unfold gG
  rw[this]
  simp only[hf,aov,apn]
  omega
theorem Oe {aF:List aO} {m:KV} {x:aO} (h:tX aF j m) (hx:aF[((j:Nat):Int).toNat]? =some x) (hw:x.2.2.1=true) (hs:(getM m (x.2.2.2.1,x.2.2.2.2)).isSome=false):
  getM m (x.2.2.2.1,x.2.2.2.2)=none∧gG aF x.2.2.2.1 x.2.2.2.2=((j:Nat):Int):=by
 have h0:getM m (x.2.2.2.1,x.2.2.2.2)=none:=by simpa using hs
 refine⟨h0,?_⟩
 rw[h] at h0
 have h1:(aF.take j).findIdx? (l7 x.2.2.2.1 x.2.2.2.2)=none:=by simpa using h0
 exact I8 hx (by unfold l7;simp[hw]) h1
end Go.Ew
namespace Go.Ew
open Go.RowKit
section
variable {P:Program} {n:Nat} {ops:Array Oper} {f:aN} {w:aH} {K:aN→aH→Prop} {x y:Operand} {d:Nat} {ty T T2 e:TypeId} {ps:String} {af:Array Edge} {M:bW} {B:Nat} {a:Option Addr} {k c:Nat} {s t:Int}
theorem w8 {i:Int} (h0:0≤i) (h1:i≤255):IntKind.u8.wrap i=i∧(((BitVec.ofInt 8 i).toNat:Nat):Int)=i:=by
 constructor
 ·unfold IntKind.wrap
  simp[IntKind.bits,IntKind.signed]
  omega
 ·rw[ao2]
  show ((i%256).toNat:Int)=i
  omega
end
end Go.Ew
namespace Go.Ew
open Go.RowKit
section
variable {P:Program} {n:Nat} {ops:Array Oper} {f:aN} {w:aH} {K:aN→aH→Prop} {x:Operand} {d:Nat} {ty:TypeId} {ps:String} {af:Array Edge} {a:Addr}
theorem nc (ox:bI n x=true) (hx:ev f x=.pointer (some a)) (h:K (ck f d (.pointer (some a))) w):SO P n ops ⟨some d,.nilCheck x,ty,ps,af,none⟩ f w K:=
 SO.value (v:=.pointer (some a)) (w':=w) (by simp[execOp,aL ox,hx]) h
theorem mf0 {f:aN}:([]:List Operand).map (ev f)=[]:=rfl
theorem Xu {f:aN} {x:Operand} {v:Value} {L:List Operand} {V:List Value} (h:ev f x=v) (t:L.map (ev f)=V):(x::L).map (ev f)=v::V:=by rw[anA,h,t]
theorem mf2 {fn:Fn} {C:List Operand} {V:List Value} (oc:Gw n C=true) (hC:C.map (ev f)=V) (h:K (ck f d (.func fn #[] V.toArray)) w):SO P n ops ⟨some d,.makeFunc fn #[] C.toArray,ty,ps,af,none⟩ f w K:=by
 refine mf oc ?_
 rw[hC];exact h
end
theorem MG {α0 α1 α2 α3 α4 α5 α6 α7 α8 α9 β:Type} (f:α0→α1→α2→α3→α4→α5→α6→α7→α8→α9→β) {x0 y0:α0} {x1 y1:α1} {x2 y2:α2} {x3 y3:α3} {x4 y4:α4} {x5 y5:α5} {x6 y6:α6} {x7 y7:α7} {x8 y8:α8} {x9 y9:α9} (h0:x0=y0) (h1:x1=y1) (h2:x2=y2) (h3:x3=y3) (h4:x4=y4) (h5:x5=y5) (h6:x6=y6) (h7:x7=y7) (h8:x8=y8) (h9:x9=y9):f x0 x1 x2 x3 x4 x5 x6 x7 x8 x9=f y0 y1 y2 y3 y4 y5 y6 y7 y8 y9:=by
 subst h0;subst h1;subst h2;subst h3;subst h4;subst h5;subst h6;subst h7;subst h8;subst h9;rfl
end Go.Ew
namespace Go.Ew
open Go.RowKit
theorem vc {α:Type} {p:α→Bool} {l:List α} (h:l.Nodup):(l.filter p).Nodup:=apK List.filter_sublist h
def oN (l:de) (cn:Nat→Option Nat) (L:Nat→Bool) (j:Nat):Bool:=(Nat.ble l.length j||L j)&&(match cn j with|none=>true|some i=>!L i)
def Fa (l:de) (cn:Nat→Option Nat) (aF:Nat→Value→List Item) (m:Nat) (L:Nat→Bool) (V:Nat→Value):List Item:=((List.range m).filter (oN l cn L)).flatMap fun j=>aF j (V j)
def waits (T:List Nat) (i j:Nat):Bool:=Nat.testBit (T.getD i 0) j
def Fi (T:List Nat) (o:Oper):Nat→Nat
 |0=>0
 |j+1=>bif kU o j then Fi T o j ||| (2^j ||| T.getD j 0) else Fi T o j
def Xn (l:de) (T:List Nat):Bool:=(List.range l.length).all fun i=>match l[i]? with|some o=>Nat.beq (T.getD i 0) (Fi T o i)|none=>true
theorem Fh {T:List Nat} {o:Oper} {m:Nat}:∀i,Nat.testBit (Fi T o i) m=true→∃j,j<i∧kU o j=true∧(m=j∨waits T j m=true)
 |0,h=>by simp[Fi] at h
 |i+1,h=>by
  unfold Fi at h
  cases ho:kU o i with
  |false=>
   rw[ho] at h
   obtain⟨j,h1,h2⟩:=Fh i h
   exact⟨j,by omega,h2⟩
  |true=>
   rw[ho] at h
   have h:Nat.testBit (Fi T o i ||| (2^i ||| T.getD i 0)) m=true:=h
   rw[Nat.testBit_or,Nat.testBit_or,anm,anm,Nat.testBit_two_pow] at h
   rcases h with h|h|h
   ·obtain⟨j,h1,h2⟩:=Fh i h
    exact⟨j,by omega,h2⟩
   ·exact⟨i,by omega,ho,.inl (anT h).symm⟩
   ·exact⟨i,by omega,ho,.inr h⟩
theorem AW {l:de} {T:List Nat} (hT:Xn l T=true) {L:Nat→Bool} (hC:∀j o,L j=true→l[j]? =some o→∀q,kU o q=true→L q=true) (hL:∀j,L j=true→j<l.length):
  ∀(n i:Nat) (o:Oper),i≤n→l[i]? =some o→(∀j,kU o j=true→L j=true)→∀m,waits T i m=true→L m=true
 |n,i,o,sV,ho,hd,m,hm=>by
  have jN:=(dE.1 ho).1
  have h1:=ani.1 hT i<|ang.2 jN
  rw[ho] at h1
  have h1:=aoq h1
  unfold waits at hm
  rw[h1] at hm
  obtain⟨j,hj,XR,AA⟩:=Fh i hm
  have xT:=hd j XR
  rcases AA with rfl|AA
  ·exact xT
  ·have xN:=hL j xT
   have qX:l[j]? =some l[j]:=eI xN
   cases n with
   |zero=>omega
   |succ n=>exact AW hT hC hL n j l[j] aj qX (hC j l[j] xT qX) m AA
def P_ (l:de) (cn:Nat→Option Nat) (T:List Nat) (m i:Nat) (o:Oper) (D:List Nat):Bool:=
 nodupB D&&D.all (fun j=>Nat.blt j m&&(Nat.ble l.length j||waits T i j)&&(match cn j with|none=>true|some c=>Nat.beq c i||(Nat.blt c l.length&&waits T c i)))&&(List.range m).all (fun j=>match cn j with|none=>true|some c=>!Nat.beq c i||D.contains j)
def GP (cn:Nat→Option Nat) (i:Nat) (D:List Nat):List Nat:=D.filter fun j=>match cn j with|none=>true|some c=>!Nat.beq c i
def Xo (n:Nat) (l:de) (cn:Nat→Option Nat) (T:List Nat) (m:Nat) (Ds:List (List Nat)):Bool:=
 Xn l T&&ry 0 l&&nodupB (jl l.length l)&&(jl l.length l).all (fun d=>Nat.blt d n)&&Nat.ble l.length m&&(List.range l.length).all fun i=>match l[i]? with|some o=>P_ l cn T m i o (Ds.getD i [])|none=>true
section
variable {P:Program} {n:Nat} {l:de} {cn:Nat→Option Nat} {aF:Nat→Value→List Item} {m:Nat} {T:List Nat} {Ds:List (List Nat)} {Φ:Nat→Value→Prop} {f0:aN} {M0:bW} {w0:aH} {base:List Item}
def GStep (P:Program) (n:Nat) (l:de) (cn:Nat→Option Nat) (T:List Nat) (aF:Nat→Value→List Item) (Φ:Nat→Value→Prop) (f0:aN) (M0:bW) (w0:aH) (base:List Item) (i:Nat) (o:Oper) (D:List Nat):Prop:=
 ∀(f:aN) (w:aH) (V:Nat→Value) (r:List Item),(∀t,(jl l.length l).contains t=false→f t=f0 t)→(∀j x,l[j]? =some x→x.dst.isSome=true→waits T i j=true→f (jb l j)=V j∧Φ j (V j))→(∀j x,l[j]? =some x→x.dst.isSome=true→(j=i∨waits T j i=true)→f (jb l j)=f0 (jb l j))→
  HI M0 w0 w (base++(D.flatMap (fun j=>aF j (V j))++r))→SO P n l.toArray o f w (fun f' w'=>∃v,f'=cZ f o.dst v∧Φ i v∧HI M0 w0 w' (base++(((GP cn i D).flatMap fun j=>aF j (V j))++(aF i v++r))))
def yo (P:Program) (n:Nat) (l:de) (cn:Nat→Option Nat) (T:List Nat) (aF:Nat→Value→List Item) (Φ:Nat→Value→Prop) (f0:aN) (M0:bW) (w0:aH) (base:List Item) (Ds:List (List Nat)):Nat→de→Prop
 |_,[]=>True
 |i,o::r=>GStep P n l cn T aF Φ f0 M0 w0 base i o (Ds.getD i [])∧yo P n l cn T aF Φ f0 M0 w0 base Ds (i+1) r
theorem yo.at_:∀(r:de) (i:Nat),yo P n l cn T aF Φ f0 M0 w0 base Ds i r→∀j o,r[j]? =some o→GStep P n l cn T aF Φ f0 M0 w0 base (i+j) o (Ds.getD (i+j) [])
 |[],_,_,j,o,h=>by simp at h
 |x::r,i,h,0,o,hj=>by
  simp only[anq,ann] at hj
  subst hj
  exact h.1
 |x::r,i,h,j+1,o,hj=>by
  simp only[anv] at hj
  have:=yo.at_ r (i+1) h.2 j o hj
  rwa [show i+1+j=i+(j+1) from by omega] at this
def JG (l:de) (cn:Nat→Option Nat) (aF:Nat→Value→List Item) (m:Nat) (Φ:Nat→Value→Prop) (f0:aN) (M0:bW) (w0:aH) (base:List Item) (L:Nat→Bool) (f:aN) (w:aH):Prop:=
 ∃V:Nat→Value,(∀t,(jl l.length l).contains t=false→f t=f0 t)∧(∀j x,l[j]? =some x→x.dst.isSome=true→f (jb l j)=if L j=true then V j else f0 (jb l j))∧(∀j,j<l.length→L j=true→Φ j (V j))∧(∀j o,L j=true→l[j]? =some o→∀q,kU o q=true→L q=true)∧HI M0 w0 w (base++Fa l cn aF m L V)
theorem drg {id:Nat} {Q:Exit→Act→aH→Prop} {f:aN} {w:aH} (cn:Nat→Option Nat) (T:List Nat) (aF:Nat→Value→List Item) (m:Nat) (Ds:List (List Nat)) (Φ:Nat→Value→Prop) (base:List Item) (V0:Nat→Value) (hm:P.follows .mixedOrders=true) (qB:Xo n l cn T m Ds=true)
  (hH:HI M0 w0 w (base++((List.range m).filter (fun j=>Nat.ble l.length j)).flatMap fun j=>aF j (V0 j))) (rI:∀j i,cn j=some i→i<l.length)
  (hS:yo P n l cn T aF Φ f M0 w0 base Ds 0 l)
  (vZ:∀(f':aN) (w':aH) (V:Nat→Value),(∀t,(jl l.length l).contains t=false→f' t=f t)→(∀j x,l[j]? =some x→x.dst.isSome=true→f' (jb l j)=V j∧Φ j (V j))→HI M0 w0 w' (base++((List.range m).filter (fun j=>(cn j).isNone)).flatMap fun j=>aF j (V j))→Q .normal (cj n f') w'):
  WC P n (.region id l.toArray true) Q f w:=by
 simp only[Xo,eW] at qB
 obtain⟨⟨⟨⟨⟨ac8,hE⟩,hN⟩,hn⟩,hlm⟩,hU⟩:=qB
 have hlm:l.length≤m:=aop hlm
 have acd:∀V,Fa l cn aF m (fun _=>false) V=((List.range m).filter (fun j=>Nat.ble l.length j)).flatMap fun j=>aF j (V j):=by
  intro V
  unfold Fa
  congr 1
  refine apl fun j hj=>?_
  unfold oN
  cases cn j<;>simp
 refine drj (JG l cn aF m Φ f M0 w0 base) hm hE ⟨V0,fun _ _=>rfl,fun j x _ _=>(by simp),fun j _ h=>(by cases h),fun j o h=>(by cases h),?_⟩ ?_ ?_
 ·rw[acd]
  exact hH.ext (Ext.drew w)
 ·rintro L f' w' i o qA uj ada X1 ⟨V,hs,hv,hφ,hC,hH⟩
  have jN:=(dE.1 qA).1
  have XF:∀j,waits T i j=true→L j=true:=fun j hj=>AW ac8 hC ada i i o (ane _) qA X1 j hj
  have VH:∀c oc,L c=true→l[c]? =some oc→∀j,waits T c j=true→L j=true:=fun c oc Tb SP j hj=>AW ac8 hC ada c c oc (ane _) SP (hC c oc Tb SP) j hj
  have qV:=yo.at_ l 0 hS i o qA
  simp only[anX] at qV
  have hu:=ani.1 hU i<|ang.2 jN
  rw[qA] at hu
  simp only[P_,eW] at hu
  obtain⟨⟨Td,hDu⟩,hDc⟩:=hu
  have Td:=pc _ Td
  generalize hD:Ds.getD i []=D at qV Td hDu hDc
  have Yc:∀j∈D,j<m∧oN l cn L j=true:=by
   intro j hj
   have:=ani.1 hDu j hj
   simp only[eW,anm,apf] at this
   obtain⟨⟨h1,h2⟩,h3⟩:=this
   refine⟨h1,?_⟩
   unfold oN
   rw[eW,anm]
   refine⟨h2.imp (fun h=>h) (XF j),?_⟩
   revert h3
   cases OV:cn j with
   |none=>intro _;rfl
   |some c=>
    intro h3
    simp only[anm] at h3
    show (!L c)=true
    rcases h3 with h3|h3
    ·rw[aoq h3,uj];rfl
    ·cases Tb:L c with
     |false=>rfl
     |true=>
      exfalso
      simp only[eW,apf] at h3
      have:=VH c l[c] Tb (eI h3.1) i h3.2
      rw[uj] at this;cases this
  have hiD:i∉D:=by
   intro hi
   have:=(Yc i hi).2
   unfold oN at this
   rw[uj,show Nat.ble l.length i=false from by
    cases hb:Nat.ble l.length i with
    |false=>rfl
    |true=>have:=aop hb;omega] at this
   simp at this
  
  have afh:((List.range m).filter (oN l cn L)).Perm (D++((List.range m).filter fun j=>oN l cn L j&&!D.contains j)):=by
   refine(List.perm_ext_iff_of_nodup (vc aps) ?_).2 fun j=>?_
   ·rw[aoW]
    refine⟨Td,vc aps,fun a ha b hb Jl=>?_⟩
    subst Jl
    have:=(ant.1 hb).2
    simp[ha] at this
   ·simp only[ant,ang,anx,eW,aoo,apv,anr]
    constructor
    ·rintro⟨h1,h2⟩
     by_cases hj:j∈D
     ·exact .inl hj
     ·exact .inr ⟨h1,h2,hj⟩
    ·rintro(h|⟨h1,h2, -⟩)
     ·exact Yc j h
     ·exact⟨h1,h2⟩
  have hH2:HI M0 w0 w' (base++(D.flatMap (fun j=>aF j (V j))++((List.range m).filter fun j=>oN l cn L j&&!D.contains j).flatMap fun j=>aF j (V j))):=by
   refine hH.perm ?_
   unfold Fa
   rw[←ao0]
   exact List.Perm.append_left _<|afh.symm.flatMap_right _
  refine(qV f' w' V _ hs (fun j x yT GY XR=>?_) (fun j x yT GY nJ=>?_) hH2).mono fun f2 w2 hK=>?_
  ·have:=hv j x yT GY
   rw[anc (XF j XR)] at this
   exact⟨this,hφ j (dE.1 yT).1 (XF j XR)⟩
  ·have:=hv j x yT GY
   have xT:L j=false:=by
    rcases nJ with rfl|nJ
    ·exact uj
    ·cases xT:L j with
     |false=>rfl
     |true=>have:=VH j x xT yT i nJ;rw[uj] at this;cases this
   rw[xT] at this
   simpa using this
  ·obtain⟨v,rfl,ahZ,hH3⟩:=hK
   refine⟨fun j=>if j=i then v else V j,fun t ht=>?_,fun j x yT GY=>?_,fun j hj xT=>?_,fun j oj xT qX q hq=>?_,?_⟩
   ·cases vt:o.dst with
    |none=>exact hs t ht
    |some di=>
     have gA:t≠di:=by
      rintro rfl
      have:=qT (k:=l.length) qA jN vt
      rw[←anQ,ht] at this
      cases this
     rw[show cZ f' (some di) v=ck f' di v from rfl,jD f' v gA]
     exact hs t ht
   ·dsimp only
    by_cases nJ:j=i
    ·subst nJ
     rw[qA] at yT;cases yT
     obtain⟨di,vt⟩:=anB.1 GY
     rw[anc (by simp),anc rfl,O8 qA vt,vt]
     exact iX f' di v
    ·have h1:=hv j x yT GY
     obtain⟨dj,EE⟩:=anB.1 GY
     have h2:cZ f' o.dst v (jb l j)=f' (jb l j):=by
      cases vt:o.dst with
      |none=>rfl
      |some di=>
       rw[O8 yT EE]
       exact jD f' v<|adK hN qA yT vt EE<|fun e=>nJ e.symm
     rw[h2,h1];simp[nJ]
   ·dsimp only at xT ⊢
    by_cases nJ:j=i
    ·subst nJ;rw[anc rfl];exact ahZ
    ·rw[anf nJ]
     rw[ank nJ,aoI] at xT
     exact hφ j hj xT
   ·dsimp only at xT ⊢
    by_cases nJ:j=i
    ·subst nJ
     rw[qA] at qX;cases qX
     rw[X1 q hq];rfl
    ·rw[ank nJ,aoI] at xT
     rw[hC j oj xT qX q hq];rfl
   ·refine hH3.perm ?_
    have EG:∀j,oN l cn (fun k=>L k||decide (k=i)) j=true↔(j=i∨(oN l cn L j=true∧∀c,cn j=some c→c≠i)):=by
     intro j
     unfold oN
     simp only[eW,anm,anb]
     constructor
     ·rintro⟨h1,h2⟩
      by_cases nJ:j=i
      ·exact .inl nJ
      ·refine .inr ⟨⟨h1.imp (fun h=>h) fun h=>h.resolve_right nJ,?_⟩,?_⟩
       ·revert h2
        cases cn j with
        |none=>intro _;rfl
        |some c=>intro h2;simp at h2 ⊢;exact h2.1
       ·intro c hc
        rw[hc] at h2
        simp at h2
        exact h2.2
     ·rintro(rfl|⟨⟨h1,h2⟩,h3⟩)
      ·refine⟨.inr (.inr rfl),?_⟩
       cases OV:cn j with
       |none=>rfl
       |some c=>
        have rZ:=rI j c OV
        have SP:l[c]? =some l[c]:=eI rZ
        have XI:=ani.1 hU c<|ang.2 rZ
        rw[SP] at XI
        simp only[P_,eW] at XI
        have sV:=ani.1 XI.2 j<|ang.2 aj
        rw[OV] at sV
        have sV:j∈Ds.getD c []:=by
         have hb:Nat.beq c c=true:=Nat.beq_refl c
         simp only[hb,apy,ao4,apv,anb] at sV
         exact sV
        have EE:=ani.1 XI.1.2 j sV
        simp only[eW,anm] at EE
        have vn:waits T c j=true:=by
         rcases EE.1.2 with h|h
         ·have:=aop h;omega
         ·exact h
        have aiv:c≠j:=by
         rintro rfl
         have:=XF c vn
         rw[uj] at this;cases this
        show (!(L c||decide (c=j)))=true
        rw[ank aiv,aoI]
        cases Tb:L c with
        |false=>rfl
        |true=>have:=VH c l[c] Tb SP j vn;rw[uj] at this;cases this
      ·refine⟨h1.imp (fun h=>h) .inl,?_⟩
       revert h2 h3
       cases cn j with
       |none=>intro _ _;rfl
       |some c=>
        intro h3 h2
        simp at h2 ⊢
        exact⟨h2,h3 c rfl⟩
    have SN:((List.range m).filter (oN l cn fun k=>L k||decide (k=i))).Perm (GP cn i D++([i]++((List.range m).filter fun j=>oN l cn L j&&!D.contains j))):=by
     refine(List.perm_ext_iff_of_nodup (vc aps) ?_).2 fun j=>?_
     ·rw[aoW]
      refine⟨vc Td,?_,fun a ha b hb Jl=>?_⟩
      ·rw[List.singleton_append,aog]
       refine⟨fun hi=>?_,vc aps⟩
       have:=(ant.1 hi).2
       simp only[eW] at this
       have h1:=this.1
       unfold oN at h1
       rw[uj,show Nat.ble l.length i=false from by
        cases hb:Nat.ble l.length i with
        |false=>rfl
        |true=>have:=aop hb;omega] at h1
       simp at h1
      ·subst Jl
       have haD:=(ant.1 ha).1
       rcases ans.1 hb with rfl|hb
       ·exact hiD haD
       ·have:=(ant.1 hb).2
        simp[haD] at this
     ·rw[ant,EG,ang,anx,anx,aoh,ant]
      unfold GP
      rw[ant,ang]
      simp only[eW,aoo,apv,anr]
      have oH:(match cn j with|none=>true|some c=>!Nat.beq c i)=true↔∀c,cn j=some c→c≠i:=by
       cases OV:cn j with
       |none=>simp
       |some c=>
        simp only[aoo,ann]
        constructor
        ·rintro h d rfl rfl
         rw[Nat.beq_refl] at h;cases h
        ·intro h
         cases hb:Nat.beq c i with
         |false=>rfl
         |true=>exact absurd (aoq hb) (h c rfl)
      rw[oH]
      constructor
      ·rintro⟨h1,h2|⟨h2,h3⟩⟩
       ·exact .inr (.inl h2)
       ·by_cases hjD:j∈D
        ·exact .inl ⟨hjD,h3⟩
        ·exact .inr (.inr ⟨h1,h2,hjD⟩)
      ·rintro(⟨h1,h2⟩|rfl|⟨h1,h2,h3⟩)
       ·exact⟨(Yc j h1).1,.inr ⟨(Yc j h1).2,h2⟩⟩
       ·exact⟨by omega,.inl rfl⟩
       ·refine⟨h1,.inr ⟨h2,fun c hc hci=>?_⟩⟩
        subst hci
        have sV:=ani.1 hDc j<|ang.2 h1
        rw[hc] at sV
        have hb:Nat.beq c c=true:=Nat.beq_refl c
        simp only[hb,apy,ao4,apv,anb] at sV
        exact h3 sV
    refine List.Perm.append_left _ ?_
    unfold Fa
    refine(SN.flatMap_right _).trans ?_
    rw[ao0,ao0,List.flatMap_singleton]
    dsimp only
    rw[anc rfl]
    have S6:∀A:List Nat,i∉A→A.flatMap (fun j=>aF j (if j=i then v else V j))=A.flatMap fun j=>aF j (V j):=by
     intro A hA
     induction A with
     |nil=>rfl
     |cons a A ihA=>
      rw[aoL,aoL,ihA fun h=>hA (anI _ h),anf fun (e:a=i)=>hA (e▸anY)]
    rw[S6 (GP cn i D) (fun h=>hiD (ant.1 h).1),S6]
    intro hi
    have:=(ant.1 hi).2
    simp only[eW] at this
    have h1:=this.1
    unfold oN at h1
    rw[uj,show Nat.ble l.length i=false from by
     cases hb:Nat.ble l.length i with
     |false=>rfl
     |true=>have:=aop hb;omega] at h1
    simp at h1
 ·rintro f' w' ⟨V,hs,hv,hφ, -,hH⟩
  refine vZ f' w' V hs (fun j x yT GY=>?_) ?_
  ·have xN:=(dE.1 yT).1
   have:=hv j x yT GY
   rw[anc (anh xN)] at this
   exact⟨this,hφ j xN (anh xN)⟩
  ·have:Fa l cn aF m (fun k=>decide (k<l.length)) V=((List.range m).filter (fun j=>(cn j).isNone)).flatMap fun j=>aF j (V j):=by
    unfold Fa
    congr 1
    refine apl fun j hj=>?_
    unfold oN
    have h1:(Nat.ble l.length j||decide (j<l.length))=true:=by
     rw[anm,anb]
     by_cases h:j<l.length
     ·exact .inr h
     ·exact .inl (Nat.ble_eq_true_of_le aj)
    rw[h1,an_]
    cases OV:cn j with
    |none=>rfl
    |some c=>
     have:=rI j c OV
     simp[this]
   rw[←this];exact hH
end
def vP:Value→Addr
 | .pointer (some a)=>a
 |_=>⟨0,0,none⟩
theorem afm {Hk:List (Option Nat)} {N:Nat} (h:Hk.all (fun c=>match c with|none=>true|some i=>Nat.blt i N)=true):∀j i,Hk.getD j none=some i→i<N:=by
 intro j i hj
 rw[ik] at hj
 cases hc:Hk[j]? with
 |none=>rw[hc] at hj;cases hj
 |some c=>
  rw[hc] at hj
  have hj:c=some i:=hj
  subst hj
  have:=ani.1 h _<|dC hc
  simpa using this
theorem Wi {P:Program} {n:Nat} {l:de} {id:Nat} {Q:Exit→Act→aH→Prop} {f:aN} {w:aH} {M0:bW} {w0:aH} (Hk:List (Option Nat)) (T:List Nat) (Bw:List (Value→List Item)) (Ds:List (List Nat)) (ΦL:List (Value→Prop)) (base:List Item)
  (hm:P.follows .mixedOrders=true) (qB:Xo n l (fun j=>Hk.getD j none) T Bw.length Ds=true) (hc:Hk.all (fun c=>match c with|none=>true|some i=>Nat.blt i l.length)=true)
  (hH:HI M0 w0 w (base++((Bw.drop l.length).flatMap fun g=>g undef)))
  (hS:yo P n l (fun j=>Hk.getD j none) T (fun j=>Bw.getD j (fun _=>[])) (fun j=>ΦL.getD j (fun _=>True)) f M0 w0 base Ds 0 l)
  (vZ:∀(f':aN) (w':aH) (V:Nat→Value),(∀t,(jl l.length l).contains t=false→f' t=f t)→(∀j x,l[j]? =some x→x.dst.isSome=true→f' (jb l j)=V j∧(ΦL.getD j (fun _=>True)) (V j))→HI M0 w0 w' (base++((List.range Bw.length).filter (fun j=>(Hk.getD j none).isNone)).flatMap fun j=>(Bw.getD j (fun _=>[])) (V j))→Q .normal (cj n f') w'):
  WC P n (.region id l.toArray true) Q f w:=by
 have hlm:l.length≤Bw.length:=by
  simp only[Xo,eW] at qB
  exact aop qB.1.2
 refine drg (fun j=>Hk.getD j none) T (fun j=>Bw.getD j<|fun _=>[]) Bw.length Ds (fun j=>ΦL.getD j<|fun _=>True) base (fun _=>undef) hm qB ?_ (afm hc) hS vZ
 have key:∀(L:List (Value→List Item)) (k s:Nat),((List.range' s L.length).filter (fun j=>Nat.ble k j)).flatMap (fun j=>((List.replicate s (fun _=>[]))++L).getD j (fun _=>[]) undef)=(L.drop (k-s)).flatMap fun g=>g undef:=by
  intro L
  induction L with
  |nil=>intro k s;simp
  |cons g L ih=>
   intro k s
   have ah8:List.replicate s (fun _:Value=>([]:List Item))++g::L=(List.replicate s (fun _:Value=>([]:List Item))++[g])++L:=by simp
   have uH:∀j∈List.range' (s+1) L.length,(List.replicate s (fun _:Value=>([]:List Item))++g::L).getD j (fun _=>[]) undef=(List.replicate (s+1) (fun _:Value=>([]:List Item))++L).getD j (fun _=>[]) undef:=by
    intro j hj
    have hj:=(List.mem_range'_1.1 hj).1
    rw[ik,ik,ah8,ny (by simp;omega),ny (by simp;omega)]
    simp
   have XY:∀A:List Nat,(∀j∈A,j∈List.range' (s+1) L.length)→A.flatMap (fun j=>(List.replicate s (fun _:Value=>([]:List Item))++g::L).getD j (fun _=>[]) undef)=A.flatMap fun j=>(List.replicate (s+1) (fun _:Value=>([]:List Item))++L).getD j (fun _=>[]) undef:=by
    intro A hA
    induction A with
    |nil=>rfl
    |cons a A ihA=>rw[aoL,aoL,ihA fun j hj=>hA j (anI _ hj),uH a (hA a anY)]
   rw[iI,List.range'_succ,aqo]
   by_cases hk:Nat.ble k s=true
   ·have Jf:=aop hk
    rw[anc hk,aoL,XY _ fun j hj=>(ant.1 hj).1,ih k (s+1),show k-s=0 from by omega,show k-(s+1)=0 from by omega,apN,apN,aoL]
    congr 1
    rw[ik,ny (by simp)]
    simp
   ·have Jf:¬k≤s:=fun h=>hk<|Nat.ble_eq_true_of_le h
    rw[anf hk,XY _ fun j hj=>(ant.1 hj).1,ih k (s+1),show k-s=(k-(s+1))+1 from by omega,List.drop_succ_cons]
 have:=key Bw l.length 0
 rw[List.replicate_zero,List.nil_append,ap0,←List.range_eq_range'] at this
 rw[this]
 exact hH
theorem abp {α:Type} [GT α] {B:Nat} {e:TypeId} {v:Value} {xs:List α} {M:bW} {w:aH} {g j:Nat} {x:α} (h:(own B e v xs).holds M w) (hv:v.ownBlock=some g) (hx:xs[j]? =some x):hQ M w ⟨g,j*GT.size α,none⟩ x:=by
 obtain⟨cs,h1,h2⟩:=h
 rcases h1.2 with ⟨rfl,h3⟩|⟨g',cap,cur,rfl,h3,h4,h5,h6,h7,h8⟩
 ·cases hv
 ·obtain rfl:g'=g:=ana hv
  have lA:(⟨g',0,none⟩:Addr).add (j*GT.size α)=⟨g',j*GT.size α,none⟩:=by unfold Addr.add;split<;>simp_all
  obtain⟨c,yW,AD⟩:=bA.at_ h2 j x hx
  refine⟨c,yW,fun i u hu=>?_⟩
  have uU:=h1.cells (g:=g') J (j*GT.size α+i) u<|AD i u hu
  rwa [←add_add,lA] at uU
theorem kj {α:Type} [GT α] {B:Nat} {e:TypeId} {v:Value} {xs:List α} {M:bW} {w:aH} (h:(own B e v xs).holds M w):xs.length≤9223372036854775807:=by
 obtain⟨cs,h1,h2⟩:=h
 rcases h1.2 with ⟨rfl,h3⟩|⟨g',cap,cur,rfl,h3,h4,h5,h6,h7,h8⟩
 ·omega
 ·have:maxLen=9223372036854775807:=rfl
  omega
end Go.Ew
namespace Go.Ew
open Go.RowKit
def af6 (m k:Nat):Bool:=Nat.beq (Nat.land 1 (Nat.shiftRight m k)) 1
def mask (T:List Nat) (j:Nat) (V:Nat→Value) (k:Nat):Value:=bif (Nat.beq k j||af6 (T.getD j 0) k) then V k else undef
section
variable {P:Program} {n:Nat} {l:de} {cn:Nat→Option Nat} {aF:Nat→(Nat→Value)→List Item} {m:Nat} {T:List Nat} {Ds:List (List Nat)} {Φ:Nat→Value→Prop} {f0:aN} {M0:bW} {w0:aH} {base:List Item}
def Ur (P:Program) (n:Nat) (l:de) (cn:Nat→Option Nat) (T:List Nat) (aF:Nat→(Nat→Value)→List Item) (Φ:Nat→Value→Prop) (f0:aN) (M0:bW) (w0:aH) (base:List Item) (i:Nat) (o:Oper) (D:List Nat):Prop:=
 ∀(f:aN) (w:aH) (V:Nat→Value) (r:List Item),(∀t,(jl l.length l).contains t=false→f t=f0 t)→(∀j x,l[j]? =some x→x.dst.isSome=true→waits T i j=true→f (jb l j)=V j∧Φ j (V j))→(∀j x,l[j]? =some x→x.dst.isSome=true→(j=i∨waits T j i=true)→f (jb l j)=f0 (jb l j))→
  HI M0 w0 w (base++(D.flatMap (fun j=>aF j (mask T j V))++r))→SO P n l.toArray o f w (fun f' w'=>∃v,f'=cZ f o.dst v∧Φ i v∧HI M0 w0 w' (base++(((GP cn i D).flatMap fun j=>aF j (mask T j V))++(aF i (mask T i (fun k=>if k=i then v else V k))++r))))
def D' (P:Program) (n:Nat) (l:de) (cn:Nat→Option Nat) (T:List Nat) (aF:Nat→(Nat→Value)→List Item) (Φ:Nat→Value→Prop) (f0:aN) (M0:bW) (w0:aH) (base:List Item) (Ds:List (List Nat)):Nat→de→Prop
 |_,[]=>True
 |i,o::r=>Ur P n l cn T aF Φ f0 M0 w0 base i o (Ds.getD i [])∧D' P n l cn T aF Φ f0 M0 w0 base Ds (i+1) r
theorem D'.at_:∀(r:de) (i:Nat),D' P n l cn T aF Φ f0 M0 w0 base Ds i r→∀j o,r[j]? =some o→Ur P n l cn T aF Φ f0 M0 w0 base (i+j) o (Ds.getD (i+j) [])
 |[],_,_,j,o,h=>by simp at h
 |x::r,i,h,0,o,hj=>by
  simp only[anq,ann] at hj
  subst hj
  exact h.1
 |x::r,i,h,j+1,o,hj=>by
  simp only[anv] at hj
  have:=D'.at_ r (i+1) h.2 j o hj
  rwa [show i+1+j=i+(j+1) from by omega] at this
end
end Go.Ew
namespace Go.Ew
open Go.RowKit
variable {v:Value}
section
variable {P:Program} {n:Nat} {ops:Array Oper} {f:aN} {w:aH} {K:aN→aH→Prop} {x y:Operand} {d:Nat} {ty T e:TypeId} {ps:String} {af:Array Edge} {M0:bW} {w0:aH} {l:List Item} {bytes:Nat} {z:Value} {agg:Bool} {kk:IntKind}
theorem LJ {fn:Fn} (ox:bI n x=true) (hx:ev f x=v) (h:K (ck f d (.func fn #[v] #[])) w):SO P n ops ⟨some d,.makeFunc fn #[x] #[],ty,ps,af,none⟩ f w K:=
 SO.value (v:=.func fn #[v] #[]) (by simp[execOp,Instr.makeFunc,aL ox,hx]) h
theorem MH {fx:Operand} {g:FuncId} {b:Value} {L:List Operand} {vs:List Value} {pt:Array TypeId} {R:Value→aH→Prop} (G:cA P g)
  (ofx:bI n fx=true) (ol:Gw n L=true) (hfx:ev f fx=.func (.func g) #[b] #[]) (hL:L.map (ev f)=vs)
  (hc:Calls P g (b::vs).toArray w (cp R)) (h:∀v w',R v w'→K (ck f d v) w'):
  SO P n ops ⟨some d,.call {callee:=.value fx,args:=L.toArray,argTypes:=pt},ty,ps,af,none⟩ f w K:=by
 obtain⟨fn,c,hf,hb,hn⟩:=G
 subst hL
 exact SO.enter (g:=g) (args:=(b::L.map (ev f)).toArray) (w':=w) (by
  simp only[execOp,resolve,apb,y' ol,aL ofx,hfx]
  simp[Deferred.ofValue,invoke,yg hf hb hn]) (hc.mono fun e w' hr=>by
   obtain⟨v,rfl,hv⟩:=hr
   exact⟨v,rfl,h v w' hv⟩)
theorem bsB {len:Nat} {L:List (Nat×Operand)} {V:List (Nat×Value)} {cells:Array Value} (H:HI M0 w0 w l) (ol:Gw n (L.map (·.2))=true) (hL:(L.map fun p=>(p.1,ev f p.2))=V)
  (hb:∀w,(Instr.buildSlice T len V.toArray).run P w=.ok (.slice (some ⟨w.heap.size,0,none⟩) len len) (w.alloc (.cells cells e)))
  (h:∀g w',Ext w w'→HI M0 w0 w' (box g cells e::l)→K (ck f d (.slice (some ⟨g,0,none⟩) len len)) w'):
  SO P n ops ⟨some d,.buildSlice T len L.toArray,ty,ps,af,none⟩ f w K:=by
 subst hL
 refine SO.value (v:=.slice (some ⟨w.heap.size,0,none⟩) len len) (w':=w.alloc (.cells cells e)) ?_<|h _ _ (Ext.alloc w _) ?_
 ·have he:(L.map fun p=>(p.1,(cj n f).eval p.2))=L.map fun p=>(p.1,ev f p.2):=by
   apply aon
   intro p hp
   rw[aL (ani.1 ol p.2 (anZ.2 ⟨p,hp,rfl⟩))]
  simp only[execOp,apb]
  have:=hb w
  rw[←he] at this
  simp[this]
 ·exact H.new (Ext.alloc w _) w.heap.size J (ane _) (by simp)<|heap_alloc_new w _
theorem Oo {α:Type} [GT α] {B:Nat} {a:Option Addr} {k c:Nat} {xs:List α} {M:bW} (hO:(own B e (.slice a k c) xs).holds M w) (h:a.isNone=true):xs=[]:=by
 obtain⟨cs,h1,h2⟩:=hO
 rcases h1.2 with ⟨h3,h4⟩|⟨g,cap,cur,h3,h4⟩
 ·exact aod.1 h4
 ·cases h3;cases h
theorem LY {g len c:Nat} {i:Int} (ox:bI n x=true) (oy:bI n y=true) (hx:ev f x=.slice (some ⟨g,0,none⟩) len c) (hy:ev f y=.int kk i) (k:Nat) (hi:i=((k:Nat):Int)) (hl:k<len) (hu:P.underlying T=some (.slice e)) (F:ef P e 1 agg bytes z)
  (h:K (ck f d (.pointer (some ⟨g,k,none⟩))) w):SO P n ops ⟨some d,.indexAddr T x y,ty,ps,af,none⟩ f w K:=by
 have lA:(⟨g,0,none⟩:Addr).add (k*1)=⟨g,k,none⟩:=by unfold Addr.add;split<;>simp_all
 refine SO.value (v:=.pointer (some ⟨g,k,none⟩)) ?_ h
 subst hi
 have hb:(0:Int)≤((k:Nat):Int)∧((k:Nat):Int)<(len:Int):=by omega
 simp only[execOp,aL ox,aL oy,hx,hy]
 simp[Instr.indexAt,asIntOf,gP hu,hb,F.jr]
 rw[anc hl,show (⟨g,0,none⟩:Addr).add k=⟨g,k,none⟩ by rw[←lA,apj]]
end
theorem bm.anyM {α:Type} [GT α] [Flat α] {M M':bW} {e:TypeId} {w w':aH} {v:Value} {xs:List α} (h:bm M e w xs v w'):bm M' e w xs v w':=by
 obtain⟨hx,hb,cs,h1,h2⟩:=h
 exact⟨hx,hb,cs,h1,bA.flat h2⟩
theorem UP {w:aH} {B B':Nat} {e:TypeId} {sz n:Nat} {cs:List Value} (h:w.ownsRow B e sz v n cs) (hB:B'≤B):w.ownsRow B' e sz v n cs:=by
 refine⟨h.1,?_⟩
 rcases h.2 with h2|⟨g,cap,cur,h1,h2,h3⟩
 ·exact .inl h2
 ·exact .inr ⟨g,cap,cur,h1,Nat.le_trans hB h2,h3⟩
theorem UO {w w':aH} {B:Nat} {e:TypeId} {sz n:Nat} {cs:List Value} (h:w.ownsRow B e sz v n cs) (hb:∀b,v.ownBlock=some b→w'.heap[b]? =w.heap[b]?):w'.ownsRow B e sz v n cs:=by
 refine⟨h.1,?_⟩
 rcases h.2 with h2|⟨g,cap,cur,h1,h2,h3,h4⟩
 ·exact .inl h2
 ·exact .inr ⟨g,cap,cur,h1,h2,by rw[hb g (by rw[h1];rfl)];exact h3,h4⟩
theorem bm.base {α:Type} [GT α] {M:bW} {e:TypeId} {w w' w0:aH} {v:Value} {xs:List α} (h:bm M e w xs v w') (x:Ext w0 w):bm M e w0 xs v w':=by
 obtain⟨hx,hb,cs,h1,h2⟩:=h
 exact⟨x.trans hx,hb,cs,UP h1 x.size,h2⟩
theorem bm.LR {α:Type} [GT α] [Flat α] {M:bW} {e:TypeId} {w w' w0:aH} {v:Value} {xs:List α} (h:bm M e w0 xs v w) (x:Ext w w'):bm M e w0 xs v w':=by
 obtain⟨hx,hb,cs,h1,h2⟩:=h
 exact⟨hx.trans x,fun b vu=>anK (hb b vu) x.size,cs,UO h1 fun b vu=>x.block b (hb b vu),bA.flat h2⟩
theorem bm.rvN {α:Type} [GT α] [Flat α] {M:bW} {e:TypeId} {w w' w0:aH} {v:Value} {xs:List α} (h:bm M e w xs v w') (x:Ext w0 w):RV (fun b=>b<w0.heap.size) w' v xs:=by
 obtain⟨hx,hb,cs,h1,h2⟩:=h
 have:bm (fun b=>b<w.heap.size) e w xs v w':=⟨hx,hb,cs,h1,bA.flat h2⟩
 exact(this.rv fun b hb=>hb).lift (Up.less fun b _ hb=>anK hb x.size)
theorem Ld {α:Type} [GT α] {M0:bW} {w0 z6 w:aH} {l:List Item} {v:Value} {xs:List α} (h:RV (fun b=>b<w0.heap.size) w v xs) (H:HI M0 z6 w0 l):RV (MS M0 l) w v xs:=h.lift (Up.less fun b _ hb=>H.mb b hb)
theorem aa9 {α:Type} [GT α] {M0:bW} {w0 z6 w:aH} {l:List Item} {v:Value} {xs:List α} (h:RV (fun b=>b<w0.heap.size) w v xs) (H:HI M0 z6 w0 l):RV (fun b=>b<z6.heap.size) w v xs:=h.lift (Up.less fun b _ hb=>anK hb H.below.size)
end Go.Ew
namespace Go.Ew
variable {aF:List aO}
theorem Wd (aF:List aO):(Hg aF=none∧(∀k,oD aF k=false))∨∃j,j<aF.length∧Hg aF=some j∧oD aF j=true∧∀k,k<j→oD aF k=false:=by
 unfold Hg
 cases h:(List.range aF.length).find? (oD aF) with
 |none=>
  left
  refine⟨J,fun k=>?_⟩
  rw[aoH] at h
  by_cases hk:k<aF.length
  ·simpa using h k (ang.2 hk)
  ·unfold oD;rw[anp aj];rfl
 |some j=>
  right
  rw[apk] at h
  obtain⟨hb,as,bs,he,ha⟩:=h
  have hj:j<aF.length:=by
   have:j∈List.range aF.length:=by rw[he];simp
   exact ang.1 this
  have hlen:as.length=j:=by
   have h1:(List.range aF.length)[as.length]? =some j:=by rw[he];simp
   have h2:as.length<aF.length:=by
    have:=am_ List.length he
    simp at this;omega
   rw[aob h2] at h1
   exact ana h1
  refine⟨j,hj,J,hb,fun k hk=>?_⟩
  have h1:(List.range aF.length)[k]? =as[k]?:=by rw[he,nM aj]
  rw[aob aj,eI aj] at h1
  have:=ha as[k]<|apt _
  rw[←ana h1] at this
  simpa using this
theorem TT (h:(dv aF).2.2=0):Hg aF=none∧∀k,oD aF k=false:=by
 rcases Wd aF with h1|⟨j,hj,hf,hb,hl⟩
 ·exact h1
 ·exfalso
  unfold dv at h
  rw[hf] at h
  simp only[eI hj] at h
  split at h<;>simp at h
theorem Pe (h:(dv aF).2.2=0):(dv aF).1=0∧(dv aF).2.1=0:=by
 unfold dv;rw[(TT h).1];exact⟨rfl,rfl⟩
theorem YS {aF:List aO} {j:Nat} {x:aO} (hx:aF[((j:Nat):Int).toNat]? =some x) (hw:x.2.2.1=true):0≤gG aF x.2.2.2.1 x.2.2.2.2∧gG aF x.2.2.2.1 x.2.2.2.2≤((j:Nat):Int):=by
 have hp:l7 x.2.2.2.1 x.2.2.2.2 x=true:=by unfold l7;simp[hw]
 cases hf:(aF.take j).findIdx? (l7 x.2.2.2.1 x.2.2.2.2) with
 |none=>have:=I8 hx hp hf;unfold gG;rw[this];omega
 |some i=>
  have:=C0 hf
  have hi:=(anE.1 hf).1
  rw[iB] at hi
  unfold gG;rw[this];omega
theorem F3 (h:(dv aF).2.2=0) {j:Nat} {x:aO} (hx:aF[((j:Nat):Int).toNat]? =some x) (hw:x.2.2.1=true):x.2.2.2.2≠0∧gG aF x.2.2.2.1 x.2.2.2.2=((j:Nat):Int):=by
 have hb:=(TT h).2 j
 rw[Hq hx] at hb
 unfold zR at hb
 rw[hw,an_,aoU,anr,anr] at hb
 have:=YS hx hw
 omega
theorem W5 {aF:List aO} {v val:Int} (h:0≤gG aF v val):∃x,aF[(gG aF v val).toNat]? =some x∧l7 v val x=true:=by
 unfold gG eM at h ⊢
 cases hf:aF.findIdx? (l7 v val) with
 |none=>rw[hf] at h;simp at h
 |some i=>
  obtain⟨hi,hp, -⟩:=anE.1 hf
  exact⟨aF[i],by simp[hi],hp⟩
theorem OM {v val:Int} {x:aO}:l7 v val x=true↔x.2.2.1=true∧x.2.2.2.1=v∧x.2.2.2.2=val:=by unfold l7;simp[and_assoc]
end Go.Ew
namespace Go.Ew
variable {aF:List aO} {j:Nat} {x:aO} {m:KV}
def sY (aF:List aO) (x:aO):Int:=if x.2.2.1 then -3 else if x.2.2.2.2=0 then -1 else if 0≤gG aF x.2.2.2.1 x.2.2.2.2 then max (gG aF x.2.2.2.1 x.2.2.2.2) 0 else -2
def gI (aF:List aO):aA:=aF.map (sY aF)
def uT (aF:List aO) (j:Nat):KV:=((aF.take j).zipIdx).foldl (fun m x=>if x.1.2.2.1 then js m (x.1.2.2.2.1,x.1.2.2.2.2) ((x.2:Nat):Int) else m) []
def xW (m:KV) (x:aO):Int:=if x.2.2.1 then -3 else if x.2.2.2.2=0 then -1 else if (getM m (x.2.2.2.1,x.2.2.2.2)).isSome then (getM m (x.2.2.2.1,x.2.2.2.2)).getD 0 else -2
def gJ (aF:List aO):aA:=aF.map (xW (uT aF aF.length))
theorem zC (hx:aF[((j:Nat):Int).toNat]? =some x) (hw:x.2.2.1=true):js (uT aF j) (x.2.2.2.1,x.2.2.2.2) ((j:Nat):Int)=uT aF (j+1):=by
 unfold uT;rw[AU hx,aoX];simp[hw]
theorem Bu (hx:aF[((j:Nat):Int).toNat]? =some x) (hw:x.2.2.1=false):uT aF j=uT aF (j+1):=by
 unfold uT;rw[AU hx,aoX];simp[hw]
def Di (m:KV) (aF:List aO) (j:Nat):aA:=(aF.take j).map (xW m)++List.replicate (aF.length-j) 0
theorem Tl (m:KV) (aF:List aO):List.replicate aF.length 0=Di m aF 0:=by unfold Di;simp
theorem jZ {v:Int} (hx:aF[((j:Nat):Int).toNat]? =some x) (hv:v=xW m x):(Di m aF j).set j v=Di m aF (j+1):=by
 have hj:j<aF.length:=by rw[dP] at hx;exact(dE.1 hx).1
 unfold Di
 have h1:aF.length-j=(aF.length-(j+1))+1:=by omega
 rw[nX hx,aoz,h1,an4,aos _ _ (by simp;omega)]
 have h2:j-((aF.take j).map (xW m)).length=0:=by simp;omega
 rw[h2,apg,hv]
 simp
theorem Wa (h:aF.length≤j):Di m aF j=aF.map (xW m):=by
 unfold Di;rw[anj h,show aF.length-j=0 from by omega];simp
theorem Kt (hw:x.2.2.1=true):(-3:Int)=xW m x:=by unfold xW;simp[hw]
theorem Kw (hw:x.2.2.1=false) (h0:x.2.2.2.2=0):(-1:Int)=xW m x:=by unfold xW;simp[hw,h0]
theorem Ku (hw:x.2.2.1=false) (h0:¬x.2.2.2.2=0) (hs:(getM m (x.2.2.2.1,x.2.2.2.2)).isSome=true):(getM m (x.2.2.2.1,x.2.2.2.2)).getD 0=xW m x:=by unfold xW;simp[hw,h0,hs]
theorem Kv (hw:x.2.2.1=false) (h0:¬x.2.2.2.2=0) (hs:(getM m (x.2.2.2.1,x.2.2.2.2)).isSome=false):(-2:Int)=xW m x:=by unfold xW;simp only[hw,h0,hs];rfl
theorem G5 (hw:x.2.2.1=true):(-3:Int)=sY aF x:=by unfold sY;simp[hw]
theorem G7 (hw:x.2.2.1=false) (h0:x.2.2.2.2=0):(-1:Int)=sY aF x:=by unfold sY;simp[hw,h0]
theorem G6 (hw:x.2.2.1=false) (h0:¬x.2.2.2.2=0) (hs:decide (0≤gG aF x.2.2.2.1 x.2.2.2.2)=true):max (gG aF x.2.2.2.1 x.2.2.2.2) 0=sY aF x:=by unfold sY;simp only[hw,h0,anT hs];rfl
theorem Kx (hw:x.2.2.1=false) (h0:¬x.2.2.2.2=0) (hs:decide (0≤gG aF x.2.2.2.1 x.2.2.2.2)=false):(-2:Int)=sY aF x:=by unfold sY;simp only[hw,h0,aoE hs];rfl
theorem iM {v:Int} (hx:aF[((j:Nat):Int).toNat]? =some x) (hv:v=sY aF x):(aF.take j).map (sY aF)++[v]=(aF.take (j+1)).map (sY aF):=by
 rw[nX hx,aoz,hv];rfl
theorem GL {aF:List aO} (h:(dv aF).2.2=0):∀j,j≤aF.length→tX aF j (uT aF j)
 |0,_=>Hb aF
 |j+1,hj=>by
  have ih:=GL h j aj
  have hx:aF[((j:Nat):Int).toNat]? =some aF[j]:=by rw[dP];exact eI aj
  cases hw:(aF[j]).2.2.1 with
  |false=>rw[←Bu hx hw];exact EI ih hx hw
  |true=>
   rw[←zC hx hw]
   refine Ha ih hx hw ?_
   rw[ih]
   have hg:=(F3 h hx hw).2
   cases hf:(aF.take j).findIdx? (l7 (aF[j]).2.2.2.1 (aF[j]).2.2.2.2) with
   |none=>simp[hf]
   |some i=>
    exfalso
    have h1:=C0 hf
    have h2:=(anE.1 hf).1
    rw[iB] at h2
    unfold gG at hg
    omega
theorem adA {aF:List aO} (h:(dv aF).2.2=0) (x:aO):xW (uT aF aF.length) x=sY aF x:=by
 have hF:=GL h aF.length (ane _) (x.2.2.2.1,x.2.2.2.2)
 rw[aoa] at hF
 unfold xW sY gG eM
 rw[hF]
 dsimp only
 cases hf:aF.findIdx? (l7 x.2.2.2.1 x.2.2.2.2) with
 |none=>simp
 |some i=>simp
theorem Ic (h:(dv aF).2.2=0):gJ aF=gI aF:=by
 unfold gJ gI
 exact aon fun x _=>adA h x
end Go.Ew
namespace Go.Ew
theorem Ti (aF:List aO):(gJ aF).length=aF.length:=by unfold gJ;simp
theorem Jq (aF:List aO):(gI aF).length=aF.length:=by unfold gI;simp
theorem NA {aF:List aO} {x:aO} {t:Int} (ht:t=sY aF x):(x.2.2.1==decide (t= -3))=true∧(t= -1→x.2.2.2.2=0)∧ -3≤t∧t<(aF.length:Int)∧
  (0≤t→∃y,aF[t.toNat]? =some y∧y.2.2.1=true∧y.2.2.2.1=x.2.2.2.1∧y.2.2.2.2=x.2.2.2.2∧x.2.2.2.2≠0)∧
  (t= -2→∀y∈aF,y.2.2.1=true→y.2.2.2.1=x.2.2.2.1→y.2.2.2.2≠x.2.2.2.2):=by
 have hr:=wK (p:=l7 x.2.2.2.1 x.2.2.2.2) (r:=aF)
 have eo:0≤gG aF x.2.2.2.1 x.2.2.2.2→gG aF x.2.2.2.1 x.2.2.2.2<(aF.length:Int):=by
  intro h0
  obtain⟨y,hy, -⟩:=W5 h0
  have:=(dE.1 hy).1
  omega
 subst ht
 unfold sY
 by_cases hw:x.2.2.1=true
 ·simp only[hw,aoP]
  refine⟨by simp,fun h=>aj,by omega,by omega,fun h=>aj,fun h=>aj⟩
 ·have B4:x.2.2.1=false:=by simpa using hw
  simp only[B4,aqd,an3]
  by_cases h0:x.2.2.2.2=0
  ·simp only[h0,aoP]
   refine⟨by simp,fun _=>(by first|trivial|rfl),by omega,by omega,fun h=>aj,fun h=>aj⟩
  ·simp only[h0,an3]
   by_cases hp:0≤gG aF x.2.2.2.1 x.2.2.2.2
   ·simp only[hp,aoP]
    have hl:=eo hp
    obtain⟨y,hy,hyp⟩:=W5 hp
    obtain⟨y1,y2,y3⟩:=OM.1 hyp
    have e:max (gG aF x.2.2.2.1 x.2.2.2.2) 0=gG aF x.2.2.2.1 x.2.2.2.2:=by omega
    rw[e]
    refine⟨?_,fun h=>aj,by omega,hl,fun _=>⟨y,hy,y1,y2,y3,h0⟩,fun h=>aj⟩
    rw[ank aj];rfl
   ·simp only[hp,an3]
    refine⟨J,fun h=>aj,by omega,by omega,fun h=>aj,fun _ y hy hyw hyv hyn=>?_⟩
    apply hp
    unfold gG eM
    cases hf:aF.findIdx? (l7 x.2.2.2.1 x.2.2.2.2) with
    |none=>
     rw[ao9] at hf
     have:=hf y hy
     rw[OM.2 ⟨hyw,hyv,hyn⟩] at this
     cases this
    |some i=>simp
end Go.Ew
namespace Go.Ew
variable {n:Nat} {i j:Int} {p:hG}
def ib (n:Nat) (p:Nat→Bool):Row:=(((List.range n).filter p).map fun k=>((k:Nat):Int)).foldl ej (eb ((n:Nat):Int))
theorem qI (n:Nat):words ((n:Nat):Int)=(n+63)/64:=by unfold words;omega
theorem jF (n:Nat) (p:Nat→Bool):(ib n p).length=words ((n:Nat):Int):=by unfold ib;rw[wy,qg]
theorem VE (h0:0≤i) (h:i<((n:Nat):Int)):jx (eb ((n:Nat):Int)) i=true:=LX h0 (by rw[qg,qI];omega)
theorem iY (n:Nat) (p:Nat→Bool) (i:Int):fq (ib n p) i=(decide (0≤i)&&decide (i<((n:Nat):Int))&&p i.toNat):=by
 unfold ib
 rw[AG,Ft,ao4,anw]
 simp only[anN,anZ,ant,ang,eW,anb]
 constructor
 ·rintro⟨z,⟨k,⟨hk,hp⟩,rfl⟩,rfl, -⟩
  exact⟨⟨by omega,by omega⟩,by simpa using hp⟩
 ·rintro⟨⟨h0,h1⟩,hp⟩
  exact⟨i,⟨i.toNat,⟨by omega,hp⟩,by omega⟩,J,VE h0 h1⟩
theorem Ab {r:Row} {p:Nat→Bool} (hl:r.length=words ((n:Nat):Int)) (h:∀k:Nat,fq r ((k:Nat):Int)=(decide (k<n)&&p k)):r=ib n p:=by
 refine Ze (by rw[hl,jF]) fun k=>?_
 rw[h,iY]
 simp
theorem kK {p q:Nat→Bool} (h:∀k,k<n→p k=q k):ib n p=ib n q:=
 Ab (jF n p) fun k=>by
  rw[iY]
  by_cases hk:k<n
  ·simp[hk,h k hk]
  ·simp[hk]
theorem CS (n:Nat):eb ((n:Nat):Int)=ib n fun _=>false:=Ab (qg _) fun k=>by rw[Ft];simp
theorem u0 {p:Nat→Bool} (h0:0≤j) (h1:j<((n:Nat):Int)):ej (ib n p) j=ib n fun k=>p k||decide (k=j.toNat):=by
 refine Ab (by rw[kG,jF]) fun k=>?_
 rw[Dc,iY]
 have sV:jx (ib n p) j=true:=LX h0<|by rw[jF,qI];omega
 rw[sV,aqf,anw]
 simp only[anm,eW,anb,dP]
 constructor
 ·rintro(⟨⟨h2,h3⟩,h4⟩|h2)
  ·exact⟨by omega,.inl h4⟩
  ·exact⟨by omega,.inr aj⟩
 ·rintro⟨h2,h3|h3⟩
  ·exact .inl ⟨⟨by omega,by omega⟩,h3⟩
  ·exact .inr aj
def cH (n:Nat) (p:hG):Rows:=(List.range n).map fun i=>ib n (p i)
theorem mj (n:Nat) (p:hG):(cH n p).length=n:=by unfold cH;simp
theorem mX {n:Nat} {p:hG} {i:Nat} {x:Row} (h:(cH n p)[i]? =some x):i<n∧x=ib n (p i):=by
 unfold cH at h
 rw[anl] at h
 cases hr:(List.range n)[i]? with
 |none=>rw[hr] at h;cases h
 |some k=>
  rw[hr] at h
  obtain⟨h1,h2⟩:=dE.1 hr
  simp at h1 h2
  subst h2
  exact⟨h1,(ana h).symm⟩
theorem sC {i:Nat} (h:i<n):(cH n p)[i]? =some (ib n (p i)):=by
 unfold cH;rw[anl,aob h];rfl
theorem CT {rs:Rows} (hl:rs.length=n) (h:∀i,i<n→rs[i]? =some (ib n (p i))):rs=cH n p:=by
 apply anL
 intro i
 by_cases hi:i<n
 ·rw[h i hi,sC hi]
 ·rw[anp aj,anp (by rw[mj];omega)]
theorem dN {q:hG} (h:∀i j,i<n→j<n→p i j=q i j):cH n p=cH n q:=
 CT (mj n p) fun i hi=>by rw[sC hi,kK fun j hj=>h i j hi hj]
theorem yH (n:Nat):vV ((n:Nat):Int)=cH n fun _ _=>false:=by
 refine CT (by rw[qh];simp) fun i hi=>?_
 unfold vV
 rw[an6,anc (by simpa using hi),CS]
theorem xI {i:Nat} {q:Nat→Bool}:(cH n p).set i (ib n q)=cH n fun a b=>if a=i then q b else p a b:=by
 refine CT (by rw[am',mj]) fun k hk=>?_
 rw[an7]
 by_cases e:i=k
 ·subst e
  rw[anc rfl,anc (by rw[mj];exact hk)]
  congr 1
  exact kK fun j _=>by simp
 ·rw[anf e,sC hk]
  congr 1
  exact kK fun j _=>by rw[anf fun e2=>e e2.symm]
theorem tw (h0:0≤i) (h:i<((n:Nat):Int)):rowAt (cH n p) i=ib n (p i.toNat):=sA (sC aj)
theorem Cv (hi:kC ((n:Nat):Int) [i,j]=true):rO (cH n p) (i,j)=cH n fun a b=>p a b||(decide (a=i.toNat)&&decide (b=j.toNat)):=by
 obtain⟨⟨h1,h2⟩,h3,h4⟩:=jm.1 hi
 unfold rO
 dsimp only
 rw[tw h1 h2,u0 h3 h4,xI]
 refine dN fun a b ha hb=>?_
 by_cases e:a=i.toNat
 ·subst e;simp
 ·simp[e]
theorem Jk {n:Nat} {p:hG} {i j:Int}:eK ((n:Nat):Int) (cH n p) i j=(kC ((n:Nat):Int) [i,j]&&p i.toNat j.toNat):=by
 unfold eK
 cases h:kC ((n:Nat):Int) [i,j] with
 |false=>rfl
 |true=>
  obtain⟨⟨h1,h2⟩,h3,h4⟩:=jm.1 h
  rw[tw h1 h2,iY,anh h3,anh h4];rfl
theorem PF (hi:kC ((n:Nat):Int) [i,j]=true):ka ((n:Nat):Int) (cH n p) i j=cH n fun a b=>p a b||(decide (a=i.toNat)&&decide (b=j.toNat)):=by
 rw[(qe hi).2.1,Cv hi]
theorem ZM {i j:Nat}:kC ((n:Nat):Int) [((i:Nat):Int),((j:Nat):Int)]=(decide (i<n)&&decide (j<n)):=by
 rw[ab2,anw]
 simp only[eW,anb]
 omega
theorem uM {i j:Nat} (hi:i<n) (hj:j<n):eK ((n:Nat):Int) (cH n p) ((i:Nat):Int) ((j:Nat):Int)=p i j:=by
 rw[Jk,ZM];simp[hi,hj]
theorem St:∀x∈cH n p,x.length=words ((n:Nat):Int):=by
 intro x hx
 obtain⟨i,hi⟩:=anu.1 hx
 rw[(mX hi).2,jF]
theorem Bo (h:n≤4096):∀x∈cH n p,x.length≤1000000000:=by
 intro x hx
 rw[St x hx,qI];omega
end Go.Ew
namespace Go.Ew
variable {aF:List aO} {i t:Int} {x:aO}
abbrev Bx:aO:=(0,0,false,0,0)
def j3 (aF:List aO) (i:Nat):Int:=(aF.getD i Bx).1
def kL (aF:List aO) (i:Nat):Int:=(aF.getD i Bx).2.1
theorem I6 (h:aF[i.toNat]? =some x):aF.getD i.toNat Bx=x:=by rw[ik,h];rfl
theorem gF (h:aF[i.toNat]? =some x):j3 aF i.toNat=x.1:=by unfold j3;rw[I6 h]
theorem HQ (h:aF[i.toNat]? =some x):kL aF i.toNat=x.2.1:=by unfold kL;rw[I6 h]
structure ig (aF:List aO):Prop where
 first:0<aF.length→kL aF 0=0
 next:∀i,i+1<aF.length→(j3 aF (i+1)=j3 aF i∧kL aF (i+1)=kL aF i+1)∨(j3 aF i<j3 aF (i+1)∧kL aF (i+1)=0)
section
variable {aF:List aO} (o:ig aF)
include o
theorem ig.le:∀(d i:Nat),i+d<aF.length→j3 aF i≤j3 aF (i+d)
 |0,i,h=>aqr _
 |d+1,i,h=>by
  have h1:=ig.le d i aj
  have h2:=o.next (i+d) aj
  rw[show i+(d+1)=i+d+1 from rfl];omega
theorem ig.mono {i j:Nat} (Jh:i≤j) (h:j<aF.length):j3 aF i≤j3 aF j:=by
 have:=o.le (j-i) i aj
 rwa [show i+(j-i)=j from by omega] at this
theorem ig.place:∀(d i:Nat),i+d<aF.length→j3 aF i=j3 aF (i+d)→kL aF (i+d)=kL aF i+((d:Nat):Int)
 |0,i,h,_=>by simp
 |d+1,i,h,hs=>by
  have h1:=o.mono (i:=i) (j:=i+d) aj aj
  have h2:=o.mono (i:=i+d) (j:=i+(d+1)) aj h
  have h3:=o.next (i+d) aj
  have e:i+(d+1)=i+d+1:=rfl
  rw[e] at hs h2 ⊢
  have ih:=ig.place d i aj aj
  omega
theorem ig.Ap:∀i,i<aF.length→0≤kL aF i
 |0,h=>by rw[o.first h];exact aqr _
 |i+1,h=>by
  have:=ig.Ap i aj
  have:=o.next i h
  omega
theorem ig.back:∀i,i<aF.length→kL aF i≤((i:Nat):Int)∧∀k,((i:Nat):Int)-kL aF i≤((k:Nat):Int)→k≤i→j3 aF k=j3 aF i
 |0,h=>by
  rw[o.first h]
  exact⟨by omega,fun k _ hk=>by rw[show k=0 from by omega]⟩
 |i+1,h=>by
  obtain⟨h1,h2⟩:=ig.back i aj
  have h0:=o.Ap (i+1) h
  rcases o.next i h with ⟨hs,hp⟩|⟨hs,hp⟩
  ·refine⟨by omega,fun k hk Ay=>?_⟩
   by_cases e:k=i+1
   ·rw[e]
   ·rw[hs];exact h2 k aj aj
  ·refine⟨by omega,fun k hk Ay=>?_⟩
   rw[show k=i+1 from by omega]
theorem ig.ahead {i j:Nat} (hi:i<aF.length) (hj:j<aF.length) (hs:j3 aF i=j3 aF j):(kL aF i<kL aF j↔i<j):=by
 rcases Nat.le_total i j with h|h
 ·have:=o.place (j-i) i aj<|by rw[show i+(j-i)=j from by omega];exact hs
  rw[show i+(j-i)=j from by omega] at this
  omega
 ·have:=o.place (i-j) j aj<|by rw[show j+(i-j)=i from by omega];exact hs.symm
  rw[show j+(i-j)=i from by omega] at this
  omega
end
theorem Vf (o:ig aF) (h0:aF.length=0→x.2.1=0) (h:∀n,aF.length=n+1→(x.1=j3 aF n∧x.2.1=kL aF n+1)∨(j3 aF n<x.1∧x.2.1=0)):ig (aF++[x]):=by
 have hold:∀i,i<aF.length→(aF++[x]).getD i Bx=aF.getD i Bx:=by
  intro i hi
  rw[ik,ik,nM hi]
 have FG:(aF++[x]).getD aF.length Bx=x:=by
  rw[ik,ny (ane _)];simp
 refine⟨fun hl=>?_,fun i hi=>?_⟩
 ·by_cases e:aF.length=0
  ·have:=FG
   rw[e] at this
   unfold kL;rw[this];exact h0 e
  ·have:=o.first aj
   unfold kL at this ⊢
   rw[hold 0 aj];exact this
 ·rw[fF,ao3] at hi
  by_cases e:i+1<aF.length
  ·have:=o.next i e
   unfold j3 kL at this ⊢
   rw[hold i aj,hold (i+1) e];exact this
  ·have e2:aF.length=i+1:=by omega
   have:=h i e2
   unfold j3 kL at this ⊢
   rw[hold i aj,←e2,FG]
   rcases this with ⟨a,b⟩|⟨a,b⟩
   ·exact .inl ⟨a,b⟩
   ·exact .inr ⟨a,b⟩
def Nl (aF:List aO) (j:Nat):Prop:=∀x∈aF,x.1<((j:Nat):Int)
theorem Vy {n:Nat} (h:aF.length=n+1):aF.getD n Bx∈aF:=by
 rw[ik,eI aj]
 exact apt _
theorem N4 {j:Nat} {st:zo} {ops:List gT} (o:ig st.2) (hb:Nl st.2 j):∀k,k≤ops.length→
  ig (jL j st ops k).2∧Nl (jL j st ops k).2 (j+1)∧(0<k→∃n,(jL j st ops k).2.length=n+1∧j3 (jL j st ops k).2 n=((j:Nat):Int)∧kL (jL j st ops k).2 n=((k:Nat):Int)-1)
 |0,_=>by
  rw[A1]
  exact⟨o,fun x hx=>by have:=hb x hx;omega,fun h=>aj⟩
 |k+1,hk=>by
  obtain⟨ho,Cc,XT⟩:=N4 (ops:=ops) o hb k aj
  have hx:ops[((k:Nat):Int).toNat]? =some ops[k]:=by rw[dP];exact eI aj
  rw[xn hx]
  unfold uS
  dsimp only
  refine⟨Vf ho (fun h0=>?_) (fun n hn=>?_),?_,fun _=>⟨(jL j st ops k).2.length,by simp,?_,?_⟩⟩
  ·show ((k:Nat):Int)=0
   by_cases cx:0<k
   ·obtain⟨n,h1, -⟩:=XT cx
    omega
   ·omega
  ·show (((j:Nat):Int)=_∧((k:Nat):Int)=_)∨(_<((j:Nat):Int)∧((k:Nat):Int)=0)
   by_cases cx:0<k
   ·obtain⟨n',h1,h2,h3⟩:=XT cx
    obtain rfl:n=n':=by omega
    exact .inl ⟨h2.symm,by rw[h3];omega⟩
   ·right
    have cx:k=0:=by omega
    subst cx
    rw[A1] at hn ⊢
    exact⟨hb _ (Vy hn),J⟩
  ·intro x hxm
   rcases anx.1 hxm with h|h
   ·exact Cc x h
   ·rw[aoh] at h
    subst h
    show ((j:Nat):Int)<_
    omega
  ·unfold j3
   rw[ik,ny (ane _)];simp
  ·unfold kL
   rw[ik,ny (ane _)]
   simp
theorem M6 (h:dh):∀j,j≤h.length→ig (iF h j).2∧Nl (iF h j).2 j
 |0,_=>⟨⟨fun h=>(by simp[iF] at h),fun i hi=>(by simp[iF] at hi)⟩,fun x hx=>(by simp[iF] at hx)⟩
 |j+1,hj=>by
  obtain⟨ho,hb⟩:=M6 h j aj
  have hx:h[((j:Nat):Int).toNat]? =some h[j]:=by rw[dP];exact eI aj
  rw[zh hx]
  have:=N4 (ops:=h[j]) ho hb _<|ane _
  exact⟨this.1,this.2.1⟩
theorem Tx (h:dh):ig (jy h):=(M6 h h.length (ane _)).1
theorem Oz (h:dh):ig (cS h):=by
 unfold cS;split
 ·exact Tx h
 ·exact⟨fun h=>(by simp at h),fun i hi=>(by simp at hi)⟩
def DG (aF:List aO) (i j:Nat):Bool:=decide (i<j)&&decide (j<aF.length)&&decide (j3 aF i=j3 aF j)
def oY (aF:List aO):Rows:=cH aF.length (DG aF)
def zy (aF:List aO) (t:Int):Rows:=cH aF.length fun a b=>decide (t<((a:Nat):Int))&&DG aF a b
theorem P3 (aF:List aO) (t:Int) (h:(aF.length:Int)-2=t):vV (aF.length:Int)=zy aF t:=by
 rw[yH]
 refine dN fun a b ha hb=>?_
 unfold DG
 rw[anw]
 simp only[eW,anb,aqd,false_iff]
 omega
theorem U0 (h:t<0):zy aF t=oY aF:=by
 refine dN fun a b ha hb=>?_
 rw[anh aj];rfl
theorem kT (h0:0≤t) (h1:t+1<(aF.length:Int)) (hs:j3 aF t.toNat=j3 aF (t+1).toNat) {x:Row} (hx:(zy aF t)[(t+1).toNat]? =some x):
  (zy aF t).set t.toNat (ej x (t+1))=zy aF (t-1):=by
 unfold zy at *
 obtain⟨h2,rfl⟩:=mX hx
 rw[u0 aj h1,xI]
 refine dN fun a b ha hb=>?_
 have e:(t+1).toNat=t.toNat+1:=by omega
 rw[e] at hs ⊢
 by_cases ea:a=t.toNat
 ·subst ea
  rw[anc rfl]
  unfold DG
  rw[anw]
  simp only[eW,anm,anb]
  constructor
  ·rintro(⟨_,⟨h3,h4⟩,h5⟩|h3)
   ·exact⟨by omega,⟨by omega,h4⟩,by rw[hs,h5]⟩
   ·subst h3;exact⟨by omega,⟨by omega,by omega⟩,hs⟩
  ·rintro⟨_,⟨h3,h4⟩,h5⟩
   by_cases e2:b=t.toNat+1
   ·exact .inr e2
   ·exact .inl ⟨by omega,⟨by omega,h4⟩,by rw[←hs,h5]⟩
 ·rw[anf ea,show decide (t<((a:Nat):Int))=decide (t-1<((a:Nat):Int)) from by rw[aow];omega]
theorem Gr (o:ig aF) (h0:0≤t) (h1:t+1<(aF.length:Int)) (hs:¬j3 aF t.toNat=j3 aF (t+1).toNat):zy aF t=zy aF (t-1):=by
 refine dN fun a b ha hb=>?_
 have e:(t+1).toNat=t.toNat+1:=by omega
 rw[e] at hs
 by_cases ea:a=t.toNat
 ·subst ea
  rw[ank aj,ap_]
  symm
  unfold DG
  rw[apZ]
  right
  rw[apZ]
  by_cases wu:t.toNat<b
  ·right
   rw[anr]
   intro he
   have g1:=o.mono (i:=t.toNat) (j:=t.toNat+1) aj aj
   have g2:=o.mono (i:=t.toNat+1) (j:=b) aj aj
   omega
  ·left
   rw[ank aj];rfl
 ·rw[show decide (t<((a:Nat):Int))=decide (t-1<((a:Nat):Int)) from by rw[aow];omega]
def cC (aF:List aO) (t:Int):aA:=if 0≤t∧t<(aF.length:Int) then (List.range ((kL aF t.toNat).toNat+1)).map fun q=>(t-kL aF t.toNat)+((q:Nat):Int) else []
def u7 (f:Int) (q:Nat):aA:=(List.range q).map fun k=>f+((k:Nat):Int)
theorem NC (f:Int) (q:Nat):u7 f q++[f+((q:Nat):Int)]=u7 f (q+1):=by unfold u7;rw[aoM,aoz];rfl
theorem P6 (f:Int) (q:Nat):(u7 f q).length=q:=by unfold u7;simp
theorem Fl (h:¬(0≤t∧t<(aF.length:Int))):([]:aA)=cC aF t:=by unfold cC;rw[anf h]
theorem R7 {q:Nat} (h0:0≤t) (h:t<(aF.length:Int)) (hx:aF[t.toNat]? =some x) (hp:0≤x.2.1) (hq:((q:Nat):Int)=x.2.1+1):u7 (t-x.2.1) q=cC aF t:=by
 unfold cC u7
 rw[anc ⟨h0,h⟩,HQ hx,show x.2.1.toNat+1=q from by omega]
theorem Zk (aF:List aO):(oY aF).length=aF.length:=mj _ _
theorem UZ {i:Nat} {x:Row} (h:(zy aF t)[i]? =some x):x.length=words ((aF.length:Nat):Int):=by rw[(mX h).2,jF]
theorem No {n:Nat} (h:n≤4096):words ((n:Nat):Int)≤64:=by rw[qI];omega
end Go.Ew
namespace Go.Ew
variable {rs:Rows} {j n i:Nat} {p:hG} {x:Row}
def DX (n:Int) (r:Row):Bool:=decide (((r.length:Nat):Int)=((words n:Nat):Int))&&(List.range (64*r.length)).all fun k=>decide (((k:Nat):Int)<n)||!fq r ((k:Nat):Int)
def bK (n:Int) (rs:Rows):Bool:=CQ n&&decide (((rs.length:Nat):Int)=n)&&rs.all (DX n)
theorem RL {n:Int} {r:Row} {j:Int} (hl:((r.length:Nat):Int)=((words n:Nat):Int)) (h:∀k:Int,n≤k→k<j→fq r k=false) (hj:64*((r.length:Nat):Int)≤j):DX n r=true:=by
 unfold DX
 rw[anh hl,an_,ani]
 intro k hk
 have:=ang.1 hk
 by_cases hn:((k:Nat):Int)<n
 ·rw[anh hn];rfl
 ·rw[h _ aj aj];simp
theorem PQ {n:Int} (h0:0≤n) (h1:n≤4096) (h2:((rs.length:Nat):Int)=n) (hs:(rs.take j).all (DX n)=true) (hj:rs.length≤j):true=bK n rs:=by
 unfold bK;rw[mg hj] at hs;rw[sP.2 ⟨h0,h1⟩,anh h2,hs];rfl
theorem lJ (h:n≤4096):bK ((n:Nat):Int) (cH n p)=true:=by
 refine(PQ (j:=(cH n p).length) aj aj (by rw[mj]) ?_<|ane _).symm
 rw[aoa,ani]
 intro x hx
 obtain⟨i,hi⟩:=anu.1 hx
 obtain⟨h1,rfl⟩:=mX hi
 refine RL (j:=64*(((ib n<|p i).length:Nat):Int)) (by rw[jF]) (fun k hk Az=>?_)<|aqr _
 rw[iY,ank (show ¬k<((n:Nat):Int) from by omega)];simp
def cP (n:Int) (rs:Rows):Option Nat:=(List.range n.toNat).find? fun i=>eK n rs ((i:Nat):Int) ((i:Nat):Int)
theorem Wb {p:Nat→Bool} (hj:j<n) (hp:p j=true) (hl:∀k,k<j→p k=false):(List.range n).find? p=some j:=by
 rw[apk]
 refine⟨hp,List.range j,(List.range<|n-j-1).map (fun i=>j+1+i),?_,fun a ha=>by rw[hl a (ang.1 ha)];rfl⟩
 have:n=j+(1+(n-j-1)):=by omega
 conv=>lhs;rw[this]
 rw[nZ,nZ]
 simp[apV]
theorem Tt {p:Nat→Bool} (hj:n≤j) (hl:∀k,k<j→p k=false):(List.range n).find? p=none:=by
 rw[aoH]
 intro k hk
 rw[hl k (by have:=ang.1 hk;omega)];simp
theorem LK {n:Int} (hj:((j:Nat):Int)<n) (hp:eK n rs ((j:Nat):Int) ((j:Nat):Int)=true) (hl:∀k,k<j→eK n rs ((k:Nat):Int) ((k:Nat):Int)=false):cP n rs=some j:=Wb aj hp hl
theorem I2 {n:Int} (hj:n≤((j:Nat):Int)) (hl:∀k,k<j→eK n rs ((k:Nat):Int) ((k:Nat):Int)=false):cP n rs=none:=Tt aj hl
theorem Q2 {p:Nat→Bool} (hl:∀k,k<j→p k=false) (h:p j=false):∀k,k<j+1→p k=false:=by
 intro k hk
 rcases aoS.1 hk with h1|rfl
 ·exact hl k h1
 ·exact h
def yx (rs:Rows) (i:Nat):List (Int×Int):=(cX (rowAt rs ((i:Nat):Int))).map fun j=>(((i:Nat):Int),j)
def lz (rs:Rows) (i:Nat):List (Int×Int):=(List.range i).flatMap (yx rs)
def iU (n:Int) (rs:Rows):List (Int×Int):=lz rs n.toNat
theorem CJ (rs:Rows) (i:Nat):lz rs (i+1)=lz rs i++yx rs i:=by unfold lz;rw[aoM,ao0];simp
theorem GG (n:Nat) (q:Nat→Bool):cX (ib n q)=((List.range n).filter q).map fun k=>((k:Nat):Int):=by
 rw[←Sv]
 unfold Ki
 congr 1
 have hl:=jF n q
 rw[qI] at hl
 have e:64*(ib n q).length=n+(64*(ib n q).length-n):=by omega
 rw[e,nZ,aoi]
 have e2:((List.range (64*(ib n q).length-n)).map fun i=>n+i).filter (fun k=>fq (ib n q) ((k:Nat):Int))=[]:=by
  rw[aol]
  intro k hk
  obtain⟨i, -,rfl⟩:=anZ.1 hk
  rw[iY,ank (show ¬(((n+i:Nat):Nat):Int)<((n:Nat):Int) from by omega)];simp
 rw[e2,aoB]
 apply apl
 intro k hk
 have:=ang.1 hk
 rw[iY]
 simp[this]
theorem A' (h:i<n):yx (cH n p) i=((List.range n).filter (p i)).map fun j=>(((i:Nat):Int),((j:Nat):Int)):=by
 unfold yx
 rw[tw aj aj,dP,GG,List.map_map];rfl
theorem yI {z:Int×Int}:z∈iU ((n:Nat):Int) (cH n p)↔∃a b,a<n∧b<n∧p a b=true∧z=(((a:Nat):Int),((b:Nat):Int)):=by
 unfold iU lz
 rw[aqn]
 constructor
 ·rintro⟨a,ha,hz⟩
  have ha:=ang.1 ha
  rw[dP] at ha
  rw[A' ha] at hz
  obtain⟨b,hb,rfl⟩:=anZ.1 hz
  rw[ant,ang] at hb
  exact⟨a,b,ha,hb.1,hb.2,J⟩
 ·rintro⟨a,b,ha,hb,hp,rfl⟩
  refine⟨a,ang.2 (by simpa using ha),?_⟩
  rw[A' ha]
  exact anZ.2 ⟨b,ant.2 ⟨ang.2 hb,hp⟩,J⟩
def Lk (n:Nat) (p:hG):Nat:=((List.range n).map fun a=>((List.range n).filter (p a)).length).sum
theorem R_:(iU ((n:Nat):Int) (cH n p)).length=Lk n p:=by
 unfold iU lz Lk
 rw[List.length_flatMap,dP]
 congr 1
 apply aon
 intro a ha
 rw[A' (ang.1 ha),anO]
theorem ND {n:Nat} {p:hG}:(iU ((n:Nat):Int) (cH n p)).length≤n*n:=by
 rw[R_];unfold Lk
 have:∀l:List Nat,(l.map fun a=>((List.range n).filter (p a)).length).sum≤l.length*n:=by
  intro l
  induction l with
  |nil=>simp
  |cons a l ih=>
   have h1:=aoc (p a)<|List.range n
   rw[ao6] at h1
   simp only[anA,apW,iI,an2,Nat.one_mul];omega
 have h:=this<|List.range n
 rwa [ao6] at h
theorem RH {rs:Rows} (hr:∀x∈rs,x.length≤64) (i:Nat):(yx rs i).length≤4096:=by
 unfold yx
 rw[anO]
 have h1:=nj<|rowAt rs ((i:Nat):Int)
 have:(rowAt rs ((i:Nat):Int)).length≤64:=by
  unfold rowAt
  rw[ik]
  cases h:rs[((i:Nat):Int).toNat]? with
  |none=>simp
  |some x=>exact hr x (dC h)
 omega
theorem Es {rs:Rows} (hr:∀x∈rs,x.length≤64):∀i,(lz rs i).length≤4096*i
 |0=>by simp[lz]
 |i+1=>by
  have:=Es hr i
  have:=RH hr i
  rw[CJ,fF];omega
theorem UL (hx:rs[((i:Nat):Int).toNat]? =some x):yx rs i=(cX x).map fun j=>(((i:Nat):Int),j):=by unfold yx;rw[sA hx]
theorem Sa {q:Nat} {y:Int} (hy:(cX x)[((q:Nat):Int).toNat]? =some y):(lz rs i++((cX x).take q).map fun j=>(((i:Nat):Int),j))++[(((i:Nat):Int),y)]=lz rs i++((cX x).take (q+1)).map fun j=>(((i:Nat):Int),j):=by
 rw[nX hy,aoz,anM];rfl
theorem Vd {q:Nat} (hx:rs[((i:Nat):Int).toNat]? =some x) (hq:(cX x).length≤q):(lz rs i++((cX x).take q).map fun j=>(((i:Nat):Int),j))=lz rs (i+1):=by
 rw[mg hq,CJ,UL hx]
theorem R' {n:Int} (h:n≤((i:Nat):Int)) (hi:((i:Nat):Int)≤n∨i=0):lz rs i=iU n rs:=by
 unfold iU;rw[show n.toNat=i from by omega]
theorem R8 {aF:List aO} (o:ig aF) {t:Int} (h0:0≤t) (h:t<(aF.length:Int)):(((cC aF t).length:Nat):Int)=kL aF t.toNat+1:=by
 have:=o.Ap t.toNat aj
 unfold cC;rw[anc ⟨h0,h⟩];simp;omega
theorem Zl {aF:List aO} (o:ig aF) {t:Int} (h0:0≤t) (h:t<(aF.length:Int)) {q:Nat} {x:Int} (hx:(cC aF t)[q]? =some x):0≤x∧x≤t∧x<(aF.length:Int)∧j3 aF x.toNat=j3 aF t.toNat∧kL aF x.toNat=((q:Nat):Int)∧x=t-kL aF t.toNat+((q:Nat):Int):=by
 obtain⟨b1,b2⟩:=o.back t.toNat aj
 have b0:=o.Ap t.toNat aj
 unfold cC at hx
 rw[anc ⟨h0,h⟩,anl] at hx
 cases hr:(List.range ((kL aF t.toNat).toNat+1))[q]? with
 |none=>rw[hr] at hx;cases hx
 |some k=>
  rw[hr] at hx
  obtain⟨h1,h2⟩:=dE.1 hr
  simp only[ao6] at h1
  rw[apJ] at h2
  subst h2
  have hx:(t-kL aF t.toNat)+((q:Nat):Int)=x:=ana hx
  have hs:=b2 x.toNat aj aj
  refine⟨by omega,by omega,by omega,hs,?_,hx.symm⟩
  have:=o.place (t.toNat-x.toNat) x.toNat aj<|by rw[show x.toNat+(t.toNat-x.toNat)=t.toNat from by omega];exact hs
  rw[show x.toNat+(t.toNat-x.toNat)=t.toNat from by omega] at this
  omega
theorem ZA (h:n≤4096):∀x∈cH n p,x.length≤64:=by
 intro x hx
 obtain⟨i,hi⟩:=apu hx
 obtain⟨-,rfl⟩:=mX hi
 have h1:=jF n<|p i
 have:=E4 (n:=((n:Nat):Int)) aj
 omega
end Go.Ew
namespace Go.Ew
variable {n:Nat}
theorem UQ {r:Row} (h:DX ((n:Nat):Int) r=true):r=ib n fun k=>fq r ((k:Nat):Int):=by
 unfold DX at h
 rw[eW,anb,ani] at h
 refine Ab aj fun k=>?_
 by_cases hk:k<n
 ·simp[hk]
 ·rw[ank hk,ap_]
  by_cases h2:k<64*r.length
  ·have:=h.2 k<|ang.2 h2
   rw[ank (show ¬((k:Nat):Int)<((n:Nat):Int) from by omega),ao4] at this
   simpa using this
  ·exact(xR<|by unfold jx;exact ank aj).symm
theorem mh {n:Int} {rs:Rows} (h:bK n rs=true):∃(m:Nat) (p:hG),n=((m:Nat):Int)∧m≤4096∧rs=cH m p:=by
 unfold bK at h
 rw[eW,eW,anb,ani] at h
 obtain⟨⟨h1,h2⟩,h3⟩:=h
 have h1:=sP.1 h1
 refine⟨n.toNat,fun i j=>fq (rs.getD i []) ((j:Nat):Int),by omega,by omega,CT aj fun i hi=>?_⟩
 have hx:rs[i]? =some rs[i]:=eI aj
 have e:rs.getD i []=rs[i]:=by rw[ik,hx];rfl
 rw[hx,e]
 have:=UQ (n:=n.toNat) (r:=rs[i])<|by rw[show ((n.toNat:Nat):Int)=n from by omega];exact h3 _ (apt _)
 rw[←this]
theorem bQ {n:Int} {rs:Rows} (h:bK n rs=true):((rs.length:Nat):Int)=n∧(∀x∈rs,x.length≤1000000000)∧n≤4096∧0≤n∧∀x∈rs,x.length≤64:=by
 obtain⟨m,p,rfl,hm,rfl⟩:=mh h
 exact⟨by rw[mj],Bo hm,by omega,by omega,ZA hm⟩
def vU (a b:Rows) (n:Nat):Rows:=(List.range n).map fun i=>jM (rowAt a ((i:Nat):Int)) (rowAt b ((i:Nat):Int))
theorem Lr (a b:Rows) (n:Nat):(vU a b n).length=n:=by unfold vU;simp
theorem Sd (a b:Rows) (n:Nat):vU a b (n+1)=vU a b n++[jM (rowAt a ((n:Nat):Int)) (rowAt b ((n:Nat):Int))]:=by unfold vU;rw[aoM,aoz];rfl
def tB (an bn:Int):Int:=if an=bn then an else 0
def mi (an:Int) (ar:Rows) (bn:Int) (br:Rows):Rows:=if an=bn then vU ar br an.toNat else []
def xE (an bn:Int):Int:=if an=bn then 0 else 1
theorem Lt {an bn:Int} {ar br:Rows} (h:¬an=bn):tB an bn=0∧mi an ar bn br=[]∧xE an bn=1:=by unfold tB mi xE;simp[h]
theorem Ai {an bn:Int} {ar br:Rows} (h:an=bn):tB an bn=an∧mi an ar bn br=vU ar br an.toNat∧xE an bn=0:=by unfold tB mi xE;simp[h]
def va (a b:Rows) (n j:Nat):Rows:=vU a b j++List.replicate (n-j) []
theorem NI (a b:Rows) (n:Nat):List.replicate n []=va a b n 0:=by unfold va vU;simp
theorem P7 {a b:Rows} {j:Nat} {x y:Row} (hj:j<n) (hx:a[((j:Nat):Int).toNat]? =some x) (hy:b[((j:Nat):Int).toNat]? =some y):(va a b n j).set j (jM x y)=va a b n (j+1):=by
 unfold va
 rw[Sd,sA hx,sA hy]
 have hl:=Lr a b j
 rw[aos _ _ aj,hl,an',show n-j=n-(j+1)+1 from by omega,an4,apg]
 simp
theorem P8 {a b:Rows} {j:Nat} (hj:n≤j) (h:j≤n):va a b n j=vU a b n:=by
 obtain rfl:n=j:=by omega
 unfold va;simp
theorem HT (p q:Nat→Bool):jM (ib n p) (ib n q)=ib n fun k=>p k||q k:=by
 refine Ab (by rw[Bg,jF,jF];omega) fun k=>?_
 rw[ZQ,iY,iY]
 by_cases hk:k<n<;>simp[hk]
theorem Se (p q:hG):vU (cH n p) (cH n q) n=cH n fun a b=>p a b||q a b:=by
 refine CT (Lr _ _ _) fun i hi=>?_
 unfold vU
 rw[anl,aob hi]
 simp only[aov]
 rw[tw aj aj,tw aj aj,dP,HT]
theorem R9 {p:hG} {z:Int×Int} {q:Nat} (h:(iU ((n:Nat):Int) (cH n p))[q]? =some z):0≤z.1∧z.1<((n:Nat):Int)∧0≤z.2∧z.2<((n:Nat):Int)∧p z.1.toNat z.2.toNat=true:=by
 obtain⟨a,b,ha,hb,hp,rfl⟩:=yI.1 (dC h)
 exact⟨by omega,by omega,by omega,by omega,by simpa using hp⟩
end Go.Ew
namespace Go.Ew
theorem kS {n:Int} {rs:Rows} (h:bK n rs=true):0≤n:=(bQ h).2.2.2.1
section
variable {n:Int} {rs:Rows} {i j:Int} (h:bK n rs=true) (hi:kC n [i,j]=true)
include h hi
theorem RC:bK (ir n i j) (ka n rs i j)=true:=by
 obtain⟨m,p,rfl,hm,rfl⟩:=mh h
 rw[(qe (rs:=cH m p) hi).1,PF hi]
 exact lJ hm
end
theorem Nu {n:Int} {rs:Rows} (h:bK n rs=true):(iU n rs).length≤16777216:=by
 obtain⟨m,p,rfl,hm,rfl⟩:=mh h
 have h1:=ND (n:=m) (p:=p)
 have h2:m*m≤4096*4096:=Nat.mul_le_mul hm hm
 omega
end Go.Ew
namespace Go.Ew
variable {l:List Item} {i j q:Nat} {a b xs:Row} {n:Int}
theorem SC {B e:Nat} {iv fv:Value} (hj:l[j]? =some (own B e fv b)) (hi:i<l.length) (gA:i≠j∨(iv=fv∧b=a)) (Ex:xs.length=a.length) (LZ:xs=qk a.length a b a q) (hq:q≤b.length) (hlen:b.length≤a.length):
  ∃ys:Row,(l.set i (own B e iv xs))[j]? =some (own B e fv ys)∧ys.length=b.length∧∀x,ys[((q:Nat):Int).toNat]? =some x→b.getD q 0#64=x:=by
 by_cases h:i=j
 ·subst h
  rcases gA with h|⟨rfl,rfl⟩
  ·exact absurd J h
  ·refine⟨xs,by rw[ano hi],Ex,fun x hx=>?_⟩
   rw[LZ] at hx
   exact(Bf hx).symm
 ·exact⟨b,by rw[anD h,hj],J,fun x hx=>wZ hx⟩
theorem SB {x y:bt} (hs:xs=qk a.length a b a q) (hx:b.getD q 0#64=x) (hy:xs[((q:Nat):Int).toNat]? =some y):xs.set ((q:Nat):Int).toNat (y ||| x)=qk a.length a b a (q+1):=by
 subst hs
 have e1:=Bf hy
 rw[dP]
 exact Fp<|by rw[e1];unfold tC;rw[hx]
theorem VC (hs:xs=qk a.length a b a q) (hlen:b.length≤a.length) (hq:b.length≤q):xs=jM a b:=by
 rw[hs]
 refine xD aj<|fun i h1 h2=>?_
 unfold tC
 rw[sF (show b.length≤i by omega)];simp
theorem K9 {it:Item} (hi:i<l.length):(l.set i it)[i]? =some it:=ano hi
theorem set_set {l:List Item} {i:Nat} {x y:Item}:(l.set i x).set i y=l.set i y:=List.set_set ..
theorem Y9 {x:Item} (h:l[i]? =some x):l.set i x=l:=by
 apply anL
 intro m
 rw[an7]
 split
 ·rename_i e
  subst e
  split
  ·exact h.symm
  ·rename_i hl
   rw[anp aj]
 ·rfl
def A3 (z:Int×Int):Int×Int:=(z.2,z.1)
def gH (n:Int) (rs:Rows):Rows:=foldM n ((iU n rs).map A3)
theorem PO {rs:Rows} (h:bK n rs=true) {z:Int×Int} (hz:(iU n rs)[q]? =some z):0≤z.1∧z.1<n∧0≤z.2∧z.2<n:=by
 obtain⟨m,p,rfl,hm,rfl⟩:=mh h
 obtain⟨h1,h2,h3,h4, -⟩:=R9 hz
 exact⟨h1,h2,h3,h4⟩
theorem xm {ps:List (Int×Int)} {x:Row} (h:(foldM n ps)[i]? =some x) {k:Int} (h0:0≤k) (h1:k<n):0≤k/64∧k/64<((x.length:Nat):Int)∧(k/64).toNat<x.length∧jx x k=true:=by
 have hr:=Tm h
 have hw:x.length=(n.toNat+63)/64:=by rw[hr,←qI,show ((n.toNat:Nat):Int)=n from by omega]
 refine⟨by omega,by omega,by omega,LX h0 aj⟩
theorem Rm {l:List (Int×Int)} {z:Int×Int} {xs:Rows} {x:Row} {u:bt} (hs:xs=foldM n ((l.map A3).take j)) (hz:l[((j:Nat):Int).toNat]? =some z) (hx:xs[z.2.toNat]? =some x) (hu:x[(z.1/64).toNat]? =some u) (h0:0≤z.1) (h1:z.1<n):
  xs.set z.2.toNat (x.set (z.1/64).toNat (u ||| kl (z.1%64)))=foldM n ((l.map A3).take (j+1)):=by
 have hr:=(xm (hs▸hx) h0 h1).2.2.2
 rw[QP (p:=(z.2,z.1)) (by rw[anl,hz];rfl),←hs,Oc hr hu]
 exact HL hx
theorem Uz {rs xs:Rows} (hs:xs=foldM n (((iU n rs).map A3).take j)) (hj:(iU n rs).length≤j):xs=gH n rs:=by
 rw[hs,mg (by rw[anO];exact hj)];rfl
theorem Rl (n:Int) (l:List (Int×Int)):List.replicate n.toNat (eb n)=foldM n ((l.map A3).take 0):=rfl
theorem Co (n:Int) (rs:Rows):(gH n rs).length=n.toNat:=Dj _ _
end Go.Ew
namespace Go.Ew
variable {m:Nat} {p:hG}
theorem G8 {m:Nat}:∀(l:List (Int×Int)) (p:hG),(∀z∈l,kC ((m:Nat):Int) [z.1,z.2]=true)→l.foldl rO (cH m p)=cH m fun a b=>p a b||l.any fun z=>decide (a=z.1.toNat)&&decide (b=z.2.toNat)
 |[],p,_=>by
  show cH m p=_
  exact dN fun a b _ _=>by simp
 |z::l,p,h=>by
  rw[apE,show z=(z.1,z.2) from rfl,Cv (h z anY),G8 l _ fun y hy=>h y (anI _ hy)]
  exact dN fun a b _ _=>by simp[Bool.or_assoc]
theorem QQ {l:List (Int×Int)} (h:∀z∈l,kC ((m:Nat):Int) [z.1,z.2]=true):foldM ((m:Nat):Int) l=cH m fun a b=>l.any fun z=>decide (a=z.1.toNat)&&decide (b=z.2.toNat):=by
 unfold foldM
 rw[yH,G8 l _ h]
 exact dN fun a b _ _=>by simp
theorem Vc:∀z∈iU ((m:Nat):Int) (cH m p),kC ((m:Nat):Int) [z.1,z.2]=true:=by
 intro z hz
 obtain⟨a,b,ha,hb, -,rfl⟩:=yI.1 hz
 exact jm.2 ⟨⟨by omega,by omega⟩,by omega,by omega⟩
theorem Ug {a b:Nat} (ha:a<m) (hb:b<m):((iU ((m:Nat):Int) (cH m p)).any fun z=>decide (a=z.1.toNat)&&decide (b=z.2.toNat))=p a b:=by
 rw[anw,anN]
 constructor
 ·rintro⟨z,hz,h⟩
  obtain⟨c,d,hc,hd,hp,rfl⟩:=yI.1 hz
  simp only[dP,eW,anb] at h
  rw[h.1,h.2];exact hp
 ·intro hp
  exact⟨_,yI.2 ⟨a,b,ha,hb,hp,J⟩,by simp⟩
theorem IE:gH ((m:Nat):Int) (cH m p)=cH m fun a b=>p b a:=by
 unfold gH
 rw[QQ]
 ·refine dN fun a b ha hb=>?_
  rw[List.any_map,←Ug (p:=p) hb ha]
  congr 1
  funext z
  simp only[Function.comp,A3]
  exact Bool.and_comm _ _
 ·intro z hz
  obtain⟨y,hy,rfl⟩:=anZ.1 hz
  have:=jm.1<|Vc y hy
  exact jm.2 ⟨this.2,this.1⟩
section
variable {n:Int} {rs:Rows} (h:bK n rs=true)
include h
theorem Gi:bK n (gH n rs)=true:=by
 obtain⟨m,p,rfl,hm,rfl⟩:=mh h
 rw[IE];exact lJ hm
end
end Go.Ew
namespace Go.Ew
variable {n:Int} {mr xs:Rows} {i j k:Nat} {x y:Row} {p:hG}
theorem nY (h:bK n mr=true) (hx:mr[i]? =some x):x.length=words n:=by
 obtain⟨m,p,rfl,hm,rfl⟩:=mh h
 rw[(mX hx).2,jF]
theorem Oq (h:bK n mr=true) (hs:xs=mr.take j++List.replicate (n.toNat-j) (eb n)) (hj:j<mr.length) (hx:xs[((j:Nat):Int).toNat]? =some x):x=eb n:=by
 rw[dP,hs,ny (by rw[iB];omega),iB,aof aj,an'] at hx
 have:=dC hx
 exact(List.mem_replicate.1 this).2
theorem Zn (h:bK n mr=true) (hs:xs=mr.take j++List.replicate (n.toNat-j) (eb n)) (hy:mr[((j:Nat):Int).toNat]? =some y) (hx:xs[((j:Nat):Int).toNat]? =some x):y.length=x.length:=by
 have hj:=(dE.1 hy).1
 rw[Oq h hs (by simpa using hj) hx,qg,nY h hy]
theorem Zm (h:bK n mr=true) (hs:xs=mr.take j++List.replicate (n.toNat-j) (eb n)) (hy:mr[((j:Nat):Int).toNat]? =some y) (hx:xs[((j:Nat):Int).toNat]? =some x):0<x.length:=by
 have hj:=(dE.1 hy).1
 have hl:=(bQ h).1
 rw[Oq h hs (by simpa using hj) hx,qg]
 have h0:1≤n:=by rw[dP] at hj;omega
 unfold words;omega
theorem Ve (h:bK n mr=true) (hs:xs=mr.take j++List.replicate (n.toNat-j) (eb n)) (hy:mr[((j:Nat):Int).toNat]? =some y):xs.set ((j:Nat):Int).toNat y=mr.take (j+1)++List.replicate (n.toNat-(j+1)) (eb n):=by
 have hj:=(dE.1 hy).1
 have hl:=(bQ h).1
 rw[nX hy]
 rw[dP] at hj ⊢
 have eo:(mr.take j).length=j:=by rw[iB];omega
 rw[hs,aos _ _ aj,eo,an',show n.toNat-j=n.toNat-(j+1)+1 from by omega,an4,apg]
 simp
theorem Zo (h:bK n mr=true) (hs:xs=mr.take j++List.replicate (n.toNat-j) (eb n)) (hj:mr.length≤j):xs=mr:=by
 have hl:=(bQ h).1
 rw[hs,mg hj,show n.toNat-j=0 from by omega];simp
def fZ (rs:Rows) (i j:Nat):Bool:=fq (rs.getD i []) ((j:Nat):Int)
theorem Cy {rs:Rows} (h:bK n rs=true):rs=cH n.toNat (fZ rs):=by
 obtain⟨m,p,rfl,hm,rfl⟩:=mh h
 rw[dP]
 refine dN fun i j hi hj=>?_
 unfold fZ
 rw[ik,sC hi]
 show p i j=fq (ib m (p i)) _
 rw[iY];simp[hj]
def wM (p:hG):Nat→hG
 |0,a,b=>p a b
 |k+1,a,b=>wM p k a b||(wM p k a k&&wM p k k b)
def wR (p:hG) (k i a b:Nat):Bool:=if a<i then wM p (k+1) a b else wM p k a b
theorem Y1 (p:hG) (k b:Nat):wM p (k+1) k b=wM p k k b:=by
 show (wM p k k b||(wM p k k k&&wM p k k b))=wM p k k b
 cases wM p k k b<;>simp
theorem YZ (p:hG) (n k:Nat):cH n (wM p k)=cH n (wR p k 0):=dN fun a b _ _=>by unfold wR;simp
theorem aaG (p:hG) {n:Nat} (h:n≤i):cH n (wR p k i)=cH n (wM p (k+1)):=dN fun a b ha _=>by unfold wR;rw[anc aj]
theorem Ri {n:Nat} (hx:(cH n (wR p k i))[i]? =some x):x=ib n (wM p k i):=by
 rw[(mX hx).2]
 exact kK fun b _=>by unfold wR;rw[anf aj]
theorem Y0 {n:Nat} (hy:(cH n (wR p k i))[k]? =some y):y=ib n (wM p k k):=by
 rw[(mX hy).2]
 exact kK fun b _=>by
  unfold wR;split
  ·exact Y1 p k b
  ·rfl
theorem aaF {n:Nat} (hs:xs=cH n (wR p k i)) (hx:xs[i]? =some x) (hy:xs[k]? =some y) (hk:k<n) (h:fq x ((k:Nat):Int)=true):xs.set i (jM x y)=cH n (wR p k (i+1)):=by
 subst hs
 rw[Ri hx] at h ⊢
 rw[Y0 hy,HT,xI]
 rw[iY] at h
 have tL:wM p k i k=true:=by simpa [hk] using h
 refine dN fun a b _ _=>?_
 by_cases e:a=i
 ·subst e
  rw[anc rfl]
  unfold wR
  rw[anc aj]
  show _=(wM p k a b||(wM p k a k&&wM p k k b))
  rw[tL,an_]
 ·rw[anf e]
  unfold wR
  by_cases h2:a<i
  ·rw[anc h2,anc aj]
  ·rw[anf h2,anf aj]
theorem aeL {n:Nat} (hs:xs=cH n (wR p k i)) (hx:xs[i]? =some x) (hk:k<n) (h:fq x ((k:Nat):Int)=false):xs=cH n (wR p k (i+1)):=by
 subst hs
 rw[Ri hx,iY] at h
 have tL:wM p k i k=false:=by simpa [hk] using h
 refine dN fun a b _ _=>?_
 unfold wR
 by_cases h2:a<i
 ·rw[anc h2,anc aj]
 ·by_cases e:a=i
  ·subst e
   rw[anf h2,anc aj]
   show _=(wM p k a b||(wM p k a k&&wM p k k b))
   rw[tL];simp
  ·rw[anf h2,anf aj]
def fj (n:Int) (rs:Rows):Rows:=cH n.toNat (wM (fZ rs) n.toNat)
theorem KJ {n q:Nat} (hx:(cH n (wR p k i))[q]? =some x):x.length=words ((n:Nat):Int):=by rw[(mX hx).2,jF]
end Go.Ew
namespace Go.Ew
variable {p:hG} {a b n:Nat}
inductive TC (n:Nat) (p:hG):Nat→bW
 |one {a b:Nat}:a<n→b<n→p a b=true→TC n p a b
 |cons {a b c:Nat}:a<n→b<n→p a b=true→TC n p b c→TC n p a c
section
variable {n:Nat} {p q:hG} {a b c:Nat}
theorem TC.lt (h:TC n p a b):a<n∧b<n:=by
 induction h with
 |one h1 h2 _=>exact⟨h1,h2⟩
 |cons h1 _ _ _ ih=>exact⟨h1,ih.2⟩
theorem TC.trans (h:TC n p a b) (k:TC n p b c):TC n p a c:=by
 induction h with
 |one h1 h2 h3=>exact .cons h1 h2 h3 k
 |cons h1 h2 h3 _ ih=>exact .cons h1 h2 h3 (ih k)
theorem TC.snoc (h:TC n p a b) (hc:c<n) (hp:p b c=true):TC n p a c:=h.trans (.one h.lt.2 hc hp)
theorem TC.mono (h:TC n p a b) (GU:∀x y,x<n→y<n→p x y=true→q x y=true):TC n q a b:=by
 induction h with
 |one h1 h2 h3=>exact .one h1 h2 (GU _ _ h1 h2 h3)
 |cons h1 h2 h3 _ ih=>exact .cons h1 h2 (GU _ _ h1 h2 h3) ih
theorem TC.least {R:Nat→bW} (h:TC n p a b) (h1:∀x y,x<n→y<n→p x y=true→R x y) (h2:∀x y z,x<n→y<n→z<n→R x y→R y z→R x z):R a b:=by
 induction h with
 |one k1 k2 k3=>exact h1 _ _ k1 k2 k3
 |cons k1 k2 k3 k4 ih=>exact h2 _ _ _ k1 k2 k4.lt.2 (h1 _ _ k1 k2 k3) ih
theorem TC.last (h:TC n p a c):p a c=true∨∃b,TC n p a b∧p b c=true:=by
 induction h with
 |one _ _ h3=>exact .inl h3
 |cons h1 h2 h3 _ ih=>
  rcases ih with h|⟨b,h4,h5⟩
  ·exact .inr ⟨_,.one h1 h2 h3,h⟩
  ·exact .inr ⟨b,.cons h1 h2 h3 h4,h5⟩
end
theorem AX {n:Nat} {p:hG}:∀k,k≤n→∀a b,a<n→b<n→wM p k a b=true→TC n p a b
 |0,_,a,b,ha,hb,h=>.one ha hb h
 |k+1,hk,a,b,ha,hb,h=>by
  have h:(wM p k a b||(wM p k a k&&wM p k k b))=true:=h
  rw[anm,eW] at h
  rcases h with h|⟨h1,h2⟩
  ·exact AX k aj a b ha hb h
  ·exact(AX k aj a k ha aj h1).trans (AX k aj k b aj hb h2)
theorem N0 {k:Nat}:wM p (k+1) a b=true↔wM p k a b=true∨(wM p k a k=true∧wM p k k b=true):=by
 show (wM p k a b||(wM p k a k&&wM p k k b))=true↔_
 rw[anm,eW]
theorem Pv {p:hG} {a b:Nat}:∀k,p a b=true→wM p k a b=true
 |0,h=>h
 |k+1,h=>N0.2 (.inl (Pv k h))
theorem Cm {p:hG}:∀k a b c,c<k→wM p k a c=true→wM p k c b=true→wM p k a b=true
 |0,_,_,_,h,_,_=>absurd h (aoR _)
 |k+1,a,b,c,h,h1,h2=>by
  have ih:=fun a b c=>Cm (p:=p) k a b c
  rw[N0] at h1 h2 ⊢
  by_cases hc:c<k
  ·rcases h1 with h1|⟨h1,h3⟩
   ·rcases h2 with h2|⟨h2,h4⟩
    ·exact .inl (ih _ _ _ hc h1 h2)
    ·exact .inr ⟨ih _ _ _ hc h1 h2,h4⟩
   ·rcases h2 with h2|⟨h2,h4⟩
    ·exact .inr ⟨h1,ih _ _ _ hc h3 h2⟩
    ·exact .inr ⟨h1,h4⟩
  ·have:c=k:=by omega
   subst this
   have e1:wM p c a c=true:=by
    rcases h1 with h1|⟨h1,_⟩<;>exact h1
   have e2:wM p c c b=true:=by
    rcases h2 with h2|⟨_,h2⟩<;>exact h2
   exact .inr ⟨e1,e2⟩
def cl (n:Nat) (p:hG) (a b:Nat):Bool:=wM p n a b
theorem rj (ha:a<n) (hb:b<n):cl n p a b=true↔TC n p a b:=
 ⟨AX n (ane _) a b ha hb,fun h=>h.least (R:=fun x y=>cl n p x y=true) (fun x y _ _ hp=>Pv n hp) fun x y z _ hy _ h1 h2=>Cm n x z y hy h1 h2⟩
theorem F2 {q:hG} (h:∀a b,a<n→b<n→p a b=q a b) (ha:a<n) (hb:b<n):cl n p a b=cl n q a b:=by
 rw[anw,rj ha hb,rj ha hb]
 exact⟨fun k=>k.mono fun x y hx hy hp=>by rw[←h x y hx hy];exact hp,fun k=>k.mono fun x y hx hy hp=>by rw[h x y hx hy];exact hp⟩
theorem yc (h:p a b=true):cl n p a b=true:=Pv n h
theorem BK {c:Nat} (hb:b<n) (h1:cl n p a b=true) (h2:cl n p b c=true):cl n p a c=true:=Cm n a c b hb h1 h2
theorem jG (ha:a<n) (hb:b<n):fZ (cH n p) a b=p a b:=by
 unfold fZ
 rw[ik,sC ha]
 show fq (ib n (p a)) _=_
 rw[iY];simp[hb]
theorem EL:fj ((n:Nat):Int) (cH n p)=cH n (cl n p):=by
 unfold fj
 rw[dP]
 exact dN fun a b ha hb=>F2 (fun x y hx hy=>jG hx hy) ha hb
theorem pk {n:Int} {rs:Rows} (h:bK n rs=true):bK n (fj n rs)=true:=by
 obtain⟨m,p,rfl,hm,rfl⟩:=mh h
 rw[EL];exact lJ hm
def BV (p:hG) (i j a b:Nat):Bool:=p a b||((decide (a=i)||p a i)&&(decide (b=j)||p j b))
theorem BU {i j:Nat}:BV p i j a b=true↔p a b=true∨((a=i∨p a i=true)∧(b=j∨p j b=true)):=by
 unfold BV;simp
theorem Ui (h:∀i j k,i<n→j<n→k<n→p i j=true→p j k=true→p i k=true) {i j:Nat} (hi:i<n) (hj:j<n) (ha:a<n) (hb:b<n):
  cl n (fun x y=>p x y||(decide (x=i)&&decide (y=j))) a b=BV p i j a b:=by
 rw[anw,rj ha hb]
 constructor
 ·intro k
  refine k.least (R:=fun x y=>BV p i j x y=true) (fun x y hx hy hp=>?_) fun x y z hx hy hz h1 h2=>?_
  ·simp only[anm,eW,anb] at hp
   exact BU.2<|hp.imp id fun ⟨h1,h2⟩=>⟨.inl h1,.inl h2⟩
  ·rw[BU] at h1 h2 ⊢
   rcases h1 with h1|⟨h1,h3⟩
   ·rcases h2 with h2|⟨h2,h4⟩
    ·exact .inl (h _ _ _ hx hy hz h1 h2)
    ·refine .inr ⟨.inr ?_,h4⟩
     rcases h2 with rfl|h2
     ·exact h1
     ·exact h _ _ _ hx hy hi h1 h2
   ·rcases h2 with h2|⟨h2,h4⟩
    ·refine .inr ⟨h1,.inr ?_⟩
     rcases h3 with rfl|h3
     ·exact h2
     ·exact h _ _ _ hj hy hz h3 h2
    ·exact .inr ⟨h1,h4⟩
 ·intro k
  have up:∀x y,x<n→y<n→p x y=true→TC n (fun x y=>p x y||(decide (x=i)&&decide (y=j))) x y:=fun x y hx hy hp=>.one hx hy (by simp[hp])
  rcases BU.1 k with k|⟨h1,h2⟩
  ·exact up _ _ ha hb k
  ·have m:TC n (fun x y=>p x y||(decide (x=i)&&decide (y=j))) i j:=.one hi hj (by simp)
   have m2:TC n (fun x y=>p x y||(decide (x=i)&&decide (y=j))) a j:=by
    rcases h1 with rfl|h1
    ·exact m
    ·exact(up _ _ ha hi h1).trans m
   rcases h2 with rfl|h2
   ·exact m2
   ·exact m2.trans (up _ _ hj hb h2)
def ic (n:Int) (rs:Rows) (i j:Int):Rows:=if kC n [i,j] then (if eK n rs i j then rs else cH n.toNat (BV (fZ rs) i.toNat j.toNat)) else []
theorem Q6 {i j:Int} (hi:kC ((n:Nat):Int) [i,j]=true) (h:∀i j k,i<n→j<n→k<n→p i j=true→p j k=true→p i k=true):
  ic ((n:Nat):Int) (cH n p) i j=cH n (cl n fun a b=>p a b||(decide (a=i.toNat)&&decide (b=j.toNat))):=by
 have hr:=jm.1 hi
 unfold ic
 rw[anc hi,Jk,hi,an_,dP]
 split
 ·rename_i hp
  refine dN fun a b ha hb=>?_
  rw[Ui h aj aj ha hb,anw,BU]
  refine⟨.inl,fun k=>?_⟩
  rcases k with k|⟨h1,h2⟩
  ·exact k
  ·have m2:p a j.toNat=true:=by
    rcases h1 with rfl|h1
    ·exact hp
    ·exact h _ _ _ ha aj aj h1 hp
   rcases h2 with rfl|h2
   ·exact m2
   ·exact h _ _ _ ha aj hb m2 h2
 ·refine dN fun a b ha hb=>?_
  rw[Ui h aj aj ha hb]
  unfold BV
  rw[jG ha hb,jG ha aj,jG aj hb]
theorem NV {n:Int} {rs:Rows} {i j:Int} (h:bK n rs=true):bK (ir n i j) (ic n rs i j)=true:=by
 unfold ir ic
 split
 ·split
  ·exact h
  ·obtain⟨m,p,rfl,hm,rfl⟩:=mh h
   rw[dP];exact lJ hm
 ·rfl
def rR (l:List Nat):aA:=l.map fun k=>((k:Nat):Int)
def wh (n:Nat) (f:Nat→Bool):aA:=rR ((List.range n).filter f)
theorem wX {f:Nat→Bool} {z:Int}:z∈wh n f↔∃k,k<n∧f k=true∧z=((k:Nat):Int):=by
 unfold wh rR
 simp only[anZ,ant,ang]
 constructor
 ·rintro⟨k,⟨h1,h2⟩,rfl⟩;exact⟨k,h1,h2,rfl⟩
 ·rintro⟨k,h1,h2,rfl⟩;exact⟨k,⟨h1,h2⟩,rfl⟩
theorem OH (n:Nat) (f:Nat→Bool):(wh n f).length≤n:=by
 unfold wh rR
 rw[anO]
 have:=aoc f<|List.range n
 simpa using this
theorem yJ (n:Nat) (f:Nat→Bool):cX (ib n f)=wh n f:=GG n f
end Go.Ew
