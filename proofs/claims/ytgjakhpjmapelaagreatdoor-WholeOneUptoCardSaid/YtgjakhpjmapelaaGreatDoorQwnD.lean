/- Plain laws: a run, by the document: the last write of a run's beginning, what is wrong, what is legal. -/
import Derived.Test.YtgjakhpjmapelaaGreatDoorQwnC
import Derived.Test.YtgjakhpjmapelaaGreatDoorQwnB
import Derived.Shelf.Strings.SlTrimAscii
import Derived.Shelf.Spec.SlicesGrow
import Derived.JoinedCond
import Derived.Test.YtgjakhpjmapelaaGreatDoorQwnA
set_option linter.unusedVariables false
set_option linter.unusedSimpArgs false
set_option linter.unusedSectionVars false
namespace Go.Ew
variable {j n k:Nat} {p:Nat→Bool}
def Dg (I:List aO) (v i:Int):Bool:=iI I i&&!(gR I v i)
def jM (I:List aO) (v:Int) (l:aE):Int:=l.foldl (fun a i=>bif Dg I v i then i else a) (-1)
def rV (I:List aO) (U:aE) (l kept:aE) (k:Nat):Bool:=iI I (l.getD k 0)&&(iM kept (l.getD k 0)&&(!(fk I (l.getD k 0))&&!decide (U.getD (l.getD k 0).toNat 0=jM I (ml I (l.getD k 0)) (l.take k))))
def oT (I:List aO) (U:aE) (l kept:aE):Bool:=(List.range l.length).any (rV I U l kept)
def vg (I:List aO) (l:aE) (k:Nat):Bool:=iI I (l.getD k 0)&&!(iM (l.take k) (l.getD k 0))
def pM (I:List aO) (U:aE) (l kept:aE):Bool:=(List.range l.length).all (vg I l)&&(kept.all (iM l)&&!(oT I U l kept))
section
variable {I:List aO} {U l kept:aE} {v x:Int} {k:Nat} {it:aO}
theorem Mt (hi:iI I x=true) (hx:I[x.toNat]? =some it):Dg I v x=(it.2.2.1&&decide (it.2.2.2.1=v)):=by
 have h0:¬x<0:=by unfold iI at hi;simp at hi;omega
 unfold Dg gR
 rw[hi,hx,apv h0]
 cases h1:it.2.2.1<;>by_cases h2:it.2.2.2.1=v<;>simp[h1,h2]
theorem aaK (hi:iI I x=false):Dg I v x=false:=by unfold Dg;rw[hi];rfl
theorem BN (hx:l[k]? =some x):jM I v (l.take (k+1))=(bif Dg I v x then x else jM I v (l.take k)):=by
 unfold jM
 rw[apW,hx,aq8];rfl
theorem TR (hs:jM I v l=jM I v (l.take (k+1))) (hx:l[k]? =some x) (ho:Dg I v x=true):jM I v l=x:=by rw[hs,BN hx,ho];rfl
theorem Rk (hs:jM I v l=jM I v (l.take (k+1))) (hx:l[k]? =some x) (ho:Dg I v x=false):jM I v l=jM I v (l.take k):=by rw[hs,BN hx,ho];rfl
theorem F7 (hk:0≤(l.length:Int)-1-(j:Int)):l.length-j=((l.length:Int)-1-(j:Int)).toNat+1∧l.length-(j+1)=((l.length:Int)-1-(j:Int)).toNat:=by omega
theorem Rl (hs:jM I v l=jM I v (l.take (l.length-j))) (hk:0≤(l.length:Int)-1-(j:Int)) (hx:l[((l.length:Int)-1-(j:Int)).toNat]? =some x) (ho:Dg I v x=true):jM I v l=x:=
 TR (by rw[←(F7 hk).1];exact hs) hx ho
theorem zX (hs:jM I v l=jM I v (l.take (l.length-j))) (hk:0≤(l.length:Int)-1-(j:Int)) (hx:l[((l.length:Int)-1-(j:Int)).toNat]? =some x) (ho:Dg I v x=false):jM I v l=jM I v (l.take (l.length-(j+1))):=by
 rw[(F7 hk).2];exact Rk (by rw[←(F7 hk).1];exact hs) hx ho
theorem TS (hs:jM I v l=jM I v (l.take (l.length-j))) (hk:¬0≤(l.length:Int)-1-(j:Int)):jM I v l= -1:=by
 rw[hs,show l.length-j=0 by omega];rfl
theorem G4 (hs:(List.range n).any p=false) (h:p n=false):(List.range (n+1)).any p=false:=by rw[aqs,List.any_append,hs];simp[h]
theorem Pe (hk:k<n) (h:p k=true):(List.range n).any p=true:=apO.2 ⟨k,apq.2 hk,h⟩
theorem aax (hs:(List.range n).all p=true) (h:p n=true):(List.range (n+1)).all p=true:=by rw[aqs,List.all_append,hs];simp[h]
theorem aay {p:Nat→Bool} {n k:Nat} (hk:k<n) (h:p k=false):(List.range n).all p=false:=by
 cases e:(List.range n).all p with
 |false=>rfl
 |true=>rw[aps.1 e k (apq.2 hk)] at h;cases h
theorem vU (hx:l[k]? =some x):l.getD k 0=x:=by rw[gX,hx];rfl
theorem Sw (hx:I[x.toNat]? =some it):fk I x=it.2.2.1:=by unfold fk;rw[hx];rfl
theorem ab_ (hx:I[x.toNat]? =some it):ml I x=it.2.2.2.1:=by unfold ml;rw[hx];rfl
section
variable {o:Int}
theorem Z_ (hx:l[k]? =some x) (h:iI I x=false):rV I U l kept k=false:=by unfold rV;rw[vU hx,h];rfl
theorem Z' (hx:l[k]? =some x) (h:iM kept x=false):rV I U l kept k=false:=by unfold rV;rw[vU hx,h];simp
theorem ab5 (hx:l[k]? =some x) (hi:I[x.toNat]? =some it) (h:(!it.2.2.1)=false):rV I U l kept k=false:=by unfold rV;rw[vU hx,Sw hi,h];simp
theorem St (hx:l[k]? =some x) (hi:I[x.toNat]? =some it) (hf:U[x.toNat]? =some o) (b1:iI I x=true) (b2:iM kept x=true) (b3:(!it.2.2.1)=true):rV I U l kept k=!decide (o=jM I it.2.2.2.1 (l.take k)):=by
 unfold rV
 rw[vU hx,Sw hi,ab_ hi,b1,b2,b3,gX,hf];rfl
theorem Sr (hk:(k:Int)<(l.length:Int)) (h:rV I U l kept k=true):true=oT I U l kept:=(Pe aq h).symm
theorem Ss (hk:k≤l.length) (hp:¬(k:Int)<(l.length:Int)) (hs:(List.range k).any (rV I U l kept)=false):false=oT I U l kept:=by
 unfold oT;rw[show l.length=k by omega,hs]
theorem abm (hx:l[k]? =some x) (h:(!iI I x)=true):vg I l k=false:=by unfold vg;rw[vU hx];cases hh:iI I x<;>simp_all
theorem P5 (hx:l[k]? =some x) (h:(!iI I x)=false):vg I l k=!iM (l.take k) x:=by unfold vg;rw[vU hx];cases hh:iI I x<;>simp_all
theorem PH (hk:(k:Int)<(l.length:Int)) (h:vg I l k=false):false=pM I U l kept:=by unfold pM;rw[aay (by omega:k<l.length) h];rfl
theorem X9 {l:aE} {p:Int→Bool} (hx:l[k]? =some x) (hs:(l.take k).all p=true) (h:p x=true):(l.take (k+1)).all p=true:=by
 rw[apW,hx,List.all_append,hs];simp[h]
theorem WW (hx:kept[k]? =some x) (h:(!iM l x)=true):false=pM I U l kept:=by
 have:kept.all (iM l)=false:=by
  cases e:kept.all (iM l) with
  |false=>rfl
  |true=>rw[aps.1 e x (dO hx)] at h;cases h
 unfold pM;rw[this];simp
theorem aa1 {i:Nat} (hk:k≤l.length) (hp:¬(k:Int)<(l.length:Int)) (hs:(List.range k).all (vg I l)=true) (hi:i≤kept.length) (hq:¬(i:Int)<(kept.length:Int)) (hr:(kept.take i).all (iM l)=true):(!(oT I U l kept))=pM I U l kept:=by
 rw[show k=l.length by omega] at hs
 rw[apu aq] at hr
 unfold pM;rw[hs,hr];simp
end
def iS (n:Nat):aE:=(List.range n).map fun i=>((i:Nat):Int)
theorem F8 (n:Nat):(iS n).length=n:=by unfold iS;simp
theorem IV (h:k<n):(iS n)[k]? =some ((k:Nat):Int):=by unfold iS;simp[h]
theorem TX (n:Nat):iS (n+1)=iS n++[((n:Nat):Int)]:=by unfold iS;rw[aqs,aqW];rfl
theorem F9 {x:Int}:iM (iS n) x=true↔0≤x∧x<((n:Nat):Int):=by
 unfold iM iS
 rw[apO]
 constructor
 ·rintro⟨y,hy,e⟩
  obtain⟨i,hi,rfl⟩:=ap4.1 hy
  have:=apq.1 hi
  have:=ap5 e
  omega
 ·rintro⟨h1,h2⟩
  exact⟨x,ap4.2 ⟨x.toNat,apq.2 aq,by omega⟩,by simp⟩
theorem zl (h:k≤n):(iS n).take k=iS k:=by
 unfold iS
 rw[←List.map_take,List.take_range,aqk h]
theorem Hp (I:List aO) (v:Int):∀r,r≤I.length→jM I v (iS r)=xo I v r
 |0,_=>rfl
 |r+1,h=>by
  have e:=BN (I:=I) (v:=v)<|IV (n:=r+1) (k:=r) aq
  rw[zl (apn _),zl (by omega:r≤r+1)] at e
  rw[e,Hp I v r aq]
  rw[show xo I v (r+1)=if gR I v ((r:Nat):Int)=false then ((r:Nat):Int) else xo I v r from rfl]
  have hi:iI I ((r:Nat):Int)=true:=by unfold iI;simp;omega
  unfold Dg
  rw[hi]
  cases hw:gR I v ((r:Nat):Int)<;>simp
theorem Rg {n:Nat} (hf:I.length=n) (hl:U.length=I.length):pM I U (iS n) (iS n)=true↔Yg I U:=by
 have h1:(List.range (iS n).length).all (vg I (iS n))=true:=by
  rw[aps]
  intro k hk
  rw[F8,apq] at hk
  unfold vg
  rw[vU (IV hk),zl (by omega:k≤n),eP]
  refine⟨by unfold iI;simp;omega,?_⟩
  cases e:iM (iS k) ((k:Nat):Int) with
  |false=>rfl
  |true=>have:=F9.1 e;omega
 have h2:(iS n).all (iM (iS n))=true:=by
  rw[aps]
  intro x hx
  unfold iS at hx
  obtain⟨i,hi,rfl⟩:=ap4.1 hx
  have:=apq.1 hi
  exact F9.2 aq
 unfold pM
 rw[h1,h2,aqc,aqc]
 unfold oT Yg
 rw[aqo,F8]
 have key:∀k,k<n→(rV I U (iS n) (iS n) k=false↔(fk I ((k:Nat):Int)=false→U[k]? =some (xo I (ml I ((k:Nat):Int)) k))):=by
  intro k hk
  unfold rV
  rw[vU (IV hk),zl (by omega:k≤n),Hp I _ k aq,F9.2 aq]
  have hi:iI I ((k:Nat):Int)=true:=by unfold iI;simp;omega
  have hg:U[k]? =some (U[k]'aq):=eB aq
  have e:U.getD ((k:Nat):Int).toNat 0=U[k]'aq:=by rw[dS,gX,hg];rfl
  rw[hi,e,hg]
  cases fk I ((k:Nat):Int)<;>simp
 constructor
 ·intro h r hr hq
  refine(key r aq).1 ?_ hq
  cases e:rV I U (iS n) (iS n) r with
  |false=>rfl
  |true=>rw[Pe (by omega:r<n) e] at h;cases h
 ·intro h
  cases e:(List.range n).any (rV I U (iS n) (iS n)) with
  |false=>rfl
  |true=>
   obtain⟨k,hk,hp⟩:=apO.1 e
   have hk:=apq.1 hk
   rw[(key k hk).2 (h k aq)] at hp;cases hp
theorem aaJ {l:List jL} (ho:fS [l]=true) {lv:Int} (hl:lv=1∨lv=2∨lv=3):(pA [l] lv==pM (me [l]) (mg [l]) (iS l.length) (iS l.length))=true:=by
 obtain⟨h1,h2,h3,h4⟩:=TH ho
 have hn:(eY [l]).length=l.length:=by rw[zB];simp
 have h5:=aa9 ho hl
 have h6:=Tz h2 hl
 rw[h3,h4] at h5
 rw[h3,h4]
 have hf:(fR (eY [l])).length=(eY [l]).length:=by have:=Mv [l];rw[h3,h4] at this;exact this
 have h7:=Rg (I:=eY [l]) (U:=fR (eY [l])) hn hf
 have:pA [l] lv=pM (eY [l]) (fR (eY [l])) (iS l.length) (iS l.length):=by
  rw[apF,h5,h6,h7]
 rw[this];simp
theorem nk {l:List jL} {I:List aO} {U xs:aE} (ho:fS [l]=true) (e1:I=me [l]) (e2:U=mg [l]) (Hu:xs=iS j) (hk:j≤l.length) (hp:¬(j:Int)<(l.length:Int)) {lv:Int} (hl:lv=1∨lv=2∨lv=3):(pA [l] lv==pM I U xs xs)=true:=by
 rw[e1,e2,Hu,show j=l.length by omega];exact aaJ ho hl
end
end Go.Ew
namespace Go.Ew
variable {q:Nat}
def tK {α:Type} (xs:List α) (q:Nat):List α:=xs.mapIdx fun i x=>if i<q∨xs.length-q≤i then (xs[xs.length-1-i]?).getD x else x
theorem vq {α:Type} (xs:List α) (q:Nat):(tK xs q).length=xs.length:=by unfold tK;simp
theorem xZ {α:Type} (xs:List α) (q i:Nat) (hi:i<xs.length):(tK xs q)[i]? =if i<q∨xs.length-q≤i then xs[xs.length-1-i]? else xs[i]?:=by
 unfold tK
 rw[List.getElem?_mapIdx,eB hi]
 simp only[aqC]
 split
 ·rw[eB aq];rfl
 ·rfl
theorem QY {α:Type} (xs:List α):xs=tK xs 0:=by
 apply apX
 intro i
 by_cases hi:i<xs.length
 ·rw[xZ xs 0 i hi,apr aq]
 ·rw[apz aq,apz (by rw[vq];omega)]
theorem QZ {α:Type} {xs ys:List α} {x y:α} (hs:ys=tK xs q) (h:q+q+1<xs.length) (hx:ys[xs.length-1-q]? =some x) (hy:ys[q]? =some y):(ys.set q x).set (xs.length-1-q) y=tK xs (q+1):=by
 subst hs
 rw[xZ _ _ _ aq,apr aq] at hx hy
 apply apX
 intro i
 by_cases hi:i<xs.length
 ·rw[xZ xs (q+1) i hi,aqI,aqI,apk,vq]
  by_cases e1:xs.length-1-q=i
  ·subst e1
   rw[apo rfl,apo aq,apo aq,show xs.length-1-(xs.length-1-q)=q from by omega,hy]
  ·rw[apr e1]
   by_cases e2:q=i
   ·subst e2
    rw[apo rfl,apo aq,apo aq,hx]
   ·rw[apr e2,xZ xs q i hi]
    by_cases e3:i<q∨xs.length-q≤i
    ·rw[apo e3,apo aq]
    ·rw[apr e3,apr aq]
 ·rw[apz (by rw[apk,apk,vq];omega),apz (by rw[vq];omega)]
theorem Ov {xs ys:aE} {x y:Int} {i:Int} (hs:ys=tK xs q) (h:q+q+1<xs.length) (hx:ys[i.toNat]? =some x) (hi:i.toNat=xs.length-1-q:=by omega) (hy:ys[((q:Nat):Int).toNat]? =some y):(ys.set ((q:Nat):Int).toNat x).set i.toNat y=tK xs (q+1):=by
 rw[hi] at hx ⊢
 exact QZ hs h hx hy
theorem S_ {α:Type} {xs ys:List α} (hs:ys=tK xs q) (h:xs.length≤q+q+1):ys=xs.reverse:=by
 subst hs
 apply apX
 intro i
 by_cases hi:i<xs.length
 ·rw[xZ xs q i hi,List.getElem?_reverse hi]
  by_cases e:i<q∨xs.length-q≤i
  ·rw[apo e]
  ·rw[apr e];congr 1;omega
 ·rw[apz (by rw[vq];omega),apz (by rw[List.length_reverse];omega)]
end Go.Ew
namespace Go.Ew
open Go.RowKit
theorem UQ (w:aJ) (q:Nat):Ext w (w.drewN q):=by
 induction q with
 |zero=>exact Ext.refl w
 |succ q ih=>exact ih.trans (Ext.drew _)
theorem Iz (z:Array Value) (n:Nat):(Builtin.zeroCells z n).size=n*z.size:=by unfold Builtin.zeroCells;simp
theorem Uw {α:Type} [GT α] {M:cg} {w:aJ} {e:TypeId} {z:Value} (hz:z.cells.size=GT.size α) {m:Nat} (hm:m≤1048576):
  bo M e w ([]:List α) (.slice (some ⟨w.heap.size,0,none⟩) ([]:List α).length (grownCap w (0+m) 0 e)) (w.drew.alloc (.cells (([]:List Value).toArray++Builtin.zeroCells z.cells (0+m-0)++Builtin.zeroCells z.cells (grownCap w (0+m) 0 e-(0+m))) e)):=by
 have h1:=grownCap_ge w (0+m) 0 e
 have h2:=grownCap_le_maxLen w (0+m) 0 e<|by simp only[maxLen];omega
 have hg:(w.drew.alloc (.cells (([]:List Value).toArray++Builtin.zeroCells z.cells (0+m-0)++Builtin.zeroCells z.cells (grownCap w (0+m) 0 e-(0+m))) e)).heap[w.heap.size]? =some (.cells (([]:List Value).toArray++Builtin.zeroCells z.cells (0+m-0)++Builtin.zeroCells z.cells (grownCap w (0+m) 0 e-(0+m))) e):=by
  show (w.heap.push _)[w.heap.size]? =_
  simp
 refine⟨(Ext.drew w).trans (Ext.alloc _ _),fun b hb=>?_,[],⟨by simp,.inr ⟨w.heap.size,_,_,J,apn _,hg,aqH _,h2,?_,by simp⟩⟩,J⟩
 ·have hb:w.heap.size=b:=apm hb
  subst hb
  show _<(w.heap.push _).size
  simp
 ·simp only[asu,Iz,hz,aqT,gC]
  rw[show 0+m-0=m from by omega,show 0+m=m from by omega] at *
  rw[ap_,←aqd]
  congr 1
  omega
end Go.Ew
namespace Go.Ew
open Go.RowKit Go.WideShapes Go.ChangeShapes
structure Jn (B:(H:Type)→DataW H→Nat):Prop where
 lit:∀(H:Type) l,1≤B H (.lit l)
 str:∀(H:Type) bs,bs.length+1≤B H (.lit (.string bs))
 nil:∀(H:Type),1≤B H .nil
 slice:∀(H:Type) (es sp:List (DataW H)),(es.map (B H)).sum+1≤B H (.slice es sp)
 agg:∀(H:Type) (ps:List (DataW H)),(ps.map (B H)).sum≤B H (.agg ps)
class Wt (α:Type) where
 wt:α→Nat
instance ans:Wt Int:=⟨fun _=>1⟩
instance anV:Wt bw:=⟨fun _=>1⟩
instance anW:Wt (BitVec 8):=⟨fun _=>1⟩
instance alh:Wt Bool:=⟨fun _=>1⟩
instance anr:Wt aY:=⟨fun s=>s.size+1⟩
instance alg {α:Type} [Wt α]:Wt (List α):=⟨fun l=>(l.map Wt.wt).sum+1⟩
instance alf {α β:Type} [Wt α] [Wt β]:Wt (α×β):=⟨fun x=>Wt.wt x.1+Wt.wt x.2⟩
theorem Sq {α:Type} [Wt α] (h1:∀x:α,1≤Wt.wt x):∀l:List α,l.length≤(l.map Wt.wt).sum
 |[]=>apn _
 |x::l=>by
  have:=Sq h1 l
  have:=h1 x
  simp only[jb,apP,asr];omega
theorem OW {α β:Type} [Wt α] [Wt β] (h:∀x:β,1≤Wt.wt x):∀x:α×β,1≤Wt.wt x:=fun x=>by
 have:=h x.2
 show 1≤Wt.wt x.1+Wt.wt x.2
 omega
theorem ab3:∀x:Int,1≤Wt.wt x:=fun _=>apn _
def uf (B:(H:Type)→DataW H→Nat) (P:Program) (t:TypeId) (α:Type) [GT α] [Wt α]:Prop:=
 P.cellsOf t=GT.size α∧∀{H:Type} (enc:TypeId×Value→H) (W:aJ) (n:Nat) (cs:List Value) (x:DataW H×List MemPlace),
  DataW.trod enc P W 0 (fun _=>true) true n t cs=some x→∃y:α,GT.rep Oa W cs y∧Wt.wt y≤B H x.1
section
variable {P:Program} {t e:TypeId} {B:(H:Type)→DataW H→Nat}
theorem Rb (hB:Jn B) (hc:P.cellsOf t=1) (ht:P.underlying t=some (.int .i64)):uf B P t Int:=by
 refine⟨hc,fun {H} enc W n cs x h=>?_⟩
 obtain⟨k,rfl,rfl,hw⟩:=DataW.trod_int ht h
 exact⟨k,⟨J,bounds_i64 hw⟩,hB.lit H _⟩
theorem OL (hB:Jn B) (hc:P.cellsOf t=1) (ht:P.underlying t=some .bool):uf B P t Bool:=by
 refine⟨hc,fun {H} enc W n cs x h=>?_⟩
 obtain⟨k,rfl,rfl⟩:=DataW.trod_bool ht h
 exact⟨k,J,hB.lit H _⟩
theorem KS (hB:Jn B) (hc:P.cellsOf t=1) (ht:P.underlying t=some .string):uf B P t aY:=by
 refine⟨hc,fun {H} enc W n cs x h=>?_⟩
 obtain⟨k,rfl,rfl,hk⟩:=DataW.trod_string ht h
 refine⟨k,⟨J,hk⟩,?_⟩
 have:=hB.str H k.data.toList
 rw[ap9] at this
 exact this
theorem Sp {α:Type} [Wt α] {D:Type} (g:D→Nat):∀(l:List α) (es:List D),l.length=es.length→(∀(i:Nat) (y:α) (x:D),l[i]? =some y→es[i]? =some x→Wt.wt y≤g x)→(l.map Wt.wt).sum≤(es.map g).sum
 |[],[],_,_=>apn _
 |[],_::_,h,_=>by simp at h
 |_::_,[],h,_=>by simp at h
 |y::l,x::es,h,k=>by
  have h1:=Sp g l es (by simpa using h) fun i y x hy hx=>k (i+1) y x (by simpa using hy) (by simpa using hx)
  have h2:=k 0 y x J J
  simp only[apP,asr];omega
theorem Mr {α:Type} [GT α] [Wt α] (hB:Jn B) (hc:P.cellsOf t=1) (ht:P.underlying t=some (.slice e)) (O:uf B P e α):uf B P t (List α):=by
 refine⟨hc,fun {H} enc W n cs x h=>?_⟩
 rcases DataW.trod_slice ht h with ⟨rfl,rfl⟩|⟨a,len,cap,elems,rest,m,rfl,rfl,rfl, -,hl,hm,hlen,vQ, -, -⟩
 ·exact⟨[],⟨_,J,G3 _ _⟩,hB.nil H⟩
 ·have one:∀i,i<len→∃y:α,At Oa W (a.add (i*GT.size α)) y∧∀z,elems[i]? =some z→Wt.wt y≤B H z.1:=by
   intro i hi
   have h1:=vQ i hi
   rw[eB (by omega:i<elems.length)] at h1
   simp only[arZ] at h1
   obtain⟨ds,hd,hx⟩:=h1
   obtain⟨y,hy,hw⟩:=O.2 enc W m ds _ hx
   rw[O.1] at hd
   refine⟨y,⟨ds,hy,fun h=>h,Vg hd⟩,fun z hz=>?_⟩
   rw[eB (by omega:i<elems.length)] at hz
   cases hz
   exact hw
  obtain⟨l,hl1,od⟩:=Fk (Q:=fun i (y:α)=>At Oa W (a.add (i*GT.size α)) y∧∀z,elems[i]? =some z→Wt.wt y≤B H z.1) len one
  refine⟨l,⟨_,J,some a,len,cap,J,hl1,hl,hm,?_⟩,?_⟩
  ·by_cases h0:len=0
   ·exact .inl h0
   ·exact .inr ⟨a,J,fun i y hy=>(od i y hy).1⟩
  ·have h1:=Sp (fun z:DataW H×List MemPlace=>B H z.1) l elems aq fun i y x hy hx=>(od i y hy).2 x hx
   have h2:=hB.slice H (elems.map (·.1))<|rest.map (·.1)
   rw[List.map_map] at h2
   show (l.map Wt.wt).sum+1≤_
   exact Nat.le_trans (Nat.add_le_add_right h1 1) h2
def EJ (B:(H:Type)→DataW H→Nat) (P:Program) (off total:Nat) (fs:List Field) (α:Type) [GT α] [Wt α]:Prop:=
 off+GT.size α=total∧∀{H:Type} (enc:TypeId×Value→H) (W:aJ) (n:Nat) (cs:List Value) (xs:List (DataW H×List MemPlace)),cs.length=total→xs.length=fs.length→
  (∀(i:Nat) f,fs[i]? =some f→DataW.trod enc P W 0 (fun _=>true) true n f.type ((cs.drop f.offset).take (P.cellsOf f.type))=xs[i]?)→∃y:α,GT.rep Oa W (cs.drop off) y∧Wt.wt y≤((xs.map (·.1)).map (B H)).sum
theorem OK {α:Type} [GT α] [Wt α] {f:Field} {off total:Nat} (ho:f.offset=off) (O:uf B P f.type α) (hs:off+GT.size α=total):EJ B P off total [f] α:=by
 refine⟨hs,fun {H} enc W n cs xs hl hx h=>?_⟩
 match xs,hx,h with
 |[x],_,h=>
  have h1:=h 0 f J
  obtain⟨y,hy,hw⟩:=O.2 enc W n _ _ h1
  rw[O.1,ho,apu (by simp;omega)] at hy
  exact⟨y,hy,by simpa using hw⟩
theorem De {α β:Type} [GT α] [GT β] [Wt α] [Wt β] {f:Field} {fs:List Field} {off WD total:Nat} (ho:f.offset=off) (O:uf B P f.type α) (hs:off+GT.size α=WD) (ai:EJ B P WD total fs β):EJ B P off total (f::fs) (α×β):=by
 refine⟨by rw[←ai.1,←hs];show off+(GT.size α+GT.size β)=_;omega,fun {H} enc W n cs xs hl hx h=>?_⟩
 match xs,hx,h with
 |x::xs,hx,h=>
  have h1:=h 0 f J
  obtain⟨y,hy,hw⟩:=O.2 enc W n _ _ h1
  obtain⟨z,hz,hv⟩:=ai.2 enc W n cs xs hl (by simpa using hx) fun i g hg=>h (i+1) g (by simpa using hg)
  rw[O.1,ho] at hy
  refine⟨(y,z),⟨(cs.drop off).take (GT.size α),cs.drop WD,?_,hy,hz⟩,?_⟩
  ·rw[←hs,←aqj]
   exact(aqz _ _).symm
  ·simp only[apP,asr]
   exact Nat.add_le_add hw hv
theorem KR {α:Type} [GT α] [Wt α] {fs:Array Field} (hB:Jn B) (ht:P.underlying t=some (.struct fs)) (hc:P.cellsOf t=GT.size α) (ai:EJ B P 0 (P.cellsOf t) fs.toList α):uf B P t α:=by
 refine⟨hc,fun {H} enc W n cs x h=>?_⟩
 obtain⟨xs,m,rfl,rfl,hl,hx,hf⟩:=DataW.trod_struct ht h
 obtain⟨y,hy,hw⟩:=ai.2 enc W m cs xs hl (by simpa using hx) fun i f hf'=>hf i f (by rw[←aqB];exact hf')
 exact⟨y,by simpa using hy,Nat.le_trans hw (hB.agg H _)⟩
section
variable {H:Type} {enc:TypeId×Value→H} {W:aJ} {base:Nat} {v:Value} {d:DataW H} {ps:List MemPlace}
theorem QK {α:Type} [GT α] [Wt α] (ht:P.underlying t=some (.slice e)) (O:uf B P t (List α)) (hv:Value.okWide P W .any base t v) (h:DataW.Trod enc P W 0 (fun _=>true) true t v d ps):
  ∃(y:List α) (a:Option Addr) (c:Nat),v=.slice a y.length c∧RV Oa W (.slice a y.length c) y∧Wt.wt y≤B H d:=by
 obtain⟨a,n,c,rfl⟩:=okWide_slice ht hv
 obtain⟨m,h⟩:=h
 obtain⟨y,hy,hw⟩:=O.2 enc W m _ _ h
 obtain⟨a',c',e,hr⟩:=RS.explicit (RV.list.1 (⟨_,hy,rfl⟩:RV Oa W (.slice a n c) y))
 injection e with e1 e2 e3
 subst e1 e2 e3
 exact⟨y,a,c,J,hr,hw⟩
end
end
end Go.Ew
