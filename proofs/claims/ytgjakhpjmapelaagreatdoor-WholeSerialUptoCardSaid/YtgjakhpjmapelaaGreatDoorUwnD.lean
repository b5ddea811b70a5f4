/- Plain laws: a history that is made as turns say, each read getting what was written last. -/
import Derived.Test.YtgjakhpjmapelaaGreatDoorUwnC
import Derived.Test.YtgjakhpjmapelaaGreatDoorUwnB
import Derived.Shelf.Strings.SlTrimAscii
import Derived.Shelf.Spec.SlicesGrow
import Derived.JoinedCond
import Derived.Test.YtgjakhpjmapelaaGreatDoorUwnA
set_option linter.unusedVariables false
set_option linter.unusedSimpArgs false
set_option linter.unusedSectionVars false
namespace Go.Ew
variable {s:Nat} {x:List gT} {o q:gT} {a:Int}
theorem Y6 {g:dh} (hx:g[s]? =some x) {t p:Nat}:jC (g.set s (x++[o])) t p q↔jC g t p q∨(t=s∧p=x.length∧q=o):=by
 have hs:=(dE.1 hx).1
 unfold jC
 by_cases e:t=s
 ·subst e
  rw[ano hs]
  constructor
  ·rintro⟨l,h1,h2⟩
   obtain rfl:=ana h1
   by_cases hp:p<x.length
   ·rw[nM hp] at h2
    exact .inl ⟨x,hx,h2⟩
   ·rw[ny aj] at h2
    cases hd:p-x.length with
    |zero=>rw[hd] at h2;exact .inr ⟨rfl,by omega,(ana h2).symm⟩
    |succ n=>rw[hd] at h2;simp at h2
  ·rintro(⟨l,h1,h2⟩|⟨_,rfl,rfl⟩)
   ·rw[hx] at h1
    obtain rfl:=ana h1
    refine⟨_,J,?_⟩
    rw[nM (dE.1 h2).1];exact h2
   ·exact⟨_,J,by rw[ny (ane _),an'];rfl⟩
 ·rw[anD (fun h=>e h.symm)]
  exact⟨.inl,fun h=>h.elim id fun k=>absurd k.1 e⟩
theorem JL.snoc {g:dh} {sq:List Nc} (S:JL g sq) (hx:g[s]? =some x) (hv:o.1=false→o.2.2=rz ((sq.map (·.2.2)).filter (·.1)) o.2.1):JL (g.set s (x++[o])) (sq++[(s,x.length,o)]):=by
 have lt:∀{p:Nat} {q:gT},(s,p,q)∈sq→p<x.length:=by
  intro p q h
  obtain⟨l,h1,h2⟩:=(S.mem s p q).2 h
  rw[hx] at h1
  obtain rfl:=ana h1
  exact(dE.1 h2).1
 have new:∀{i:Nat} {y:Nc},(sq++[(s,x.length,o)])[i]? =some y→(i<sq.length∧sq[i]? =some y)∨(i=sq.length∧y=(s,x.length,o)):=by
  intro i y h
  by_cases hi:i<sq.length
  ·rw[nM hi] at h;exact .inl ⟨hi,h⟩
  ·rw[ny aj] at h
   cases hd:i-sq.length with
   |zero=>rw[hd] at h;exact .inr ⟨by omega,(ana h).symm⟩
   |succ n=>rw[hd] at h;simp at h
 refine⟨fun t p q=>?_,fun i j y z hy hz e=>?_,fun j t p q hj hq=>?_⟩
 ·rw[Y6 hx,S.mem,anx,aoh]
  refine or_congr Iff.rfl ⟨fun ⟨a,b,c⟩=>by rw[a,b,c],fun h=>by cases h;exact⟨J,J,J⟩⟩
 ·rcases new hy with ⟨h1,h2⟩|⟨h1,rfl⟩<;>rcases new hz with ⟨h3,h4⟩|⟨h3,rfl⟩
  ·exact S.ord i j y z h2 h4 e
  ·obtain⟨t,p,q⟩:=y
   obtain rfl:t=s:=e
   have:=lt<|dC h2
   show p<x.length↔i<j
   omega
  ·obtain⟨t,p,q⟩:=z
   obtain rfl:s=t:=e
   have:=lt<|dC h4
   show x.length<p↔i<j
   omega
  ·show x.length<x.length↔i<j
   omega
 ·rcases new hj with ⟨h1,h2⟩|⟨h1,h2⟩
  ·rw[aom (Nat.le_of_lt h1)]
   exact S.val j t p q h2 hq
  ·cases h2
   rw[h1,apC rfl]
   exact hv hq
structure mH (h g:dh) (pt:aA) (la:List gT) (k:Nat):Prop where
 qv:pt.length=h.length
 lg:g.length=h.length
 Yx:∀(s:Nat) (l:List gT),g[s]? =some l→pt[s]? =some ((l.length:Nat):Int)
 sub:∀(s:Nat) (l l':List gT),g[s]? =some l→h[s]? =some l'→l.length≤l'.length
 ser:∃sq,JL g sq∧la=(sq.map (·.2.2)).filter (·.1)
 Sy:la.length≤k
theorem Y' (n:Nat):JL (List.replicate n ([]:List gT)) []:=by
 refine⟨fun s p o=>⟨?_,fun h=>by cases h⟩,fun i j x y h=>by simp at h,fun j s p o h=>by simp at h⟩
 rintro⟨l,h1,h2⟩
 rw[an6] at h1
 split at h1
 ·cases h1;simp at h2
 ·cases h1
theorem mH.start (h:dh):mH h (List.replicate h.length ([]:List gT)) (List.replicate h.length (0:Int)) [] 0 where
 qv:=by simp
 lg:=by simp
 Yx s l e:=by
  rw[an6] at e
  split at e
  ·cases e;rw[an6,anc bo];rfl
  ·cases e
 sub s l l' e _:=by
  rw[an6] at e
  split at e
  ·cases e;exact aok _
  ·cases e
 ser:=⟨[],Y' _,rfl⟩
 Sy:=aok _
section
variable {h g:dh} {pt:aA} {la:List gT} {k:Nat}
theorem mH.skip (ae:mH h g pt la k):mH h g pt la (k+1):={ae with Sy:=Nat.le_succ_of_le ae.Sy}
theorem mH.step (ae:mH h g pt la k) {s:Nat} {x l':List gT} {a:Int} {o:gT} (hx:g[s]? =some x) (hl:h[s]? =some l') (ha:pt[s]? =some a) (eo:a<(l'.length:Int)) (hv:o.1=false→o.2.2=rz la o.2.1):
  mH h (g.set s (x++[o])) (pt.set s (a+1)) (bif o.1 then la++[o] else la) (k+1):=by
 have hs:=(dE.1 hx).1
 have hsa:=(dE.1 ha).1
 obtain⟨sq,S,hq⟩:=ae.ser
 have hax:a=((x.length:Nat):Int):=ana<|ha.symm.trans (ae.Yx s x hx)
 refine⟨by rw[am'];exact ae.qv,by rw[am'];exact ae.lg,fun t l e=>?_,fun t l m e f=>?_,⟨_,S.snoc hx (by rw[←hq];exact hv),?_⟩,?_⟩
 ·by_cases et:t=s
  ·subst et
   rw[ano hs] at e
   rw[ano hsa,←ana e,hax,fF]
   rfl
  ·rw[anD (fun h=>et h.symm)] at e ⊢
   exact ae.Yx t l e
 ·by_cases et:t=s
  ·subst et
   rw[ano hs] at e
   obtain rfl:=ana (hl.symm.trans f)
   rw[←ana e,fF]
   show x.length+1≤_
   omega
  ·rw[anD (fun h=>et h.symm)] at e
   exact ae.sub t l m e f
 ·rw[aoz,aoi,←hq]
  cases ho:o.1 with
  |true=>simp[ho]
  |false=>simp[ho]
 ·have:=ae.Sy
  cases o.1 with
  |true=>show (la++[o]).length≤_;rw[fF];show la.length+1≤_;omega
  |false=>show la.length≤_;omega
theorem mH.aeS (ae:mH h g pt la k) {l':List gT} (hx:g[s]? =some x) (hl:h[s]? =some l') (ha:pt[s]? =some a) (eo:a<(l'.length:Int)) (hw:o.1=true):mH h (g.set s (x++[o])) (pt.set s (a+1)) (la++[o]) (k+1):=by
 have:=ae.step (o:=o) hx hl ha eo<|fun e=>by rw[hw] at e;cases e
 rwa [hw] at this
theorem mH.aeT (ae:mH h g pt la k) {l':List gT} (hx:g[s]? =some x) (hl:h[s]? =some l') (ha:pt[s]? =some a) (eo:a<(l'.length:Int)) (hw:o.1=false) (hv:o.2.2=rz la o.2.1):mH h (g.set s (x++[o])) (pt.set s (a+1)) la (k+1):=by
 have:=ae.step (o:=o) hx hl ha eo<|fun _=>hv
 rwa [hw] at this
theorem G9:∀{g h:dh},g.length=h.length→(∀(s:Nat) (l l':List gT),g[s]? =some l→h[s]? =some l'→l.length≤l'.length)→g.flatten.length≤h.flatten.length
 |[],[],_,_=>ane _
 |x::g,y::h,e,k=>by
  rw[aoY,aoY,fF,fF]
  have h1:=k 0 x y J J
  have h2:=G9 (g:=g) (h:=h) (by simpa using e) fun s l l' a b=>k (s+1) l l' (by simpa using a) (by simpa using b)
  omega
 |[],_::_,e,_=>by cases e
 |_::_,[],e,_=>by cases e
theorem mH.flat (ae:mH h g pt la k):g.flatten.length≤h.flatten.length:=G9 ae.lg ae.sub
theorem mH.row (ae:mH h g pt la k) (hx:g[s]? =some x):x.length≤h.flatten.length:=by
 refine Nat.le_trans ?_ ae.flat
 exact(List.sublist_flatten_of_mem<|dC hx).length_le
theorem mH.at0 (ae:mH h g pt la k) (ha:pt[s]? =some a):0≤a∧a≤(h.flatten.length:Int):=by
 have hs:=(dE.1 ha).1
 have hg:g[s]? =some (g[s]'(by rw[ae.lg,←ae.qv];exact hs)):=eI _
 have:=ana<|ha.symm.trans (ae.Yx s _ hg)
 have:=ae.row hg
 omega
theorem mH.ok (ae:mH h g pt la k) (ho:gq g=true) {lv:Int} (hl:lv=1∨lv=2∨lv=3):qz g lv=true:=by
 obtain⟨sq,S,_⟩:=ae.ser
 exact(ZO ho hl).2 (UJ S ho)
theorem Sx {l:List gT} {j:Nat} {q':gT} {nm:bf} (hq:l[((j:Nat):Int).toNat]? =some q) (XQ:l[((j:Nat):Int).toNat]? =some q') (hn:decide (q.2.1=nm)=true):q'.2.2=rz (l.take (j+1)) nm:=by
 obtain rfl:=ana (hq.symm.trans XQ)
 rw[dP] at hq
 rw[anH,hq]
 exact((Bt _ _ _).trans (anc<|anT hn)).symm
theorem Qe {l:List gT} {j:Nat} {nm:bf} {v:Int} (hq:l[((j:Nat):Int).toNat]? =some q) (hn:decide (q.2.1=nm)=false) (hv:v=rz (l.take j) nm):v=rz (l.take (j+1)) nm:=by
 rw[dP] at hq
 rw[anH,hq,hv]
 exact((Bt _ _ _).trans (anf<|aoE hn)).symm
end
end Go.Ew
namespace Go.Ew
variable {q:Nat}
def tx {α:Type} (xs:List α) (q:Nat):List α:=xs.mapIdx fun i x=>if i<q∨xs.length-q≤i then (xs[xs.length-1-i]?).getD x else x
theorem u2 {α:Type} (xs:List α) (q:Nat):(tx xs q).length=xs.length:=by unfold tx;simp
theorem xz {α:Type} (xs:List α) (q i:Nat) (hi:i<xs.length):(tx xs q)[i]? =if i<q∨xs.length-q≤i then xs[xs.length-1-i]? else xs[i]?:=by
 unfold tx
 rw[List.getElem?_mapIdx,eI hi]
 simp only[aov]
 split
 ·rw[eI aj];rfl
 ·rfl
theorem PS {α:Type} (xs:List α):xs=tx xs 0:=by
 apply anL
 intro i
 by_cases hi:i<xs.length
 ·rw[xz xs 0 i hi,anf aj]
 ·rw[anp aj,anp (by rw[u2];omega)]
theorem PT {α:Type} {xs ys:List α} {x y:α} (hs:ys=tx xs q) (h:q+q+1<xs.length) (hx:ys[xs.length-1-q]? =some x) (hy:ys[q]? =some y):(ys.set q x).set (xs.length-1-q) y=tx xs (q+1):=by
 subst hs
 rw[xz _ _ _ aj,anf aj] at hx hy
 apply anL
 intro i
 by_cases hi:i<xs.length
 ·rw[xz xs (q+1) i hi,an7,an7,am',u2]
  by_cases e1:xs.length-1-q=i
  ·subst e1
   rw[anc rfl,anc aj,anc aj,show xs.length-1-(xs.length-1-q)=q from by omega,hy]
  ·rw[anf e1]
   by_cases e2:q=i
   ·subst e2
    rw[anc rfl,anc aj,anc aj,hx]
   ·rw[anf e2,xz xs q i hi]
    by_cases e3:i<q∨xs.length-q≤i
    ·rw[anc e3,anc aj]
    ·rw[anf e3,anf aj]
 ·rw[anp (by rw[am',am',u2];omega),anp (by rw[u2];omega)]
theorem Nw {xs ys:aA} {x y:Int} {i:Int} (hs:ys=tx xs q) (h:q+q+1<xs.length) (hx:ys[i.toNat]? =some x) (hi:i.toNat=xs.length-1-q:=by omega) (hy:ys[((q:Nat):Int).toNat]? =some y):(ys.set ((q:Nat):Int).toNat x).set i.toNat y=tx xs (q+1):=by
 rw[hi] at hx ⊢
 exact PT hs h hx hy
theorem RP {α:Type} {xs ys:List α} (hs:ys=tx xs q) (h:xs.length≤q+q+1):ys=xs.reverse:=by
 subst hs
 apply anL
 intro i
 by_cases hi:i<xs.length
 ·rw[xz xs q i hi,List.getElem?_reverse hi]
  by_cases e:i<q∨xs.length-q≤i
  ·rw[anc e]
  ·rw[anf e];congr 1;omega
 ·rw[anp (by rw[u2];omega),anp (by rw[List.length_reverse];omega)]
end Go.Ew
namespace Go.Ew
open Go.RowKit
theorem Ty (w:aH) (q:Nat):Ext w (w.drewN q):=by
 induction q with
 |zero=>exact Ext.refl w
 |succ q ih=>exact ih.trans (Ext.drew _)
theorem HA (z:Array Value) (n:Nat):(Builtin.zeroCells z n).size=n*z.size:=by unfold Builtin.zeroCells;simp
theorem Te {α:Type} [GT α] {M:bW} {w:aH} {e:TypeId} {z:Value} (hz:z.cells.size=GT.size α) {m:Nat} (hm:m≤1048576):
  bm M e w ([]:List α) (.slice (some ⟨w.heap.size,0,none⟩) ([]:List α).length (grownCap w (0+m) 0 e)) (w.drew.alloc (.cells (([]:List Value).toArray++Builtin.zeroCells z.cells (0+m-0)++Builtin.zeroCells z.cells (grownCap w (0+m) 0 e-(0+m))) e)):=by
 have h1:=grownCap_ge w (0+m) 0 e
 have h2:=grownCap_le_maxLen w (0+m) 0 e<|by simp only[maxLen];omega
 have hg:(w.drew.alloc (.cells (([]:List Value).toArray++Builtin.zeroCells z.cells (0+m-0)++Builtin.zeroCells z.cells (grownCap w (0+m) 0 e-(0+m))) e)).heap[w.heap.size]? =some (.cells (([]:List Value).toArray++Builtin.zeroCells z.cells (0+m-0)++Builtin.zeroCells z.cells (grownCap w (0+m) 0 e-(0+m))) e):=by
  show (w.heap.push _)[w.heap.size]? =_
  simp
 refine⟨(Ext.drew w).trans (Ext.alloc _ _),fun b hb=>?_,[],⟨by simp,.inr ⟨w.heap.size,_,_,J,ane _,hg,aok _,h2,?_,by simp⟩⟩,J⟩
 ·have hb:w.heap.size=b:=ana hb
  subst hb
  show _<(w.heap.push _).size
  simp
 ·simp only[aqg,HA,hz,aoK,gj]
  rw[show 0+m-0=m from by omega,show 0+m=m from by omega] at *
  rw[anX,←an2]
  congr 1
  omega
end Go.Ew
namespace Go.Ew
open Go.RowKit Go.WideShapes Go.ChangeShapes
structure Gb (B:(H:Type)→DataW H→Nat):Prop where
 lit:∀(H:Type) l,1≤B H (.lit l)
 str:∀(H:Type) bs,bs.length+1≤B H (.lit (.string bs))
 nil:∀(H:Type),1≤B H .nil
 slice:∀(H:Type) (es sp:List (DataW H)),(es.map (B H)).sum+1≤B H (.slice es sp)
 agg:∀(H:Type) (ps:List (DataW H)),(ps.map (B H)).sum≤B H (.agg ps)
class Wt (α:Type) where
 wt:α→Nat
instance alz:Wt Int:=⟨fun _=>1⟩
instance al1:Wt bt:=⟨fun _=>1⟩
instance al2:Wt (BitVec 8):=⟨fun _=>1⟩
instance ajF:Wt Bool:=⟨fun _=>1⟩
instance aly:Wt bf:=⟨fun s=>s.size+1⟩
instance ajE {α:Type} [Wt α]:Wt (List α):=⟨fun l=>(l.map Wt.wt).sum+1⟩
instance ajD {α β:Type} [Wt α] [Wt β]:Wt (α×β):=⟨fun x=>Wt.wt x.1+Wt.wt x.2⟩
theorem KE {α:Type} [Wt α] (h1:∀x:α,1≤Wt.wt x):∀l:List α,l.length≤(l.map Wt.wt).sum
 |[]=>ane _
 |x::l=>by
  have:=KE h1 l
  have:=h1 x
  simp only[iI,anA,apW];omega
theorem YR {α:Type} [Wt α] (h1:∀x:α,1≤Wt.wt x):∀h:List (List α),h.flatten.length≤Wt.wt h:=by
 intro h
 show _≤(h.map Wt.wt).sum+1
 induction h with
 |nil=>simp
 |cons l h ih=>
  have:=KE h1 l
  simp only[aoY,fF,anA,apW]
  show _≤((l.map Wt.wt).sum+1)+(h.map Wt.wt).sum+1
  omega
theorem NW {α β:Type} [Wt α] [Wt β] (h:∀x:β,1≤Wt.wt x):∀x:α×β,1≤Wt.wt x:=fun x=>by
 have:=h x.2
 show 1≤Wt.wt x.1+Wt.wt x.2
 omega
theorem aaB:∀x:Int,1≤Wt.wt x:=fun _=>ane _
def sd (B:(H:Type)→DataW H→Nat) (P:Program) (t:TypeId) (α:Type) [GT α] [Wt α]:Prop:=
 P.cellsOf t=GT.size α∧∀{H:Type} (enc:TypeId×Value→H) (W:aH) (n:Nat) (cs:List Value) (x:DataW H×List MemPlace),
  DataW.trod enc P W 0 (fun _=>true) true n t cs=some x→∃y:α,GT.rep JM W cs y∧Wt.wt y≤B H x.1
section
variable {P:Program} {t e:TypeId} {B:(H:Type)→DataW H→Nat}
theorem P9 (hB:Gb B) (hc:P.cellsOf t=1) (ht:P.underlying t=some (.int .i64)):sd B P t Int:=by
 refine⟨hc,fun {H} enc W n cs x h=>?_⟩
 obtain⟨k,rfl,rfl,hw⟩:=DataW.trod_int ht h
 exact⟨k,⟨J,bounds_i64 hw⟩,hB.lit H _⟩
theorem Sg (hB:Gb B) (hc:P.cellsOf t=1) (ht:P.underlying t=some (.int .u8)):sd B P t (BitVec 8):=by
 refine⟨hc,fun {H} enc W n cs x h=>?_⟩
 obtain⟨y,hy⟩:=(Vi hc ht).2 enc W n cs x h
 obtain⟨k,rfl,rfl, -⟩:=DataW.trod_int ht h
 exact⟨y,hy,hB.lit H _⟩
theorem NK (hB:Gb B) (hc:P.cellsOf t=1) (ht:P.underlying t=some .bool):sd B P t Bool:=by
 refine⟨hc,fun {H} enc W n cs x h=>?_⟩
 obtain⟨k,rfl,rfl⟩:=DataW.trod_bool ht h
 exact⟨k,J,hB.lit H _⟩
theorem JW (hB:Gb B) (hc:P.cellsOf t=1) (ht:P.underlying t=some .string):sd B P t bf:=by
 refine⟨hc,fun {H} enc W n cs x h=>?_⟩
 obtain⟨k,rfl,rfl,hk⟩:=DataW.trod_string ht h
 refine⟨k,⟨J,hk⟩,?_⟩
 have:=hB.str H k.data.toList
 rw[anW] at this
 exact this
theorem Re {α:Type} [Wt α] {D:Type} (g:D→Nat):∀(l:List α) (es:List D),l.length=es.length→(∀(i:Nat) (y:α) (x:D),l[i]? =some y→es[i]? =some x→Wt.wt y≤g x)→(l.map Wt.wt).sum≤(es.map g).sum
 |[],[],_,_=>ane _
 |[],_::_,h,_=>by simp at h
 |_::_,[],h,_=>by simp at h
 |y::l,x::es,h,k=>by
  have h1:=Re g l es (by simpa using h) fun i y x hy hx=>k (i+1) y x (by simpa using hy) (by simpa using hx)
  have h2:=k 0 y x J J
  simp only[anA,apW];omega
theorem xF {α:Type} [GT α] [Wt α] (hB:Gb B) (hc:P.cellsOf t=1) (ht:P.underlying t=some (.slice e)) (O:sd B P e α):sd B P t (List α):=by
 refine⟨hc,fun {H} enc W n cs x h=>?_⟩
 rcases DataW.trod_slice ht h with ⟨rfl,rfl⟩|⟨a,len,cap,elems,rest,m,rfl,rfl,rfl, -,hl,hm,hlen,vq, -, -⟩
 ·exact⟨[],⟨_,J,Gn _ _⟩,hB.nil H⟩
 ·have one:∀i,i<len→∃y:α,At JM W (a.add (i*GT.size α)) y∧∀z,elems[i]? =some z→Wt.wt y≤B H z.1:=by
   intro i hi
   have h1:=vq i hi
   rw[eI (by omega:i<elems.length)] at h1
   simp only[apO] at h1
   obtain⟨ds,hd,hx⟩:=h1
   obtain⟨y,hy,hw⟩:=O.2 enc W m ds _ hx
   rw[O.1] at hd
   refine⟨y,⟨ds,hy,fun h=>h,TY hd⟩,fun z hz=>?_⟩
   rw[eI (by omega:i<elems.length)] at hz
   cases hz
   exact hw
  obtain⟨l,hl1,oe⟩:=EO (Q:=fun i (y:α)=>At JM W (a.add (i*GT.size α)) y∧∀z,elems[i]? =some z→Wt.wt y≤B H z.1) len one
  refine⟨l,⟨_,J,some a,len,cap,J,hl1,hl,hm,?_⟩,?_⟩
  ·by_cases h0:len=0
   ·exact .inl h0
   ·exact .inr ⟨a,J,fun i y hy=>(oe i y hy).1⟩
  ·have h1:=Re (fun z:DataW H×List MemPlace=>B H z.1) l elems aj fun i y x hy hx=>(oe i y hy).2 x hx
   have h2:=hB.slice H (elems.map (·.1))<|rest.map (·.1)
   rw[List.map_map] at h2
   show (l.map Wt.wt).sum+1≤_
   exact Nat.le_trans (Nat.add_le_add_right h1 1) h2
def D_ (B:(H:Type)→DataW H→Nat) (P:Program) (off total:Nat) (fs:List Field) (α:Type) [GT α] [Wt α]:Prop:=
 off+GT.size α=total∧∀{H:Type} (enc:TypeId×Value→H) (W:aH) (n:Nat) (cs:List Value) (xs:List (DataW H×List MemPlace)),cs.length=total→xs.length=fs.length→
  (∀(i:Nat) f,fs[i]? =some f→DataW.trod enc P W 0 (fun _=>true) true n f.type ((cs.drop f.offset).take (P.cellsOf f.type))=xs[i]?)→∃y:α,GT.rep JM W (cs.drop off) y∧Wt.wt y≤((xs.map (·.1)).map (B H)).sum
theorem NJ {α:Type} [GT α] [Wt α] {f:Field} {off total:Nat} (ho:f.offset=off) (O:sd B P f.type α) (hs:off+GT.size α=total):D_ B P off total [f] α:=by
 refine⟨hs,fun {H} enc W n cs xs hl hx h=>?_⟩
 match xs,hx,h with
 |[x],_,h=>
  have h1:=h 0 f J
  obtain⟨y,hy,hw⟩:=O.2 enc W n _ _ h1
  rw[O.1,ho,anj (by simp;omega)] at hy
  exact⟨y,hy,by simpa using hw⟩
theorem CO {α β:Type} [GT α] [GT β] [Wt α] [Wt β] {f:Field} {fs:List Field} {off Vj total:Nat} (ho:f.offset=off) (O:sd B P f.type α) (hs:off+GT.size α=Vj) (R:D_ B P Vj total fs β):D_ B P off total (f::fs) (α×β):=by
 refine⟨by rw[←R.1,←hs];show off+(GT.size α+GT.size β)=_;omega,fun {H} enc W n cs xs hl hx h=>?_⟩
 match xs,hx,h with
 |x::xs,hx,h=>
  have h1:=h 0 f J
  obtain⟨y,hy,hw⟩:=O.2 enc W n _ _ h1
  obtain⟨z,hz,hv⟩:=R.2 enc W n cs xs hl (by simpa using hx) fun i g hg=>h (i+1) g (by simpa using hg)
  rw[O.1,ho] at hy
  refine⟨(y,z),⟨(cs.drop off).take (GT.size α),cs.drop Vj,?_,hy,hz⟩,?_⟩
  ·rw[←hs,←an9]
   exact(aor _ _).symm
  ·simp only[anA,apW]
   exact Nat.add_le_add hw hv
theorem JV {α:Type} [GT α] [Wt α] {fs:Array Field} (hB:Gb B) (ht:P.underlying t=some (.struct fs)) (hc:P.cellsOf t=GT.size α) (R:D_ B P 0 (P.cellsOf t) fs.toList α):sd B P t α:=by
 refine⟨hc,fun {H} enc W n cs x h=>?_⟩
 obtain⟨xs,m,rfl,rfl,hl,hx,hf⟩:=DataW.trod_struct ht h
 obtain⟨y,hy,hw⟩:=R.2 enc W m cs xs hl (by simpa using hx) fun i f hf'=>hf i f (by rw[←aou];exact hf')
 exact⟨y,by simpa using hy,Nat.le_trans hw (hB.agg H _)⟩
section
variable {H:Type} {enc:TypeId×Value→H} {W:aH} {base:Nat} {v:Value} {d:DataW H} {ps:List MemPlace}
theorem Gk {α:Type} [GT α] [Wt α] (ht:P.underlying t=some (.slice e)) (O:sd B P t (List α)) (hv:Value.okWide P W .any base t v) (h:DataW.Trod enc P W 0 (fun _=>true) true t v d ps):
  ∃(y:List α) (a:Option Addr) (c:Nat),v=.slice a y.length c∧RV JM W (.slice a y.length c) y∧Wt.wt y≤B H d:=by
 obtain⟨a,n,c,rfl⟩:=okWide_slice ht hv
 obtain⟨m,h⟩:=h
 obtain⟨y,hy,hw⟩:=O.2 enc W m _ _ h
 obtain⟨a',c',e,hr⟩:=RS.explicit (RV.list.1 (⟨_,hy,rfl⟩:RV JM W (.slice a n c) y))
 injection e with e1 e2 e3
 subst e1 e2 e3
 exact⟨y,a,c,J,hr,hw⟩
end
end
end Go.Ew
