/- Plain laws: the statements of the top, by what verdicts are. -/
import Derived.Test.YtgjakhpjmapelaaGreatDoorPwnC
import Derived.Test.YtgjakhpjmapelaaGreatDoorPwnB
import Derived.Shelf.Strings.SlTrimAscii
import Derived.Shelf.Spec.SlicesGrow
import Derived.JoinedCond
import Derived.Test.YtgjakhpjmapelaaGreatDoorPwnA
set_option linter.unusedVariables false
set_option linter.unusedSimpArgs false
set_option linter.unusedSectionVars false
namespace Go.Ew
def BR (h:cD) (m:Int):List ByteArray:=bif iG h m then sZ h else []
def yF (h:cD) (m:Int):List aI:=bif iG h m then lK h else []
def yG (h:cD) (m:Int):List Int:=bif iG h m then lL h else []
theorem af2 {h:cD} {m:Int} (hk:(iG h m&&eO h)=true):yF h m=lK h∧yG h m=lL h∧eO h=true∧(h.flatten.length:Int)≤m:=by
 rw[eI] at hk
 unfold yF yG
 rw[hk.1]
 exact⟨J,J,hk.2,(IF.1 hk.1).2.1⟩
section
variable {h:cD}
theorem ON (ho:eO h=true) {lv:Int} (hl:lv=1∨lv=2∨lv=3):kP h lv=true↔ik (lK h) (lL h) lv=none:=by
 rw[(xo ho hl).2.2.2.1,Option.isNone_iff_eq_none]
theorem TX {x y:vo} (h:y=x):(decide (x.1=y.1)&&(decide (x.2.1=y.2.1)&&(decide (x.2.2.1=y.2.2.1)&&(decide (x.2.2.2.1=y.2.2.2.1)&&decide (x.2.2.2.2=y.2.2.2.2)))))=true:=by subst h;simp
end
end Go.Ew
namespace Go.Ew
section
variable {h:cD} {lv:Int}
theorem Q1 (ho:eO h=true) (hl:lv=1∨lv=2∨lv=3):(!decide (lN h lv=0))=false:=by rw[(xo ho hl).1];rfl
theorem HZ (ho:eO h=true) (hl:lv=1∨lv=2∨lv=3):lN (h++[[]]) lv=0∧kP (h++[[]]) lv=kP h lv∧eW (h++[[]]) lv=eW h lv:=by
 obtain⟨h1,h2,h3,h4,h5⟩:=Vv h
 obtain⟨a1,a2,a3,a4,a5⟩:=xo (h1.trans ho) hl
 obtain⟨b1,b2,b3,b4,b5⟩:=xo ho hl
 exact⟨a1,by rw[a4,b4,h2,h3],by rw[a5,b5,h2,h3]⟩
theorem DV (ho:eO h=true) (hl:lv=1∨lv=2∨lv=3):(!decide (lN (h++[[]]) lv=0))=false:=by rw[(HZ ho hl).1];rfl
theorem Bj (ho:eO h=true) (hl:lv=1∨lv=2∨lv=3):(!(kP (h++[[]]) lv==kP h lv))=false:=by rw[(HZ ho hl).2.1];cases kP h lv<;>rfl
theorem WG {x y:vo} (h:y=x):(!(decide (x.1=y.1)&&(decide (x.2.1=y.2.1)&&(decide (x.2.2.1=y.2.2.1)&&(decide (x.2.2.2.1=y.2.2.2.1)&&decide (x.2.2.2.2=y.2.2.2.2))))))=false:=by rw[TX h];rfl
theorem Mv {k:Nat} (hb:h.flatten.length≤k):(h++[[]]).flatten.length≤k:=by rw[aqc,fA];exact hb
theorem O9 {s:Int} {x:List iP} {k:Nat} (hs:h[s.toNat]? =some x):(h.set s.toNat (x.take k)).flatten.length≤h.flatten.length:=
 @uo h x _ h _ hs (by rw[gY];omega)
theorem DW {s:Int} {x y z:List iP} {o:iP} (ho:eO h=true) (hl:lv=1∨lv=2∨lv=3) (hx:h[s.toNat]? =some x) (hy:h[s.toNat]? =some y) (hz:h[s.toNat]? =some z) (hq:y[((x.length:Int)-1).toNat]? =some o) (hr:o.1=false) (hc:kP h lv=true):
  lN (h.set s.toNat (z.take ((x.length:Int)-1).toNat)) lv=0∧kP (h.set s.toNat (z.take ((x.length:Int)-1).toNat)) lv=true:=by
 obtain rfl:=anm (hx.symm.trans hy)
 obtain rfl:=anm (hx.symm.trans hz)
 have hk:=(dC.1 hq).1
 have hn:x.length=((x.length:Int)-1).toNat+1:=by omega
 obtain⟨k1,k2⟩:=Wv ho hx hn hq hr ((ON ho hl).1 hc)
 exact⟨(xo k1 hl).1,(ON k1 hl).2 k2⟩
end
end Go.Ew
namespace Go.Ew
def sU {α:Type} (xs:List α) (q:Nat):List α:=xs.mapIdx fun i x=>if i<q∨xs.length-q≤i then (xs[xs.length-1-i]?).getD x else x
theorem uI {α:Type} (xs:List α) (q:Nat):(sU xs q).length=xs.length:=by unfold sU;simp
theorem wX {α:Type} (xs:List α) (q i:Nat) (hi:i<xs.length):(sU xs q)[i]? =if i<q∨xs.length-q≤i then xs[xs.length-1-i]? else xs[i]?:=by
 unfold sU
 rw[List.getElem?_mapIdx,eB hi]
 simp only[aoy]
 split
 ·rw[eB aq];rfl
 ·rfl
theorem PV {α:Type} (xs:List α):xs=sU xs 0:=by
 apply anT
 intro i
 by_cases hi:i<xs.length
 ·rw[wX xs 0 i hi,anp aq]
 ·rw[anz aq,anz (by rw[uI];omega)]
theorem PY {α:Type} {xs ys:List α} {q:Nat} {x y:α} (hs:ys=sU xs q) (h:q+q+1<xs.length) (hx:ys[xs.length-1-q]? =some x) (hy:ys[q]? =some y):(ys.set q x).set (xs.length-1-q) y=sU xs (q+1):=by
 subst hs
 rw[wX _ _ _ aq,anp aq] at hx hy
 apply anT
 intro i
 by_cases hi:i<xs.length
 ·rw[wX xs (q+1) i hi,aoE,aoE,anj,uI]
  by_cases e1:xs.length-1-q=i
  ·subst e1
   rw[ann rfl,ann aq,ann aq,show xs.length-1-(xs.length-1-q)=q from by omega,hy]
  ·rw[anp e1]
   by_cases e2:q=i
   ·subst e2
    rw[ann rfl,ann aq,ann aq,hx]
   ·rw[anp e2,wX xs q i hi]
    by_cases e3:i<q∨xs.length-q≤i
    ·rw[ann e3,ann aq]
    ·rw[anp e3,anp aq]
 ·rw[anz (by rw[anj,anj,uI];omega),anz (by rw[uI];omega)]
theorem Np {xs ys:List Int} {q:Nat} {x y:Int} {i:Int} (hs:ys=sU xs q) (h:q+q+1<xs.length) (hx:ys[i.toNat]? =some x) (hi:i.toNat=xs.length-1-q:=by omega) (hy:ys[((q:Nat):Int).toNat]? =some y):(ys.set ((q:Nat):Int).toNat x).set i.toNat y=sU xs (q+1):=by
 rw[hi] at hx ⊢
 exact PY hs h hx hy
theorem R1 {α:Type} {xs ys:List α} {q:Nat} (hs:ys=sU xs q) (h:xs.length≤q+q+1):ys=xs.reverse:=by
 subst hs
 apply anT
 intro i
 by_cases hi:i<xs.length
 ·rw[wX xs q i hi,List.getElem?_reverse hi]
  by_cases e:i<q∨xs.length-q≤i
  ·rw[ann e]
  ·rw[anp e];congr 1;omega
 ·rw[anz (by rw[uI];omega),anz (by rw[List.length_reverse];omega)]
end Go.Ew
namespace Go.Ew
open Go.RowKit
theorem TK (w:World) (q:Nat):Ext w (w.drewN q):=by
 induction q with
 |zero=>exact Ext.refl w
 |succ q ih=>exact ih.trans (Ext.drew _)
theorem Hm (z:Array Value) (n:Nat):(Builtin.zeroCells z n).size=n*z.size:=by unfold Builtin.zeroCells;simp
theorem To {α:Type} [GT α] {M:Nat→Prop} {w:World} {e:TypeId} {z:Value} (hz:z.cells.size=GT.size α) {m:Nat} (hm:m≤1048576):
  bj M e w ([]:List α) (.slice (some ⟨w.heap.size,0,none⟩) ([]:List α).length (grownCap w (0+m) 0 e)) (w.drew.alloc (.cells (([]:List Value).toArray++Builtin.zeroCells z.cells (0+m-0)++Builtin.zeroCells z.cells (grownCap w (0+m) 0 e-(0+m))) e)):=by
 have h1:=grownCap_ge w (0+m) 0 e
 have h2:=grownCap_le_maxLen w (0+m) 0 e<|by simp only[maxLen];omega
 have hg:(w.drew.alloc (.cells (([]:List Value).toArray++Builtin.zeroCells z.cells (0+m-0)++Builtin.zeroCells z.cells (grownCap w (0+m) 0 e-(0+m))) e)).heap[w.heap.size]? =some (.cells (([]:List Value).toArray++Builtin.zeroCells z.cells (0+m-0)++Builtin.zeroCells z.cells (grownCap w (0+m) 0 e-(0+m))) e):=by
  show (w.heap.push _)[w.heap.size]? =_
  simp
 refine⟨(Ext.drew w).trans (Ext.alloc _ _),fun b hb=>?_,[],⟨by simp,.inr ⟨w.heap.size,_,_,J,anl _,hg,aoD _,h2,?_,by simp⟩⟩,J⟩
 ·have hb:w.heap.size=b:=anm hb
  subst hb
  show _<(w.heap.push _).size
  simp
 ·simp only[aqp,Hm,hz,aoQ,gr]
  rw[show 0+m-0=m from by omega,show 0+m=m from by omega] at *
  rw[an5,←an']
  congr 1
  omega
end Go.Ew
namespace Go.Ew
open Go.RowKit Go.WideShapes Go.ChangeShapes
structure Iu (B:(H:Type)→DataW H→Nat):Prop where
 lit:∀(H:Type) l,1≤B H (.lit l)
 str:∀(H:Type) bs,bs.length+1≤B H (.lit (.string bs))
 nil:∀(H:Type),1≤B H .nil
 slice:∀(H:Type) (es sp:List (DataW H)),(es.map (B H)).sum+1≤B H (.slice es sp)
 agg:∀(H:Type) (ps:List (DataW H)),(ps.map (B H)).sum≤B H (.agg ps)
class Wt (α:Type) where
 wt:α→Nat
instance alH:Wt Int:=⟨fun _=>1⟩
instance al7:Wt (BitVec 64):=⟨fun _=>1⟩
instance al8:Wt (BitVec 8):=⟨fun _=>1⟩
instance ajD:Wt Bool:=⟨fun _=>1⟩
instance alG:Wt ByteArray:=⟨fun s=>s.size+1⟩
instance ajC {α:Type} [Wt α]:Wt (List α):=⟨fun l=>(l.map Wt.wt).sum+1⟩
instance ajB {α β:Type} [Wt α] [Wt β]:Wt (α×β):=⟨fun x=>Wt.wt x.1+Wt.wt x.2⟩
theorem Ky {α:Type} [Wt α] (h1:∀x:α,1≤Wt.wt x):∀l:List α,l.length≤(l.map Wt.wt).sum
 |[]=>anl _
 |x::l=>by
  have:=Ky h1 l
  have:=h1 x
  simp only[iM,anM,ap3];omega
theorem Y_ {α:Type} [Wt α] (h1:∀x:α,1≤Wt.wt x):∀h:List (List α),h.flatten.length≤Wt.wt h:=by
 intro h
 show _≤(h.map Wt.wt).sum+1
 induction h with
 |nil=>simp
 |cons l h ih=>
  have:=Ky h1 l
  simp only[aoF,fA,anM,ap3]
  show _≤((l.map Wt.wt).sum+1)+(h.map Wt.wt).sum+1
  omega
theorem NR {α β:Type} [Wt α] [Wt β] (h:∀x:β,1≤Wt.wt x):∀x:α×β,1≤Wt.wt x:=fun x=>by
 have:=h x.2
 show 1≤Wt.wt x.1+Wt.wt x.2
 omega
theorem aaS:∀x:Int,1≤Wt.wt x:=fun _=>anl _
def tA (B:(H:Type)→DataW H→Nat) (P:Program) (t:TypeId) (α:Type) [GT α] [Wt α]:Prop:=
 P.cellsOf t=GT.size α∧∀{H:Type} (enc:TypeId×Value→H) (W:World) (n:Nat) (cs:List Value) (x:DataW H×List MemPlace),
  DataW.trod enc P W 0 (fun _=>true) true n t cs=some x→∃y:α,GT.rep M6 W cs y∧Wt.wt y≤B H x.1
section
variable {P:Program} {t e:TypeId} {B:(H:Type)→DataW H→Nat}
theorem Qb (hB:Iu B) (hc:P.cellsOf t=1) (ht:P.underlying t=some (.int .i64)):tA B P t Int:=by
 refine⟨hc,fun {H} enc W n cs x h=>?_⟩
 obtain⟨k,rfl,rfl,hw⟩:=DataW.trod_int ht h
 exact⟨k,⟨J,bounds_i64 hw⟩,hB.lit H _⟩
theorem NC (hB:Iu B) (hc:P.cellsOf t=1) (ht:P.underlying t=some .bool):tA B P t Bool:=by
 refine⟨hc,fun {H} enc W n cs x h=>?_⟩
 obtain⟨k,rfl,rfl⟩:=DataW.trod_bool ht h
 exact⟨k,J,hB.lit H _⟩
theorem JK (hB:Iu B) (hc:P.cellsOf t=1) (ht:P.underlying t=some .string):tA B P t ByteArray:=by
 refine⟨hc,fun {H} enc W n cs x h=>?_⟩
 obtain⟨k,rfl,rfl,hk⟩:=DataW.trod_string ht h
 refine⟨k,⟨J,hk⟩,?_⟩
 have:=hB.str H k.data.toList
 rw[an4] at this
 exact this
theorem Rm {α:Type} [Wt α] {D:Type} (g:D→Nat):∀(l:List α) (es:List D),l.length=es.length→(∀(i:Nat) (y:α) (x:D),l[i]? =some y→es[i]? =some x→Wt.wt y≤g x)→(l.map Wt.wt).sum≤(es.map g).sum
 |[],[],_,_=>anl _
 |[],_::_,h,_=>by simp at h
 |_::_,[],h,_=>by simp at h
 |y::l,x::es,h,k=>by
  have h1:=Rm g l es (by simpa using h) fun i y x hy hx=>k (i+1) y x (by simpa using hy) (by simpa using hx)
  have h2:=k 0 y x J J
  simp only[anM,ap3];omega
theorem Cv {α:Type} [GT α] [Wt α] (hB:Iu B) (hc:P.cellsOf t=1) (ht:P.underlying t=some (.slice e)) (O:tA B P e α):tA B P t (List α):=by
 refine⟨hc,fun {H} enc W n cs x h=>?_⟩
 rcases DataW.trod_slice ht h with ⟨rfl,rfl⟩|⟨a,len,cap,elems,rest,m,rfl,rfl,rfl, -,hl,hm,hlen,u1, -, -⟩
 ·exact⟨[],⟨_,J,Cc _ _⟩,hB.nil H⟩
 ·have one:∀i,i<len→∃y:α,At M6 W (a.add (i*GT.size α)) y∧∀z,elems[i]? =some z→Wt.wt y≤B H z.1:=by
   intro i hi
   have h1:=u1 i hi
   rw[eB (by omega:i<elems.length)] at h1
   simp only[apX] at h1
   obtain⟨ds,hd,hx⟩:=h1
   obtain⟨y,hy,hw⟩:=O.2 enc W m ds _ hx
   rw[O.1] at hd
   refine⟨y,⟨ds,hy,fun h=>h,T8 hd⟩,fun z hz=>?_⟩
   rw[eB (by omega:i<elems.length)] at hz
   cases hz
   exact hw
  obtain⟨l,hl1,kQ⟩:=Ey (Q:=fun i (y:α)=>At M6 W (a.add (i*GT.size α)) y∧∀z,elems[i]? =some z→Wt.wt y≤B H z.1) len one
  refine⟨l,⟨_,J,some a,len,cap,J,hl1,hl,hm,?_⟩,?_⟩
  ·by_cases h0:len=0
   ·exact .inl h0
   ·exact .inr ⟨a,J,fun i y hy=>(kQ i y hy).1⟩
  ·have h1:=Rm (fun z:DataW H×List MemPlace=>B H z.1) l elems aq fun i y x hy hx=>(kQ i y hy).2 x hx
   have h2:=hB.slice H (elems.map (·.1))<|rest.map (·.1)
   rw[List.map_map] at h2
   show (l.map Wt.wt).sum+1≤_
   exact Nat.le_trans (Nat.add_le_add_right h1 1) h2
def DX (B:(H:Type)→DataW H→Nat) (P:Program) (off total:Nat) (fs:List Field) (α:Type) [GT α] [Wt α]:Prop:=
 off+GT.size α=total∧∀{H:Type} (enc:TypeId×Value→H) (W:World) (n:Nat) (cs:List Value) (xs:List (DataW H×List MemPlace)),cs.length=total→xs.length=fs.length→
  (∀(i:Nat) f,fs[i]? =some f→DataW.trod enc P W 0 (fun _=>true) true n f.type ((cs.drop f.offset).take (P.cellsOf f.type))=xs[i]?)→∃y:α,GT.rep M6 W (cs.drop off) y∧Wt.wt y≤((xs.map (·.1)).map (B H)).sum
theorem NB {α:Type} [GT α] [Wt α] {f:Field} {off total:Nat} (ho:f.offset=off) (O:tA B P f.type α) (hs:off+GT.size α=total):DX B P off total [f] α:=by
 refine⟨hs,fun {H} enc W n cs xs hl hx h=>?_⟩
 match xs,hx,h with
 |[x],_,h=>
  have h1:=h 0 f J
  obtain⟨y,hy,hw⟩:=O.2 enc W n _ _ h1
  rw[O.1,ho,ant (by simp;omega)] at hy
  exact⟨y,hy,by simpa using hw⟩
theorem Cu {α β:Type} [GT α] [GT β] [Wt α] [Wt β] {f:Field} {fs:List Field} {off Vu total:Nat} (ho:f.offset=off) (O:tA B P f.type α) (hs:off+GT.size α=Vu) (ai:DX B P Vu total fs β):DX B P off total (f::fs) (α×β):=by
 refine⟨by rw[←ai.1,←hs];show off+(GT.size α+GT.size β)=_;omega,fun {H} enc W n cs xs hl hx h=>?_⟩
 match xs,hx,h with
 |x::xs,hx,h=>
  have h1:=h 0 f J
  obtain⟨y,hy,hw⟩:=O.2 enc W n _ _ h1
  obtain⟨z,hz,hv⟩:=ai.2 enc W n cs xs hl (by simpa using hx) fun i g hg=>h (i+1) g (by simpa using hg)
  rw[O.1,ho] at hy
  refine⟨(y,z),⟨(cs.drop off).take (GT.size α),cs.drop Vu,?_,hy,hz⟩,?_⟩
  ·rw[←hs,←aog]
   exact(aov _ _).symm
  ·simp only[anM,ap3]
   exact Nat.add_le_add hw hv
theorem JJ {α:Type} [GT α] [Wt α] {fs:Array Field} (hB:Iu B) (ht:P.underlying t=some (.struct fs)) (hc:P.cellsOf t=GT.size α) (ai:DX B P 0 (P.cellsOf t) fs.toList α):tA B P t α:=by
 refine⟨hc,fun {H} enc W n cs x h=>?_⟩
 obtain⟨xs,m,rfl,rfl,hl,hx,hf⟩:=DataW.trod_struct ht h
 obtain⟨y,hy,hw⟩:=ai.2 enc W m cs xs hl (by simpa using hx) fun i f hf'=>hf i f (by rw[←aox];exact hf')
 exact⟨y,by simpa using hy,Nat.le_trans hw (hB.agg H _)⟩
section
variable {H:Type} {enc:TypeId×Value→H} {W:World} {base:Nat} {v:Value} {d:DataW H} {ps:List MemPlace}
theorem PG {α:Type} [GT α] [Wt α] (ht:P.underlying t=some (.slice e)) (O:tA B P t (List α)) (hv:Value.okWide P W .any base t v) (h:DataW.Trod enc P W 0 (fun _=>true) true t v d ps):
  ∃(y:List α) (a:Option Addr) (c:Nat),v=.slice a y.length c∧RV M6 W (.slice a y.length c) y∧Wt.wt y≤B H d:=by
 obtain⟨a,n,c,rfl⟩:=okWide_slice ht hv
 obtain⟨m,h⟩:=h
 obtain⟨y,hy,hw⟩:=O.2 enc W m _ _ h
 obtain⟨a',c',e,hr⟩:=RS.explicit (RV.list.1 (⟨_,hy,rfl⟩:RV M6 W (.slice a n c) y))
 injection e with e1 e2 e3
 subst e1 e2 e3
 exact⟨y,a,c,J,hr,hw⟩
end
end
end Go.Ew
