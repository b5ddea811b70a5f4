/- Plain laws: what a check of a text tells. -/
import Derived.Test.YtgjakhpjmapelaaGreatDoorTwnC
import Derived.Test.YtgjakhpjmapelaaGreatDoorTwnB
import Derived.Shelf.Strings.SlTrimAscii
import Derived.Shelf.Spec.SlicesGrow
import Derived.JoinedCond
import Derived.Test.YtgjakhpjmapelaaGreatDoorTwnA
set_option linter.unusedVariables false
set_option linter.unusedSimpArgs false
set_option linter.unusedSectionVars false
namespace Go.Ew
def cp (s:bA) (j:Nat):Nat:=((s.data.toList.take j).filter (fun c=>decide (((c.toNat:Nat):Int)=58))).length
section
variable {s:bA} {j:Nat} {c:UInt8}
theorem uM (hc:s[((j:Nat):Int).toNat]? =some c) (h:decide (((c.toNat:Nat):Int)=58)=true):cp s (j+1)=cp s j+1:=by
 have:=Go.Ew.DX hc
 rw[dM] at this
 unfold cp
 rw[am9,this,Option.toList_some,anH,fN]
 simp only[apj,h,aod,List.filter_nil,iB,gj]
theorem sQ (hc:s[((j:Nat):Int).toNat]? =some c) (h:decide (((c.toNat:Nat):Int)=58)=false):cp s (j+1)=cp s j:=by
 have:=Go.Ew.DX hc
 rw[dM] at this
 unfold cp
 rw[am9,this,Option.toList_some,anH,fN]
 simp[h]
theorem Mh (hj:s.size≤j):ln s 0=cp s j:=by
 unfold ln cp
 rw[amL (by rw[ang];exact hj)]
 rfl
end
section
variable {h:dR}
theorem L9:∀{h:dR} {s p:Nat} {op:jS},FO h s p op→h.flatten[ti h s p]? =some op
 |[],s,p,op,⟨l,h1,h2⟩=>by simp at h1
 |l::t,0,p,op,⟨l',h1,h2⟩=>by
  simp at h1;subst h1
  have hp:=(dU.1 h2).1
  rw[an_,oY (by show ti (l::t) 0 p<_;unfold ti;simpa using hp)]
  unfold ti;simpa using h2
 |l::t,s+1,p,op,⟨l',h1,h2⟩=>by
  have:FO t s p op:=⟨l',by simpa using h1,h2⟩
  rw[Iw,an_,oB aj,show l.length+ti t s p-l.length=ti t s p by omega]
  exact L9 this
theorem DT {i:Nat} {o:jS} (hx:h.flatten[i]? =some o):∃it,(wN h)[i]? =some it∧it.2.2.1=o.1∧it.2.2.2.2=o.2.2∧∃v:Nat,it.2.2.2.1=((v:Nat):Int)∧(DU h)[v]? =some o.2.1:=by
 obtain⟨s,p,op,ho,rfl⟩:=NC h (dU.1 hx).1
 obtain rfl:=amE ((L9 ho).symm.trans hx)
 obtain⟨v,h1,h2⟩:=Zp ho
 exact⟨_,h1,J,J,v,J,h2⟩
end
theorem ZZ {aE:List aO} (h:¬(da aE).2.2=0):((da aE).2.2=4∨(da aE).2.2=5)∧∃i j:Nat,(da aE).1=((i:Nat):Int)∧(da aE).2.1=((j:Nat):Int)∧i≤j∧∃x y:aO,aE[i]? =some x∧aE[j]? =some y∧x.2.2.1=true∧y.2.2.1=true∧x.2.2.2.1=y.2.2.2.1∧x.2.2.2.2=y.2.2.2.2∧(i=j↔y.2.2.2.2=0):=by
 cases hf:C1 aE with
 |none=>exact absurd (by unfold da;rw[hf]) h
 |some j=>
  have hb:nj aE j=true:=by unfold C1 at hf;exact List.find?_some hf
  unfold nj at hb
  cases hy:aE[j]? with
  |none=>rw[hy] at hb;cases hb
  |some y=>
   have e:da aE=if y.2.2.2.2=0 then (((j:Nat):Int),((j:Nat):Int),5) else (max (gx aE y.2.2.2.1 y.2.2.2.2) 0,((j:Nat):Int),4):=by
    unfold da
    rw[hf]
    show (match aE[j]? with|none=>_|some x=>_)=_
    rw[hy]
   rw[e]
   rw[hy] at hb
   have hb:vY aE j y=true:=hb
   unfold vY at hb
   rw[eW,amM,amB,amB] at hb
   obtain⟨hw,hd⟩:=hb
   by_cases h0:y.2.2.2.2=0
   ·rw[amF h0]
    exact⟨.inr rfl,j,j,J,J,amD _,y,y,hy,hy,hw,hw,J,J,⟨fun _=>h0,fun _=>rfl⟩⟩
   ·have hm:max (gx aE y.2.2.2.1 y.2.2.2.2) 0<((j:Nat):Int):=hd.resolve_left h0
    obtain⟨w0,w1⟩:=Ns (aE:=aE) (j:=j) (x:=y) (by rw[dM];exact hy) hw
    obtain⟨x,hx,CE⟩:=O9 w0
    unfold lK at CE
    rw[eW,eW,amB,amB] at CE
    rw[amI h0]
    refine⟨.inl rfl,(gx aE y.2.2.2.1 y.2.2.2.2).toNat,j,by omega,J,by omega,x,y,hx,hy,?_,hw,?_,?_,⟨fun e=>by omega,fun e=>absurd e h0⟩⟩
    ·first|exact CE.1.1|exact CE.1
    ·first|exact CE.1.2|exact CE.2.1
    ·first|exact CE.2|exact CE.2.2
structure TbP (s:bA) (h:dR) (lv:Int):Prop where
 e45:cG s lv=4∨cG s lv=5
 i0:decide ((j0 s lv).1<0)=false
 ij:decide ((j0 s lv).2<(j0 s lv).1)=false
 jl:decide ((h.flatten.length:Int)≤(j0 s lv).2)=false
 yx:∀x0,h.flatten[((j0 s lv).1).toNat]? =some x0→x0.1=true
 qg:∀x1,h.flatten[((j0 s lv).2).toNat]? =some x1→x1.1=true
 ops:∀x0 x1,h.flatten[((j0 s lv).1).toNat]? =some x0→h.flatten[((j0 s lv).2).toNat]? =some x1→x0.1=true∧x1.1=true∧decide ((x0.1,x0.2.1,x0.2.2)=(x1.1,x1.2.1,x1.2.2))=true∧(decide ((j0 s lv).1=(j0 s lv).2)==decide (x1.2.2=0))=true
section
variable {s:bA} {h:dR} {a e lv:Int} {j:Nat}
theorem Lh (h1:decide (lv<1)=false) (h3:decide (3<lv)=false):qH lv=true:=W2 (by have:=amG h1;have:=amG h3;omega)
theorem Od (hl:lv<1∨3<lv):qH lv=false:=by
 cases hb:qH lv with
 |false=>rfl
 |true=>have:=PN hb;omega
theorem KQ (hj:s.size≤j) (Eo:decide (10<((cp s j:Nat):Int))=false) (ht:bg s=(h,a,e)) (hz:(!decide (e=0))=false):iN h=true:=by
 have h1:(bg s).2.2=0:=by rw[ht];simpa using hz
 have:=Pj h1<|by rw[Mh hj];have:=amG Eo;omega
 rw[ht] at this;exact this
theorem Lm (hj:s.size≤j) (Eo:decide (10<((cp s j:Nat):Int))=false):(bg s).2.2=0→(bg s).1.flatten.length≤64:=by
 intro h1
 have h2:=(NA h1).1
 rw[Mh hj] at h2
 have:=amG Eo
 omega
theorem tb (hj:s.size≤j) (Eo:decide (10<((cp s j:Nat):Int))=false) (h1:decide (lv<1)=false) (h3:decide (3<lv)=false) (ht:bg s=(h,a,e)) (hz:(!decide (e=0))=false) (he:(!decide (cG s lv=0))=true):TbP s h lv:=by
 have hr:=KQ hj Eo ht hz
 have hl:=Lh h1 h3
 obtain⟨t1, -,t2, -⟩:=FW (lv:=lv) hl ht (by simpa using hz)
 obtain⟨c1,c2⟩:=LD (lv:=lv) (r5 hr).2.2 hl
 rw[(r5 hr).2.1] at c1 c2
 rw[c1] at t1
 rw[c2] at t2
 have gD:¬(da (wN h)).2.2=0:=by rw[←t1];simpa using he
 obtain⟨k1,i,j',e1,e2,Gy,x,y,hx,hy,hw,hv,hvr,Lz,h0⟩:=ZZ gD
 have i1:(j0 s lv).1=((i:Nat):Int):=by rw[t2];exact e1
 have i2:(j0 s lv).2=((j':Nat):Int):=by rw[t2];exact e2
 have wm:j'<h.flatten.length:=by have:=(dU.1 hy).1;rw[I5] at this;exact this
 refine⟨by rw[t1];exact k1,by rw[i1,amN];omega,by rw[i1,i2,amN];omega,by rw[i2,amN];omega,?_,?_,?_⟩
 ·intro x0 q0
  rw[i1,dM] at q0
  obtain⟨y0,z1,z2, -⟩:=DT q0
  obtain rfl:=amE (hx.symm.trans z1)
  rw[←z2];exact hw
 ·intro x1 q1
  rw[i2,dM] at q1
  obtain⟨y1,z1,z2, -⟩:=DT q1
  obtain rfl:=amE (hy.symm.trans z1)
  rw[←z2];exact hv
 rw[i1,i2]
 intro x0 x1 q0 q1
 rw[dM] at q0 q1
 obtain⟨y0,z1,z2,z3,v0,z4,z5⟩:=DT q0
 obtain⟨y1,w1,w2,w3,v1,w4,w5⟩:=DT q1
 obtain rfl:=amE (hx.symm.trans z1)
 obtain rfl:=amE (hy.symm.trans w1)
 have hn:x0.2.1=x1.2.1:=by
  have:v0=v1:=by rw[z4,w4] at hvr;omega
  subst this
  exact amE<|z5.symm.trans w5
 have hw0:x0.1=true:=by rw[←z2];exact hw
 have hw1:x1.1=true:=by rw[←w2];exact hv
 have hvv:x0.2.2=x1.2.2:=by rw[←z3,←w3];exact Lz
 refine⟨hw0,hw1,by rw[hw0,hw1,hn,hvv];exact amC rfl,?_⟩
 rw[w3] at h0
 by_cases hq:i=j'
 ·rw[amC (by omega:((i:Nat):Int)=((j':Nat):Int)),amC (h0.1 hq)];rfl
 ·rw[amJ (by omega:¬((i:Nat):Int)=((j':Nat):Int)),amJ (fun hh=>hq (h0.2 hh))];rfl
theorem tg (hj:s.size≤j) (Eo:decide (10<((cp s j:Nat):Int))=false) (h1:decide (lv<1)=false) (h3:decide (3<lv)=false) (ht:bg s=(h,a,e)) (hz:(!decide (e=0))=false) (he:(!decide (cG s lv=0))=false):gX h=true∧decide (vZ s lv=lv)=true:=by
 have hr:=KQ hj Eo ht hz
 have hl:=Lh h1 h3
 obtain⟨t1, -, -,t2, -⟩:=FW (lv:=lv) hl ht (by simpa using hz)
 obtain⟨c1, -⟩:=LD (lv:=lv) (r5 hr).2.2 hl
 have h0:(da (cX h)).2.2=0:=by rw[←c1,←t1];simpa using he
 refine⟨by unfold gX;rw[hr,h0];rfl,?_⟩
 rw[t2,(P5 (r5 hr).2.2 hl h0).2.2.1]
 exact amC J
theorem tf (h1:decide (lv<1)=false) (h3:decide (3<lv)=false) (ht:bg s=(h,a,e)) (hz:(!decide (e=0))=true):decide (cG s lv=e)=true∧decide (v7 s lv=a)=true∧(!pF s lv)=true∧(e=2∨e=3):=by
 have hz:¬e=0:=by simpa using hz
 obtain⟨t1,t2, -, -,t3, -⟩:=Q2 (Lh h1 h3) ht hz
 refine⟨by rw[t1];exact amC rfl,by rw[t2];exact amC rfl,by rw[t3];rfl,?_⟩
 have:=YH s
 rw[ht] at this
 rcases this with h|h|h
 ·exact absurd h hz
 ·exact .inl h
 ·exact .inr h
end
end Go.Ew
namespace Go.Ew
variable {q:Nat}
def te {α:Type} (xs:List α) (q:Nat):List α:=xs.mapIdx fun i x=>if i<q∨xs.length-q≤i then (xs[xs.length-1-i]?).getD x else x
theorem uX {α:Type} (xs:List α) (q:Nat):(te xs q).length=xs.length:=by unfold te;simp
theorem xr {α:Type} (xs:List α) (q i:Nat) (hi:i<xs.length):(te xs q)[i]? =if i<q∨xs.length-q≤i then xs[xs.length-1-i]? else xs[i]?:=by
 unfold te
 rw[List.getElem?_mapIdx,eR hi]
 simp only[anX]
 split
 ·rw[eR aj];rfl
 ·rfl
theorem Px {α:Type} (xs:List α):xs=te xs 0:=by
 apply ana
 intro i
 by_cases hi:i<xs.length
 ·rw[xr xs 0 i hi,amI aj]
 ·rw[amQ aj,amQ (by rw[uX];omega)]
theorem Py {α:Type} {xs ys:List α} {x y:α} (hs:ys=te xs q) (h:q+q+1<xs.length) (hx:ys[xs.length-1-q]? =some x) (hy:ys[q]? =some y):(ys.set q x).set (xs.length-1-q) y=te xs (q+1):=by
 subst hs
 rw[xr _ _ _ aj,amI aj] at hx hy
 apply ana
 intro i
 by_cases hi:i<xs.length
 ·rw[xr xs (q+1) i hi,anW,anW,amA,uX]
  by_cases e1:xs.length-1-q=i
  ·subst e1
   rw[amF rfl,amF aj,amF aj,show xs.length-1-(xs.length-1-q)=q from by omega,hy]
  ·rw[amI e1]
   by_cases e2:q=i
   ·subst e2
    rw[amF rfl,amF aj,amF aj,hx]
   ·rw[amI e2,xr xs q i hi]
    by_cases e3:i<q∨xs.length-q≤i
    ·rw[amF e3,amF aj]
    ·rw[amI e3,amI aj]
 ·rw[amQ (by rw[amA,amA,uX];omega),amQ (by rw[uX];omega)]
theorem M7 {xs ys:aA} {x y:Int} {i:Int} (hs:ys=te xs q) (h:q+q+1<xs.length) (hx:ys[i.toNat]? =some x) (hi:i.toNat=xs.length-1-q:=by omega) (hy:ys[((q:Nat):Int).toNat]? =some y):(ys.set ((q:Nat):Int).toNat x).set i.toNat y=te xs (q+1):=by
 rw[hi] at hx ⊢
 exact Py hs h hx hy
theorem Rr {α:Type} {xs ys:List α} (hs:ys=te xs q) (h:xs.length≤q+q+1):ys=xs.reverse:=by
 subst hs
 apply ana
 intro i
 by_cases hi:i<xs.length
 ·rw[xr xs q i hi,List.getElem?_reverse hi]
  by_cases e:i<q∨xs.length-q≤i
  ·rw[amF e]
  ·rw[amI e];congr 1;omega
 ·rw[amQ (by rw[uX];omega),amQ (by rw[List.length_reverse];omega)]
end Go.Ew
namespace Go.Ew
open Go.RowKit
theorem S8 (w:aG) (q:Nat):Ext w (w.drewN q):=by
 induction q with
 |zero=>exact Ext.refl w
 |succ q ih=>exact ih.trans (Ext.drew _)
theorem He (z:Array Value) (n:Nat):(Builtin.zeroCells z n).size=n*z.size:=by unfold Builtin.zeroCells;simp
theorem SM {α:Type} [GT α] {M:cb} {w:aG} {e:TypeId} {z:Value} (hz:z.cells.size=GT.size α) {m:Nat} (hm:m≤1048576):
  bj M e w ([]:List α) (.slice (some ⟨w.heap.size,0,none⟩) ([]:List α).length (grownCap w (0+m) 0 e)) (w.drew.alloc (.cells (([]:List Value).toArray++Builtin.zeroCells z.cells (0+m-0)++Builtin.zeroCells z.cells (grownCap w (0+m) 0 e-(0+m))) e)):=by
 have h1:=grownCap_ge w (0+m) 0 e
 have h2:=grownCap_le_maxLen w (0+m) 0 e<|by simp only[maxLen];omega
 have hg:(w.drew.alloc (.cells (([]:List Value).toArray++Builtin.zeroCells z.cells (0+m-0)++Builtin.zeroCells z.cells (grownCap w (0+m) 0 e-(0+m))) e)).heap[w.heap.size]? =some (.cells (([]:List Value).toArray++Builtin.zeroCells z.cells (0+m-0)++Builtin.zeroCells z.cells (grownCap w (0+m) 0 e-(0+m))) e):=by
  show (w.heap.push _)[w.heap.size]? =_
  simp
 refine⟨(Ext.drew w).trans (Ext.alloc _ _),fun b hb=>?_,[],⟨by simp,.inr ⟨w.heap.size,_,_,J,amD _,hg,an6 _,h2,?_,by simp⟩⟩,J⟩
 ·have hb:w.heap.size=b:=amE hb
  subst hb
  show _<(w.heap.push _).size
  simp
 ·simp only[apH,He,hz,an9,gj]
  rw[show 0+m-0=m from by omega,show 0+m=m from by omega] at *
  rw[ann,←ant]
  congr 1
  omega
end Go.Ew
namespace Go.Ew
open Go.RowKit Go.WideShapes Go.ChangeShapes
class Wt (α:Type) where
 wt:α→Nat
instance ak2:Wt Int:=⟨fun _=>1⟩
instance alp:Wt bt:=⟨fun _=>1⟩
instance alq:Wt (BitVec 8):=⟨fun _=>1⟩
instance ai1:Wt Bool:=⟨fun _=>1⟩
instance ak1:Wt bA:=⟨fun s=>s.size+1⟩
instance ai0 {α:Type} [Wt α]:Wt (List α):=⟨fun l=>(l.map Wt.wt).sum+1⟩
instance aiZ {α β:Type} [Wt α] [Wt β]:Wt (α×β):=⟨fun x=>Wt.wt x.1+Wt.wt x.2⟩
section
variable {P:Program} {t e:TypeId} {B:(H:Type)→DataW H→Nat}
section
variable {H:Type} {enc:TypeId×Value→H} {W:aG} {base:Nat} {v:Value} {d:DataW H} {ps:List MemPlace}
end
end
end Go.Ew
