/- Plain words and laws: hulls, as the program and the reference make them (law 4). -/
import Derived.Test.YtgjakhpjmapelaaGreatDoorPwnB
import Derived.Test.YtgjakhpjmapelaaGreatDoorPwnA
import Derived.Shelf.SlSortCmp.WholeK
import Derived.Shelf.SlSortCmp.NoneTotal
import Derived.Sort.LotA
import Derived.Laws.IdiomStrings
import Derived.Lib.SlTrimSet
set_option linter.unusedVariables false
set_option linter.unusedSimpArgs false
set_option linter.unusedSectionVars false
namespace Go.Ew
theorem T0 {n:Int} {rs xs:Rows} {q:Nat} (hs:xs=cE n.toNat (wM (fW rs) q)) (hq:q≤n.toNat) (nw:n.toNat≤q):xs=fc n rs:=by
 obtain rfl:q=n.toNat:=by omega
 exact hs
section
variable {n:Int} {rs:Rows} (h:bF n rs=true)
include h
theorem NK:rs=cE n.toNat (wM (fW rs) 0):=Ce h
theorem pb {i:Nat} {x:Row} (hx:rs[i]? =some x):x=gR n.toNat (fW rs i):=by
 have h1:=Ce h
 have h2:(cE n.toNat (fW rs))[i]? =some x:=by rw[←h1];exact hx
 exact(mL h2).2
theorem R0 {i:Nat} {x:Row} {q:Nat} {j:Int} (hx:rs[i]? =some x) (hj:(cV x)[q]? =some j):0≤j∧j<n∧j<((rs.length:Nat):Int):=by
 rw[pb h hx,yl] at hj
 obtain⟨k,hk, -,rfl⟩:=wE.1 (dB hj)
 have:=(bO h).1
 omega
end
def Aq (p:Nat→Nat→Bool) (i j k a b:Nat):Bool:=if a<k then Bw p i j a b else p a b
section
variable {n:Int} {rs xs:Rows} {i j:Int} (h:bF n rs=true)
theorem Hd (hq:ko n [i,j]=false):ie n i j=0∧gU n rs i j=[]∧lC n i j=1:=by
 refine⟨(oB (rs:=rs) hq).1,?_,(oB (rs:=rs) hq).2.2⟩
 unfold gU;rw[anp (by rw[hq];decide)]
theorem aaL (hq:ko n [i,j]=true) (hb:eF n rs i j=true):gU n rs i j=rs:=by unfold gU;rw[ann hq,ann hb]
include h
theorem W9:rs=cE n.toNat (Aq (fW rs) i.toNat j.toNat 0):=by
 rw[show cE n.toNat (Aq (fW rs) i.toNat j.toNat 0)=cE n.toNat (fW rs) from dA fun a b _ _=>by unfold Aq;simp]
 exact Ce h
theorem Uw {k q:Nat} {x:Row} (hs:xs=cE n.toNat (Aq (fW rs) i.toNat j.toNat k)) (hx:xs[q]? =some x):x.length=words n:=by
 subst hs
 have:=(bO h).2.2.2.1
 rw[(mL hx).2,jz,anX this]
theorem Uv {k:Nat} {x xj:Row} (hq:ko n [i,j]=true) (hs:xs=cE n.toNat (Aq (fW rs) i.toNat j.toNat k)) (hx:xs[((k:Nat):Int).toNat]? =some x) (hj:rs[j.toNat]? =some xj)
  (hc:((k:Nat):Int)=i∨∃z,rs[((k:Nat):Int).toNat]? =some z∧fg z i=true):xs.set ((k:Nat):Int).toNat (jE x (eb xj j))=cE n.toNat (Aq (fW rs) i.toNat j.toNat (k+1)):=by
 have hr:=jh.1 hq
 have hn:((n.toNat:Nat):Int)=n:=by omega
 subst hs
 obtain⟨hk,hx⟩:=mL hx
 rw[dv] at hk ⊢
 rw[dv] at hx
 rw[hx,pb h hj,uH hr.2.1 aq,HK,xh]
 have z8:((decide (k=i.toNat))||fW rs k i.toNat)=true:=by
  rcases hc with hc|⟨z,hz,hb⟩
  ·simp[show k=i.toNat from by omega]
  ·rw[dv] at hz
   rw[pb h hz,iS] at hb
   simp only[eI] at hb
   rw[hb.2];simp
 refine dA fun a b ha hb=>?_
 unfold Aq
 by_cases e:a=k
 ·subst e
  rw[ann rfl,anp aq,ann aq]
  unfold Bw
  rw[z8,aoe]
  cases fW rs a b<;>cases fW rs j.toNat b<;>simp
 ·rw[anp e]
  by_cases e2:a<k
  ·rw[ann e2,ann aq]
  ·rw[anp e2,anp aq]
theorem agf {k:Nat} {z:Row} (hq:ko n [i,j]=true) (hs:xs=cE n.toNat (Aq (fW rs) i.toNat j.toNat k)) (gH:¬((k:Nat):Int)=i) (hz:rs[((k:Nat):Int).toNat]? =some z) (hb:fg z i=false):
  xs=cE n.toNat (Aq (fW rs) i.toNat j.toNat (k+1)):=by
 have hr:=jh.1 hq
 rw[hs]
 refine dA fun a b ha u3=>?_
 unfold Aq
 by_cases e2:a<k
 ·rw[ann e2,ann aq]
 ·by_cases e:a=k
  ·subst e
   rw[anp e2,ann aq]
   unfold Bw
   rw[pb h hz,iS,dv] at hb
   have vV:fW rs a i.toNat=false:=by
    have h1:decide (0≤i)=true:=anq hr.1.1
    have h2:decide (i<((n.toNat:Nat):Int))=true:=anq aq
    rw[h1,h2] at hb
    simpa using hb
   rw[vV,ans (show ¬a=i.toNat from by omega)];simp
  ·rw[anp e2,anp aq]
theorem aeo {k:Nat} (hq:ko n [i,j]=true) (hb:eF n rs i j=false) (hs:xs=cE n.toNat (Aq (fW rs) i.toNat j.toNat k)) (hk:n.toNat≤k):xs=gU n rs i j:=by
 unfold gU
 rw[ann hq,anp (by rw[hb];decide),hs]
 exact dA fun a b ha _=>by unfold Aq;rw[ann aq]
end
def NT (p:Nat→Nat→Bool) (l:List Int) (a b:Nat):Bool:=p a b&&(decide (((a:Nat):Int)∈l)&&decide (((b:Nat):Int)∈l))
def gi (n:Int) (rs:Rows) (l:List Int):Rows:=cE n.toNat (NT (fW rs) l)
def pd (n:Nat) (l:List Int):Row:=gR n fun b=>decide (((b:Nat):Int)∈l)
theorem VD {n:Int} (h:0≤n) (l:List Int):d_ n=pd n.toNat (l.take 0):=by
 have:=Cz n.toNat
 rw[anX h] at this
 rw[this]
 exact kA fun k _=>by simp
theorem ZQ {n:Int} {l:List Int} {q:Nat} {x:Int} {mk:Row} (hs:mk=pd n.toNat (l.take q)) (hx:l[((q:Nat):Int).toNat]? =some x) (h:x<n):eb mk x=pd n.toNat (l.take (q+1)):=by
 subst hs
 rw[nH hx]
 by_cases h0:0≤x
 ·unfold pd
  rw[uH h0 aq]
  refine kA fun k _=>?_
  rw[anH]
  simp only[anv,ank,anK,anC,aqv,apO]
  exact or_congr Iff.rfl ⟨fun e=>by omega,fun e=>by omega⟩
 ·rw[←Zr aq]
  refine kA fun k _=>?_
  rw[anH]
  simp only[ank,anK,anC,aqv,apO]
  exact⟨.inl,fun e=>e.elim id fun e=>by omega⟩
theorem abP {n:Int} {l:List Int} {q:Nat} {x:Int} {mk:Row} (hs:mk=pd n.toNat (l.take q)) (hx:l[((q:Nat):Int).toNat]? =some x) (h:n≤x):mk=pd n.toNat (l.take (q+1)):=by
 rw[hs,nH hx]
 refine kA fun k hk=>?_
 rw[anH]
 simp only[ank,anK,anC,aqv,apO]
 exact⟨.inl,fun e=>e.elim id fun e=>by omega⟩
theorem IZ {n:Int} (h:0≤n) (l:List Int):(pd n.toNat l).length=words n:=by unfold pd;rw[jz,anX h]
def mz (x m:Row) (k:Nat):Row:=(List.range x.length).map fun t=>if t<k then x.getD t 0#64 &&& m.getD t 0#64 else 0#64
theorem sF (x m:Row) (k:Nat):(mz x m k).length=x.length:=by unfold mz;simp
theorem Q9 (x m:Row):List.replicate x.length 0#64=mz x m 0:=by
 unfold mz
 apply aoV
 ·simp
 ·intro i h1 h2;simp
theorem Q_ {x m:Row} {k:Nat} {u v:BitVec 64} (hu:x[((k:Nat):Int).toNat]? =some u) (hv:m[((k:Nat):Int).toNat]? =some v):(mz x m k).set ((k:Nat):Int).toNat (u &&& v)=mz x m (k+1):=by
 have e1:=wG hu
 have e2:=wG hv
 rw[dv]
 apply aoV
 ·rw[anj,sF,sF]
 ·intro i h1 h2
  rw[ap4]
  simp only[mz,List.getElem_map,apS]
  by_cases e:k=i
  ·subst e;rw[ann rfl,ann aq,e1,e2]
  ·rw[anp e]
   by_cases h3:i<k
   ·rw[ann h3,ann aq]
   ·rw[anp h3,anp aq]
theorem Us {n:Nat} {p q:Nat→Bool} {k:Nat} (h:(gR n p).length≤k):mz (gR n p) (gR n q) k=gR n fun b=>p b&&q b:=by
 refine zF (by rw[sF,jz]) fun b=>?_
 have h1:∀r:Row,fg r ((b:Nat):Int)=(r.getD (b/64) 0#64).getLsbD (b%64):=by intro r;unfold fg;simp
 have e1:=iS n p ((b:Nat):Int)
 have e2:=iS n q ((b:Nat):Int)
 rw[h1] at e1 e2 ⊢
 by_cases hb:b/64<(gR n p).length
 ·have:(mz (gR n p) (gR n q) k).getD (b/64) 0#64=(gR n p).getD (b/64) 0#64 &&& (gR n q).getD (b/64) 0#64:=by
   unfold mz
   rw[gZ,anu,aoi hb]
   show (if b/64<k then _ else _)=_
   rw[ann aq]
  rw[this,apt,e1,e2]
  by_cases Tf:b<n
  ·simp[Tf]
  ·simp[Tf]
 ·have Tf:¬b<n:=by
   intro Tf
   apply hb
   rw[jz,qk];omega
  have:(mz (gR n p) (gR n q) k).getD (b/64) 0#64=0#64:=by
   rw[gZ,anz (by rw[sF];omega)];rfl
  rw[this];simp[Tf]
def wN (p:Nat→Nat→Bool) (l:List Int) (k a b:Nat):Bool:=if a<k then NT p l a b else false
section
variable {n:Int} {rs xs:Rows} {l:List Int} {mk:Row} {k:Nat} (h:bF n rs=true)
include h
theorem UK:List.replicate n.toNat (d_ n)=cE n.toNat (wN (fW rs) l 0):=by
 have h0:=kL h
 have:=yj n.toNat
 unfold vF at this
 rw[anX h0] at this
 rw[this]
 exact dA fun a b _ _=>by unfold wN;simp
theorem Ze (hs:xs=cE n.toNat (wN (fW rs) l k)) (hm:mk=pd n.toNat l) (hk:k<n.toNat) (hb:fg mk ((k:Nat):Int)=false):xs=cE n.toNat (wN (fW rs) l (k+1)):=by
 rw[hs]
 refine dA fun a b ha u3=>?_
 unfold wN
 by_cases e2:a<k
 ·rw[ann e2,ann aq]
 ·by_cases e:a=k
  ·subst e
   rw[anp e2,ann aq]
   rw[hm] at hb
   unfold pd at hb
   rw[iS] at hb
   have Yh:decide (((a:Nat):Int)∈l)=false:=by
    have h2:decide (((a:Nat):Int)<((n.toNat:Nat):Int))=true:=anq aq
    rw[h2] at hb
    simpa using hb
   unfold NT
   rw[Yh];simp
  ·rw[anp e2,anp aq]
theorem aeO (hs:xs=cE n.toNat (wN (fW rs) l k)) {x:Row} (hx:rs[((k:Nat):Int).toNat]? =some x):xs=xs.set k (mz x mk 0):=by
 have qa:rs[k]? =some x:=hx
 have hk:k<n.toNat:=by have:=(dC.1 qa).1;have:=(bO h).1;omega
 have h0:=kL h
 have e:mz x mk 0=d_ n:=by
  rw[←Q9]
  unfold d_
  rw[nI h qa]
 rw[e]
 apply anT
 intro a
 rw[aoE]
 split
 ·rename_i e2;subst e2
  rw[ann (by rw[hs,l8];exact hk),hs,rZ hk]
  congr 1
  have:=Cz n.toNat
  rw[anX h0] at this
  rw[this]
  exact kA fun b _=>by unfold wN;simp
 ·rfl
theorem KC {q:Nat} {x r:Row} {ys:Rows} (hs:xs=cE n.toNat (wN (fW rs) l k)) (hy:ys=xs.set k (mz x mk q)) (hx:rs[((k:Nat):Int).toNat]? =some x) (hr:ys[((k:Nat):Int).toNat]? =some r):r=mz x mk q:=by
 have qa:rs[k]? =some x:=hx
 have hk:k<n.toNat:=by have:=(dC.1 qa).1;have:=(bO h).1;omega
 rw[hy,dv,anB (by rw[hs,l8];exact hk)] at hr
 exact(anm hr).symm
theorem Zd {q:Nat} {x r:Row} {ys:Rows} {u v:BitVec 64} (hs:xs=cE n.toNat (wN (fW rs) l k)) (hy:ys=xs.set k (mz x mk q)) (hx:rs[((k:Nat):Int).toNat]? =some x) (hr:ys[((k:Nat):Int).toNat]? =some r)
  (hu:x[((q:Nat):Int).toNat]? =some u) (hv:mk[((q:Nat):Int).toNat]? =some v):ys.set ((k:Nat):Int).toNat (r.set ((q:Nat):Int).toNat (u &&& v))=xs.set k (mz x mk (q+1)):=by
 rw[KC h hs hy hx hr,hy,Q_ hu hv,dv,List.set_set]
theorem Zf {q:Nat} {x:Row} {ys:Rows} (hs:xs=cE n.toNat (wN (fW rs) l k)) (hy:ys=xs.set k (mz x mk q)) (hx:rs[((k:Nat):Int).toNat]? =some x) (hm:mk=pd n.toNat l) (hb:fg mk ((k:Nat):Int)=true) (hq:x.length≤q):ys=cE n.toNat (wN (fW rs) l (k+1)):=by
 have qa:rs[k]? =some x:=hx
 have hk:k<n.toNat:=by have:=(dC.1 qa).1;have:=(bO h).1;omega
 rw[hy,hm,hs,pb h qa]
 unfold pd
 rw[Us (by rw[pb h qa] at hq;exact hq),xh]
 rw[hm] at hb
 unfold pd at hb
 rw[iS] at hb
 simp only[eI] at hb
 refine dA fun a b ha u3=>?_
 unfold wN
 by_cases e:a=k
 ·subst e
  rw[ann rfl,ann aq]
  unfold NT
  have:decide (((a:Nat):Int)∈l)=true:=by simpa using hb.2
  rw[this,aoe]
 ·rw[anp e]
  by_cases e2:a<k
  ·rw[ann e2,ann aq]
  ·rw[anp e2,anp aq]
theorem aaV (hs:xs=cE n.toNat (wN (fW rs) l k)) (hk:n.toNat≤k):xs=gi n rs l:=by
 rw[hs]
 exact dA fun a b ha _=>by unfold wN;rw[ann aq]
end
theorem B0 {n:Int} {rs:Rows} (h:bF n rs=true) (l:List Int):bF n (gi n rs l)=true:=by
 obtain⟨m,p,rfl,hm,rfl⟩:=l6 h
 unfold gi;rw[dv];exact lD hm
end Go.Ew
namespace Go.Ew
structure Rch (n:Nat) (p:Nat→Nat→Bool) (i:Nat) (sn:List Bool) (td:List Int) (at_:Int) (j:Nat):Prop where
 len:sn.length=n
 snd:∀k,sn.getD k false=true→TC n p i k
 tdo:∀t∈td,∃k,t=((k:Nat):Int)∧k<n∧(k=i∨sn.getD k false=true)
 don:∀x,x<n→(x=i∨sn.getD x false=true)→((x:Nat):Int)∈td∨(((x:Nat):Int)=at_∧∀y,y<j→p x y=true→sn.getD y false=true)∨∀y,y<n→p x y=true→sn.getD y false=true
section
variable {n:Nat} {p:Nat→Nat→Bool} {i j:Nat} {sn:List Bool} {td:List Int} {at_:Int}
end
theorem NZ {td:List Int} (h:¬(0:Int)<((td.length:Nat):Int)):td=[]:=aoJ aq
section
variable {n:Int} {rs:Rows} {i a j:Nat} {sn:List Bool} {td:List Int} {x:Int} (rt:bF n rs=true) (e:x=((a:Nat):Int)) (h:Rch n.toNat (fW rs) i sn td x j) (Tg:a<n.toNat) (hj:j<n.toNat)
include rt e h Tg hj
end
section
variable {k:Int} {l:List (BitVec 8×BitVec 8)} {z:BitVec 8×BitVec 8} (hk:0<k) (h4:k≤4096)
include hk h4
end
end Go.Ew
namespace Go.Ew
section
variable {n:Int} {rs:Rows} (h:bF n rs=true)
include h
end
end Go.Ew
namespace Go.Ew
def eQ (n:Int) (rs:Rows) (o:Int):List Int:=if 0≤o∧o<n then vQ n.toNat (fun a=>fW rs a o.toNat) else []
def bL (n:Int) (rs:Rows) (o:Int):List Int:=if 0≤o∧o<n then vQ n.toNat (fun a=>fW rs a o.toNat||decide (a=o.toNat)) else []
theorem Lj {n:Int} {rs:Rows} {o:Int} (h:¬(0≤o∧o<n)):eQ n rs o=[]:=by unfold eQ;rw[anp h]
theorem KB {n:Int} {rs:Rows} {o:Int} (h:¬(0≤o∧o<n)):bL n rs o=[]:=by unfold bL;rw[anp h]
theorem D3 {n:Int} {rs:Rows} (h:bF n rs=true) {o:Int} (h0:0≤o∧o<n) {x:Row} (hx:(gI n rs)[o.toNat]? =some x):x=gR n.toNat fun a=>fW rs a o.toNat:=by
 obtain⟨m,p,rfl,hm,rfl⟩:=l6 h
 rw[IB] at hx
 obtain⟨h1,rfl⟩:=mL hx
 rw[dv]
 exact kA fun a ha=>(jA ha h1).symm
theorem Sd {n:Int} {rs:Rows} (h:bF n rs=true) {o:Int} (h0:0≤o∧o<n) {x:Row} (hx:(gI n rs)[o.toNat]? =some x):cV x=eQ n rs o:=by
 rw[D3 h h0 hx,yl];unfold eQ;rw[ann h0]
theorem Rp {n:Int} {rs:Rows} (h:bF n rs=true) {o:Int} (h0:0≤o∧o<n) {x:Row} (hx:(gI n rs)[o.toNat]? =some x):cV (eb x o)=bL n rs o:=by
 rw[D3 h h0 hx,uH h0.1 aq,yl];unfold bL;rw[ann h0]
theorem wO {n:Int} {rs:Rows} (h:bF n rs=true) {i:Nat} {x:Row} (hx:(gI n rs)[i]? =some x):x.length≤64:=(bO (FZ h)).2.2.2.2 _ (dB hx)
theorem uO {n:Int} {rs:Rows} (h:bF n rs=true) (o:Int):(eQ n rs o).length≤4096:=by
 have h4:=(bO h).2.2.1
 unfold eQ;split
 ·have:=OB n.toNat (fun a=>fW rs a o.toNat);omega
 ·simp
theorem uD {n:Int} {rs:Rows} (h:bF n rs=true) (o:Int):(bL n rs o).length≤4096:=by
 have h4:=(bO h).2.2.1
 unfold bL;split
 ·have:=OB n.toNat (fun a=>fW rs a o.toNat||decide (a=o.toNat));omega
 ·simp
section
variable {n:Int} {rs:Rows} (h:bF n rs=true) {k:Int} (hk:0≤k∧k<n)
include h hk
end
end Go.Ew
namespace Go.Ew
def aY (p:Int→Bool) (xs:List Int):List Int:=xs.filter fun x=>!p x
def DF (p:Int→Bool) (xs ys:List Int) (q:Int) (k:Nat):Prop:=ys.length=xs.length∧ys.take q.toNat=aY p (xs.take k)∧ys.drop k=xs.drop k
section
variable {p:Int→Bool} {xs ys:List Int} {q x:Int} {k:Nat}
theorem aap (h:eA p xs= -1):xs=aY p xs:=by
 have h1:=uf (p:=p) (r:=xs)
 rw[h,ans aq] at h1
 unfold aY
 refine(aqd.2 fun x hx=>?_).symm
 have:=ao5.1 h1.symm x hx
 simpa using this
theorem Wx (h:¬eA p xs= -1):0≤eA p xs∧(eA p xs).toNat<xs.length∧DF p xs xs (eA p xs) ((eA p xs).toNat+1):=by
 unfold eA at h ⊢
 cases hf:xs.findIdx? p with
 |none=>rw[hf] at h;exact absurd rfl h
 |some i=>
  rw[hf] at h
  obtain⟨h1,h2,h3⟩:=anF.1 hf
  refine⟨by show (0:Int)≤((i:Nat):Int);omega,h1,J,?_,J⟩
  show xs.take i=aY p (xs.take (i+1))
  unfold aY
  rw[anZ,eB h1,aoM]
  have e1:(xs.take i).filter (fun x=>!p x)=xs.take i:=by
   refine aqd.2 fun y hy=>?_
   obtain⟨j,hj⟩:=anE.1 hy
   have xp:=(dC.1 hj).1
   rw[gY] at xp
   have h4:=h3 j aq
   rw[aoh aq,eB aq] at hj
   rw[←anm hj]
   simpa using h4
  rw[e1]
  simp[h2]
theorem Q3 (h:DF p xs ys q k) (hx:ys[k]? =some x):xs[k]? =some x:=by
 have h1:=h.2.2
 have:(ys.drop k)[0]? =some x:=by rw[an2];exact hx
 rw[h1,an2] at this
 exact this
theorem Pa (hx:xs[k]? =some x):aY p (xs.take (k+1))=aY p (xs.take k)++(if p x=true then [] else [x]):=by
 unfold aY
 rw[anZ,hx,aoM]
 cases hp:p x<;>simp[hp]
theorem Mx (h:DF p xs ys q k):ys.drop (k+1)=xs.drop (k+1):=by
 have h1:=h.2.2
 rw[←aog,←aog,h1]
theorem aar (h:DF p xs ys q k) (hx:ys[k]? =some x) (hp:p x=true):DF p xs ys q (k+1):=
 ⟨h.1,by rw[Pa (Q3 h hx),ann hp,aoT];exact h.2.1,Mx h⟩
theorem aaq (h:DF p xs ys q k) (hx:ys[k]? =some x) (hp:p x=false) (h0:0≤q) (hq:q<((k:Nat):Int)):DF p xs (ys.set q.toNat x) (q+1) (k+1):=by
 have hk:=(dC.1 hx).1
 refine⟨by rw[anj];exact h.1,?_,?_⟩
 ·rw[Pa (Q3 h hx),anp (by rw[hp];decide),←h.2.1,show (q+1).toNat=q.toNat+1 from by omega,anZ,List.take_set_of_le (anl _),anB aq]
  rfl
 ·rw[List.drop_set_of_lt aq]
  exact Mx h
theorem adS (h:DF p xs ys q k) (hk:xs.length≤k) (h0:0≤q) (hq:q.toNat≤ys.length) (m:Nat):(ys.take q.toNat++(List.replicate m (0:Int)++[])).take q.toNat=aY p xs:=by
 rw[apL (by rw[gY];omega),h.2.1,ant hk]
end
def iJ (aH:List aI) (v i:Int):Bool:=decide (i<0)||(match aH[i.toNat]? with
 |none=>true
 |some x=>!x.2.2.1||!decide (x.2.2.2.1=v))
def fJ (aH:List aI) (i:Int):Bool:=((aH[i.toNat]?).map (fun x=>x.2.2.1)).getD false
section
variable {aH:List aI} {v i:Int} {x:aI}
theorem Zb (h:i<0):iJ aH v i=true:=by unfold iJ;rw[anq h];rfl
theorem Za (h:((aH.length:Nat):Int)≤i):iJ aH v i=true:=by
 unfold iJ
 rw[anz aq];simp
theorem Kz (h0:¬i<0) (hx:aH[i.toNat]? =some x):iJ aH v i=(!x.2.2.1||!decide (x.2.2.2.1=v)):=by
 unfold iJ
 rw[ans h0,hx];rfl
theorem aaU (hx:aH[i.toNat]? =some x):fJ aH i=x.2.2.1:=by unfold fJ;rw[hx];rfl
theorem IS (o:gX aH) {t:Int} {q:Nat} {x:Int} (hx:(cw aH t)[q]? =some x):0≤x∧x<((aH.length:Nat):Int):=by
 by_cases h:0≤t∧t<(aH.length:Int)
 ·have:=ZC o h.1 h.2 hx
  omega
 ·rw[←E8 h] at hx;simp at hx
end
end Go.Ew
namespace Go.Ew
abbrev cL:=Int×Int×Int×Int×Int
def ql (I:List aI) (i:Int):Int:=((I[i.toNat]?).map (fun x=>x.2.2.2.1)).getD 0
section
variable {I:List aI} {U:List Int}
end
end Go.Ew
namespace Go.Ew
section
variable {I:List aI} {U:List Int} {pre:List cL} {pl:List Bool} {kd fr to sa sb:Int}
end
end Go.Ew
namespace Go.Ew
def eO (h:cD):Bool:=gC h&&decide ((cT (cN h)).2.2=0)
def sZ (h:cD):List ByteArray:=if eO h then mc h else []
def lK (h:cD):List aI:=if eO h then cN h else []
def lL (h:cD):List Int:=if eO h then gx (cN h) else []
theorem zT {h:cD} (hq:eO h=false):sZ h=[]∧lK h=[]∧lL h=[]:=by unfold sZ lK lL;simp[hq]
theorem wB {h:cD} (hq:eO h=true):sZ h=mc h∧lK h=cN h∧lL h=gx (cN h):=by unfold sZ lK lL;simp[hq]
theorem ZL {h:cD} (he:¬lu h=0):eO h=false:=by
 unfold eO
 cases hr:gC h with
 |false=>rfl
 |true=>exact absurd (rM hr).2.2 he
theorem ae9 {h:cD} (he:lu h=0):gC h=true:=by
 cases hr:gC h with
 |true=>rfl
 |false=>rw[(xe hr).2.2] at he;cases he
theorem ZJ {h:cD} (he:¬(cT (cN h)).2.2=0):eO h=false:=by unfold eO;rw[ans he];simp
theorem abG {h:cD} (he:lu h=0) (hc:(cT (cN h)).2.2=0):eO h=true:=by unfold eO;rw[ae9 he,anq hc];rfl
theorem Fz {aH:List aI}:∀x∈gx aH,x<((aH.length:Nat):Int):=by
 intro x hx
 unfold gx at hx
 obtain⟨y,hy,rfl⟩:=an6.1 hx
 have:=(Nu (aH:=aH) (x:=y) J).2.2.2.1
 exact this
def Lf (U:List Int) (a b:Nat):Bool:=decide (U.getD b (-1)=((a:Nat):Int))
def oE (I:List aI) (U:List Int):Rows:=cE I.length (Lf U)
def ua (n:Nat) (U:List Int) (j:Nat):Rows:=cE n fun a b=>decide (b<j)&&Lf U a b
theorem Zx (n:Nat) (U:List Int):vF ((n:Nat):Int)=ua n U 0:=by
 rw[yj];exact dA fun a b _ _=>by simp
theorem abu {I:List aI} {U:List Int} {j:Nat} (hl:U.length=I.length) (hj:U.length≤j):ua I.length U j=oE I U:=
 dA fun a b _ hb=>by rw[anq (show b<j by omega)];rfl
theorem ae3 {n:Nat} {U:List Int} {j:Nat} {w:Int} (hw:U[((j:Nat):Int).toNat]? =some w) (h:w<0):ua n U j=ua n U (j+1):=by
 refine dA fun a b ha hb=>?_
 by_cases e:b=j
 ·subst e
  rw[dv] at hw
  unfold Lf
  rw[gZ,hw,ans (show ¬(some w).getD (-1)=((a:Nat):Int) by simp;omega)];simp
 ·have:decide (b<j)=decide (b<j+1):=by rw[aoA];omega
  rw[this]
theorem ae4 {n j:Nat} {w:Int} (h0:0≤w) (hw:w<((n:Nat):Int)) (hj:j<n):ko ((n:Nat):Int) [w,((j:Nat):Int)]=true:=jh.2 aq
theorem abr {n:Nat} {U:List Int} {j:Nat} {w:Int} (hw:U[((j:Nat):Int).toNat]? =some w) (h0:0≤w) (h1:w<((n:Nat):Int)) (hj:j<n):rj (ua n U j) (w,((j:Nat):Int))=ua n U (j+1):=by
 unfold ua
 rw[B_ (ae4 h0 h1 hj)]
 refine dA fun a b ha hb=>?_
 rw[dv] at hw ⊢
 by_cases e:b=j
 ·subst e
  rw[ans (apq b),anq (aoK b),anq rfl]
  unfold Lf
  rw[gZ,hw]
  show (false&&_||decide (a=w.toNat)&&true)=(true&&decide (w=((a:Nat):Int)))
  rw[aqh,apd,aqo,aoe,aoA]
  omega
 ·rw[ans e,aqi,aoN]
  have:decide (b<j)=decide (b<j+1):=by rw[aoA];omega
  rw[this]
theorem abt {n:Nat} {U:List Int} {j:Nat} {w:Int} {xs:Rows} {x:Row} (hs:xs=ua n U j) (hw:U[((j:Nat):Int).toNat]? =some w) (h0:0≤w) (h1:w<((n:Nat):Int)) (hj:j<n) (hx:xs[w.toNat]? =some x):xs.set w.toNat (eb x ((j:Nat):Int))=ua n U (j+1):=by
 rw[Hy hx,hs];exact abr hw h0 h1 hj
theorem U7 (n:Nat) (U:List Int) (j:Nat):(ua n U j).length=n:=l8 _ _
theorem Zz (I:List aI) (U:List Int):(oE I U).length=I.length:=l8 _ _
theorem Zy {n:Nat} (h:n≤4096) (U:List Int) (j:Nat):(((ua n U j).length:Nat):Int)=((n:Nat):Int)∧∀x∈ua n U j,x.length≤1000000000:=⟨by rw[U7],A3 h⟩
theorem Gh {n:Nat} (h:n≤4096) (P:Nat→Nat→Bool):(((cE n P).length:Nat):Int)=((n:Nat):Int)∧∀x∈cE n P,x.length≤1000000000:=⟨by rw[l8],A3 h⟩
def Mu (I:List aI) (U:List Int) (a b:Nat):Bool:=Dg I a b||Lf U a b
def ki (I:List aI) (U:List Int):Rows:=cE I.length (Mu I U)
theorem YL (I:List aI) (U:List Int):sX ((I.length:Nat):Int) ((I.length:Nat):Int)=((I.length:Nat):Int)∧l7 ((I.length:Nat):Int) (oG I) ((I.length:Nat):Int) (oE I U)=ki I U:=by
 refine⟨(zM (ar:=oG I) (br:=oE I U) J).1,?_⟩
 rw[(zM rfl).2.1,dv]
 exact Sn _ _
def pH (I:List aI) (U:List Int):Nat→Nat→Bool:=cl I.length (Mu I U)
def cp (I:List aI) (U:List Int):Rows:=cE I.length (pH I U)
theorem WH (I:List aI) (U:List Int):fc ((I.length:Nat):Int) (ki I U)=cp I U:=Ev
theorem Ms {I:List aI} (U:List Int) (h:I.length≤4096):bF ((I.length:Nat):Int) (ki I U)=true:=lD h
theorem pj {I:List aI} (U:List Int) (h:I.length≤4096):bF ((I.length:Nat):Int) (cp I U)=true:=lD h
end Go.Ew
namespace Go.Ew
def dQ (lv:Int):List Int:=bif decide (lv=1) then [1,2,3,4] else bif decide (lv=2) then [1,2,3,4]++[5] else bif decide (lv=3) then [1,2,3,4]++[6,7] else []
section
variable (I:List aI) (U:List Int)
def kX (o:Int):List Int:=aY (fJ I) (cw I o)
end
section
variable {I:List aI} {U:List Int}
end
end Go.Ew
namespace Go.Ew
section
variable (I:List aI) (U:List Int)
end
section
variable {I:List aI} {U:List Int}
end
end Go.Ew
namespace Go.Ew
section
variable {I:List aI} {U:List Int} {l:List cL}
theorem jo {α:Type} {xs:List α} {j:Nat} {x z:α} (h:xs[((j:Nat):Int).toNat]? =some x):xs.getD j z=x:=by
 rw[dv] at h
 rw[gZ,h];rfl
end

section
variable {α:Type} {l:List α} {p:α→Bool} {q:Nat→Bool} {j n:Nat} {x:α}
end
section
variable {l:List cL} {j:Nat} {s:cL} {ys:List Bool} {x:Bool}
end
section
variable {I:List aI} {U:List Int} {l:List cL}
end
end Go.Ew
namespace Go.Ew
def fD (a b:Int):Int:=bif decide (a<b) then -1 else bif decide (b<a) then 1 else 0
def Ct:List Int→Int
 |[]=>0
 |x::r=>if x=0 then Ct r else x
abbrev dX:=Int×Int×Int
def xK (x y:dX):Int:=Ct [fD x.1 y.1,fD x.2.1 y.2.1,fD x.2.2 y.2.2]
theorem Oi:∀{l:List Int} {j:Nat} {x:Int},(∀y∈l.take j,y=0)→l[j]? =some x→¬x=0→Ct l=x
 |[],j,x,_,h,_=>by simp at h
 |a::l,0,x,_,h,hx=>by
  simp only[anA,anx] at h
  subst h
  exact anp hx
 |a::l,j+1,x,hs,h,hx=>by
  simp only[anG] at h
  show (if a=0 then Ct l else a)=x
  rw[ann (hs a (by simp)),Oi (fun y hy=>hs y (by simp[hy])) h hx]
theorem Lo:∀{l:List Int},(∀y∈l,y=0)→Ct l=0
 |[],_=>rfl
 |a::l,h=>by
  show (if a=0 then Ct l else a)=0
  rw[ann (h a (by simp)),Lo (fun y hy=>h y (by simp[hy]))]
theorem Y7 {l:List Int} {j:Nat} {x:Int} (hs:∀y∈l.take j,y=0) (hx:l[((j:Nat):Int).toNat]? =some x) (h:x=0):∀y∈l.take (j+1),y=0:=by
 rw[dv] at hx
 intro y hy
 rw[anZ,hx] at hy
 rcases anK.1 hy with hy|hy
 ·exact hs y hy
 ·simp at hy;rw[hy];exact h
theorem FH (a b:Int):aM (fD a b):=by
 unfold fD aM
 cases decide (a<b)<;>cases decide (b<a)<;>simp
end Go.Ew
namespace Go.Ew
open Go.RowKit
def ph (a:Option Addr) (c lo:Nat):Option Addr:=if c=lo then a else a.map (·.add (lo*3))
theorem zl {α:Type} [GT α] {M:Nat→Prop} {w:World}:∀(k:Nat) {xs:List α} {cs:List Value},bu M w cs xs→bu M w (cs.take (k*GT.size α)) (xs.take k)∧bu M w (cs.drop (k*GT.size α)) (xs.drop k)
 |0,xs,cs,h=>⟨by rw[apP,apk,apk];rfl,by simpa using h⟩
 |k+1,[],cs,h=>by
  rw[show cs=[] from h]
  exact⟨by simp[bu],by simp[bu]⟩
 |k+1,x::xs,cs,h=>by
  obtain⟨c1,c2,rfl,h2,h3⟩:=h
  obtain⟨i1,i2⟩:=zl k h3
  have e:=GT.len h2
  have e1:(k+1)*GT.size α=c1.length+k*GT.size α:=by rw[an',e];omega
  refine⟨⟨c1,c2.take (k*GT.size α),?_,h2,i1⟩,?_⟩
  ·rw[e1,List.take_length_add_append]
  ·rw[e1,List.drop_length_add_append];exact i2
theorem aeN (n:Nat):(Builtin.zeroCells #[Value.int .i64 0,Value.int .i64 0,Value.int .i64 0] n).toList=List.replicate (n*3) (Value.int .i64 0):=by
 unfold Builtin.zeroCells
 apply anT
 intro i
 simp only[Array.toList_map,anu,Array.toList_range,ao6]
 by_cases h:i<n*3
 ·rw[aoi (by simpa using h),ann h]
  have:i%3=0∨i%3=1∨i%3=2:=by omega
  rcases this with h|h|h<;>simp[h]
 ·rw[anz (by simpa using h),anp h];rfl
theorem VT:aM 0:=by unfold aM;omega
theorem Ih {M:Nat→Prop} {w:World}:∀n,bu M w (List.replicate (n*3) (Value.int .i64 0)) (List.replicate n ((0,0,0):dX))
 |0=>rfl
 |n+1=>⟨[.int .i64 0,.int .i64 0,.int .i64 0],List.replicate (n*3) (.int .i64 0),by rw[show (n+1)*3=n*3+1+1+1 by omega,aob,aob,aob];rfl,⟨[_],[_,_],rfl,⟨rfl,VT⟩,[_],[_],rfl,⟨rfl,VT⟩,rfl,VT⟩,Ih n⟩
section
variable {P:Program} {n:Nat} {ops:Array Oper} {f:aQ} {w:World} {K:aQ→World→Prop} {x y:Operand} {d:Nat} {ty T e:TypeId} {ps:String} {af:Array Edge} {v u:Value} {M M0:Nat→Prop} {w0:World} {l:List Item} {bytes:Nat} {z:Value} {B:Nat} {kk:IntKind} {agg:Bool} {xs ys:List dX} {a:Option Addr} {k c:Nat}
theorem wh (hO:(own B e (.slice a k c) xs).holds M w):k=xs.length∧xs.length≤c:=by
 obtain⟨cs,h1,h2⟩:=hO
 rcases h1.2 with ⟨h3,h4⟩|⟨g,cap,cur,h3,h4,h5,h6,h7⟩
 ·cases h3;omega
 ·cases h3;exact⟨rfl,h6⟩
theorem UZ {lo:Int} {qY:Operand} (hO:(own B e (.slice a k c) xs).holds M w) (ox:bG n x=true) (ol:bG n qY=true) (hx:ev f x=.slice a k c) (hl:ev f qY=.int kk lo) (hb:0≤lo∧lo≤xs.length) (hu:P.underlying T=some (.slice e)) (F:ei P e 3 agg bytes z)
  (h:K (cb f d (.slice (ph a c lo.toNat) (k-lo.toNat) (c-lo.toNat))) w):
  SO P n ops ⟨some d,.slice T x (some qY) none none,ty,ps,af,none⟩ f w K:=by
 obtain⟨hk,hc⟩:=wh hO
 refine SO.value (v:=.slice (ph a c lo.toNat) (k-lo.toNat) (c-lo.toNat)) (w':=w) ?_ h
 have u1:P.underlying T=some (.slice (P.elem T)):=by rw[hu];simp[Program.elem,hu]
 have uh:P.elem T=e:=by simp[Program.elem,hu]
 simp[execOp,aN ox,aN ol,hx,hl,Instr.sliceAt,gG hu]
 have:=run_slice_l (P:=P) (w:=w) T a k c u1 kk lo hb.1 aq
 rw[uh,F.jm] at this
 simp[this,sliced,ph]
theorem ae0 {hi:Int} {oX:Operand} (hO:(own B e (.slice a k c) xs).holds M w) (ox:bG n x=true) (oh:bG n oX=true) (hx:ev f x=.slice a k c) (hh:ev f oX=.int kk hi) (hb:0≤hi∧hi≤xs.length) (hu:P.underlying T=some (.slice e)) (F:ei P e 3 agg bytes z)
  (h:K (cb f d (.slice (ph a c 0) hi.toNat c)) w):
  SO P n ops ⟨some d,.slice T x none (some oX) none,ty,ps,af,none⟩ f w K:=by
 obtain⟨hk,hc⟩:=wh hO
 refine SO.value (v:=.slice (ph a c 0) hi.toNat c) (w':=w) ?_ h
 have u1:P.underlying T=some (.slice (P.elem T)):=by rw[hu];simp[Program.elem,hu]
 have uh:P.elem T=e:=by simp[Program.elem,hu]
 simp[execOp,aN ox,aN oh,hx,hh,Instr.sliceAt,gG hu]
 have:=run_slice_h (P:=P) (w:=w) T a k c u1 kk hi hb.1 aq
 rw[uh,F.jm] at this
 simp[this,sliced,ph]
theorem RM {hi:Int} {oX:Operand} (H:HI M0 w0 w l) (i:Nat) (oK:l[i]? =some (own B e (.slice a k c) xs)) (ox:bG n x=true) (oh:bG n oX=true) (hx:ev f x=.slice a k c) (hh:ev f oX=.int kk hi) (hb:0≤hi∧hi≤xs.length) (hu:P.underlying T=some (.slice e)) (F:ei P e 3 agg bytes z)
  (h:HI M0 w0 w (l.set i (own B e (.slice a (xs.take hi.toNat).length c) (xs.take hi.toNat)))→K (cb f d (.slice a (xs.take hi.toNat).length c)) w):
  SO P n ops ⟨some d,.slice T x none (some oX) none,ty,ps,af,none⟩ f w K:=by
 have hO:=H.at_ i oK
 have jF:=(dC.1 oK).1
 have hlen:(xs.take hi.toNat).length=hi.toNat:=by simp;omega
 have Fp:ph a c 0=a:=by
  unfold ph
  split
  ·rfl
  ·obtain⟨cs,h1,h2⟩:=hO
   rcases h1.2 with ⟨h3,h4⟩|⟨g,cap,cur,h3,h4⟩
   ·cases h3;rfl
   ·cases h3
    show some (Addr.add _ (0*3))=_
    rw[FQ]
 refine ae0 hO ox oh hx hh hb hu F ?_
 rw[Fp]
 rw[hlen] at h
 refine h ?_
 refine H.weaken ?_ ?_
 ·apply anT
  intro j
  rw[anu,anu]
  by_cases hj:i=j
  ·subst hj;rw[anB jF,oK];cases a<;>rfl
  ·rw[anS hj]
 ·intro j it nu hj ra M S9
  by_cases qe:i=j
  ·subst qe
   rw[anB jF] at ra
   rw[oK] at hj
   cases hj;cases ra
   obtain⟨cs,h1,h2⟩:=S9
   have rC:=bu.length h2
   have zZ:GT.size dX=3:=rfl
   have q:=(zl hi.toNat h2).1
   rw[zZ] at q rC
   refine⟨cs.take (hi.toNat*3),⟨by rw[hlen,zZ,gY];omega,?_⟩,q⟩
   rcases h1.2 with ⟨h3,h4⟩|⟨g,cap,cur,h3,h4,h5,h6,h7,h8,h9⟩
   ·cases h3
    refine .inl ⟨by rw[show hi.toNat=0 from by omega],by rw[hlen];omega⟩
   ·cases h3
    refine .inr ⟨g,c,cur,by rw[hlen],h4,h5,by omega,h7,h8,?_⟩
    rw[zZ] at h9
    rw[←h9,hlen,zZ,aoO]
    congr 1
    omega
  ·rw[anS qe,hj] at ra;cases ra;exact S9
theorem clE (H:HI M0 w0 w l) (i:Nat) (hi:l[i]? =some (own B e (.slice a k c) xs)) (hB:B=w0.heap.size) (ox:bG n x=true) {q:Nat} (hx:ev f x=.slice (ph a c q) (k-q) (c-q))
  (hu:P.underlying T=some (.slice e)) (F:ei P e 3 agg bytes (.agg #[.int .i64 0,.int .i64 0,.int .i64 0])) (hq:q≤xs.length)
  (h:∀w',HI M0 w0 w' (l.set i (own B e (.slice a k c) (xs.take q++List.replicate (xs.length-q) (0,0,0))))→K f w'):
  SO P n ops ⟨none,.call {callee:=.builtin .clear,args:=#[x],argTypes:=#[T]},ty,ps,af,none⟩ f w K:=by
 subst hB
 have hO:=H.at_ i hi
 have jF:=(dC.1 hi).1
 obtain⟨hk,hc⟩:=wh hO
 obtain⟨cs,h1,h2⟩:=hO
 have zZ:GT.size dX=3:=rfl
 by_cases nw:q=xs.length
 ·have hz:k-q=0:=by omega
  refine SO.value (d:=none) (v:=.tuple #[]) (w':=w) ?_<|h w ?_
  ·have z1:(Builtin.clear_ #[T] ty #[.slice (ph a c q) 0 (c-q)]).run P w=.ok (.tuple #[]) w:=by
    cases hca:ph a c q<;>simp[Builtin.clear_,run_underlying hu]
   rw[hz] at hx
   simp[execOp,resolve,invoke,builtin,aN ox,hx,z1]
  ·have e9:xs.take q++List.replicate (xs.length-q) (0,0,0)=xs:=by rw[nw];simp
   rw[e9]
   have:l.set i (own w0.heap.size e (.slice a k c) xs)=l:=by
    apply anT
    intro j
    by_cases hj:i=j
    ·subst hj;rw[anB jF,hi]
    ·rw[anS hj]
   rw[this];exact H
 ·rcases h1.2 with ⟨h0,h3⟩|⟨g',c1,cur,h0,h3,h4,h5,h6,h7,h8⟩
  ·omega
  ·cases h0
   have pA:cur.size=c*3:=by rw[h7,zZ]
   have Te:ph (some ⟨g',0,none⟩) c q=some ⟨g',q*3,none⟩:=by unfold ph;rw[anp aq];show some (Addr.add _ (q*3))=_;rw[FQ]
   rw[Te] at hx
   have rC:=bu.length h2
   rw[zZ] at rC h8
   have hz:bu (MS M0 l) w (List.replicate ((xs.length-q)*3) (Value.int .i64 0)) (List.replicate (xs.length-q) ((0,0,0):dX)):=Ih _
   have qB:=run_storeCells_at P g' (q*3) e (List.replicate ((xs.length-q)*3)<|Value.int .i64 0) 0 cur w h4 (by rw[od];omega)<|bu.AY hz
   refine SO.value (d:=none) (v:=.tuple #[]) (w':=w.setRow g' (cur.toList.take (q*3)++List.replicate ((xs.length-q)*3) (Value.int .i64 0)++cur.toList.drop (q*3+(List.replicate ((xs.length-q)*3)<|Value.int .i64 0).length)).toArray) ?_<|h _ ?_
   ·obtain⟨m,hm⟩:∃m,xs.length-q=m+1:=⟨xs.length-q-1,by omega⟩
    have z1:(Builtin.clear_ #[T] ty #[.slice (some ⟨g',q*3,none⟩) (xs.length-q) (c-q)]).run P w=.ok (.tuple #[]) (w.setRow g' (cur.toList.take (q*3)++List.replicate ((xs.length-q)*3) (Value.int .i64 0)++cur.toList.drop (q*3+(List.replicate ((xs.length-q)*3) (Value.int .i64 0)).length)).toArray):=by
     have rD:(Builtin.zeroCells (Value.agg #[.int .i64 0,.int .i64 0,.int .i64 0]).cells (xs.length-q)).toList=List.replicate ((xs.length-q)*3) (Value.int .i64 0):=aeN _
     rw[an0] at qB
     rw[hm] at qB rD ⊢
     simp[Builtin.clear_,run_underlying hu,F.tU,rD,qB]
    simp[execOp,resolve,invoke,builtin,aN ox,hx,z1]
   ·have X4:(List.replicate ((xs.length-q)*3) (Value.int .i64 0)).length=(xs.length-q)*3:=od
    have GA:(xs.take q++List.replicate (xs.length-q) ((0,0,0):dX)).length=xs.length:=by simp;omega
    have acZ:cur.toList.length=c*3:=by simpa using pA
    refine H.vB i hi J J J (by simp) (anl _) (fun q' hq' gH=>setRow_other w g' q' _<|fun e=>gH<|by rw[e];rfl) ?_ ?_
    ·intro b hb
     refine⟨?_,.inl hb⟩
     rw[size_setRow]
     exact(H.jq _ (dB hi) b hb).2
    ·have qA:Up (MS M0 l) w (MS M0 (l.set i (own w0.heap.size e (Value.slice (some ⟨g',0,none⟩) xs.length c) (xs.take q++List.replicate (xs.length-q) (0,0,0))))) (w.setRow g' (cur.toList.take (q*3)++List.replicate ((xs.length-q)*3) (Value.int .i64 0)++cur.toList.drop (q*3+(List.replicate ((xs.length-q)*3) (Value.int .i64 0)).length)).toArray):=by
      refine⟨by simp,fun b hb hM=>⟨setRow_other w g' b _ (fun e=>hM<|.inr ⟨_,dB hi,by rw[e];rfl⟩),?_⟩⟩
      rintro(CW|⟨it,hit,l9⟩)
      ·exact hM<|.inl CW
      ·rcases an_ hit with hit|rfl
       ·exact hM<|.inr ⟨it,hit,l9⟩
       ·exact hM<|.inr ⟨_,dB hi,l9⟩
     have qc:=(zl q h2).1
     rw[zZ] at qc
     refine⟨cs.take (q*3)++List.replicate ((xs.length-q)*3) (Value.int .i64 0),⟨by rw[GA,zZ,fA,gY,X4];omega,.inr ⟨g',c,_,by rw[GA],h3,setRow_heap w g' cur _ e _ h4,by omega,h6,?_,?_⟩⟩,?_⟩
     ·simp only[aoQ,fA,gY,anI,zZ,X4]
      omega
     ·rw[GA]
      show (cur.toList.take (q*3)++List.replicate ((xs.length-q)*3) (Value.int .i64 0)++cur.toList.drop (q*3+(List.replicate ((xs.length-q)*3) (Value.int .i64 0)).length)).take (xs.length*3)=_
      rw[aoI (by rw[fA,gY,X4];omega),ant (by rw[fA,gY,X4];omega),←h8,aoO,aon aq]
     ·exact bu.append (bu.lift qA qc)<|Ih _
end
end Go.Ew
namespace Go.Ew
open Go.RowKit
section
variable {P:Program} {n:Nat} {ops:Array Oper} {f:aQ} {w:World} {K:aQ→World→Prop} {x y:Operand} {d:Nat} {ty T e:TypeId} {ps:String} {af:Array Edge} {v u:Value} {M M0:Nat→Prop} {w0:World} {l:List Item} {bytes:Nat} {z:Value} {B:Nat} {kk:IntKind} {agg:Bool} {xs ys:List dX} {a:Option Addr} {k c:Nat}
theorem TW {q:Nat} {i:Int} (hO:(own B e (.slice a k c) xs).holds M w0) (hi:0≤i∧i<((k-q:Nat):Int)):
  ∃g,a=some ⟨g,0,none⟩∧ph a c q=some ⟨g,q*3,none⟩∧q+i.toNat<xs.length∧∀xv,xs[q+i.toNat]? =some xv→hG M w0 ⟨g,q*3+i.toNat*3,none⟩ xv:=by
 obtain⟨hk,hc⟩:=wh hO
 have h0:=hO
 obtain⟨cs,h1,h2⟩:=hO
 rcases h1.2 with ⟨h3,h4⟩|⟨g',c1,cur,h3,h4⟩
 ·omega
 ·cases h3
  refine⟨g',J,?_,by omega,fun xv hx=>?_⟩
  ·unfold ph;rw[anp aq];show some (Addr.add _ (q*3))=_;rw[FQ]
  ·have:=aby h0 J hx
   rwa [show (q+i.toNat)*GT.size dX=q*3+i.toNat*3 from by show (q+i.toNat)*3=_;omega] at this
theorem R6 {K:aQ→Prop} {rest:List Oper} {q:Nat} {i:Int} (hO:(own B e (.slice a k c) xs).holds M w0) (ox:bG n x=true) (oy:bG n y=true) (hx:ev f x=.slice (ph a c q) (k-q) (c-q)) (hy:ev f y=.int kk i) (hi:0≤i∧i<((k-q:Nat):Int)) (hu:P.underlying T=some (.slice e)) (F:ei P e 3 agg bytes z)
  (h:∀ad xv,xs[q+i.toNat]? =some xv→hG M w0 ad xv→PW P n ops w0 K rest (cb f d (.pointer (some ad)))):PW P n ops w0 K (⟨some d,.indexAddr T x y,ty,ps,af,none⟩::rest) f:=by
 obtain⟨g,rfl,Fp,ep,hat⟩:=TW hO hi
 rw[Fp] at hx
 have lj:(⟨g,q*3,none⟩:Addr).add (i.toNat*3)=⟨g,q*3+i.toNat*3,none⟩:=by unfold Addr.add;split<;>simp_all
 refine⟨.pointer (some ⟨g,q*3+i.toNat*3,none⟩),fun w hw=>SO.value (v:=.pointer (some ⟨g,q*3+i.toNat*3,none⟩)) (w':=w) ?_ ⟨J,Ext.refl w⟩,h _ xs[q+i.toNat] (eB ep) (hat _<|eB ep)⟩
 have hb:0≤i∧i<((k-q:Nat):Int):=hi
 simp[execOp,aN ox,aN oy,hx,hy,Instr.indexAt,asIntOf,gG hu,hb,F.jm,lj]
theorem ahV {q:Nat} {i:Int} (hO:(own B e (.slice a k c) xs).holds M w) (ox:bG n x=true) (oy:bG n y=true) (hx:ev f x=.slice (ph a c q) (k-q) (c-q)) (hy:ev f y=.int kk i) (hi:0≤i∧i<((k-q:Nat):Int)) (hu:P.underlying T=some (.slice e)) (F:ei P e 3 agg bytes z)
  (h:∀ad xv,xs[q+i.toNat]? =some xv→hG M w ad xv→K (cb f d (.pointer (some ad))) w):SO P n ops ⟨some d,.indexAddr T x y,ty,ps,af,none⟩ f w K:=by
 obtain⟨g,rfl,Fp,ep,hat⟩:=TW hO hi
 rw[Fp] at hx
 have lj:(⟨g,q*3,none⟩:Addr).add (i.toNat*3)=⟨g,q*3+i.toNat*3,none⟩:=by unfold Addr.add;split<;>simp_all
 refine SO.value (v:=.pointer (some ⟨g,q*3+i.toNat*3,none⟩)) (w':=w) ?_<|h _ xs[q+i.toNat] (eB ep)<|hat _<|eB ep
 have hb:0≤i∧i<((k-q:Nat):Int):=hi
 simp[execOp,aN ox,aN oy,hx,hy,Instr.indexAt,asIntOf,gG hu,hb,F.jm,lj]
end
end Go.Ew
namespace Go.Ew
def dh (I:List aI) (n:Int) (rs:Rows) (r:Int):List Int:=aY (iJ I (ql I r)) (eQ n rs r)
section
variable (I:List aI) (U:List Int) (n:Int) (rs:Rows)
def vg (r:Nat):Bool:=decide (U.getD r 0= -1)&&decide (0<(((dh I n rs ((r:Nat):Int)).length:Nat):Int))
def Aj:Option Nat:=(List.range U.length).find? (vg I U n rs)
end
theorem DQ {p:Nat→Bool} {n j:Nat} (hs:∀q,q<j→p q=false) (hj:j<n) (h:p j=true):(List.range n).find? p=some j:=by
 rw[List.find?_range_eq_some]
 refine⟨h,ano.2 hj,fun q hq=>?_⟩
 rw[hs q hq];rfl
theorem Bg {p:Nat→Bool} {n j:Nat} (hs:∀q,q<j→p q=false) (hj:n≤j):(List.range n).find? p=none:=by
 rw[aoL]
 intro q hq
 rw[hs q (anR (ano.1 hq) hj)];decide
theorem r8 {p:Nat→Bool} {j:Nat} (hs:∀q,q<j→p q=false) (h:p j=false):∀q,q<j+1→p q=false:=by
 intro q hq
 by_cases e:q=j
 ·rw[e];exact h
 ·exact hs q aq
theorem Ma {l:List Int} {x:Int} (h:l[(0:Int).toNat]? =some x):l.headD 0=x:=by
 cases l with
 |nil=>simp at h
 |cons a l=>simp at h;exact h
def zn (n:Int) (rs:Rows) (a k:Int):Bool:=!decide (k=a)&&eF n rs a k
section
variable (I:List aI) (U:List Int) (n:Int) (rs:Rows)
def zo (r:Nat):Option Int:=(dh I n rs ((r:Nat):Int)).find? (zn n rs (U.getD r 0))
def vL (r:Nat):Bool:=!decide (U.getD r 0<0)&&(zo I U n rs r).isSome
def FL:Option Nat:=(List.range U.length).find? (vL I U n rs)
end
theorem OC {α:Type} {l:List α} {p:α→Bool} {j:Nat} {x:α} (hs:∀y∈l.take j,p y=false) (hx:l[((j:Nat):Int).toNat]? =some x) (h:p x=false):∀y∈l.take (j+1),p y=false:=by
 rw[dv] at hx
 intro y hy
 rw[anZ,hx] at hy
 rcases anK.1 hy with hy|hy
 ·exact hs y hy
 ·simp at hy;rw[hy];exact h
theorem abZ {α:Type} {p:α→Bool}:∀{l:List α} {j:Nat} {x:α},(∀y∈l.take j,p y=false)→l[((j:Nat):Int).toNat]? =some x→p x=true→l.find? p=some x:=by
 intro l j x hs hx h
 rw[dv] at hx
 have hj:=(dC.1 hx).1
 have e:l=l.take j++x::l.drop (j+1):=by
  rw[←(dC.1 hx).2,ap1,aov]
 rw[e,List.find?_append,aoL.2 (fun y hy=>by rw[hs y hy];decide),List.find?_cons_of_pos h];rfl
theorem ZY {α:Type} {l:List α} {p:α→Bool} {j:Nat} (hs:∀y∈l.take j,p y=false) (hj:l.length≤j):l.find? p=none:=by
 rw[ant hj] at hs
 exact aoL.2 fun y hy=>by rw[hs y hy];decide
theorem aec {I:List aI} {U:List Int} {n:Int} {rs:Rows} {j q:Nat} {a x:Int} (hs:∀q,q<j→vL I U n rs q=false) (hj:j<U.length) (aP:U[((j:Nat):Int).toNat]? =some a) (h0:decide (a<0)=false)
  (gK:∀y∈(dh I n rs (j:Int)).take q,zn n rs a y=false) (cP:(dh I n rs (j:Int))[((q:Nat):Int).toNat]? =some x) (h1:decide (x=a)=false) (h2:eF n rs a x=true):
  FL I U n rs=some j∧zo I U n rs j=some x∧U.getD j 0=a:=by
 have hq:zn n rs a x=true:=by unfold zn;rw[h1,h2];rfl
 have hk:zo I U n rs j=some x:=by unfold zo;rw[jo aP];exact abZ gK cP hq
 refine⟨DQ hs hj ?_,hk,jo aP⟩
 unfold vL
 rw[jo aP,h0,hk];rfl
theorem aeb {I:List aI} {U:List Int} {n:Int} {rs:Rows} {j:Nat} {a:Int} (hs:∀q,q<j→vL I U n rs q=false) (aP:U[((j:Nat):Int).toNat]? =some a) (h0:decide (a<0)=true):∀q,q<j+1→vL I U n rs q=false:=
 r8 hs (by unfold vL;rw[jo aP,h0];rfl)
theorem W2 {I:List aI} {U:List Int} {n:Int} {rs:Rows} {j q:Nat} {a:Int} (hs:∀q,q<j→vL I U n rs q=false) (aP:U[((j:Nat):Int).toNat]? =some a)
  (gK:∀y∈(dh I n rs (j:Int)).take q,zn n rs a y=false) (hq:(dh I n rs (j:Int)).length≤q):∀q,q<j+1→vL I U n rs q=false:=
 r8 hs (by unfold vL zo;rw[jo aP,ZY gK hq];simp)
theorem Q' {n:Int} {rs:Rows} (h:bF n rs=true) (I:List aI) (r:Int):(dh I n rs r).length≤4096:=by
 unfold dh aY
 exact Nat.le_trans (aoj _ _)<|uO h r
end Go.Ew
namespace Go.Ew
open Go.RowKit Go.Sort Go.Proofs
section
variable {β:Type} [Inhabited β] {enc:β→List Value} {k:Nat}
theorem Tz (hk:∀x,(enc x).length=k) (hp:0<k):∀(xs:List β) (t:Nat),t<xs.length*k→(xs.flatMap enc)[t]! =(enc xs[t/k]!)[t%k]!
 |[],t,h=>by simp at h
 |x::xs,t,h=>by
  rw[aoR]
  by_cases ht:t<k
  ·rw[apA ht,apz ht,List.getElem!_cons_zero,aoG,aoG,oT (by rw[hk];exact ht)]
  ·have h2:t-k<xs.length*k:=by rw[iM,an'] at h;omega
   have e1:t/k=(t-k)/k+1:=by rw[show t=(t-k)+k by omega,Nat.add_div_right _ hp];simp
   have e2:t%k=(t-k)%k:=by rw[show t=(t-k)+k by omega,Nat.add_mod_right];simp
   have ih:=Tz hk hp xs (t-k) h2
   rw[e1,e2,List.getElem!_cons_succ,←ih,aoG,aoG,og (by rw[hk];omega),hk]
theorem C1 (hk:∀x,(enc x).length=k):∀xs:List β,(xs.flatMap enc).length=xs.length*k
 |[]=>by simp
 |x::xs=>by rw[aoR,fA,C1 hk xs,hk,iM,an'];omega
theorem GU (hk:∀x,(enc x).length=k) (hp:0<k) (d:Array β):flatK enc k d=(d.toList.flatMap enc).toArray:=by
 apply Array.ext
 ·simp[C1 hk]
 ·intro t h1 h2
  have h3:t<d.size*k:=by simpa using h1
  have e1:=get_flatK enc k d t h3
  have e2:=Tz hk hp d.toList t<|by simpa using h3
  rw[aqr (flatK enc k d) t h1] at e1
  rw[aqr (d.toList.flatMap enc) t (by simpa using h2)] at e2
  have e3:d.toList[t/k]! =d[t/k]!:=by
   rw[aoG,aox,Array.getElem!_eq_getD,Array.getD_eq_getD_getElem?]
  rw[e1,List.getElem_toArray,e2,e3]
end
variable {α β:Type} [GT α] [Inhabited β] {val:β→α} {enc:β→List Value}
theorem G7 (h:∀M w cs x,GT.rep M w cs x↔∃b,cs=enc b∧val b=x) {M:Nat→Prop} {w:World}:∀{xs:List α} {cs:List Value},bu M w cs xs→∃bs:List β,bs.map val=xs∧cs=bs.flatMap enc
 |[],cs,hc=>⟨[],rfl,hc⟩
 |x::xs,cs,⟨c1,c2,e,h1,h2⟩=>by
  obtain⟨bs,e1,e2⟩:=G7 h h2
  obtain⟨b,e3,e4⟩:=(h _ _ _ _).1 h1
  exact⟨b::bs,by simp[e1,e4],by rw[e,e2,e3];rfl⟩
theorem G2 (h:∀M w cs x,GT.rep M w cs x↔∃b,cs=enc b∧val b=x) {M:Nat→Prop} {w:World}:∀bs:List β,bu M w (bs.flatMap enc) (bs.map val)
 |[]=>rfl
 |b::bs=>⟨enc b,bs.flatMap enc,rfl,(h _ _ _ _).2 ⟨b,rfl,rfl⟩,G2 h bs⟩
theorem JM {w:World} {g:Nat} {f:Array Value→Array Value} {cur:Array Value} {e:TypeId} {z:Nat×Nat} (h:w.heap[g]? =some (.cells cur e z)):(mapBlock w g f).heap[g]? =some (.cells (f cur) e z):=by
 simp[mapBlock,Array.getElem?_modify,h,onCells]
theorem HL {w:World} {g c:Nat} {f:Array Value→Array Value} (h:c≠g):(mapBlock w g f).heap[c]? =w.heap[c]?:=by
 simp[mapBlock,Array.getElem?_modify,Ne.symm h]
theorem RB {M0:Nat→Prop} {w0 w:World} {l:List Item} {i:Nat} {e:TypeId} {g cap:Nat} {xs:List α} (h:∀M w cs x,GT.rep M w cs x↔∃b,cs=enc b∧val b=x) (H:HI M0 w0 w l) (hi:l[i]? =some (own w0.heap.size e (.slice (some ⟨g,0,none⟩) xs.length cap) xs)):
  ∃bs:List β,bs.map val=xs∧HoldsK enc (GT.size α) w g 0 bs.toArray∧g<w.heap.size∧
   ∀(ds:List β) n os,ds.length=bs.length→HI M0 w0 (sortWorldK enc (GT.size α) w g 0 n ds.toArray os) (l.set i (own w0.heap.size e (.slice (some ⟨g,0,none⟩) xs.length cap) (ds.map val))):=by
 have hk:∀x:β,(enc x).length=GT.size α:=fun x=>GT.len ((h (fun _=>True) w (enc x) (val x)).2 ⟨x,rfl,rfl⟩)
 have hp:0<GT.size α:=GT.pos
 have Bb:=dB hi
 obtain⟨cs,⟨hl,ho⟩,hc⟩:=H.all _ Bb
 obtain⟨bs,rfl,rfl⟩:=G7 h hc
 have hblk:=H.jq _ Bb g J
 rcases ho with ⟨ho, -⟩|⟨g',amL,cur,ho,h1,h2,h3,h4,h5,h6⟩
 ·cases ho
 cases ho
 have hlen:(bs.flatMap enc).length=bs.length*GT.size α:=C1 hk bs
 have pA:bs.length*GT.size α≤cur.size:=by rw[h5];exact aom _ (by simpa using h3)
 refine⟨bs,J,?_,hblk.2,?_⟩
 ·intro j hj
  rw[GU hk hp] at hj ⊢
  have ra:j<bs.length*GT.size α:=by simpa [hlen] using hj
  have xr:j<cur.size:=by omega
  have e1:(bs.flatMap enc)[j]? =some cur[j]:=by
   rw[←h6,anO,ann (by simpa using ra)];simp[xr]
  constructor
  ·simp only[World.cell?,h2,an5,Option.isSome_none]
   rw[aqr _ j (by simpa [hlen] using ra)]
   have e2:(bs.flatMap enc)[j]'aq=cur[j]:=anm ((eB _).symm.trans e1)
   simp[e2,xr]
  ·simp[World.frozen?,h2]
 ·intro ds n os Tb
  have hW:(sortWorldK enc (GT.size α) w g 0 n ds.toArray os).heap=(mapBlock (Go.Sort.ahead w n) g (putCells id 0 (ds.flatMap enc).toArray)).heap++os:=by
   simp only[sortWorldK,putRowK,putRow,grow,GU hk hp]
  have hms:(mapBlock (Go.Sort.ahead w n) g (putCells id 0 (ds.flatMap enc).toArray)).heap.size=w.heap.size:=by simp[mapBlock,Go.Sort.ahead]
  have ug:∀c,c<w.heap.size→(sortWorldK enc (GT.size α) w g 0 n ds.toArray os).heap[c]? =(mapBlock (Go.Sort.ahead w n) g (putCells id 0 (ds.flatMap enc).toArray)).heap[c]?:=by
   intro c hc
   rw[hW,ape aq]
  refine H.vB i hi J J J (by rw[hW,aqp];omega) (by simp[sortWorldK,putRowK,putRow,grow,mapBlock,Go.Sort.ahead]) (fun c hcw gH=>?_) (fun b hb=>?_) ?_
  ·rw[ug c hcw]
   exact HL (w:=Go.Sort.ahead w n) fun e=>gH (by rw[e];rfl)
  ·cases hb
   exact⟨by rw[hW,aqp];exact anR hblk.2 aq,.inl rfl⟩
  ·refine⟨ds.flatMap enc,⟨?_,.inr ⟨g,cap,putCells id 0 (ds.flatMap enc).toArray cur,by simp[Tb],h1,?_,by simpa [Tb] using h3,h4,by simpa [putCells] using h5,?_⟩⟩,G2 h ds⟩
   ·rw[C1 hk,anW]
   ·rw[ug g hblk.2]
    exact JM (w:=Go.Sort.ahead w n) h2
   ·apply anT
    intro j
    have kQ:(ds.flatMap enc).length=ds.length*GT.size α:=C1 hk ds
    rw[anO,anW]
    split
    ·rename_i hj
     have xr:j<cur.size:=by rw[Tb] at hj;omega
     have hjf:j<(ds.flatMap enc).length:=by omega
     clear hW hms ug
     generalize ds.flatMap enc=F at hjf ⊢
     simp[putCells,xr,hjf]
    ·rw[anz aq]
theorem Ext.grow {w w':World} (h:Ext w w'):∃q os',w'=Go.Sort.grow (w.drewN q) os':=by
 refine⟨w'.drawn-w.drawn,w'.heap.extract w.heap.size w'.heap.size,?_⟩
 have hh:w'.heap=w.heap++w'.heap.extract w.heap.size w'.heap.size:=by
  apply Array.ext_getElem?
  intro c
  by_cases hc:c<w.heap.size
  ·rw[ape hc,h.block c hc]
  ·rw[Array.getElem?_append_right aq,Array.getElem?_extract]
   split
   ·congr 1;omega
   ·exact Array.getElem?_eq_none aq
 have hd:=h.drawn
 obtain⟨h1,h2,h3,h4⟩:_∧_∧_∧_:=⟨h.os,h.tape,h.output,hh⟩
 cases w';cases w
 simp only[Go.Sort.grow,World.drewN] at *
 subst h1 h2 h3
 congr 1
 omega
end Go.Ew
namespace Go.Ew
open Go.RowKit Go.Sort Go.Proofs
def BX:Type:={x:dX //aM x.1∧aM x.2.1∧aM x.2.2}
instance :Inhabited BX:=⟨⟨(0,0,0),by simp[aM],by simp[aM],by simp[aM]⟩⟩
def Q0 (x:BX):List Value:=[.int .i64 x.1.1,.int .i64 x.1.2.1,.int .i64 x.1.2.2]
def ltE (x y:dX):Bool:=decide (xK x y<0)
theorem Ig (a b:Int):(fD a b<0↔a<b)∧(fD a b=0↔a=b):=by
 unfold fD;constructor<;>cases h:decide (a<b)<;>cases k:decide (b<a)<;>simp at h k ⊢<;>omega
theorem Pd (x y:dX):xK x y<0↔x.1<y.1∨x.1=y.1∧(x.2.1<y.2.1∨x.2.1=y.2.1∧x.2.2<y.2.2):=by
 have h1:=Ig x.1 y.1
 have h2:=Ig x.2.1 y.2.1
 have h3:=Ig x.2.2 y.2.2
 simp only[xK,Ct]
 repeat' split
 all_goals omega
theorem Wr (M:Nat→Prop) (w:World) (cs:List Value) (x:dX):GT.rep M w cs x↔∃b:BX,cs=Q0 b∧b.1=x:=by
 obtain⟨a,b,c⟩:=x
 constructor
 ·rintro⟨c1,c2,rfl,⟨rfl,h1⟩,d1,d2,rfl,⟨rfl,h2⟩,rfl,h3⟩
  exact⟨⟨(a,b,c),h1,h2,h3⟩,J,J⟩
 ·rintro⟨⟨⟨a',b',c'⟩,h1,h2,h3⟩,rfl,e⟩
  cases e
  exact⟨[_],[_,_],J,⟨J,h1⟩,[_],[_],J,⟨J,h2⟩,J,h3⟩
theorem aa8:SWO (ltOf fun x y:BX=>xK x.1 y.1):=by
 refine⟨fun x=>?_,fun x y z=>?_,fun x y z=>?_⟩<;>simp only[ltOf,ank,anw,Pd]<;>omega
theorem ahE (x y:BX) (h:(ltOf fun x y:BX=>xK x.1 y.1) x y=false) (k:(ltOf fun x y:BX=>xK x.1 y.1) y x=false):x=y:=by
 simp only[ltOf,anw,Pd] at h k
 obtain⟨⟨a,b,c⟩,hx⟩:=x
 obtain⟨⟨a',b',c'⟩,hy⟩:=y
 have e:((a,b,c):dX)=(a',b',c'):=by
  simp only[an1]
  simp only at h k
  omega
 exact Subtype.ext e
def wc (l:List dX):List dX:=l.mergeSort fun x y=>!ltE y x
theorem RE:wc []=[]:=by unfold wc;simp
theorem RF (bs:List BX):wc (bs.map fun b=>b.1)=(bs.mergeSort fun x y=>!(ltOf fun x y:BX=>xK x.1 y.1) y x).map fun b=>b.1:=by
 refine(List.map_mergeSort fun a _ b _=>?_).symm
 rfl
end Go.Ew
namespace Go.Ew
structure Xg (I:List aI) (U:List Int) (n:Int) (rs:Rows) (e:dX):Prop where
 r0:0≤e.2.2
 r1:e.2.2<((U.length:Nat):Int)
 fr:U[e.2.2.toNat]? =some e.2.1
 w0:0≤e.2.1
 ne:e.1≠e.2.1
 ah:e.1∈aY (iJ I (ql I e.2.1)) (eQ n rs e.2.2)
def Dv (I:List aI) (U:List Int) (n:Int) (rs:Rows) (es:List dX):Prop:=es.length≤4096*U.length∧∀e,e∈es↔Xg I U n rs e
section
variable (I:List aI) (U:List Int) (n:Int) (rs:Rows)
def BS (w r:Int) (l:List Int):List dX:=(l.filter fun x=>!decide (x=w)).map fun x=>(x,w,r)
def C7 (r:Nat):List dX:=if U.getD r (-1)<0 then [] else BS (U.getD r (-1)) ((r:Nat):Int) (aY (iJ I (ql I (U.getD r (-1)))) (eQ n rs ((r:Nat):Int)))
def uu (j:Nat):List dX:=(List.range j).flatMap (C7 I U n rs)
def cH:List dX:=wc (uu I U n rs U.length)
end
section
variable {I:List aI} {U:List Int} {n:Int} {rs:Rows} {j q:Nat} {w x v:Int} {es O2:List dX}
theorem C6:uu I U n rs (j+1)=uu I U n rs j++C7 I U n rs j:=by
 unfold uu;rw[aoS,ao7];simp
theorem TO (hw:U[((j:Nat):Int).toNat]? =some w):U.getD j (-1)=w:=by
 rw[dv] at hw;rw[gZ,hw];rfl
theorem adM (h:es=uu I U n rs j) (hw:U[((j:Nat):Int).toNat]? =some w) (h0:w<0):es=uu I U n rs (j+1):=by
 rw[C6,C7,TO hw,ann h0,aoT];exact h
theorem aal (hv:v=ql I w) (h:es=uu I U n rs j) (h2:O2=es++BS w ((j:Nat):Int) ((aY (iJ I v) (eQ n rs ((j:Nat):Int))).take q)) (hw:U[((j:Nat):Int).toNat]? =some w) (h0:¬w<0) (hq:(aY (iJ I v) (eQ n rs ((j:Nat):Int))).length≤q):O2=uu I U n rs (j+1):=by
 rw[C6,C7,TO hw,anp h0,h2,ant hq,h,hv]
theorem Ws {l:List Int} {r:Int} (h:O2=es++BS w r (l.take q)) (hx:l[((q:Nat):Int).toNat]? =some x) (he:x=w):O2=es++BS w r (l.take (q+1)):=by
 rw[dv] at hx
 rw[h,anZ,hx];unfold BS;simp[he]
theorem aak {l:List Int} {r:Int} (h:O2=es++BS w r (l.take q)) (hx:l[((q:Nat):Int).toNat]? =some x) (he:¬x=w):O2++[(x,w,r)]=es++BS w r (l.take (q+1)):=by
 rw[dv] at hx
 rw[h,anZ,hx];unfold BS;simp[he]
theorem Mt (hr:bF n rs=true):(uu I U n rs j).length≤4096*j:=by
 induction j with
 |zero=>simp[uu]
 |succ j ih=>
  rw[C6,fA]
  have:(C7 I U n rs j).length≤4096:=by
   unfold C7
   split
   ·simp
   ·unfold BS aY
    rw[anW]
    exact Nat.le_trans (aoj _ _)<|Nat.le_trans (aoj _ _)<|uO hr _
  omega
theorem Jr:(uu I U n rs U.length).length=(cH I U n rs).length:=by unfold cH wc;rw[List.length_mergeSort]
theorem qM (hr:bF n rs=true):Dv I U n rs (cH I U n rs):=by
 refine⟨by rw[←Jr];exact Mt hr,fun e=>?_⟩
 unfold cH wc
 rw[List.mem_mergeSort]
 unfold uu
 rw[aqw]
 constructor
 ·rintro⟨r,hr,h⟩
  have hr:=ano.1 hr
  unfold C7 at h
  split at h
  ·cases h
  ·rename_i h0
   unfold BS at h
   rw[an6] at h
   obtain⟨x,hx,rfl⟩:=h
   rw[anD] at hx
   refine⟨by simp only;omega,by simp only;omega,?_,by simp only;omega,by simpa using hx.2,hx.1⟩
   simp only[dv]
   rw[gZ,eB hr];rfl
 ·intro h
  obtain⟨a,b,r⟩:=e
  obtain⟨r0,r1,fr,w0,ne,ah⟩:=h
  simp only at r0 r1 fr w0 ne ah
  refine⟨r.toNat,ano.2 aq,?_⟩
  have e1:U.getD r.toNat (-1)=b:=by rw[gZ,fr];rfl
  have e2:((r.toNat:Nat):Int)=r:=by omega
  unfold C7 BS
  rw[e1,e2,anp aq,an6]
  exact⟨a,anD.2 ⟨ah,by simpa using ne⟩,J⟩
end
end Go.Ew
namespace Go.Ew
open Go.RowKit
section
variable {κ ν:Type} [DecidableEq κ]
def fI:List (κ×ν)→κ→Option ν
 |[],_=>none
 |x::xs,k=>if k=x.1 then some x.2 else fI xs k
def lJ:List (κ×ν)→κ→ν→List (κ×ν)
 |[],k,v=>[(k,v)]
 |x::xs,k,v=>if k=x.1 then (k,v)::xs else x::lJ xs k v
def nR:List (κ×Value)→κ→Nat→Option (Nat×Value)
 |[],_,_=>none
 |x::xs,k,i=>if k=x.1 then some (i,x.2) else nR xs k (i+1)
def mA (ek:κ→Value) (es:List MapEntry) (m:List (κ×Value)):Prop:=es.map (fun e=>(e.key,e.val))=m.map fun x=>(ek x.1,x.2)
def mu (ev:ν→Value) (m:List (κ×ν)):List (κ×Value):=m.map fun x=>(x.1,ev x.2)
theorem Jn (ev:ν→Value):∀(m:List (κ×ν)) (k:κ) (i:Nat),(nR (mu ev m) k i).map (·.2)=(fI m k).map ev
 |[],_,_=>rfl
 |x::xs,k,i=>by
  simp only[mu,anM]
  unfold nR fI
  by_cases h:k=x.1
  ·simp[h]
  ·rw[anp h,anp h];exact Jn ev xs k (i+1)
theorem GX (ek:κ→Value) (ev:ν→Value):∀(m:List (κ×ν)) (es:List MapEntry) (k:κ) (i j:Nat) (v:Value),mA ek es (mu ev m)→nR (mu ev m) k i=some (j,v)→
  ∃q e,j=i+q∧es[q]? =some e∧e.key=ek k∧∀(u:ν),mA ek (es.modify q fun e=>{e with key:=ek k,val:=ev u}) (mu ev (lJ m k u))
 |[],_,_,_,_,_,_,h=>by cases h
 |x::xs,es,k,i,j,v,hr,h=>by
  match es,hr with
  |[],hr=>simp[mA,mu] at hr
  |e::es,hr=>
   simp only[mA,mu,anM,aop,an1] at hr
   obtain⟨⟨h1,h2⟩,h3⟩:=hr
   simp only[mu,anM] at h
   unfold nR at h
   split at h
   ·rename_i hk
    simp only[anx,an1] at h
    refine⟨0,e,h.1.symm,J,by rw[h1,hk],fun u=>?_⟩
    unfold lJ
    rw[ann hk]
    simp[mA,mu] at h3 ⊢
    exact h3
   ·rename_i hk
    obtain⟨q,e',I9,nw,Ej,Ei⟩:=GX ek ev xs es k (i+1) j v h3 h
    refine⟨q+1,e',by omega,by simpa using nw,Ej,fun u=>?_⟩
    have:=Ei u
    unfold lJ
    rw[anp hk]
    simp only[mA,mu,List.modify_succ_cons,anM,aop,an1]
    exact⟨⟨h1,h2⟩,this⟩
theorem GY (ek:κ→Value) (ev:ν→Value):∀(m:List (κ×ν)) (es:List MapEntry) (k:κ) (i:Nat),mA ek es (mu ev m)→nR (mu ev m) k i=none→∀(c:Nat) (u:ν),mA ek (es++[⟨ek k,ev u,c⟩]) (mu ev (lJ m k u))
 |[],es,k,_,hr,_,c,u=>by
  have:es=[]:=by simpa [mA,mu] using hr
  subst this;simp[mA,mu,lJ]
 |x::xs,es,k,i,hr,h,c,u=>by
  match es,hr with
  |[],hr=>simp[mA,mu] at hr
  |e::es,hr=>
   simp only[mA,mu,anM,aop,an1] at hr
   obtain⟨⟨h1,h2⟩,h3⟩:=hr
   simp only[mu,anM] at h
   unfold nR at h
   split at h
   ·cases h
   ·rename_i hk
    have:=GY ek ev xs es k (i+1) h3 h c u
    unfold lJ
    rw[anp hk]
    simp only[mA,mu,apG,anM,aop,an1]
    exact⟨⟨h1,h2⟩,this⟩
theorem Wi (m:List (κ×ν)) (k k':κ) (v:ν):fI (lJ m k v) k'=if k'=k then some v else fI m k':=by
 induction m with
 |nil=>simp[lJ,fI]
 |cons x xs ih=>
  unfold lJ
  by_cases h:k=x.1
  ·subst h
   simp only[aoX,fI]
   by_cases h':k'=x.1<;>simp[h']
  ·rw[anp h]
   simp only[fI,ih]
   by_cases h':k'=x.1
   ·rw[ann h',ann h',anp (by rw[h'];exact fun e=>h e.symm)]
   ·rw[anp h',anp h']
theorem aac {m:List (κ×ν)} {iv:ν→Prop} (h:∀x∈m,iv x.2) {k:κ} {v:ν} (hv:fI m k=some v):iv v:=by
 induction m with
 |nil=>cases hv
 |cons x xs ih=>
  unfold fI at hv
  split at hv
  ·cases hv;exact h x (by simp)
  ·exact ih (fun y hy=>h y<|by simp[hy]) hv
theorem Ob {m:List (κ×ν)} {iv:ν→Prop} (h:∀x∈m,iv x.2) (k:κ) {v:ν} (hv:iv v):∀x∈lJ m k v,iv x.2:=by
 induction m with
 |nil=>intro x hx;simp[lJ] at hx;subst hx;exact hv
 |cons y ys ih=>
  intro x hx
  unfold lJ at hx
  split at hx
  ·rcases anC.1 hx with rfl|hx
   ·exact hv
   ·exact h x<|by simp[hx]
  ·rcases anC.1 hx with rfl|hx
   ·exact h x<|by simp
   ·exact ih (fun z hz=>h z<|by simp[hz]) x hx
def CB (ek:κ→Value) (ev:ν→Value) (iv:ν→Prop) (b:Nat) (m:List (κ×ν)):Item:=
 ⟨some b,fun _ w=>∃es clock,w.heap[b]? =some (.map es clock)∧mA ek es.toList (mu ev m)∧∀x∈m,iv x.2,fun h _ hb=>by
  obtain⟨es,c,h1,h2⟩:=h
  exact⟨es,c,(hb b rfl).trans h1,h2⟩⟩
end
structure Rh (P:Program) (kt:TypeId) {κ:Type} [DecidableEq κ] (ek:κ→Value):Prop where
 BU:∀e a w,(Instr.checkKey e 10000 kt (ek a)).run P w=.ok () w
 find:∀(k:κ) (w:World) (m:List (κ×Value)) (es:List MapEntry),mA ek es m→(Instr.findKey kt (ek k) es).run P w=.ok (nR m k 0) w
 stays:∀k w,(Instr.keyThatStays (ek k) (ek k)).run P w=.ok (ek k) w
structure Hj (P:Program) (T:TypeId) {κ ν:Type} [DecidableEq κ] (ek:κ→Value) (ev:ν→Value) (z:ν):Prop where
 h:∃kt et,P.underlying T=some (.map kt et)∧Rh P kt ek∧∀w,(zeroValue et).run P w=.ok (ev z) w
abbrev tc (b:Nat) (m:List (ByteArray×Int)):Item:=CB (fun s=>Value.string s) (fun v=>Value.int .i64 v) aM b m
abbrev bS (b:Nat) (m:List ((Int×Int)×Bool)):Item:=CB K2 Value.bool (fun _=>True) b m
section
variable {P:Program}
theorem MU {kt:TypeId} (F:Dk P kt) (k:Int×Int) (w:World):∀(m:List ((Int×Int)×Value)) (es:List MapEntry) (i:Nat),mA K2 es m→(Instr.findAsking kt (K2 k) es i).run P w=.ok (nR m k i) w
 |[],es,i,h=>by
  have:es=[]:=by simpa [mA] using h
  subst this;simp[Instr.findAsking,nR]
 |x::xs,es,i,h=>by
  match es,h with
  |e::es,h=>
   simp only[mA,anM,aop,an1] at h
   obtain⟨⟨h1,h2⟩,h3⟩:=h
   have ih:=MU F k w xs es (i+1) h3
   by_cases hk:k=x.1
   ·simp[Instr.findAsking,nR,h1,h2,F.eq,hk]
   ·simp[Instr.findAsking,nR,h1,h2,F.eq,hk,ih]
  |[],h=>simp[mA] at h
theorem VN {kt:TypeId} (F:Dk P kt):Rh P kt K2 where
 BU:=F.BU
 find k w m es h:=by
  obtain⟨d,hd⟩:=F.u
  cases es with
  |nil=>
   have:m=[]:=by simpa [mA] using h.symm
   subst this
   simp[Instr.findKey,run_underlying hd,Result.andThen,Instr.findNow,nR]
  |cons e es=>
   have h0:Instr.findNow d (K2 k) (e::es) 0=none:=Et d _ e es 0
   simp[Instr.findKey,run_underlying hd,Result.andThen,h0,MU F k w m _ 0 h]
 stays k w:=by simp[Instr.keyThatStays,Instr.sameBits]
theorem W5 (s t:ByteArray):(s==t)=decide (s=t):=by
 rw[anH]
 rcases s with ⟨a⟩
 rcases t with ⟨b⟩
 show (a==b)=true↔_
 simp
theorem Ou (k:ByteArray):∀(m:List (ByteArray×Value)) (es:List MapEntry) (i:Nat),mA (fun s=>Value.string s) es m→Instr.findNow .string (.string k) es i=some (nR m k i)
 |[],es,i,h=>by
  have:es=[]:=by simpa [mA] using h
  subst this;rfl
 |x::xs,es,i,h=>by
  match es,h with
  |e::es,h=>
   simp only[mA,anM,aop,an1] at h
   obtain⟨⟨h1,h2⟩,h3⟩:=h
   have ih:=Ou k xs es (i+1) h3
   unfold Instr.findNow nR
   rw[h1,h2]
   by_cases hk:k=x.1
   ·simp[Instr.sameNow,W5,hk]
   ·simp[Instr.sameNow,W5,hk,ih]
  |[],h=>simp[mA] at h
theorem VO {kt:TypeId} (hd:P.underlying kt=some .string):Rh P kt (fun s=>Value.string s) where
 BU e a w:=by
  rw[show (10000:Nat)=9999+1 from rfl]
  generalize 9999=q
  simp[Instr.checkKey,run_underlying hd,Result.andThen]
 find k w m es h:=by simp[Instr.findKey,run_underlying hd,Result.andThen,Ou k m es 0 h]
 stays k w:=by simp[Instr.keyThatStays,Instr.sameBits,W5]
theorem XM {T kt et:TypeId} {κ ν:Type} [DecidableEq κ] {ek:κ→Value} {ev:ν→Value} {z:ν} {v:Value} {k b:Nat} {a:Bool} (h:P.underlying T=some (.map kt et)) (K:Rh P kt ek) (F:ei P et k a b v) (hv:v=ev z):Hj P T ek ev z:=⟨kt,et,h,K,hv▸F.tU⟩
variable {κ ν:Type} [DecidableEq κ] {ek:κ→Value} {ev:ν→Value} {z:ν} {iv:ν→Prop}
variable {n:Nat} {ops:Array Oper} {f:aQ} {w:World} {K:aQ→World→Prop} {x y c:Operand} {d:Nat} {ty T:TypeId} {ps:String} {af:Array Edge} {M0:Nat→Prop} {w0:World} {l:List Item} {m:List (κ×ν)} {b:Nat}
theorem mmG (H:HI M0 w0 w l) (h:∀b w',Ext w w'→HI M0 w0 w' (CB ek ev iv b []::l)→K (cb f d (.map (some b))) w'):SO P n ops ⟨some d,.makeMap T none,ty,ps,af,none⟩ f w K:=
 SO.value (v:=.map (some w.heap.size)) (w':=w.alloc (.map #[] 0)) (by simp[execOp,run_makeMap]) (h _ _ (Ext.alloc w _)
  (H.new (Ext.alloc w _) w.heap.size rfl (anl _) (by simp) ⟨#[],0,heap_alloc_new w _,rfl,fun _ h=>(by cases h)⟩))
theorem abS {k:κ} {TZ:Bool} (F:Hj P T ek ev z) (hz:iv z) (H:HI M0 w0 w l) (i:Nat) (hi:l[i]? =some (CB ek ev iv b m)) (ox:bG n x=true) (oy:bG n y=true) (hx:Go.Ew.ev f x=.map (some b)) (hy:Go.Ew.ev f y=ek k)
  (h:iv ((fI m k).getD z)→K (cb f d (if TZ then .tuple #[ev ((fI m k).getD z),.bool (fI m k).isSome] else ev ((fI m k).getD z))) w):SO P n ops ⟨some d,.lookup T x y TZ,ty,ps,af,none⟩ f w K:=by
 obtain⟨kt,et,h1,h2,h3⟩:=F.h
 obtain⟨es,clock,g1,g2,g3⟩:=H.at_ i hi
 have hI:iv ((fI m k).getD z):=by
  cases hg:fI m k with
  |none=>exact hz
  |some v=>exact aac g3 hg
 refine SO.value (v:=if TZ then .tuple #[ev ((fI m k).getD z),.bool (fI m k).isSome] else ev ((fI m k).getD z)) (w':=w) ?_<|h hI
 have hf:=Jn ev m k 0
 have hr:=h2.find k w (mu ev m) es.toList g2
 simp only[execOp,aN ox,aN oy,hx,hy,Instr.lookup,Sem.run_bind,run_underlying h1,get_map g1,h2.BU,hr,Result.andThen_ok,Sem.run_pure]
 cases hq:nR (mu ev m) k 0 with
 |none=>
  have hg:fI m k=none:=by rw[hq] at hf;simpa using hf.symm
  simp[hq,hg,h3 w]
 |some p=>
  obtain⟨j,v⟩:=p
  rw[hq] at hf
  cases hg:fI m k with
  |none=>rw[hg] at hf;cases hf
  |some u=>
   rw[hg] at hf
   simp only[aoy,anx] at hf
   subst hf
   simp
theorem abO {dd:Option Nat} {k:κ} {v:ν} (F:Hj P T ek ev z) (H:HI M0 w0 w l) (i:Nat) (hi:l[i]? =some (CB ek ev iv b m)) (ox:bG n x=true) (oy:bG n y=true) (oc:bG n c=true) (hx:Go.Ew.ev f x=.map (some b)) (hy:Go.Ew.ev f y=ek k) (hc:Go.Ew.ev f c=ev v) (hv:iv v)
  (h:∀w',HI M0 w0 w' (l.set i (CB ek ev iv b (lJ m k v)))→K (cX f dd undef) w'):SO P n ops ⟨dd,.mapUpdate T x y c,ty,ps,af,none⟩ f w K:=by
 obtain⟨kt,et,h1,h2,h3⟩:=F.h
 obtain⟨es,clock,g1,g2,g3⟩:=H.at_ i hi
 have hr:=h2.find k w (mu ev m) es.toList g2
 have ep:b<w.heap.size:=(anQ.1 g1).1
 have fin:∀(o:Obj),(∀M w',w'.heap[b]? =some o→(CB ek ev iv b (lJ m k v)).holds M w')→
   HI M0 w0 {w with heap:=w.heap.setIfInBounds b o} (l.set i (CB ek ev iv b (lJ m k v))):=by
  intro o ho
  refine H.vB i hi J J J (by simp) (anl _) (fun q hq gH=>?_) (fun q hq=>?_)<|ho _ _ (AJ g1).1
  ·exact(AJ g1).2 q fun e=>gH (by rw[e];rfl)
  ·cases hq
   exact⟨by simpa using ep,.inl rfl⟩
 cases hq:nR (mu ev m) k 0 with
 |none=>
  refine SO.skip (w':={w with heap:=w.heap.setIfInBounds b (.map (es.push ⟨ek k,ev v,clock⟩) (clock+1))}) ?_ (h _<|fin _ ?_)
  ·simp[execOp,aN ox,aN oy,aN oc,hx,hy,hc,Instr.mapUpdate,run_underlying h1,get_map g1,h2.BU,hr,hq,DB _ g1]
  ·intro M w' hw
   exact⟨_,_,hw,by rw[Array.toList_push];exact GY ek ev m es.toList k 0 g2 hq clock v,Ob g3 k hv⟩
 |some p=>
  obtain⟨j,u⟩:=p
  obtain⟨q,e,I9,nw,Ej,Ei⟩:=GX ek ev m es.toList k 0 j u g2 hq
  obtain rfl:j=q:=by omega
  have he:es[j]? =some e:=by simpa using nw
  have hsb:(Instr.keyThatStays e.key (ek k)).run P w=.ok (ek k) w:=by rw[Ej];exact h2.stays k w
  refine SO.skip (w':={w with heap:=w.heap.setIfInBounds b (.map (es.modify j fun e=>{e with key:=ek k,val:=ev v}) clock)}) ?_ (h _<|fin _ ?_)
  ·simp[execOp,aN ox,aN oy,aN oc,hx,hy,hc,Instr.mapUpdate,run_underlying h1,get_map g1,h2.BU,hr,hq,he,hsb,DB _ g1]
  ·intro M w' hw
   exact⟨_,_,hw,by rw[Array.toList_modify];exact Ei v,Ob g3 k hv⟩
end
section
variable {P:Program} {n:Nat} {ops:Array Oper} {f:aQ} {w:World} {K:aQ→World→Prop} {x y c:Operand} {d:Nat} {dd:Option Nat} {ty T:TypeId} {ps:String} {af:Array Edge} {M0:Nat→Prop} {w0:World} {l:List Item} {b:Nat}
abbrev Re (P:Program) (T:TypeId):Prop:=Hj P T K2 Value.bool false
abbrev Rc (P:Program) (T:TypeId):Prop:=Hj P T (fun s=>Value.string s) (fun v=>Value.int .i64 v) (0:Int)
theorem mmP (H:HI M0 w0 w l) (h:∀b w',Ext w w'→HI M0 w0 w' (bS b []::l)→K (cb f d (.map (some b))) w'):SO P n ops ⟨some d,.makeMap T none,ty,ps,af,none⟩ f w K:=mmG H h
theorem mmS (H:HI M0 w0 w l) (h:∀b w',Ext w w'→HI M0 w0 w' (tc b []::l)→K (cb f d (.map (some b))) w'):SO P n ops ⟨some d,.makeMap T none,ty,ps,af,none⟩ f w K:=mmG H h
theorem ahS {m:List ((Int×Int)×Bool)} {k:Int×Int} (F:Re P T) (H:HI M0 w0 w l) (i:Nat) (hi:l[i]? =some (bS b m)) (ox:bG n x=true) (oy:bG n y=true) (hx:Go.Ew.ev f x=.map (some b)) (hy:Go.Ew.ev f y=K2 k)
  (h:K (cb f d (.bool ((fI m k).getD false))) w):SO P n ops ⟨some d,.lookup T x y false,ty,ps,af,none⟩ f w K:=abS (TZ:=false) F trivial H i hi ox oy hx hy fun _=>h
theorem ahR {m:List (ByteArray×Int)} {k:ByteArray} (F:Rc P T) (H:HI M0 w0 w l) (i:Nat) (hi:l[i]? =some (tc b m)) (ox:bG n x=true) (oy:bG n y=true) (hx:Go.Ew.ev f x=.map (some b)) (hy:Go.Ew.ev f y=.string k)
  (h:aM ((fI m k).getD 0)→K (cb f d (.tuple #[.int .i64 ((fI m k).getD 0),.bool (fI m k).isSome])) w):SO P n ops ⟨some d,.lookup T x y true,ty,ps,af,none⟩ f w K:=abS (TZ:=true) F (by unfold aM;omega) H i hi ox oy hx hy h
theorem ahQ {m:List ((Int×Int)×Bool)} {k:Int×Int} {v:Bool} (F:Re P T) (H:HI M0 w0 w l) (i:Nat) (hi:l[i]? =some (bS b m)) (ox:bG n x=true) (oy:bG n y=true) (oc:bG n c=true) (hx:Go.Ew.ev f x=.map (some b)) (hy:Go.Ew.ev f y=K2 k) (hc:Go.Ew.ev f c=.bool v)
  (h:∀w',HI M0 w0 w' (l.set i (bS b (lJ m k v)))→K (cX f dd undef) w'):SO P n ops ⟨dd,.mapUpdate T x y c,ty,ps,af,none⟩ f w K:=abO F H i hi ox oy oc hx hy hc trivial h
theorem ahP {m:List (ByteArray×Int)} {k:ByteArray} {v:Int} (F:Rc P T) (H:HI M0 w0 w l) (i:Nat) (hi:l[i]? =some (tc b m)) (ox:bG n x=true) (oy:bG n y=true) (oc:bG n c=true) (hx:Go.Ew.ev f x=.map (some b)) (hy:Go.Ew.ev f y=.string k) (hc:Go.Ew.ev f c=.int .i64 v) (hv:aM v)
  (h:∀w',HI M0 w0 w' (l.set i (tc b (lJ m k v)))→K (cX f dd undef) w'):SO P n ops ⟨dd,.mapUpdate T x y c,ty,ps,af,none⟩ f w K:=abO F H i hi ox oy oc hx hy hc hv h
end
end Go.Ew
namespace Go.Ew
section
variable {α σ:Type} (st:σ→α→Bool×σ)
def gh:σ→List α→List α×σ
 |s,[]=>([],s)
 |s,x::l=>if (st s x).1 then gh (st s x).2 l else (x::(gh (st s x).2 l).1,(gh (st s x).2 l).2)
theorem NJ (s:σ) (l r:List α):gh st s (l++r)=((gh st s l).1++(gh st (gh st s l).2 r).1,(gh st (gh st s l).2 r).2):=by
 induction l generalizing s with
 |nil=>simp[gh]
 |cons x l ih=>
  rw[apG,gh,gh]
  split
  ·exact ih _
  ·rw[ih];rfl
theorem Wz (s:σ) (x:α):gh st s [x]=if (st s x).1 then ([],(st s x).2) else ([x],(st s x).2):=by simp[gh]
theorem WA (s:σ) (l:List α):(gh st s l).1.length≤l.length:=by
 induction l generalizing s with
 |nil=>simp[gh]
 |cons x l ih=>
  rw[gh]
  split
  ·exact Nat.le_trans (ih _)<|aqx _
  ·simp only[iM];exact Nat.succ_le_succ (ih _)
theorem Wy (s:σ) (l:List α):∀x∈(gh st s l).1,x∈l∧∃s',(st s' x).1=false:=by
 induction l generalizing s with
 |nil=>intro x h;cases h
 |cons y l ih=>
  intro x h
  rw[gh] at h
  split at h
  ·obtain⟨h1,h2⟩:=ih _ x h;exact⟨anP _ h1,h2⟩
  ·rename_i hy
   rcases anC.1 h with rfl|h
   ·exact⟨by simp,s,by simpa using hy⟩
   ·obtain⟨h1,h2⟩:=ih _ x h;exact⟨anP _ h1,h2⟩
def Na (s:σ) (xs:List α) (ix:Int) (s':σ):Prop:=(ix= -1∧gh st s xs=(xs,s'))∨∃j:Nat,ix=((j:Nat):Int)∧j<xs.length∧gh st s (xs.take (j+1))=(xs.take j,s')
variable {st} {s s':σ} {xs ys:List α} {x:α} {j k:Nat} {q:Int}
theorem Wk:gh st s (xs.take 0)=(xs.take 0,s):=by simp[gh]
theorem DN (hx:xs[k]? =some x):gh st s (xs.take (k+1))=if (st (gh st s (xs.take k)).2 x).1 then ((gh st s (xs.take k)).1,(st (gh st s (xs.take k)).2 x).2) else ((gh st s (xs.take k)).1++[x],(st (gh st s (xs.take k)).2 x).2):=by
 rw[anZ,hx,NJ,show (some x).toList=[x] from rfl,Wz]
 split<;>simp
theorem aad (h:gh st s (xs.take j)=(xs.take j,s')) (hx:xs[((j:Nat):Int).toNat]? =some x) (hp:(st s' x).1=false):gh st s (xs.take (j+1))=(xs.take (j+1),(st s' x).2):=by
 rw[dv] at hx
 rw[DN hx,h]
 show (if (st s' x).1=true then _ else _)=_
 rw[anp (by rw[hp];decide),anZ,hx];rfl
theorem adD (h:gh st s (xs.take j)=(xs.take j,s')) (hj:j<xs.length) (hx:xs[((j:Nat):Int).toNat]? =some x) (hp:(st s' x).1=true):Na st s xs ((j:Nat):Int) (st s' x).2:=by
 rw[dv] at hx
 refine .inr ⟨j,J,hj,?_⟩
 rw[DN hx,h]
 show (if (st s' x).1=true then _ else _)=_
 rw[ann hp]
theorem adE (h:gh st s (xs.take j)=(xs.take j,s')) (hj:xs.length≤j):Na st s xs (-1) s':=by
 rw[ant hj] at h;exact .inl ⟨rfl,h⟩
def DS (st:σ→α→Bool×σ) (s:σ) (xs ys:List α) (q:Int) (k:Nat) (s':σ):Prop:=0≤q∧q<((k:Nat):Int)∧ys.length=xs.length∧gh st s (xs.take k)=(ys.take q.toNat,s')∧ys.drop k=xs.drop k
theorem O8 (h:Na st s xs q s') (hq:q= -1):gh st s xs=(xs,s'):=by
 rcases h with ⟨_,h⟩|⟨j,h,_⟩
 ·exact h
 ·omega
theorem Wu (h:Na st s xs q s') (hq:¬q= -1):q.toNat<xs.length∧DS st s xs xs q (q.toNat+1) s':=by
 rcases h with ⟨h,_⟩|⟨j,rfl,h1,h2⟩
 ·omega
 ·refine⟨by omega,by omega,by omega,J,?_,J⟩
  rw[dv];exact h2
theorem YM (h:DS st s xs ys q k s') (hx:ys[k]? =some x):xs[k]? =some x:=by
 have:=ani (fun l=>l[0]?) h.2.2.2.2
 simp only[an2,an0] at this
 rw[←this];exact hx
theorem aan (h:DS st s xs ys q k s') (hx:ys[((k:Nat):Int).toNat]? =some x) (hp:(st s' x).1=true):DS st s xs ys q (k+1) (st s' x).2:=by
 rw[dv] at hx
 have qa:=YM h hx
 obtain⟨h0,h1,h2,h3,h4⟩:=h
 refine⟨h0,by omega,h2,?_,?_⟩
 ·rw[DN qa,h3]
  show (if (st s' x).1=true then _ else _)=_
  rw[ann hp]
 ·rw[←aog,h4,aog]
theorem aam (h:DS st s xs ys q k s') (hx:ys[((k:Nat):Int).toNat]? =some x) (hp:(st s' x).1=false):DS st s xs (ys.set q.toNat x) (q+1) (k+1) (st s' x).2:=by
 rw[dv] at hx
 have qa:=YM h hx
 have hk:=(dC.1 hx).1
 obtain⟨h0,h1,h2,h3,h4⟩:=h
 refine⟨by omega,by omega,by rw[anj];exact h2,?_,?_⟩
 ·rw[DN qa,h3]
  show (if (st s' x).1=true then _ else _)=_
  rw[anp (by rw[hp];decide),show (q+1).toNat=q.toNat+1 from by omega,anZ,List.take_set_of_le (anl _),anB aq]
  rfl
 ·rw[List.drop_set_of_lt aq,←aog,h4,aog]
theorem TT (h:DS st s xs ys q k s') (hk:xs.length≤k) (Aa:k≤xs.length) (r:List α):(ys.take q.toNat++r).take q.toNat=(gh st s xs).1∧s'=(gh st s xs).2:=by
 obtain⟨h0,h1,h2,h3,h4⟩:=h
 rw[ant hk] at h3
 rw[h3]
 exact⟨by rw[aoI (by simp;omega),aoO,Nat.min_self],J⟩
end
def eT (n:Int) (rs:Rows) (kp:List Int) (met:List ((Int×Int)×Bool)) (e:dX):Bool×List ((Int×Int)×Bool):=
 bif (fI met (e.1,e.2.1)).getD false||(eF n rs e.1 e.2.1||!(kp.any fun z_=>decide (e.2.2=z_))) then (true,met) else (false,lJ met (e.1,e.2.1) true)
def gD (n:Int) (rs:Rows) (kp:List Int) (es:List dX):List dX:=(gh (eT n rs kp) [] es).1
theorem CY {n:Int} {rs:Rows} {kp:List Int} {es:List dX} {e:dX} (h:e∈gD n rs kp es):e∈es∧eF n rs e.1 e.2.1=false∧e.2.2∈kp:=by
 obtain⟨h1,s',h2⟩:=Wy _ _ _ e h
 refine⟨h1,?_⟩
 unfold eT at h2
 cases ha:(fI s' (e.1,e.2.1)).getD false<;>cases hb:eF n rs e.1 e.2.1<;>cases hc:(kp.any fun z_=>decide (e.2.2=z_))<;>simp[ha,hb,hc] at h2
 obtain⟨z,hz,hz2⟩:=anV.1 hc
 exact⟨J,by rw[show e.2.2=z by simpa using hz2];exact hz⟩
theorem Tu {n:Int} {rs:Rows} {kp:List Int} {es:List dX} (h:gD n rs kp es=[]) {e:dX} (he:e∈es) (hk:e.2.2∈kp):eF n rs e.1 e.2.1=true:=by
 have key:∀es:List dX,(gh (eT n rs kp) [] es).1=[]→∀e∈es,e.2.2∈kp→eF n rs e.1 e.2.1=true:=by
  intro es
  induction es with
  |nil=>intro _ e h;cases h
  |cons x l ih=>
   intro h e he hk
   rw[gh] at h
   split at h
   ·rename_i hx
    have hs:(eT n rs kp [] x).2=[]:=by
     unfold eT at hx ⊢
     cases hb:eF n rs x.1 x.2.1<;>cases hc:(kp.any fun z_=>decide (x.2.2=z_))<;>simp[fI,hb,hc] at hx ⊢
    rw[hs] at h
    rcases anC.1 he with rfl|he
    ·unfold eT at hx
     have hc:(kp.any fun z_=>decide (e.2.2=z_))=true:=anV.2 ⟨_,hk,by simp⟩
     cases hb:eF n rs e.1 e.2.1<;>simp[fI,hb,hc] at hx
     rfl
    ·exact ih h e he hk
   ·cases h
 exact key es h e he hk
theorem Tv (n:Int) (rs:Rows) (kp:List Int) (es:List dX):(gD n rs kp es).length≤es.length:=WA _ _ _
end Go.Ew
namespace Go.Ew
def lZ (n:Int) (rs:Rows) (l:List dX):Rows:=l.foldl (fun m e=>gU n m e.1 e.2.1) rs
def TrP (n:Nat) (p:Nat→Nat→Bool):Prop:=∀i j k,i<n→j<n→k<n→p i j=true→p j k=true→p i k=true
def TQ (es:List dX) (a b:Nat):Bool:=es.any fun e=>decide (e.1=((a:Nat):Int))&&decide (e.2.1=((b:Nat):Int))
def ot (n:Nat) (es:List dX):Prop:=∀e∈es,ko ((n:Nat):Int) [e.1,e.2.1]=true
theorem Q6 (n:Nat) (p:Nat→Nat→Bool):TrP n (cl n p):=fun i j k _ hj _ h1 h2=>xL hj h1 h2
theorem Bt {n:Int} {rs:Rows} {l:List dX} {e:dX}:lZ n rs (l++[e])=gU n (lZ n rs l) e.1 e.2.1:=by unfold lZ;rw[apg];rfl
theorem adW {n:Nat} {p q:Nat→Nat→Bool} {a b:Nat} (ha:a<n) (hb:b<n):cl n (fun x y=>cl n p x y||q x y) a b=cl n (fun x y=>p x y||q x y) a b:=by
 rw[anH,pI ha hb,pI ha hb]
 constructor
 ·intro h
  refine h.least (fun x y hx hy h=>?_) fun x y z _ _ _=>TC.trans
  rcases anv _ _▸h with h|h
  ·exact((pI hx hy).1 h).mono fun _ _ _ _ h=>by simp[h]
  ·exact .one hx hy (by simp[h])
 ·intro h
  refine h.mono fun x y hx hy h=>?_
  rcases anv _ _▸h with h|h
  ·simp[vh h]
  ·simp[h]
theorem MY {n:Nat} {p:Nat→Nat→Bool} (h:TrP n p):∀{es:List dX},ot n es→lZ ((n:Nat):Int) (cE n p) es=cE n (cl n fun a b=>p a b||TQ es a b):=by
 have key:∀(k:Nat) (es:List dX),es.length=k→ot n es→lZ ((n:Nat):Int) (cE n p) es=cE n (cl n fun a b=>p a b||TQ es a b):=by
  intro k
  induction k with
  |zero=>
   intro es hl _
   rw[aok.1 hl]
   refine dA fun a b ha hb=>?_
   rw[anH,pI ha hb]
   constructor
   ·intro h;exact .one ha hb (by simp[h])
   ·intro k
    refine k.least (ai:=fun x y=>p x y=true) (fun x y _ _ h=>by simpa [TQ] using h) fun x y z hx hy hz=>h x y z hx hy hz
  |succ k ih=>
   intro es hl BM
   obtain⟨l,e,rfl⟩:∃l e,es=l++[e]:=⟨es.dropLast,es.getLast (by intro h;rw[h] at hl;simp at hl),(List.dropLast_concat_getLast _).symm⟩
   have hi:=BM e<|by simp
   have hr:=jh.1 hi
   rw[Bt,ih l (by simpa using hl) (fun x hx=>BM x (by simp[hx])),Ra hi (Q6 n _)]
   refine dA fun a b ha hb=>?_
   rw[adW ha hb]
   refine FI (fun x y _ _=>?_) ha hb
   rw[Bool.or_assoc]
   congr 1
   unfold TQ
   rw[List.any_append]
   congr 1
   simp only[List.any_cons,List.any_nil,aoN]
   rw[anH]
   simp only[eI,ank]
   omega
 intro es BM
 exact key _ es J BM
theorem zr {n:Nat} {rs:Rows} {es:List dX} (h:bF ((n:Nat):Int) rs=true) (BM:ot n es):bF ((n:Nat):Int) (lZ ((n:Nat):Int) rs es)=true:=by
 have key:∀(k:Nat) (es:List dX),es.length=k→ot n es→bF ((n:Nat):Int) (lZ ((n:Nat):Int) rs es)=true:=by
  intro k
  induction k with
  |zero=>intro es hl _;rw[aok.1 hl];exact h
  |succ k ih=>
   intro es hl BM
   obtain⟨l,e,rfl⟩:∃l e,es=l++[e]:=⟨es.dropLast,es.getLast (by intro h;rw[h] at hl;simp at hl),(List.dropLast_concat_getLast _).symm⟩
   rw[Bt]
   have:=NP (i:=e.1) (j:=e.2.1)<|ih l (by simpa using hl)<|fun x hx=>BM x<|by simp[hx]
   unfold ie at this
   rwa [ann (BM e (by simp))] at this
 exact key _ es J BM
def My (n:Nat) (p:Nat→Nat→Bool):Nat:=(List.range (n*n)).countP fun k=>p (k/n) (k%n)
theorem aay (n:Nat) (p:Nat→Nat→Bool):My n p≤n*n:=by
 unfold My;exact Nat.le_trans List.countP_le_length (by simp)
theorem Js {α:Type} {p q:α→Bool}:∀{l:List α},(∀x∈l,p x=true→q x=true)→(∃x∈l,p x=false∧q x=true)→l.countP p<l.countP q
 |[],_,h=>by obtain⟨x,hx,_⟩:=h;cases hx
 |a::l,h,⟨x,hx,h1,h2⟩=>by
  have hm:l.countP p≤l.countP q:=List.countP_mono_left fun y hy=>h y (by simp[hy])
  rw[List.countP_cons,List.countP_cons]
  rcases anC.1 hx with rfl|hx
  ·rw[h1,h2];simp;omega
  ·have ih:=Js (l:=l) (fun y hy=>h y<|by simp[hy]) ⟨x,hx,h1,h2⟩
   have:=h a<|by simp
   cases hp:p a<;>cases hq:q a<;>simp_all<;>omega
theorem aax {n:Nat} {p q:Nat→Nat→Bool} (h:∀a b,a<n→b<n→p a b=true→q a b=true) {a b:Nat} (ha:a<n) (hb:b<n) (h1:p a b=false) (h2:q a b=true):My n p<My n q:=by
 have hn:0<n:=by omega
 refine Js (fun k hk hp=>h _ _ ?_ (Nat.mod_lt _ hn) hp) ⟨a*n+b,?_,?_,?_⟩
 ·exact(Nat.div_lt_iff_lt_mul hn).2 (ano.1 hk)
 ·rw[ano]
  calc a*n+b<a*n+n:=by omega
   _=(a+1)*n:=by rw[an',Nat.one_mul]
   _≤n*n:=aom _ ha
 ·rw[show (a*n+b)/n=a by rw[apR,Nat.mul_add_div hn,apA hb,an0],show (a*n+b)%n=b by rw[apR,Nat.mul_add_mod,apz hb]];exact h1
 ·rw[show (a*n+b)/n=a by rw[apR,Nat.mul_add_div hn,apA hb,an0],show (a*n+b)%n=b by rw[apR,Nat.mul_add_mod,apz hb]];exact h2
structure Nb (I:List aI) (U:List Int) (p:Nat→Nat→Prop) (a b r:Nat):Prop where
 a1:a<I.length
 r1:r<I.length
 fr:U[r]? =some ((b:Nat):Int)
 ne:a≠b
 wr:iJ I (ql I ((b:Nat):Int)) ((a:Nat):Int)=false
 ah:p a r
theorem Bi {I:List aI} {U:List Int} {p:Nat→Nat→Bool} (eu:U.length=I.length) {e:dX} (h:Xg I U ((I.length:Nat):Int) (cE I.length p) e):∃a b r:Nat,e=(((a:Nat):Int),((b:Nat):Int),((r:Nat):Int))∧Nb I U (fun x y=>p x y=true) a b r:=by
 obtain⟨a,b,r⟩:=e
 obtain⟨r0,r1,fr,w0,ne,ah⟩:=h
 simp only at r0 r1 fr w0 ne ah
 unfold aY at ah
 rw[anD] at ah
 obtain⟨ah,wr⟩:=ah
 unfold eQ at ah
 rw[ann aq,wE,dv] at ah
 obtain⟨k,hk,hp,rfl⟩:=ah
 refine⟨k,b.toNat,r.toNat,by rw[show ((b.toNat:Nat):Int)=b by omega,show ((r.toNat:Nat):Int)=r by omega],hk,by omega,by rw[fr];congr 1;omega,fun e=>ne aq,?_,?_⟩
 ·rw[show ((b.toNat:Nat):Int)=b by omega];simpa using wr
 ·rw[jA hk aq] at hp;exact hp
theorem O4 {I:List aI} {U:List Int} {p:Nat→Nat→Bool} (eu:U.length=I.length) {a b r:Nat} (h:Nb I U (fun x y=>p x y=true) a b r):Xg I U ((I.length:Nat):Int) (cE I.length p) (((a:Nat):Int),((b:Nat):Int),((r:Nat):Int)):=by
 obtain⟨a1,r1,fr,ne,wr,ah⟩:=h
 refine⟨by simp only;omega,by simp only;omega,by simpa using fr,by simp only;omega,by simp only;omega,?_⟩
 simp only
 unfold aY
 rw[anD]
 refine⟨?_,by rw[wr];rfl⟩
 unfold eQ
 rw[ann aq,wE,dv]
 exact⟨a,a1,by rw[dv,jA a1 r1];exact ah,J⟩
theorem DU {I:List aI} {U:List Int} {p:Nat→Nat→Bool} {es:List dX} (eu:U.length=I.length) (fG:∀x∈U,x<((I.length:Nat):Int)) (h:Dv I U ((I.length:Nat):Int) (cE I.length p) es):ot I.length es:=by
 intro e he
 obtain⟨a,b,r,rfl,k⟩:=Bi eu ((h.2 e).1 he)
 have:=fG _<|dB k.fr
 have:=k.a1
 exact jh.2<|by simp only;omega
structure Pu (I:List aI) (U:List Int) (o:Int) (ai:Nat→Nat→Prop):Prop where
 base:∀a b,a<I.length→b<I.length→pH I U a b=true→((a:Nat):Int)∈bL ((I.length:Nat):Int) (cp I U) o→((b:Nat):Int)∈bL ((I.length:Nat):Int) (cp I U) o→ai a b
 trans:∀a b c,a<I.length→b<I.length→c<I.length→ai a b→ai b c→ai a c
 PM:∀a b r,((r:Nat):Int)∈kX I o→Nb I U ai a b r→ai a b
noncomputable def BB (I:List aI) (U:List Int) (o:Int) (a b:Nat):Bool:=@decide (∀ai,Pu I U o ai→ai a b) (Classical.propDecidable _)
noncomputable def cU (I:List aI) (U:List Int) (o:Int):Rows:=cE I.length (BB I U o)
theorem pN {I:List aI} {U:List Int} {o:Int} {a b:Nat}:BB I U o a b=true↔∀ai,Pu I U o ai→ai a b:=by unfold BB;exact @decide_eq_true_iff _ (Classical.propDecidable _)
theorem aba (I:List aI) (U:List Int) (o:Int):Pu I U o (fun a b=>BB I U o a b=true) where
 base a b ha hb hc h1 h2:=pN.2 fun ai hR=>hR.base a b ha hb hc h1 h2
 trans a b c ha hb hc h1 h2:=pN.2 fun ai hR=>hR.trans a b c ha hb hc (pN.1 h1 ai hR) (pN.1 h2 ai hR)
 PM a b r hr h:=pN.2 fun ai hR=>hR.PM a b r hr ⟨h.a1,h.r1,h.fr,h.ne,h.wr,pN.1 h.ah ai hR⟩
structure SnQ (I:List aI) (U:List Int) (o:Int) (p:Nat→Nat→Bool):Prop where
 tr:TrP I.length p
 base:∀a b,a<I.length→b<I.length→pH I U a b=true→((a:Nat):Int)∈bL ((I.length:Nat):Int) (cp I U) o→((b:Nat):Int)∈bL ((I.length:Nat):Int) (cp I U) o→p a b=true
 le:∀ai,Pu I U o ai→∀a b,a<I.length→b<I.length→p a b=true→ai a b
def JA (I:List aI) (U:List Int) (o:Int) (n:Int) (rs:Rows):Prop:=n=((I.length:Nat):Int)∧∃p,rs=cE I.length p∧SnQ I U o p
def Ie (I:List aI) (rs:Rows):Nat:=My I.length (fW rs)
section
variable {I:List aI} {U:List Int} {o n:Int} {rs:Rows} {es:List dX}
theorem US (I:List aI) (U:List Int) (o:Int):JA I U o ((I.length:Nat):Int) (gi ((I.length:Nat):Int) (cp I U) (bL ((I.length:Nat):Int) (cp I U) o)):=by
 have hm:∀a b,a<I.length→b<I.length→(NT (fW (cp I U)) (bL ((I.length:Nat):Int) (cp I U) o) a b=true↔pH I U a b=true∧((a:Nat):Int)∈bL ((I.length:Nat):Int) (cp I U) o∧((b:Nat):Int)∈bL ((I.length:Nat):Int) (cp I U) o):=by
  intro a b ha hb
  unfold NT
  rw[show fW (cp I U) a b=pH I U a b from jA ha hb]
  simp only[eI,ank]
 refine⟨J,_,by unfold gi;rw[dv],?_,?_,?_⟩
 ·intro i j k hi hj hk h1 h2
  obtain⟨a1,a2,a3⟩:=(hm i j hi hj).1 h1
  obtain⟨b1,b2,b3⟩:=(hm j k hj hk).1 h2
  exact(hm i k hi hk).2 ⟨xL hj a1 b1,a2,b3⟩
 ·intro a b ha hb h1 h2 h3
  exact(hm a b ha hb).2 ⟨h1,h2,h3⟩
 ·intro ai hR a b ha hb h
  obtain⟨h1,h2,h3⟩:=(hm a b ha hb).1 h
  exact hR.base a b ha hb h1 h2 h3
theorem KQ (h:JA I U o n rs) (hn:I.length≤4096):bF n rs=true:=by
 obtain⟨rfl,p,rfl,_⟩:=h;exact lD hn
theorem Xx (h:JA I U o n rs) (eu:U.length=I.length) (fG:∀x∈U,x<((I.length:Nat):Int)) (he:Dv I U n rs es) {kp:List Int}:ot I.length (gD n rs kp es):=by
 obtain⟨rfl,p,rfl,_⟩:=h
 exact fun e hm=>DU eu fG he e (CY hm).1
theorem Zo (h:JA I U o n rs) (eu:U.length=I.length) (fG:∀x∈U,x<((I.length:Nat):Int)) (he:Dv I U n rs es):
  JA I U o n (lZ n rs (gD n rs (kX I o) es))∧(gD n rs (kX I o) es≠[]→Ie I rs<Ie I (lZ n rs (gD n rs (kX I o) es))):=by
 have sr:=Xx h eu fG he (kp:=kX I o)
 obtain⟨rfl,p,rfl,q⟩:=h
 rw[MY q.tr sr]
 refine⟨⟨J,_,J,Q6 _ _,?_,?_⟩,?_⟩
 ·intro a b ha hb h1 h2 h3
  exact vh<|by simp[q.base a b ha hb h1 h2 h3]
 ·intro ai hR a b ha hb h
  refine((pI ha hb).1 h).least (fun x y hx hy hp=>?_) fun x y z hx hy hz=>hR.trans x y z hx hy hz
  rcases anv _ _▸hp with hp|hp
  ·exact q.le ai hR x y hx hy hp
  ·obtain⟨e,S',yB⟩:=anV.1 hp
   obtain⟨m1,m2,m3⟩:=CY S'
   obtain⟨a',b',r',rfl,k⟩:=Bi eu ((he.2 e).1 m1)
   simp only[eI,ank] at yB
   obtain⟨e1,e2⟩:=yB
   obtain rfl:a'=x:=by omega
   obtain rfl:b'=y:=by omega
   exact hR.PM a' b' r' m3 ⟨k.a1,k.r1,k.fr,k.ne,k.wr,q.le ai hR a' r' k.a1 k.r1 k.ah⟩
 ·intro gH
  obtain⟨e,S'⟩:=List.exists_mem_of_ne_nil _ gH
  obtain⟨m1,m2,m3⟩:=CY S'
  have hi:=sr e S'
  obtain⟨a',b',r',rfl,k⟩:=Bi eu ((he.2 e).1 m1)
  have hr:=jh.1 hi
  simp only at hr m2
  have hb:b'<I.length:=by omega
  rw[um k.a1 hb] at m2
  unfold Ie
  refine aax (a:=a') (b:=b') (fun a b ha hb h=>?_) k.a1 hb ?_ ?_
  ·rw[jA ha hb] at h ⊢
   exact vh<|by simp[h]
  ·rw[jA k.a1 hb];exact m2
  ·rw[jA k.a1 hb]
   refine vh ?_
   rw[anv]
   exact .inr (anV.2 ⟨_,S',by simp⟩)
theorem aa' (h:JA I U o n rs) (eu:U.length=I.length) (fG:∀x∈U,x<((I.length:Nat):Int)) (he:Dv I U n rs es) (hz:gD n rs (kX I o) es=[]):rs=cU I U o:=by
 obtain⟨rfl,p,rfl,q⟩:=h
 have hR:Pu I U o (fun a b=>p a b=true):=by
  refine⟨q.base,q.tr,fun a b r hr k=>?_⟩
  have hb:=fG _<|dB k.fr
  have hh:=Tu hz ((he.2 _).2 (O4 eu k)) hr
  simp only at hh
  rw[um k.a1 aq] at hh
  exact hh
 refine dA fun a b ha hb=>?_
 rw[anH,pN]
 exact⟨fun h ai hR=>q.le ai hR a b ha hb h,fun h=>h _ hR⟩
theorem KS (rs:Rows) (I:List aI):Ie I rs≤I.length*I.length:=aay _ _
end
theorem A8 {I:List aI} (h:gX I) (hn:I.length≤64) {o:Int} (ho:0≤o∧o<((I.length:Nat):Int)):(aY (fJ I) (cw I o)).length≤64:=by
 unfold aY
 refine Nat.le_trans (aoj _ _) ?_
 unfold cw
 rw[ann ho,anW,apf]
 have h1:=Sf h ho.1 ho.2
 unfold cw at h1
 rw[ann ho,anW,apf] at h1
 have h2:=(gX.back h o.toNat aq).1
 omega
theorem Bu {n n2:Int} {rs m2:Rows} {l:List dX} {q:Nat} {x:dX} (h:n2=n∧m2=lZ n rs (l.take q)) (hx:l[((q:Nat):Int).toNat]? =some x) (hi:ko n [x.1,x.2.1]=true):
  ie n2 x.1 x.2.1=n∧gU n2 m2 x.1 x.2.1=lZ n rs (l.take (q+1)):=by
 obtain⟨rfl,rfl⟩:=h
 rw[dv] at hx
 refine⟨by unfold ie;rw[ann hi],?_⟩
 rw[anZ,hx,show (some x).toList=[x] from rfl,Bt]
theorem aa_ {I:List aI} {U:List Int} {o n n2:Int} {rs m2:Rows} {l:List dX} {q:Nat} (h:JA I U o n rs) (hn:I.length≤4096) (he:ot I.length l) (h2:n2=n∧m2=lZ n rs (l.take q)):bF n2 m2=true:=by
 obtain⟨rfl,rfl⟩:=h2
 have hr:=KQ h hn
 rw[h.1] at hr ⊢
 exact zr hr fun e Ta=>he e (aoB Ta)
theorem KR {I:List aI} {n:Int} {l:List dX} {x:dX} {q:Nat} (h:n=((I.length:Nat):Int)) (he:ot I.length l) (hx:l[((q:Nat):Int).toNat]? =some x):ko n [x.1,x.2.1]=true:=by
 rw[h];exact he x (dB hx)
end Go.Ew
namespace Go.Ew
abbrev vo:=Int×Int×Int×Int×Int
structure Uz (k r a b o:Int):Prop where
 k:aM k
 r:aM r
 a:aM a
 b:aM b
 o:aM o
def qg (x:Option vo) (k r a b o:Int):Prop:=Uz k r a b o∧∀y,x=some y→y=(k,r,a,b,o)
theorem tT {x:Option vo} {k r a b o:Int} (h:x=none) (i:Uz k r a b o):qg x k r a b o:=⟨i,fun y hy=>by rw[h] at hy;cases hy⟩
theorem zw {x:Option vo} {k r a b o:Int} (h:x=some (k,r,a,b,o)) (i:Uz k r a b o):qg x k r a b o:=⟨i,fun y hy=>by rw[h] at hy;exact(anm hy).symm⟩
section
variable (I:List aI) (U:List Int)
def oZ (kd:Int):Option vo:=if 0≤eA (fun z_=>decide ((-2)=z_)) U then some (kd,eA (fun z_=>decide ((-2)=z_)) U, -1, -1, -1) else none
def j8 (n:Int) (rs:Rows) (kd:Int):Option vo:=(cQ n rs).map fun i=>(kd, -1, -1, -1,((i:Nat):Int))
def pX (n:Int) (rs:Rows) (kd:Int):Option vo:=(Aj I U n rs).map fun r=>(kd,((r:Nat):Int),(dh I n rs ((r:Nat):Int)).headD 0, -1, -1)
def pY (n:Int) (rs:Rows) (kd:Int):Option vo:=(FL I U n rs).map fun r=>(kd,((r:Nat):Int),U.getD r 0,(zo I U n rs r).getD 0, -1)
noncomputable def EA (a b:Nat):Bool:=pH I U a b||@decide (∃r,Nb I U (fun x y=>pH I U x y=true) a b r) (Classical.propDecidable _)
noncomputable def Al:Rows:=cE I.length (cl I.length (EA I U))
def B9 (n:Int) (rs:Rows) (r:Int):Bool:=decide (U.getD r.toNat 0= -1)&&decide (0<(((dh I n rs r).length:Nat):Int))
def D6 (n:Int) (rs:Rows) (o:Int):Option Int:=(kX I o).find? (B9 I U n rs)
noncomputable def II (o:Nat):Bool:=(D6 I U ((I.length:Nat):Int) (cU I U ((o:Nat):Int)) ((o:Nat):Int)).isSome
noncomputable def IJ:Option Nat:=(List.range I.length).find? (II I U)
noncomputable def se (kd:Int):Option vo:=(IJ I U).map fun o=>(kd,(D6 I U ((I.length:Nat):Int) (cU I U ((o:Nat):Int)) ((o:Nat):Int)).getD 0,(dh I ((I.length:Nat):Int) (cU I U ((o:Nat):Int)) ((D6 I U ((I.length:Nat):Int) (cU I U ((o:Nat):Int)) ((o:Nat):Int)).getD 0)).headD 0, -1,((o:Nat):Int))
noncomputable def Xw (o:Nat):Bool:=(cQ ((I.length:Nat):Int) (cU I U ((o:Nat):Int))).isSome
noncomputable def IC:Option Nat:=(List.range I.length).find? (Xw I U)
noncomputable def sc (kd:Int):Option vo:=(IC I U).map fun o=>(kd, -1,(((cQ ((I.length:Nat):Int) (cU I U ((o:Nat):Int))).getD 0:Nat):Int), -1,((o:Nat):Int))
noncomputable def j9 (kd:Int):Option vo:=
 if kd=1 then oZ U kd else if kd=2 then j8 ((I.length:Nat):Int) (cp I U) kd else if kd=3 then pX I U ((I.length:Nat):Int) (cp I U) kd else if kd=4 then pY I U ((I.length:Nat):Int) (cp I U) kd
 else if kd=5 then j8 ((I.length:Nat):Int) (Al I U) kd else if kd=6 then se I U kd else sc I U kd
noncomputable def ik (lv:Int):Option vo:=(dQ lv).findSome? (j9 I U)
noncomputable def eP:List (Int×Rows):=(List.range I.length).map fun o=>(((I.length:Nat):Int),cU I U ((o:Nat):Int))
end
section
variable {I:List aI} {U:List Int}
theorem AL:(eP I U).length=I.length:=by unfold eP;simp
theorem N6 {j:Nat} {x:Int×Rows} (h:(eP I U)[((j:Nat):Int).toNat]? =some x):j<I.length∧x=(((I.length:Nat):Int),cU I U ((j:Nat):Int)):=by
 rw[dv] at h
 have hl:=(dC.1 h).1
 rw[AL] at hl
 unfold eP at h
 rw[anu,aoi hl] at h
 exact⟨hl,(anm h).symm⟩
theorem RP {j:Nat} (hj:j<I.length):(eP I U).take j++[(((I.length:Nat):Int),cU I U ((j:Nat):Int))]=(eP I U).take (j+1):=by
 have h:(eP I U)[j]? =some (((I.length:Nat):Int),cU I U ((j:Nat):Int)):=by unfold eP;rw[anu,aoi hj];rfl
 rw[anZ,h];rfl
theorem af6 {es:List dX} (eu:U.length=I.length) (fG:∀x∈U,x<((I.length:Nat):Int)) (h:Dv I U ((I.length:Nat):Int) (cp I U) es):lZ ((I.length:Nat):Int) (cp I U) es=Al I U:=by
 unfold cp at h ⊢
 rw[MY (p:=pH I U) (Q6 I.length (Mu I U)) (DU eu fG h)]
 unfold Al
 refine dA fun a b ha hb=>FI (fun x y hx hy=>?_) ha hb
 rw[anH]
 unfold EA TQ
 rw[anv,anv,anV,@decide_eq_true_iff _ (Classical.propDecidable _)]
 refine or_congr Iff.rfl ⟨?_,?_⟩
 ·rintro⟨e,he,h2⟩
  simp only[eI,ank] at h2
  obtain⟨a',b',r',rfl,k⟩:=Bi eu ((h.2 e).1 he)
  obtain rfl:a'=x:=by simp only at h2;omega
  obtain rfl:b'=y:=by simp only at h2;omega
  exact⟨r',k⟩
 ·rintro⟨r,k⟩
  exact⟨_,(h.2 _).2 (O4 eu k),by simp⟩
theorem aaf {α β:Type} {l:List α} {f:α→Option β} {j:Nat} {x:α} (hs:∀y∈l.take j,f y=none) (hx:l[((j:Nat):Int).toNat]? =some x) (h:f x=none):∀y∈l.take (j+1),f y=none:=by
 rw[dv] at hx
 intro y hy
 rw[anZ,hx] at hy
 rcases anK.1 hy with hy|hy
 ·exact hs y hy
 ·simp at hy;rw[hy];exact h
theorem aae {α β:Type} {l:List α} {f:α→Option β} {j:Nat} {x:α} {y:β} (hs:∀y∈l.take j,f y=none) (hx:l[((j:Nat):Int).toNat]? =some x) (h:f x=some y):l.findSome? f=some y:=by
 rw[dv] at hx
 have e:l=l.take j++x::l.drop (j+1):=by
  rw[←(dC.1 hx).2,ap1,aov]
 rw[e,List.findSome?_append,apH.2 hs,List.findSome?_cons,h];rfl
theorem adF {α β:Type} {l:List α} {f:α→Option β} {j:Nat} (hs:∀y∈l.take j,f y=none) (hj:l.length≤j):l.findSome? f=none:=by
 rw[ant hj] at hs
 exact apH.2 hs
theorem LH {lv x:Int} (h:x∈dQ lv):x=1∨x=2∨x=3∨x=4∨x=5∨x=6∨x=7:=by
 unfold dQ at h
 cases h1:decide (lv=1)<;>cases h2:decide (lv=2)<;>cases h3:decide (lv=3)<;>simp[h1,h2,h3] at h<;>omega
end
theorem rp:aM (-1):=by unfold aM;omega
theorem Fi:aM 0:=by unfold aM;omega
theorem HO {j:Nat} (h:j≤9223372036854775807):aM ((j:Nat):Int):=by unfold aM;omega
theorem NU:Uz 0 0 0 0 0:=⟨Fi,Fi,Fi,Fi,Fi⟩
section
variable {I:List aI} {U:List Int} {n kd:Int} {rs:Rows} {j:Nat} {x a:Int}
theorem wiN (h:aM kd):Uz kd (-1) (-1) (-1) (-1):=⟨h,rp,rp,rp,rp⟩
theorem NY:decide (0≤eA (fun z_=>decide ((-2)=z_)) U)=(oZ U kd).isSome:=by
 unfold oZ;split<;>simp_all
theorem aa5 (hk:aM kd) (hl:U.length≤9223372036854775807):qg (oZ U kd) kd (eA (fun z_=>decide ((-2)=z_)) U) (-1) (-1) (-1):=by
 have h:=wm (p:=fun z_=>decide ((-2)=z_)) (r:=U)
 refine⟨⟨hk,by unfold aM;omega,rp,rp,rp⟩,fun y hy=>?_⟩
 unfold oZ at hy
 split at hy
 ·exact(anm hy).symm
 ·cases hy
theorem Cd:(cQ n rs).isSome=(j8 n rs kd).isSome:=by unfold j8;simp
theorem LB {i:Nat} (h:cQ n rs=some i):i<n.toNat:=by
 unfold cQ at h;exact ano.1 (apM h)
theorem PQ (hk:aM kd) (hn:n≤9223372036854775807) (h:(cQ n rs).isSome=true):qg (j8 n rs kd) kd (-1) (-1) (-1) (((cQ n rs).getD 0:Nat):Int):=by
 obtain⟨i,hi⟩:=anJ.1 h
 have hl:=LB hi
 unfold j8
 rw[hi]
 exact zw J ⟨hk,rp,rp,rp,HO (by simp only[apy];omega)⟩
theorem PS (hk:aM kd) (h:(cQ n rs).isSome=false):qg (j8 n rs kd) kd (-1) (-1) (-1) (-1):=
 tT (by unfold j8;cases e:cQ n rs<;>simp_all) (wiN hk)
theorem adN (h:Aj I U n rs=some j):true=(pX I U n rs kd).isSome:=by unfold pX;rw[h];rfl
theorem TP (h:Aj I U n rs=none):pX I U n rs kd=none:=by unfold pX;rw[h];rfl
theorem af5 (hk:aM kd) (h:Aj I U n rs=some j) (hj:j≤9223372036854775807) (hx:(dh I n rs ((j:Nat):Int))[(0:Int).toNat]? =some x) (ix:aM x):qg (pX I U n rs kd) kd ((j:Nat):Int) x (-1) (-1):=by
 refine zw ?_ ⟨hk,HO hj,ix,rp,rp⟩
 unfold pX;rw[h];show some (kd,_,(dh I n rs ((j:Nat):Int)).headD 0,_,_)=_
 rw[Ma hx]
theorem ad7 (h:FL I U n rs=some j):true=(pY I U n rs kd).isSome:=by unfold pY;rw[h];rfl
theorem Ua (h:FL I U n rs=none):pY I U n rs kd=none:=by unfold pY;rw[h];rfl
theorem af7 (hk:aM kd) (h:FL I U n rs=some j) (hb:zo I U n rs j=some x) (ha:U.getD j 0=a) (hj:j≤9223372036854775807) (ia:aM a) (ix:aM x):qg (pY I U n rs kd) kd ((j:Nat):Int) a x (-1):=by
 refine zw ?_ ⟨hk,HO hj,ia,ix,rp⟩
 unfold pY;rw[h];show some (kd,_,U.getD j 0,(zo I U n rs j).getD 0,_)=_
 rw[hb,ha];rfl
end
theorem MX {I:List aI} {n r:Int} {rs:Rows} {k:Nat} {x:Int} (h:bF n rs=true) (hx:(dh I n rs r)[k]? =some x):aM x:=by
 have hm:=dB hx
 unfold dh aY at hm
 have hm:=(anD.1 hm).1
 unfold eQ at hm
 split at hm
 ·obtain⟨k,hk,_,rfl⟩:=wE.1 hm
  have:=(bO h).2.2.1
  unfold aM;omega
 ·cases hm
section
variable {I:List aI} {U:List Int} {cn n2 kd:Int} {cr m2:Rows} {es:List dX} {q:Nat}
theorem YQ (eu:U.length=I.length) (fG:∀x∈U,x<((I.length:Nat):Int)) (oe:cn=((I.length:Nat):Int)) (pC:cr=cp I U) (h:Dv I U cn cr es):ot I.length es:=by
 subst oe pC;exact DU eu fG h
theorem T4 (hn:I.length≤4096) (oe:cn=((I.length:Nat):Int)) (pC:cr=cp I U) (he:ot I.length es) (h2:n2=cn∧m2=lZ cn cr (es.take q)):bF n2 m2=true:=by
 obtain⟨rfl,rfl⟩:=h2
 subst oe pC
 exact zr (pj U hn) fun e Ta=>he e (aoB Ta)
theorem adY (eu:U.length=I.length) (fG:∀x∈U,x<((I.length:Nat):Int)) (oe:cn=((I.length:Nat):Int)) (pC:cr=cp I U) (h:Dv I U cn cr es) (h2:n2=cn∧m2=lZ cn cr (es.take q)) (hq:es.length≤q):n2=((I.length:Nat):Int)∧m2=Al I U:=by
 obtain⟨rfl,rfl⟩:=h2
 subst oe pC
 rw[ant hq]
 exact⟨J,af6 eu fG h⟩
theorem N7 {N:Int} {ai:Rows} (h:n2=N∧m2=ai):(cQ n2 m2).isSome=(j8 N ai kd).isSome:=by obtain⟨rfl,rfl⟩:=h;exact Cd
theorem abp {N:Int} {ai:Rows} (h:n2=N∧m2=ai) (hk:aM kd) (hn:N≤9223372036854775807) (h1:(cQ n2 m2).isSome=true):qg (j8 N ai kd) kd (-1) (-1) (-1) (((cQ n2 m2).getD 0:Nat):Int):=by obtain⟨rfl,rfl⟩:=h;exact PQ hk hn h1
theorem abq {N:Int} {ai:Rows} (h:n2=N∧m2=ai) (hk:aM kd) (h1:(cQ n2 m2).isSome=false):qg (j8 N ai kd) kd (-1) (-1) (-1) (-1):=by obtain⟨rfl,rfl⟩:=h;exact PS hk h1
end
end Go.Ew
namespace Go.Ew
section
variable {α:Type} {l:List α} {p:α→Bool} {j:Nat} {x:α}
theorem YH (hs:∀y∈l.take j,p y=false) (hx:l[((j:Nat):Int).toNat]? =some x) (h:p x=false):∀y∈l.take (j+1),p y=false:=by
 rw[dv] at hx
 intro y hy
 rw[anZ,hx] at hy
 rcases anK.1 hy with hy|hy
 ·exact hs y hy
 ·simp at hy;rw[hy];exact h
theorem adH (hs:∀y∈l.take j,p y=false) (hx:l[((j:Nat):Int).toNat]? =some x) (h:p x=true):l.find? p=some x:=by
 rw[dv] at hx
 have e:l=l.take j++x::l.drop (j+1):=by
  rw[←(dC.1 hx).2,ap1,aov]
 rw[e,List.find?_append,aoL.2 (fun y hy=>by rw[hs y hy];exact apU),List.find?_cons,h];rfl
theorem Z0 {l:List Int} {p:Int→Bool} {j:Nat} {x:Int} (h:(aY p l)[((j:Nat):Int).toNat]? =some x):∃q:Nat,l[q]? =some x:=by
 have h1:=dB h
 unfold aY at h1
 exact apj (anD.1 h1).1
theorem adI (hs:∀y∈l.take j,p y=false) (hj:l.length≤j):l.find? p=none:=by
 rw[ant hj] at hs
 exact aoL.2 fun y hy=>by rw[hs y hy];exact apU
end
section
variable {I:List aI} {U:List Int} {kd:Int} {j:Nat} {r y x:Int} {X:Int×Rows}
theorem F2 (hn:I.length≤64) (hj:j<I.length):bF ((I.length:Nat):Int) (cU I U ((j:Nat):Int))=true:=by
 unfold cU;exact lD aq
theorem Zp (h:(kX I ((j:Nat):Int)).find? (B9 I U ((I.length:Nat):Int) (cU I U ((j:Nat):Int)))=none):II I U j=false:=by
 unfold II D6;rw[h];rfl
theorem abe (h:(kX I ((j:Nat):Int)).find? (B9 I U ((I.length:Nat):Int) (cU I U ((j:Nat):Int)))=some r):II I U j=true:=by
 unfold II D6;rw[h];rfl
theorem ae2 (h:IJ I U=some j):true=(se I U kd).isSome:=by unfold se;rw[h];rfl
theorem Xy (h:IJ I U=none):se I U kd=none:=by unfold se;rw[h];rfl
theorem ahJ (hk:aM kd) (h:IJ I U=some j) (h2:(kX I ((j:Nat):Int)).find? (B9 I U ((I.length:Nat):Int) (cU I U ((j:Nat):Int)))=some r) (hj:j≤9223372036854775807) (hr:aM r)
  (hx:(dh I ((I.length:Nat):Int) (cU I U ((j:Nat):Int)) r)[(0:Int).toNat]? =some x) (ix:aM x):qg (se I U kd) kd r x (-1) ((j:Nat):Int):=by
 refine zw ?_ ⟨hk,hr,ix,rp,HO hj⟩
 unfold se;rw[h]
 have e:D6 I U ((I.length:Nat):Int) (cU I U ((j:Nat):Int)) ((j:Nat):Int)=some r:=h2
 show some (kd,(D6 I U ((I.length:Nat):Int) (cU I U ((j:Nat):Int)) ((j:Nat):Int)).getD 0,(dh I ((I.length:Nat):Int) (cU I U ((j:Nat):Int)) ((D6 I U ((I.length:Nat):Int) (cU I U ((j:Nat):Int)) ((j:Nat):Int)).getD 0)).headD 0,_,_)=_
 rw[e]
 show some (kd,r,(dh I ((I.length:Nat):Int) (cU I U ((j:Nat):Int)) r).headD 0,_,_)=_
 rw[Ma hx]
theorem aeS (h:IC I U=some j):true=(sc I U kd).isSome:=by unfold sc;rw[h];rfl
theorem Xv (h:IC I U=none):sc I U kd=none:=by unfold sc;rw[h];rfl
theorem ahD (hk:aM kd) (h:IC I U=some j) (hj:j<I.length) (hn:I.length≤64) (h2:(cQ ((I.length:Nat):Int) (cU I U ((j:Nat):Int))).isSome=true):
  qg (sc I U kd) kd (-1) (((cQ ((I.length:Nat):Int) (cU I U ((j:Nat):Int))).getD 0:Nat):Int) (-1) ((j:Nat):Int):=by
 obtain⟨i,hi⟩:=anJ.1 h2
 have hl:=LB hi
 refine zw ?_ ⟨hk,rp,HO (by rw[hi,apy];omega),rp,HO aq⟩
 unfold sc;rw[h];rfl
end
section
variable {I:List aI} {U:List Int} {lv x:Int} {j:Nat} {P:Option vo} {k r a b o:Int}
theorem Vn:j9 I U 1=oZ U 1:=by unfold j9;exact ann rfl
theorem Vm:j9 I U 2=j8 ((I.length:Nat):Int) (cp I U) 2:=by unfold j9;rw[anp aw];exact ann rfl
theorem Vl:j9 I U 3=pX I U ((I.length:Nat):Int) (cp I U) 3:=by unfold j9;rw[anp aw,anp aw];exact ann rfl
theorem Vk:j9 I U 4=pY I U ((I.length:Nat):Int) (cp I U) 4:=by unfold j9;rw[anp aw,anp aw,anp aw];exact ann rfl
theorem Vj:j9 I U 5=j8 ((I.length:Nat):Int) (Al I U) 5:=by unfold j9;rw[anp aw,anp aw,anp aw,anp aw];exact ann rfl
theorem Vi:j9 I U 6=se I U 6:=by unfold j9;rw[anp aw,anp aw,anp aw,anp aw,anp aw];exact ann rfl
theorem Vh:j9 I U 7=sc I U 7:=by unfold j9;rw[anp aw,anp aw,anp aw,anp aw,anp aw];exact anp aw
theorem AS (hs:∀y∈(dQ lv).take j,j9 I U y=none) (hx:(dQ lv)[((j:Nat):Int).toNat]? =some x) (e:j9 I U x=P) (h:P.isSome=false):∀y∈(dQ lv).take (j+1),j9 I U y=none:=
 aaf hs hx (by rw[e];cases P<;>simp_all)
theorem nO (hs:∀y∈(dQ lv).take j,j9 I U y=none) (hx:(dQ lv)[((j:Nat):Int).toNat]? =some x) (e:j9 I U x=P) (h:P.isSome=true):ik I U lv=P:=by
 obtain⟨y,rfl⟩:=anJ.1 h
 exact aae hs hx e
theorem Oc (hs:∀y∈(dQ lv).take j,j9 I U y=none) (h:(dQ lv).length≤j):ik I U lv=none:=adF hs h
noncomputable def eZ (I:List aI) (U:List Int) (lv:Int):Int:=if (ik I U lv).isSome=true then 0 else 8
theorem r9 (e:ik I U lv=P) (h:P.isSome=true):0=eZ I U lv:=by unfold eZ;rw[ann (by rw[e];exact h)]
theorem aaw (e:ik I U lv=none):8=eZ I U lv:=by unfold eZ;rw[anp (by rw[e];exact apU)]
theorem wK (e:ik I U lv=P) (h:qg P k r a b o):qg (ik I U lv) k r a b o:=by rw[e];exact h
theorem VM (h:lv=1∨lv=2∨lv=3):dQ lv≠[]:=by
 rcases h with rfl|rfl|rfl<;>simp[dQ]
theorem SF:(dQ lv).length≤6:=by
 unfold dQ
 cases h1:decide (lv=1)<;>cases h2:decide (lv=2)<;>cases h3:decide (lv=3)<;>simp
end
end Go.Ew
namespace Go.Ew
def JW (a b:Row) (j:Nat):Bool:=!decide ((a.getD j 0#64 &&& b.getD j 0#64)=0#64)
def oJ (a b:Row):Bool:=(List.range a.length).any (JW a b)
theorem aem {p:Nat→Bool} {n j:Nat} (hj:j<n) (h:p j=true):true=(List.range n).any p:=(anV.2 ⟨j,ano.2 hj,h⟩).symm
theorem aaJ {p:Nat→Bool} {n j:Nat} (hs:∀q,q<j→p q=false) (hj:n≤j):false=(List.range n).any p:=by
 symm
 rw[ao5]
 intro q hq
 rw[hs q (by have:=ano.1 hq;omega)]
 exact apU
theorem Z6 {α:Type} {p:α→Bool} {r:List α} (h:0≤eA p r):eA p r<((r.length:Nat):Int):=by
 unfold eA at h ⊢
 cases e:r.findIdx? p with
 |none=>rw[e] at h;exact absurd h aw
 |some i=>
  have:=(anF.1 e).1
  show ((i:Nat):Int)<_
  omega
def Bz (n:Int) (r:Row):Prop:=r.length=words n∧∀x∈cV r,0≤x∧x<n
theorem ZV {n:Int}:Bz n (d_ n):=by
 refine⟨by unfold d_;simp,fun x hx=>?_⟩
 have:=uU.1 hx
 rw[Fb] at this;cases this
theorem ZU {n x:Int} {r:Row} (h:Bz n r) (h0:0≤x) (h1:x<n):Bz n (eb r x):=by
 refine⟨by rw[←h.1];unfold eb;split<;>simp,fun y hy=>?_⟩
 have:=uU.1 hy
 rw[CT,anv] at this
 rcases this with h2|h2
 ·exact h.2 y<|uU.2 h2
 ·simp only[eI,ank] at h2
  rw[h2.1];exact⟨h0,h1⟩
theorem ZW {n:Int} {r:Row} {q:Nat} {x y:BitVec 64} (h:Bz n r) (hx:r[q]? =some x):Bz n (r.set q (x &&& ~~~y)):=by
 refine⟨by rw[anj];exact h.1,fun z hz=>?_⟩
 have h1:=uU.1 hz
 refine h.2 z<|uU.2 ?_
 unfold fg at h1 ⊢
 rw[eI] at h1 ⊢
 refine⟨h1.1,?_⟩
 have h2:=h1.2
 rw[gZ,aoE] at h2
 split at h2
 ·rename_i e
  rw[←e,gZ,hx]
  split at h2
  ·simp only[apy,apt,eI] at h2
   exact h2.1
  ·simp at h2
 ·rwa [←gZ] at h2
theorem abW {n x:Int} {r:Row} {q:Nat} (h:Bz n r) (hx:(cV r)[q]? =some x):0≤x∧x<n:=h.2 x (dB hx)
theorem VJ {n x:Int} {r:Row} (h:Bz n r) (h0:0≤x) (h1:x<n):x<64*((r.length:Nat):Int):=by
 rw[h.1];unfold words;omega
def KJ (T:Rows) (lf:Row) (x:Int):Bool:=!(oJ (T.getD x.toNat []) lf)
def adV (lf:Row) (x:Int):Row:=lf.set (x/64).toNat (lf.getD (x/64).toNat 0#64 &&& ~~~((1#64) <<< ((BitVec.ofInt 64 (x%64)).toNat:Int).toNat))
def AF (T:Rows):Nat→Row→List Int→List Int×Int
 |0,_,os=>(os,0)
 |k+1,lf,os=>if eA (KJ T lf) (cV lf)<0 then ([],7) else AF T k (adV lf ((cV lf).getD (eA (KJ T lf) (cV lf)).toNat 0)) (os++[(cV lf).getD (eA (KJ T lf) (cV lf)).toNat 0])
def qT (n:Int):List Int→Row→Option Row
 |[],lf=>some lf
 |x::r,lf=>if x<0∨n≤x∨fg lf x=true then none else qT n r (eb lf x)
def dx (n:Int) (rs:Rows) (nd:List Int):List Int×Int:=match qT n nd (d_ n) with
 |none=>([],1)
 |some lf=>AF (gI n rs) nd.length lf []
section
variable {n:Int} {rs T:Rows} {nd os:List Int} {lf:Row} {j:Nat} {x:Int} {y:BitVec 64}
theorem Zm (h:qT n nd (d_ n)=qT n (nd.drop j) lf) (hx:nd[((j:Nat):Int).toNat]? =some x) (h0:0≤x) (h1:x<n) (h2:fg lf x=false):qT n nd (d_ n)=qT n (nd.drop (j+1)) (eb lf x):=by
 rw[dv] at hx
 obtain⟨hj,qa⟩:=dC.1 hx
 rw[h,aof hj,qa]
 show (if _ then _ else _)=_
 rw[anp (by rintro(h3|h3|h3);omega;omega;rw[h2] at h3;cases h3)]
theorem KM (h:qT n nd (d_ n)=qT n (nd.drop j) lf) (hx:nd[((j:Nat):Int).toNat]? =some x) (h1:x<0∨n≤x∨fg lf x=true):dx n rs nd=([],1):=by
 rw[dv] at hx
 obtain⟨hj,qa⟩:=dC.1 hx
 rw[aof hj,qa] at h
 have:qT n nd (d_ n)=none:=by
  rw[h];show (if _ then _ else _)=_;rw[ann h1]
 unfold dx;rw[this]
theorem UQ (h:qT n nd (d_ n)=qT n (nd.drop j) lf) (hj:nd.length≤j):dx n rs nd=AF (gI n rs) (nd.length-([]:List Int).length) lf []:=by
 rw[List.drop_of_length_le hj] at h
 unfold dx;rw[h];rfl
theorem aeT (h:dx n rs nd=AF (gI n rs) (nd.length-os.length) lf os) (hl:os.length<nd.length) (hi:eA (KJ (gI n rs) lf) (cV lf)<0):dx n rs nd=([],7):=by
 rw[h,show nd.length-os.length=(nd.length-os.length-1)+1 from by omega]
 show (if _ then _ else _)=_
 rw[ann hi]
theorem Zl (h:dx n rs nd=AF (gI n rs) (nd.length-os.length) lf os) (hl:os.length<nd.length) (hi:¬eA (KJ (gI n rs) lf) (cV lf)<0) (hx:(cV lf)[(eA (KJ (gI n rs) lf) (cV lf)).toNat]? =some x) (hy:lf[(x/64).toNat]? =some y):
  dx n rs nd=AF (gI n rs) (nd.length-(os++[x]).length) (lf.set (x/64).toNat (y &&& ~~~((1#64) <<< ((BitVec.ofInt 64 (x%64)).toNat:Int).toNat))) (os++[x]):=by
 have e1:(cV lf).getD (eA (KJ (gI n rs) lf) (cV lf)).toNat 0=x:=by rw[gZ,hx];rfl
 have e2:lf.getD (x/64).toNat 0#64=y:=by rw[gZ,hy];rfl
 rw[h,show nd.length-os.length=(nd.length-os.length-1)+1 from by omega]
 show (if _ then _ else _)=_
 rw[anp hi,e1,fA,iM,gr,show nd.length-(os.length+(0+1))=nd.length-os.length-1 from by omega]
 unfold adV
 rw[e2]
theorem aa6 (h:dx n rs nd=AF (gI n rs) (nd.length-os.length) lf os) (hl:nd.length≤os.length):dx n rs nd=(os,0):=by
 rw[h,show nd.length-os.length=0 from by omega];rfl
theorem KK:∀(k:Nat) (lf:Row) (os:List Int),(AF T k lf os).1.length≤os.length+k
 |0,_,_=>anl _
 |k+1,lf,os=>by
  show (if _ then _ else _:List Int×Int).1.length≤_
  split
  ·exact aoD _
  ·refine Nat.le_trans (KK k _ _) ?_
   rw[fA,iM,gr];omega
theorem KL:(dx n rs nd).1.length≤nd.length:=by
 unfold dx
 split
 ·exact aoD _
 ·refine Nat.le_trans (KK _ _ _) ?_
  simp
end
theorem aeZ {I:List aI} {U:List Int} {o:Int} (hn:I.length≤64):bF ((I.length:Nat):Int) (cU I U o)=true:=by
 unfold cU;exact lD aq
theorem ZZ {l:List Int} {p:Int→Bool}:(aY p l).length≤l.length:=by unfold aY;exact aoj _ _
theorem uC {n:Int} {rs:Rows} (h:bF n rs=true) (o:Int) (p:Int→Bool):(aY p (bL n rs o)).length≤4096:=Nat.le_trans ZZ (uD h o)
theorem Ry {n:Int} {rs:Rows} (h:bF n rs=true) (o:Int) (p:Int→Bool):(dx n rs (aY p (bL n rs o))).1.length≤4096:=Nat.le_trans KL (uC h o p)
theorem Ii {I:List aI} {mn n2:Int} {rs m2:Rows} {es:List dX} {q:Nat} (BJ:mn=((I.length:Nat):Int)) (h:bF mn rs=true) (he:ot I.length es) (h2:n2=mn∧m2=lZ mn rs (es.take q)):bF n2 m2=true:=by
 obtain⟨rfl,rfl⟩:=h2
 subst BJ
 exact zr h fun e Ta=>he e (aoB Ta)
theorem RY:bF 0 []=true:=by decide
end Go.Ew
namespace Go.Ew
def pq (n:Nat) (p:Nat→Nat→Bool):Nat→Nat→Nat→List Nat→Prop
 |0,a,b,w=>a=b∧w=[a]
 |L+1,a,b,w=>∃k v,k<n∧p a k=true∧pq n p L k b v∧w=a::v
def I3:List Nat→List Nat→Prop
 |a::x,b::y=>a<b∨(a=b∧I3 x y)
 |_,_=>False
def slt (x y:List Nat):Prop:=x.length<y.length∨(x.length=y.length∧I3 x y)
def sle (x y:List Nat):Prop:=x=y∨slt x y
section
variable {n:Nat} {p:Nat→Nat→Bool}
theorem Gj:∀x,¬I3 x x
 |[],h=>h
 |a::x,h=>by
  rcases h with h|⟨-,h⟩
  ·exact apq _ h
  ·exact Gj x h
theorem I2:∀{x y z:List Nat},I3 x y→I3 y z→I3 x z
 |a::x,b::y,c::z,h,k=>by
  rcases h with h|⟨rfl,h⟩
  ·rcases k with k|⟨rfl,k⟩
   ·exact .inl (aqu h k)
   ·exact .inl h
  ·rcases k with k|⟨rfl,k⟩
   ·exact .inl k
   ·exact .inr ⟨J,I2 h k⟩
 |[],_,_,h,_=>h.elim
 |_::_,[],_,h,_=>h.elim
 |_::_,_::_,[],_,k=>k.elim
theorem A6:∀{x y:List Nat} {a b:Nat},x.length=y.length→(I3 x y∨(x=y∧a<b))→I3 (x++[a]) (y++[b])
 |[],[],a,b,_,h=>by
  rcases h with h|⟨-,h⟩
  ·exact h.elim
  ·exact .inl h
 |c::x,d::y,a,b,hl,h=>by
  have S6:x.length=y.length:=by simpa using hl
  rcases h with (h|⟨rfl,h⟩)|⟨h,k⟩
  ·exact .inl h
  ·exact .inr ⟨J,A6 S6 (.inl h)⟩
  ·cases h;exact .inr ⟨rfl,A6 S6 (.inr ⟨rfl,k⟩)⟩
theorem PH (x:List Nat):¬slt x x:=by
 rintro(h|⟨-,h⟩)
 ·exact apq _ h
 ·exact Gj x h
theorem IG {x y z:List Nat} (h:slt x y) (k:slt y z):slt x z:=by
 rcases h with h|⟨h1,h2⟩<;>rcases k with k|⟨k1,k2⟩
 ·exact .inl aq
 ·exact .inl aq
 ·exact .inl aq
 ·exact .inr ⟨by omega,I2 h2 k2⟩
theorem B7 {x y z:List Nat} (h:sle x y) (k:sle y z):sle x z:=by
 rcases h with rfl|h
 ·exact k
 ·rcases k with rfl|k
  ·exact .inr h
  ·exact .inr (IG h k)
theorem KW {x y:List Nat} (h:sle x y) (k:sle y x):x=y:=by
 rcases h with rfl|h
 ·rfl
 ·rcases k with rfl|k
  ·rfl
  ·exact absurd (IG h k)<|PH _
theorem KT {x y:List Nat} (a b:Nat) (h:slt x y):slt (x++[a]) (y++[b]):=by
 rcases h with h|⟨h1,h2⟩
 ·exact .inl (by simp;omega)
 ·exact .inr ⟨by simp;omega,A6 h1 (.inl h2)⟩
theorem UU {x:List Nat} {a b:Nat} (h:a<b):slt (x++[a]) (x++[b]):=.inr ⟨by simp,A6 rfl (.inr ⟨rfl,h⟩)⟩
theorem KU {x y:List Nat} (a:Nat) (h:sle x y):sle (x++[a]) (y++[a]):=by
 rcases h with rfl|h
 ·exact .inl rfl
 ·exact .inr (KT a a h)
theorem N2 {x y:List Nat} (h:sle x y):x.length≤y.length:=by
 rcases h with rfl|h|⟨h, -⟩<;>omega
theorem UX {x y:List Nat} (a:Nat) (h:sle x y):sle (a::x) (a::y):=by
 rcases h with rfl|h|⟨h1,h2⟩
 ·exact .inl rfl
 ·exact .inr (.inl (by simp;omega))
 ·exact .inr (.inr ⟨by simp;omega,.inr ⟨J,h2⟩⟩)
theorem lb:∀{L a b:Nat} {w:List Nat},pq n p L a b w→w.length=L+1
 |0,a,b,w,h=>by rw[h.2];rfl
 |L+1,a,b,w,h=>by
  obtain⟨k,v,_,_,h,rfl⟩:=h
  rw[iM,lb h]
theorem AA:∀{L a b:Nat} {w:List Nat},pq n p L a b w→w[0]? =some a
 |0,a,b,w,h=>by rw[h.2];rfl
 |L+1,a,b,w,h=>by
  obtain⟨k,v,_,_,h,rfl⟩:=h
  rfl
theorem wL:∀{L a b:Nat} {w:List Nat},pq n p L a b w→w[L]? =some b
 |0,a,b,w,h=>by rw[h.2,h.1];rfl
 |L+1,a,b,w,h=>by
  obtain⟨k,v,_,_,h,rfl⟩:=h
  have:=wL h
  simpa using this
theorem ET:∀{L a b c:Nat} {w:List Nat},pq n p L a b w→c<n→p b c=true→pq n p (L+1) a c (w++[c])
 |0,a,b,c,w,h,hc,hp=>by
  obtain⟨rfl,rfl⟩:=h
  exact⟨c,[c],hc,hp,⟨J,J⟩,J⟩
 |L+1,a,b,c,w,h,hc,hp=>by
  obtain⟨k,v,h1,h2,h,rfl⟩:=h
  exact⟨k,v++[c],h1,h2,ET h hc hp,J⟩
theorem sJ:∀{L a c:Nat} {w:List Nat},pq n p (L+1) a c w→∃b v,pq n p L a b v∧p b c=true∧c<n∧w=v++[c]
 |0,a,c,w,h=>by
  obtain⟨k,v,h1,h2,⟨rfl,rfl⟩,rfl⟩:=h
  exact⟨a,[a],⟨J,J⟩,h2,h1,J⟩
 |L+1,a,c,w,h=>by
  obtain⟨k,v,h1,h2,h,rfl⟩:=h
  obtain⟨b,u,h3,h4,h5,rfl⟩:=sJ h
  exact⟨b,a::u,⟨k,u,h1,h2,h3,J⟩,h4,h5,J⟩
theorem Dw {L a b:Nat} {w:List Nat} (h:pq n p L a b w) (ha:a<n):∀x∈w,x<n:=by
 induction L generalizing a w with
 |zero=>obtain⟨rfl,rfl⟩:=h;simpa using ha
 |succ L ih=>
  obtain⟨k,v,h1,h2,h,rfl⟩:=h
  intro x hx
  rcases anC.1 hx with rfl|hx
  ·exact ha
  ·exact ih h h1 x hx
theorem BZ:∀{L a b t:Nat} {w:List Nat} {x:Nat},pq n p L a b w→w[t]? =some x→(∃u,pq n p t a x u)∧∃v,pq n p (L-t) x b v
 |L,a,b,0,w,x,h,hx=>by
  rw[AA h] at hx;cases hx
  exact⟨⟨[a],J,J⟩,w,h⟩
 |0,a,b,t+1,w,x,h,hx=>by obtain⟨rfl,rfl⟩:=h;simp at hx
 |L+1,a,b,t+1,w,x,h,hx=>by
  obtain⟨k,v,h1,h2,h,rfl⟩:=h
  obtain⟨⟨u,hu⟩,v',hv⟩:=BZ h (by simpa using hx)
  exact⟨⟨a::u,k,u,h1,h2,hu,J⟩,v',by rwa [show L+1-(t+1)=L-t from by omega]⟩
theorem KA:∀{L M a b c:Nat} {u v:List Nat},pq n p L a b u→pq n p M b c v→∃w,pq n p (L+M) a c w
 |0,M,a,b,c,u,v,h,k=>by obtain⟨rfl,rfl⟩:=h;exact⟨v,by rwa [an5]⟩
 |L+1,M,a,b,c,u,v,h,k=>by
  obtain⟨x,u',h1,h2,h,rfl⟩:=h
  obtain⟨w,hw⟩:=KA h k
  exact⟨a::w,by rw[show L+1+M=(L+M)+1 from by omega];exact⟨x,w,h1,h2,hw,J⟩⟩
def U {α:Type} (f:Nat→Option α):Nat→Option α
 |0=>none
 |k+1=>match U f k with
  |some x=>some x
  |none=>f k
theorem DP {α:Type} {f:Nat→Option α} {x:α}:∀{n:Nat},U f n=some x→∃k,k<n∧f k=some x∧∀j,j<k→f j=none
 |k+1,h=>by
  unfold U at h
  have oM:∀m,U f m=none→∀j,j<m→f j=none:=by
   intro m
   induction m with
   |zero=>intro _ j hj;omega
   |succ m ih=>
    intro hm j hj
    unfold U at hm
    cases h1:U f m with
    |some y=>rw[h1] at hm;cases hm
    |none=>
     rw[h1] at hm
     rcases ao0.1 hj with hj|rfl
     ·exact ih h1 j hj
     ·exact hm
  cases h1:U f k with
  |some y=>
   rw[h1] at h;cases h
   obtain⟨j,h2,h3,h4⟩:=DP h1
   exact⟨j,by omega,h3,h4⟩
  |none=>rw[h1] at h;exact⟨k,by omega,h,oM k h1⟩
theorem HV {α:Type} {f:Nat→Option α}:∀{n:Nat},U f n=none→∀j,j<n→f j=none
 |m+1,hm,j,hj=>by
  unfold U at hm
  cases h1:U f m with
  |some y=>rw[h1] at hm;cases hm
  |none=>
   rw[h1] at hm
   rcases ao0.1 hj with hj|rfl
   ·exact HV h1 j hj
   ·exact hm
theorem af3 {α:Type} {f:Nat→Option α} {x:α} {n k:Nat} (hk:k<n) (h:f k=some x) (hj:∀j,j<k→f j=none):U f n=some x:=by
 cases h1:U f n with
 |none=>rw[HV h1 k hk] at h;cases h
 |some y=>
  obtain⟨m,_,h3,h4⟩:=DP h1
  rcases apZ m k with hm|rfl|hm
  ·rw[hj m hm] at h3;cases h3
  ·rw[h3] at h;rw[h]
  ·rw[h4 k hm] at h;cases h
def wl (n:Nat) (p:Nat→Nat→Bool):Nat→Nat→Nat→Option (List Nat)
 |0,a,b=>if a=b then some [a] else none
 |L+1,a,b=>U (fun k=>if p a k=true then (wl n p L k b).map (a::·) else none) n
theorem Dx:∀{L a b:Nat},wl n p L a b=none→∀w,¬pq n p L a b w
 |0,a,b,h,w,hw=>by obtain⟨rfl,rfl⟩:=hw;unfold wl at h;simp at h
 |L+1,a,b,h,w,hw=>by
  obtain⟨k,v,h1,h2,h3,rfl⟩:=hw
  have h4:=HV h k h1
  rw[ann h2,Option.map_eq_none_iff] at h4
  exact Dx h4 v h3
theorem zy:∀{L a b:Nat} {w:List Nat},wl n p L a b=some w→pq n p L a b w∧∀v,pq n p L a b v→sle w v
 |0,a,b,w,h=>by
  unfold wl at h
  split at h
  ·rename_i e;cases h;exact⟨⟨e,rfl⟩,fun v hv=>.inl hv.2.symm⟩
  ·cases h
 |L+1,a,b,w,h=>by
  obtain⟨k,h1,h2,h3⟩:=DP h
  have hp:p a k=true:=by
   cases hp:p a k with
   |true=>rfl
   |false=>rw[hp] at h2;simp at h2
  rw[ann hp,anL] at h2
  obtain⟨u,h2,rfl⟩:=h2
  obtain⟨h4,h5⟩:=zy h2
  refine⟨⟨k,u,h1,hp,h4,J⟩,?_⟩
  rintro v ⟨m,v,k1,k2,k3,rfl⟩
  rcases apZ m k with hm|rfl|hm
  ·have:=h3 m hm
   rw[ann k2,Option.map_eq_none_iff] at this
   exact absurd k3<|Dx this v
  ·exact UX a<|h5 v k3
  ·refine .inr (.inr ⟨by simp[lb h4,lb k3],.inr ⟨J,?_⟩⟩)
   have e1:=AA h4;have e2:=AA k3
   cases u with
   |nil=>simp at e1
   |cons x u=>
    cases v with
    |nil=>simp at e2
    |cons y v=>
     simp at e1 e2
     subst e1;subst e2
     exact .inl hm
def ED (n:Nat) (p:Nat→Nat→Bool) (a b:Nat):Option (List Nat):=U (fun L=>wl n p (L+1) a b) n
def Iv (n:Nat) (p:Nat→Nat→Bool) (a b:Nat) (w:List Nat):Prop:=(∃L,pq n p (L+1) a b w)∧∀L v,pq n p (L+1) a b v→sle w v
theorem Lu:∀{n:Nat} {l:List Nat},l.Nodup→(∀x∈l,x<n)→l.length≤n
 |0,l,_,h=>by
  cases l with
  |nil=>simp
  |cons x l=>exact absurd (h x an8) aq
 |n+1,l,hd,h=>by
  have h1:(l.filter (fun x=>decide (x≠n))).length≤n:=Lu (apT List.filter_sublist hd) fun x hx=>by
   have:=anD.1 hx
   have h2:=h x this.1
   have h3:=an7 this.2
   omega
  have h2:∀l:List Nat,l.Nodup→l.length≤(l.filter (fun x=>decide (x≠n))).length+1:=by
   intro l
   induction l with
   |nil=>simp
   |cons a l ih=>
    intro hd
    have hd:=aoo.1 hd
    by_cases ha:a=n
    ·subst ha
     have hf:l.filter (fun x=>decide (x≠a))=l:=aqd.2 (fun x hx=>anq (fun (e:x=a)=>hd.1 (by rw[←e];exact hx)))
     rw[List.filter_cons_of_neg (by simp),hf]
     simp
    ·rw[List.filter_cons_of_pos (by simpa using ha)]
     have:=ih hd.2
     simp only[iM];omega
  have:=h2 l hd
  omega
theorem W3 {a b:Nat} {w:List Nat} (h:Iv n p a b w) {s t x:Nat} (qB:s<t) (hs:w[s]? =some x) (ht:w[t]? =some x):s=0∧t+1=w.length:=by
 obtain⟨⟨L,hw⟩,hl⟩:=h
 have hlen:=lb hw
 have OM:t<w.length:=(dC.1 ht).1
 obtain⟨⟨u,hu⟩, -⟩:=BZ hw hs
 obtain⟨-,v,hv⟩:=BZ hw ht
 obtain⟨y,hy⟩:=KA hu hv
 refine an3 fun hc=>?_
 have CK:∃M,s+(L+1-t)=M+1:=⟨s+(L+1-t)-1,by omega⟩
 obtain⟨M,hM⟩:=CK
 rw[hM] at hy
 have h1:=N2<|hl _ _ hy
 have h2:=lb hy
 omega
theorem FM {a b:Nat} {w:List Nat} (h:Iv n p a b w) (ha:a<n):w.length≤n+1:=by
 have h0:=h
 obtain⟨⟨L,hw⟩,hl⟩:=h
 have hlen:=lb hw
 have hm:=Dw hw ha
 have hd:w.dropLast.Nodup:=by
  rw[List.nodup_iff_pairwise_ne,List.pairwise_iff_getElem]
  intro i j hi hj Jf e
  rw[List.length_dropLast] at hi hj
  rw[List.getElem_dropLast,List.getElem_dropLast] at e
  have:=W3 h0 Jf (eB aq)<|by rw[e];exact eB aq
  omega
 have:=Lu hd fun x hx=>hm x (List.dropLast_subset _ hx)
 rw[List.length_dropLast] at this
 omega
theorem W4 {a b:Nat} {w:List Nat} (h:Iv n p a b w) (ha:a<n):ED n p a b=some w:=by
 have hlen:=FM h ha
 have h0:=h
 obtain⟨⟨L,hw⟩,hl⟩:=h
 have hwl:=lb hw
 have afd:wl n p (L+1) a b=some w:=by
  cases h1:wl n p (L+1) a b with
  |none=>exact absurd hw (Dx h1 w)
  |some v=>
   obtain⟨h2,h3⟩:=zy h1
   rw[KW (h3 _ hw) (hl _ _ h2)]
 refine af3 (k:=L) aq afd fun j hj=>?_
 cases h1:wl n p (j+1) a b with
 |none=>rfl
 |some v=>
  have h2:=N2<|hl _ _ (zy h1).1
  have h3:=lb (zy h1).1
  omega
theorem FK {a b:Nat} {w:List Nat} (h:ED n p a b=some w):Iv n p a b w:=by
 obtain⟨L,h1,h2,h3⟩:=DP h
 obtain⟨h4,h5⟩:=zy h2
 refine⟨⟨L,h4⟩,fun M v hv=>?_⟩
 rcases apZ M L with hm|rfl|hm
 ·exact absurd hv<|Dx (h3 M hm) v
 ·exact h5 v hv
 ·exact .inr (.inl (by rw[lb h4,lb hv];omega))
theorem aea {a b:Nat} (h:∀L w,¬pq n p (L+1) a b w):ED n p a b=none:=by
 cases h1:ED n p a b with
 |none=>rfl
 |some w=>obtain⟨⟨L,h2⟩,_⟩:=FK h1;exact absurd h2 (h L w)
end
end Go.Ew
namespace Go.Ew
structure Bk (bs:List Int) (i j:Int) (w:List Int):Prop where
 head:w[0]? =some i
 last:w[w.length-1]? =some j
 len:2≤w.length
 Jw:∀t x y,w[t]? =some x→w[t+1]? =some y→bs[y.toNat]? =some x
 ne:∀t,1≤t→t+1<w.length→w[t]?≠some i
 rng:∀x∈w,0≤x∧x<(bs.length:Int)
theorem af8 {bs:List Int} {i j:Int} {w v:List Int} (h:Bk bs i j w) (k:Bk bs i j v):w=v:=by
 have key:∀s,s<w.length→s<v.length→w[w.length-1-s]? =v[v.length-1-s]?:=by
  intro s
  induction s with
  |zero=>intro _ _;rw[ap7,ap7,h.last,k.last]
  |succ s ih=>
   intro h1 h2
   have e:=ih aq aq
   have a1:w[w.length-1-(s+1)]? =some w[w.length-1-(s+1)]:=eB aq
   have a2:v[v.length-1-(s+1)]? =some v[v.length-1-(s+1)]:=eB aq
   have b1:w[w.length-1-s]? =some w[w.length-1-s]:=eB aq
   have b2:v[v.length-1-s]? =some v[v.length-1-s]:=eB aq
   have c1:=h.Jw _ _ _ a1<|by rw[show w.length-1-(s+1)+1=w.length-1-s from by omega];exact b1
   have c2:=k.Jw _ _ _ a2<|by rw[show v.length-1-(s+1)+1=v.length-1-s from by omega];exact b2
   rw[b1,b2] at e
   rw[anm e,c2] at c1
   rw[a1,a2,c1]
 have hl:w.length=v.length:=by
  refine an3 fun gH=>?_
  have l1:=h.len;have l2:=k.len
  rcases Nat.lt_or_gt_of_ne gH with hc|hc
  ·have:=key (w.length-1) aq aq
   rw[aol,h.head] at this
   exact k.ne _ aq aq this.symm
  ·have:=key (v.length-1) aq aq
   rw[aol,k.head] at this
   exact h.ne _ aq aq this
 apply anT
 intro s
 by_cases hs:s<w.length
 ·have:=key (w.length-1-s) aq aq
  rwa [show w.length-1-(w.length-1-s)=s from by omega,show v.length-1-(w.length-1-s)=s from by omega] at this
 ·rw[anz aq,anz aq]
open Classical in
noncomputable def vi (bs:List Int) (i j:Int):List Int:=if h:∃w,Bk bs i j w then Classical.choose h else []
theorem ad_ {bs:List Int} {i j:Int} {w:List Int} (h:Bk bs i j w):vi bs i j=w:=by
 have hh:∃w,Bk bs i j w:=⟨w,h⟩
 unfold vi
 rw[dif_pos hh]
 exact af8 (Classical.choose_spec hh) h
section
variable {bs:List Int} {i j:Int} {w:List Int} (h:Bk bs i j w)
include h
theorem WU {x:Int} (hx:bs[j.toNat]? =some x):w[w.length-1-1]? =some x:=by
 have l1:=h.len
 have a1:w[w.length-1-1]? =some w[w.length-1-1]:=eB aq
 have:=h.Jw _ _ _ a1<|by rw[show w.length-1-1+1=w.length-1 from by omega];exact h.last
 rw[hx] at this
 rw[a1,anm this]
theorem aaA:[j]=(w.drop (w.length-1)).reverse:=by
 have l1:=h.len
 have h2:=h.last
 rw[eB aq] at h2
 rw[aof aq,show w.length-1+1=w.length from by omega,List.drop_length,anm h2];rfl
theorem Pl {t:Nat} {x:Int} {l:List Int} (ht:1≤t) (OM:t<w.length) (hx:w[t-1]? =some x) (hl:l=(w.drop t).reverse):l++[x]=(w.drop (t-1)).reverse:=by
 have h1:t-1<w.length:=by omega
 rw[eB h1] at hx
 rw[aof h1,show t-1+1=t from by omega,List.reverse_cons,←hl,anm hx]
theorem aaz {t:Nat} {x:Int} (ht:1≤t) (OM:t<w.length) (hx:w[t-1]? =some x) (e:x=i):t=1:=by
 refine an3 fun gH=>?_
 exact h.ne (t-1) aq aq<|by rw[hx,e]
theorem ad9 {t:Nat} {x:Int} {l:List Int} (ht:1≤t) (OM:t<w.length) (hx:w[t-1]? =some x) (e:x=i) (hl:l=(w.drop t).reverse):(l++[x]).reverse=w:=by
 have h1:=aaz h ht OM hx e
 rw[Pl h ht OM hx hl,List.reverse_reverse,h1];rfl
theorem YS {t:Nat} {x:Int} (ht:1≤t) (hx:w[t-1]? =some x) (e:¬x=i):1≤t-1:=by
 refine an3 fun gH=>?_
 rw[show t-1=0 from by omega,h.head] at hx
 exact e (anm hx).symm
theorem aaB {t:Nat} {x y:Int} (ht:1≤t) (OM:t<w.length) (hx:w[t-1]? =some x) (e:¬x=i) (hy:bs[x.toNat]? =some y):w[t-1-1]? =some y:=by
 have h1:=YS h ht hx e
 have a1:w[t-1-1]? =some w[t-1-1]:=eB aq
 have:=h.Jw _ _ _ a1<|by rw[show t-1-1+1=t-1 from by omega];exact hx
 rw[hy] at this
 rw[a1,anm this]
theorem Uc {t:Nat} {x:Int} (hx:w[t]? =some x):0≤x∧x<(bs.length:Int):=h.rng x (dB hx)
end
def pa (n:Nat) (p:Nat→Nat→Bool) (a:Nat):List Nat:=(List.range n).filter (p a)
def j3 (w:List Nat) (k:Nat):Prop:=w.getLast?=some k
def Dn (n:Nat) (p:Nat→Nat→Bool) (E:List (List Nat)) (c t:Nat) (u:List Nat) (k:Nat):Prop:=
 ∃a,j3 u a∧k∈pa n p a∧((∃s,s<c∧E[s]? =some u)∨(E[c]? =some u∧k∈(pa n p a).take t))
structure Tr (n:Nat) (p:Nat→Nat→Bool) (i:Nat) (bs:List Int) (w:List Nat):Prop where
 wk:∃L b,pq n p L i b w
 Jw:∀s x y,w[s]? =some x→w[s+1]? =some y→bs[y]? =some ((x:Nat):Int)
 ne:∀s x,1≤s→w[s]? =some x→x≠i
structure vz (n:Nat) (p:Nat→Nat→Bool) (i j:Nat) (bs:List Int) (E:List (List Nat)) (c t:Nat):Prop where
 len:bs.length=n
 hd:E[0]? =some [i]
 YP:c≤E.length
 inc:∀(s u:Nat) (a b:List Nat),s<u→E[s]? =some a→E[u]? =some b→slt a b
 tr:∀w∈E,Tr n p i bs w
 dn:∀w∈E,w=[i]∨∃u k,w=u++[k]∧Dn n p E c t u k
 al:∀u k,Dn n p E c t u k→k≠j∧(k≠i→∃w∈E,j3 w k∧sle w (u++[k]))
 Pk:∀k v,bs[k]? =some v→v≠ -1→k≠j∧(k≠i→∃w∈E,j3 w k)
section
variable {n:Nat} {p:Nat→Nat→Bool} {i j:Nat} {bs:List Int} {E:List (List Nat)} {c t:Nat}
theorem uc {a k:Nat}:k∈pa n p a↔k<n∧p a k=true:=by unfold pa;simp[anD]
theorem Zn {a s u x y:Nat} (hsu:s<u) (hx:(pa n p a)[s]? =some x) (hy:(pa n p a)[u]? =some y):x<y:=by
 have h0:(pa n p a).Pairwise (·<·):=List.Pairwise.filter _ List.pairwise_lt_range
 have h1:=(dC.1 hx);have h2:=(dC.1 hy)
 have:=(List.pairwise_iff_getElem.1 h0) s u h1.1 h2.1 hsu
 rw[h1.2,h2.2] at this;exact this
theorem Gr (u:List Nat) (k:Nat):j3 (u++[k]) k:=by unfold j3;simp
theorem yp {L a b:Nat} {w:List Nat} (h:pq n p L a b w):j3 w b:=by
 unfold j3
 rw[List.getLast?_eq_getElem?,lb h]
 exact wL h
theorem sm {w:List Nat} {a b:Nat} (h:j3 w a) (k:j3 w b):a=b:=by unfold j3 at h k;rw[h] at k;exact anm k
theorem Ue (hi:i<n):vz n p i j (List.replicate n (-1)) [[i]] 0 0 where
 len:=by simp
 hd:=rfl
 YP:=by simp
 inc:=by
  intro s u a b hsu ha hb
  have h2:=(dC.1 hb).1
  simp at h2;omega
 tr:=by
  intro w hw
  rw[aoz.1 hw]
  refine⟨⟨0,i,J,J⟩,?_,?_⟩
  ·intro s x y _ hy;simp at hy
  ·intro s x hs hx
   have h2:=(dC.1 hx).1
   simp at h2;omega
 dn:=by intro w hw;exact .inl (aoz.1 hw)
 al:=by
  rintro u k ⟨a,_,_,⟨s,hs,_⟩|⟨_,hk⟩⟩
  ·omega
  ·simp at hk
 Pk:=by
  intro k v hk hv
  have h2:=dC.1 hk
  obtain⟨h3,h4⟩:=h2
  simp at h4
  exact absurd h4.symm hv
theorem WY {u:List Nat} {a:Nat} (h:vz n p i j bs E c t) (hu:E[c]? =some u) (ha:j3 u a) (ht:(pa n p a).length≤t):vz n p i j bs E (c+1) 0:=by
 have hD:∀v k,Dn n p E (c+1) 0 v k↔Dn n p E c t v k:=by
  intro v k
  constructor
  ·rintro⟨b,h1,h2,⟨s,hs,h3⟩|⟨_,h3⟩⟩
   ·rcases ao0.1 hs with hs|rfl
    ·exact⟨b,h1,h2,.inl ⟨s,hs,h3⟩⟩
    ·rw[hu] at h3;cases h3
     obtain rfl:=sm ha h1
     exact⟨a,h1,h2,.inr ⟨hu,by rwa [ant ht]⟩⟩
   ·simp at h3
  ·rintro⟨b,h1,h2,⟨s,hs,h3⟩|⟨h3,_⟩⟩
   ·exact⟨b,h1,h2,.inl ⟨s,by omega,h3⟩⟩
   ·exact⟨b,h1,h2,.inl ⟨c,by omega,h3⟩⟩
 refine⟨h.len,h.hd,(dC.1 hu).1,h.inc,h.tr,?_,?_,h.Pk⟩
 ·intro w hw
  rcases h.dn w hw with e|⟨v,k,e,hd⟩
  ·exact .inl e
  ·exact .inr ⟨v,k,e,(hD v k).2 hd⟩
 ·intro v k hd
  exact h.al v k<|(hD v k).1 hd
theorem Uf {u w:List Nat} {a k:Nat} (h:vz n p i j bs E c t) (hu:E[c]? =some u) (ha:j3 u a) (hk:(pa n p a)[t]? =some k) (hw:w∈E):slt w (u++[k]):=by
 have hul:0<u.length:=by
  cases u with
  |nil=>unfold j3 at ha;simp at ha
  |cons x u=>simp
 rcases h.dn w hw with rfl|⟨v,m,rfl,b,h1,h2,⟨s,hs,h3⟩|⟨h3,h4⟩⟩
 ·exact .inl (by simp;omega)
 ·exact KT _ _<|h.inc s c v u hs h3 hu
 ·rw[hu] at h3;cases h3
  obtain rfl:=sm ha h1
  obtain⟨s,hs⟩:=anE.1 h4
  have qB:s<t:=by
   have:=(dC.1 hs).1
   rw[gY] at this;omega
  rw[anO,ann qB] at hs
  exact UU<|Zn qB hs hk
theorem Ia {u v:List Nat} {a k m:Nat} (hu:E[c]? =some u) (ha:j3 u a) (hk:(pa n p a)[t]? =some k) (h:Dn n p E c (t+1) v m):Dn n p E c t v m∨(v=u∧m=k):=by
 obtain⟨b,h1,h2,h3|⟨h3,h4⟩⟩:=h
 ·exact .inl ⟨b,h1,h2,.inl h3⟩
 ·rw[hu] at h3;cases h3
  obtain rfl:=sm ha h1
  rw[anZ,hk] at h4
  rcases anK.1 h4 with h4|h4
  ·exact .inl ⟨a,h1,h2,.inr ⟨hu,h4⟩⟩
  ·exact .inr ⟨J,by simpa using h4⟩
theorem Q2 {u:List Nat} {m:Nat} (h:Dn n p E c t u m):Dn n p E c (t+1) u m:=by
 obtain⟨b,h1,h2,h3|⟨h3,h4⟩⟩:=h
 ·exact⟨b,h1,h2,.inl h3⟩
 ·exact⟨b,h1,h2,.inr ⟨h3,by
   obtain⟨s,hs⟩:=anE.1 h4
   have qB:s<t:=by
    have:=(dC.1 hs).1
    rw[gY] at this;omega
   rw[anO,ann qB] at hs
   exact anE.2 ⟨s,by rw[anO,ann aq];exact hs⟩⟩⟩
theorem WV {u:List Nat} {a k:Nat} {v:Int} (h:vz n p i j bs E c t) (hu:E[c]? =some u) (ha:j3 u a) (hk:(pa n p a)[t]? =some k) (hv:bs[k]? =some v) (kG:v≠ -1):vz n p i j bs E c (t+1):=by
 refine⟨h.len,h.hd,h.YP,h.inc,h.tr,?_,?_,h.Pk⟩
 ·intro w hw
  rcases h.dn w hw with e|⟨v,m,e,hd⟩
  ·exact .inl e
  ·exact .inr ⟨v,m,e,Q2 hd⟩
 ·intro v' m hd
  rcases Ia hu ha hk hd with hd|⟨rfl,rfl⟩
  ·exact h.al v' m hd
  ·obtain⟨h1,h2⟩:=h.Pk m v hv kG
   refine⟨h1,fun hi=>?_⟩
   obtain⟨w,hw,hwl⟩:=h2 hi
   exact⟨w,hw,hwl,.inr (Uf h hu ha hk hw)⟩
theorem F0 {k:Nat} {x:Int} {w:List Nat} (h:Tr n p i bs w) (hk:bs[k]? =some (-1)):Tr n p i (bs.set k x) w:=by
 refine⟨h.wk,?_,h.ne⟩
 intro s a b ha hb
 have h1:=h.Jw s a b ha hb
 rw[aoE]
 split
 ·rename_i e;subst e
  rw[hk] at h1
  have:=anm h1
  omega
 ·exact h1
theorem af_ {u:List Nat} {a:Nat} (h:vz n p i j bs E c t) (Jf:i≠j) (hu:E[c]? =some u) (ha:j3 u a) (hk:(pa n p a)[t]? =some i) (hv:bs[i]? =some (-1)):vz n p i j (bs.set i ((a:Nat):Int)) E c (t+1):=by
 refine⟨by rw[anj];exact h.len,h.hd,h.YP,h.inc,fun w hw=>F0 (h.tr w hw) hv,?_,?_,?_⟩
 ·intro w hw
  rcases h.dn w hw with e|⟨v,m,e,hd⟩
  ·exact .inl e
  ·exact .inr ⟨v,m,e,Q2 hd⟩
 ·intro v m hd
  rcases Ia hu ha hk hd with hd|⟨rfl,rfl⟩
  ·exact h.al v m hd
  ·exact⟨Jf,fun hi=>absurd rfl hi⟩
 ·intro m v hm kG
  by_cases e:m=i
  ·exact⟨by rw[e];exact Jf,fun hi=>absurd e hi⟩
  ·rw[anS aq] at hm
   exact h.Pk m v hm kG
theorem Zj {u:List Nat} {a k:Nat} (h:Tr n p i bs u) (ha:j3 u a) (hk:k∈pa n p a) (hv:bs[k]? =some (-1)) (z8:k≠i):Tr n p i (bs.set k ((a:Nat):Int)) (u++[k]):=by
 obtain⟨L,b,hw⟩:=h.wk
 obtain rfl:=sm ha (yp hw)
 obtain⟨fF,Aa⟩:=uc.1 hk
 have hlen:=lb hw
 have h2:=F0 (x:=((a:Nat):Int)) h hv
 refine⟨⟨L+1,k,ET hw fF Aa⟩,?_,?_⟩
 ·intro s x y hx hy
  have hs:s+1<(u++[k]).length:=(dC.1 hy).1
  rw[fA,apb] at hs
  rw[oT aq] at hx
  by_cases gK:s+1<u.length
  ·rw[oT gK] at hy
   exact h2.Jw s x y hx hy
  ·rw[og aq,show s+1-u.length=0 from by omega] at hy
   simp at hy;subst hy
   rw[show s=L from by omega,wL hw] at hx
   cases hx
   rw[anB (by have:=(dC.1 hv).1;omega)]
 ·intro s x hs hx
  by_cases gK:s<u.length
  ·rw[oT gK] at hx
   exact h.ne s x hs hx
  ·rw[og aq] at hx
   have:=(dC.1 hx).1
   simp at this
   rw[show s-u.length=0 from by omega] at hx
   simp at hx;rw[←hx];exact z8
theorem WW {u:List Nat} {a k:Nat} (h:vz n p i j bs E c t) (hu:E[c]? =some u) (ha:j3 u a) (hk:(pa n p a)[t]? =some k) (hv:bs[k]? =some (-1)) (z8:k≠i) (OP:k≠j):
  vz n p i j (bs.set k ((a:Nat):Int)) (E++[u++[k]]) c (t+1):=by
 have rC:c<E.length:=(dC.1 hu).1
 have hE:∀s v,s≤c→((E++[u++[k]])[s]? =some v↔E[s]? =some v):=fun s v hs=>by rw[oT aq]
 have hD:∀v m tt,Dn n p (E++[u++[k]]) c tt v m↔Dn n p E c tt v m:=by
  intro v m tt
  constructor
  ·rintro⟨b,h1,h2,⟨s,hs,h3⟩|⟨h3,h4⟩⟩
   ·exact⟨b,h1,h2,.inl ⟨s,hs,(hE s v aq).1 h3⟩⟩
   ·exact⟨b,h1,h2,.inr ⟨(hE c v aq).1 h3,h4⟩⟩
  ·rintro⟨b,h1,h2,⟨s,hs,h3⟩|⟨h3,h4⟩⟩
   ·exact⟨b,h1,h2,.inl ⟨s,hs,(hE s v aq).2 h3⟩⟩
   ·exact⟨b,h1,h2,.inr ⟨(hE c v aq).2 h3,h4⟩⟩
 have Jd:k∈pa n p a:=dB hk
 refine⟨by rw[anj];exact h.len,by rw[oT aq];exact h.hd,by rw[fA];omega,?_,?_,?_,?_,?_⟩
 ·intro s m x y hsm hx hy
  by_cases hm:m<E.length
  ·rw[oT aq] at hx
   rw[oT hm] at hy
   exact h.inc s m x y hsm hx hy
  ·have h1:=(dC.1 hy).1
   rw[fA,apb] at h1
   rw[og aq,show m-E.length=0 from by omega] at hy
   simp at hy;subst hy
   rw[oT aq] at hx
   exact Uf h hu ha hk<|dB hx
 ·intro w hw
  rcases anK.1 hw with hw|hw
  ·exact F0 (h.tr w hw) hv
  ·rw[aoz.1 hw]
   exact Zj (h.tr u<|dB hu) ha Jd hv z8
 ·intro w hw
  rcases anK.1 hw with hw|hw
  ·rcases h.dn w hw with e|⟨v,m,e,hd⟩
   ·exact .inl e
   ·exact .inr ⟨v,m,e,(hD _ _ _).2 (Q2 hd)⟩
  ·refine .inr ⟨u,k,aoz.1 hw,(hD _ _ _).2 ⟨a,ha,Jd,.inr ⟨hu,?_⟩⟩⟩
   exact anE.2 ⟨t,by rw[anO,ann aq];exact hk⟩
 ·intro v m hd
  rcases Ia hu ha hk ((hD _ _ _).1 hd) with hd|⟨rfl,rfl⟩
  ·obtain⟨h1,h2⟩:=h.al v m hd
   refine⟨h1,fun hi=>?_⟩
   obtain⟨w,hw,SL⟩:=h2 hi
   exact⟨w,aoC _ hw,SL⟩
  ·exact⟨OP,fun _=>⟨v++[m],aow _ (aoz.2 J),Gr _ _,.inl rfl⟩⟩
 ·intro m v hm kG
  by_cases e:m=k
  ·subst e
   exact⟨OP,fun _=>⟨u++[m],aow _ (aoz.2 J),Gr _ _⟩⟩
  ·rw[anS aq] at hm
   obtain⟨h1,h2⟩:=h.Pk m v hm kG
   refine⟨h1,fun hi=>?_⟩
   obtain⟨w,hw,SL⟩:=h2 hi
   exact⟨w,aoC _ hw,SL⟩
theorem MG {u:List Nat} (h:vz n p i j bs E c t) (hu:E[c]? =some u):∀L b w,pq n p L i b w→sle u w∨∃s v,s<c∧E[s]? =some v∧j3 v b∧sle v w
 |0,b,w,hw=>by
  obtain⟨rfl,rfl⟩:=hw
  rcases aqk c with rfl|hc
  ·rw[h.hd] at hu;cases hu
   exact .inl (.inl rfl)
  ·exact .inr ⟨0,[i],hc,h.hd,J,.inl rfl⟩
 |L+1,b,w,hw=>by
  obtain⟨d,x,h1,h2,h3,rfl⟩:=sJ hw
  have ep:slt x (x++[b]):=.inl (by simp)
  rcases MG h hu L d x h1 with h4|⟨s,v,hs,hv,SM,hvx⟩
  ·exact .inl (B7 h4<|.inr ep)
  ·obtain⟨h5,h6⟩:=h.al v b ⟨d,SM,uc.2 ⟨h3,h2⟩,.inl ⟨s,hs,hv⟩⟩
   by_cases xw:b=i
   ·subst xw
    exact .inr ⟨0,[b],by omega,h.hd,J,.inr (.inl (by simp[lb h1]))⟩
   ·obtain⟨y,hy,zX,hyv⟩:=h6 xw
    have XU:sle y (x++[b]):=B7 hyv (KU b hvx)
    obtain⟨m,hm⟩:=anE.1 hy
    rcases apZ m c with hmc|rfl|hmc
    ·exact .inr ⟨m,y,hmc,hm,zX,XU⟩
    ·rw[hu] at hm;cases hm
     exact .inl XU
    ·exact .inl (B7 (.inr (h.inc c m u y hmc hu hm)) XU)
theorem Ug {u:List Nat} {a:Nat} (h:vz n p i j bs E c t) (hu:E[c]? =some u) (ha:j3 u a) (hk:(pa n p a)[t]? =some j):Iv n p i j (u++[j]):=by
 obtain⟨L,b,hw⟩:=(h.tr u (dB hu)).wk
 obtain rfl:=sm ha (yp hw)
 obtain⟨h1,h2⟩:=uc.1 (dB hk)
 refine⟨⟨L,ET hw h1 h2⟩,fun M v hv=>?_⟩
 obtain⟨d,x,k1,k2,k3,rfl⟩:=sJ hv
 rcases MG h hu M d x k1 with h4|⟨s,y,hs,hy,zX,XU⟩
 ·exact KU j h4
 ·exact absurd J (h.al y j ⟨d,zX,uc.2 ⟨k3,k2⟩,.inl ⟨s,hs,hy⟩⟩).1
theorem Pm (h:vz n p i j bs E E.length 0):∀L b w,pq n p L i b w→∃v∈E,j3 v b
 |0,b,w,hw=>by obtain⟨rfl,rfl⟩:=hw;exact⟨[i],dB h.hd,rfl⟩
 |L+1,b,w,hw=>by
  obtain⟨d,x,h1,h2,h3,rfl⟩:=sJ hw
  obtain⟨v,hv,SM⟩:=Pm h L d x h1
  obtain⟨s,hs⟩:=anE.1 hv
  obtain⟨h5,h6⟩:=h.al v b ⟨d,SM,uc.2 ⟨h3,h2⟩,.inl ⟨s,(dC.1 hs).1,hs⟩⟩
  by_cases xw:b=i
  ·subst xw;exact⟨[b],dB h.hd,rfl⟩
  ·obtain⟨y,hy,zX,_⟩:=h6 xw
   exact⟨y,hy,zX⟩
theorem WX (h:vz n p i j bs E E.length 0):ED n p i j=none:=aea fun L w hw=>by
 obtain⟨d,x,h1,h2,h3,rfl⟩:=sJ hw
 obtain⟨v,hv,SM⟩:=Pm h L d x h1
 obtain⟨s,hs⟩:=anE.1 hv
 exact(h.al v j ⟨d,SM,uc.2 ⟨h3,h2⟩,.inl ⟨s,(dC.1 hs).1,hs⟩⟩).1 rfl
end
end Go.Ew
namespace Go.Ew
theorem WD {ys:List Int} {q:Nat} (h:q≤ys.length):(FE ys q).length=ys.length:=by unfold FE;simp;omega
theorem IM {xs zs:List Int} {m:Nat} (hx:xs.length=1) (hm:1≤m) (hz:zs.length=m):(xs++zs.drop xs.length).length=m∧(xs++zs.drop xs.length).take 1=List.replicate 1 (xs.headD 0):=by
 obtain⟨a,rfl⟩:=List.length_eq_one_iff.1 hx
 exact⟨by simp;omega,by simp⟩
theorem U9 {ys:List Int} {q m:Nat} {v:Int} (h:ys.take q=List.replicate q v) (hl:ys.length=m) (hq:q<m):(FE ys q).take (q+min q (ys.length-q))=List.replicate (q+min q (ys.length-q)) v:=by
 unfold FE
 rw[h,List.take_replicate,←anU,List.replicate_append_replicate,show min (ys.length-q) q=min q (ys.length-q) from Nat.min_comm _ _]
 exact apL<|by simp
theorem ZA {ys:List Int} {q m:Nat} {v:Int} (h:ys.take q=List.replicate q v) (hl:ys.length=m) (hq:q≤m) (hm:m≤q):ys=List.replicate m v:=by
 rw[ant aq] at h
 rw[h,show q=m from by omega]
theorem Hu {n:Int} (h0:0≤n) (h1:n≤4096):(BitVec.ofInt 64 n).toNat=n.toNat:=by
 rw[ao']
 congr 1
 exact Int.emod_eq_of_lt h0<|by show n<18446744073709551616;omega
theorem ZP {x y:BitVec 64} (h:x=1#64):
  (x >>> 32)*(y >>> 32)+(((x >>> 32)*(y &&& 4294967295#64)+((x &&& 4294967295#64)*(y &&& 4294967295#64)) >>> 32) >>> 32)+(((((x >>> 32)*(y &&& 4294967295#64)+((x &&& 4294967295#64)*(y &&& 4294967295#64)) >>> 32) &&& 4294967295#64)+(x &&& 4294967295#64)*(y >>> 32)) >>> 32)=0#64:=by
 subst h
 have e1:(1#64:BitVec 64) &&& 4294967295#64=1#64:=by decide
 have e2:(1#64:BitVec 64) >>> 32=0#64:=by decide
 have e3:∀z:BitVec 64,1#64*z=z:=fun z=>BitVec.one_mul z
 have e4:∀z:BitVec 64,0#64*z=0#64:=fun z=>BitVec.zero_mul
 have e5:(y &&& 4294967295#64) >>> 32=0#64:=by
  apply aoY
  rw[apn,BitVec.toNat_and,aph]
  have:=Nat.and_lt_two_pow y.toNat<|show (4294967295#64).toNat<2^32 by decide
  rw[apA this];rfl
 have e6:(y >>> 32) >>> 32=0#64:=by
  apply aoY
  rw[apn,apn,aph,aph]
  have:=y.isLt
  show y.toNat/4294967296/4294967296=0
  omega
 have e7:(0#64:BitVec 64) >>> 32=0#64:=by decide
 have e8:(0#64:BitVec 64) &&& 4294967295#64=0#64:=by decide
 have e9:∀z:BitVec 64,0#64+z=z:=fun z=>BitVec.zero_add z
 rw[e1,e2,e4,e4,e3,e3,e5,e9,e9,e7,e8,e9,e9,e6]
def qL (E:List (List Nat)) (c:Nat):List Int:=(E.drop c).map fun w=>((w.getLastD 0:Nat):Int)
def Pv (n:Nat) (p:Nat→Nat→Bool) (i j:Int) (bs td:List Int):Prop:=∃E c,vz n p i.toNat j.toNat bs E c 0∧td=qL E c
def EO (n:Nat) (p:Nat→Nat→Bool) (i j:Int) (bs td:List Int) (x:Int) (q:Nat):Prop:=
 ∃E c u a,vz n p i.toNat j.toNat bs E c q∧E[c]? =some u∧j3 u a∧x=((a:Nat):Int)∧td=qL E (c+1)
section
variable {n:Nat} {p:Nat→Nat→Bool} {i j:Int} {bs td:List Int} {x k v:Int} {q:Nat}
theorem XD {E:List (List Nat)} {c:Nat} (h:(qL E c)[0]? =some x):∃u,E[c]? =some u∧x=((u.getLastD 0:Nat):Int):=by
 unfold qL at h
 rw[anu,an2,an0,anL] at h
 obtain⟨u,h1,h2⟩:=h
 exact⟨u,h1,h2.symm⟩
theorem OD {w:List Nat} {a:Nat} (h:j3 w a):w.getLastD 0=a:=by
 unfold j3 at h
 rw[List.getLastD_eq_getLast?,h];rfl
theorem MH {c t:Nat} {E:List (List Nat)} {u:List Nat} {i j:Nat} (hi:i<n) (h:vz n p i j bs E c t) (hu:u∈E):∃a,j3 u a∧a<n:=by
 obtain⟨L,b,hw⟩:=(h.tr u hu).wk
 exact⟨b,yp hw,Dw hw hi b (dB<|wL hw)⟩
theorem Ui (h0:0≤i) (h1:i.toNat<n):Pv n p i j (List.replicate n (-1)) [i]:=⟨[[i.toNat]],0,Ue h1,by simp[qL,anX h0]⟩
theorem ad' (hi:i.toNat<n) (h:Pv n p i j bs td) (hx:td[0]? =some x):0≤x∧x.toNat<n:=by
 obtain⟨E,c,hb,rfl⟩:=h
 obtain⟨u,hu,rfl⟩:=XD hx
 obtain⟨a,ha,Tg⟩:=MH hi hb (dB hu)
 rw[OD ha]
 exact⟨by omega,by omega⟩
theorem aaE (hi:i.toNat<n) (h:Pv n p i j bs td) (hx:td[0]? =some x):EO n p i j bs (td.drop 1) x 0:=by
 obtain⟨E,c,hb,rfl⟩:=h
 obtain⟨u,hu,rfl⟩:=XD hx
 obtain⟨a,ha,Tg⟩:=MH hi hb (dB hu)
 exact⟨E,c,u,a,hb,hu,ha,by rw[OD ha],by unfold qL;rw[←List.map_drop,aog]⟩
theorem DG {x:Int} (hk:(vQ n (p x.toNat))[q]? =some k):(pa n p x.toNat)[q]? =some k.toNat∧0≤k∧k.toNat<n:=by
 unfold vQ rm at hk
 rw[anu,anL] at hk
 obtain⟨m,h1,rfl⟩:=hk
 refine⟨by simpa [pa] using h1,by omega,?_⟩
 have:=(uc.1<|show m∈pa n p x.toNat from dB h1).1
 omega
theorem WZ (h:EO n p i j bs td x q) (hk:(vQ n (p x.toNat))[q]? =some k) (hv:bs[k.toNat]? =some v) (kG:¬v= -1):EO n p i j bs td x (q+1):=by
 obtain⟨E,c,u,a,hb,hu,ha,rfl,ht⟩:=h
 obtain⟨h1,h2,h3⟩:=DG hk
 rw[dv] at h1
 exact⟨E,c,u,a,WV hb hu ha h1 hv kG,hu,ha,J,ht⟩
theorem af' (h:EO n p i j bs td x q) (hk:(vQ n (p x.toNat))[q]? =some k) (hv:bs[k.toNat]? =some v) (kG:v= -1) (OP:¬k=j) (z8:k=i) (hj:0≤j):EO n p i j (bs.set k.toNat x) td x (q+1):=by
 obtain⟨E,c,u,a,hb,hu,ha,rfl,ht⟩:=h
 obtain⟨h1,h2,h3⟩:=DG hk
 rw[dv] at h1
 subst z8;subst kG
 exact⟨E,c,u,a,af_ hb aq hu ha h1 hv,hu,ha,J,ht⟩
theorem W0 (h:EO n p i j bs td x q) (hk:(vQ n (p x.toNat))[q]? =some k) (hv:bs[k.toNat]? =some v) (kG:v= -1) (OP:¬k=j) (z8:¬k=i) (hj:0≤j) (hi:0≤i):EO n p i j (bs.set k.toNat x) (td++[k]) x (q+1):=by
 obtain⟨E,c,u,a,hb,hu,ha,rfl,ht⟩:=h
 obtain⟨h1,h2,h3⟩:=DG hk
 rw[dv] at h1
 subst kG
 have rC:=(dC.1 hu).1
 refine⟨E++[u++[k.toNat]],c,u,a,WW hb hu ha h1 hv aq aq,by rw[oT rC];exact hu,ha,J,?_⟩
 unfold qL at ht ⊢
 rw[aqb aq,ao2,←ht]
 simp only[anM,List.map_nil,List.getLastD_concat]
 rw[anX h2]
theorem W1 (h:EO n p i j bs td x q) (hq:(vQ n (p x.toNat)).length≤q):Pv n p i j bs td:=by
 obtain⟨E,c,u,a,hb,hu,ha,rfl,ht⟩:=h
 refine⟨E,c+1,WY hb hu ha ?_,ht⟩
 rw[dv] at hq
 unfold vQ rm at hq
 rw[anW] at hq
 exact hq
theorem Pn (h:Pv n p i j bs td) (ht:td=[]):ED n p i.toNat j.toNat=none:=by
 obtain⟨E,c,hb,rfl⟩:=h
 unfold qL at ht
 rw[List.map_eq_nil_iff,List.drop_eq_nil_iff] at ht
 have hc:c=E.length:=Nat.le_antisymm hb.YP ht
 subst hc
 exact WX hb
theorem wD {w:List Nat} {t:Nat}:(rm w)[t]? =some x↔∃m,w[t]? =some m∧x=((m:Nat):Int):=by
 unfold rm
 rw[anu,anL]
 exact⟨fun ⟨m,h1,h2⟩=>⟨m,h1,h2.symm⟩,fun ⟨m,h1,h2⟩=>⟨m,h1,h2.symm⟩⟩
theorem Uh (hi:0≤i∧i.toNat<n) (h:EO n p i j bs td x q) (hk:(vQ n (p x.toNat))[q]? =some k) (hv:bs[k.toNat]? =some v) (kG:v= -1) (OP:k=j) (hj:0≤j):
  ∃w,Bk (bs.set k.toNat x) i j (rm w)∧ED n p i.toNat j.toNat=some w:=by
 obtain⟨E,c,u,a,hb,hu,ha,rfl,ht⟩:=h
 obtain⟨h1,h2,h3⟩:=DG hk
 rw[dv] at h1
 subst kG;subst OP
 have hB:=Ug hb hu ha h1
 refine⟨u++[k.toNat],?_,W4 hB hi.2⟩
 have hT:=hb.tr u<|dB hu
 obtain⟨L,b,hw⟩:=hT.wk
 obtain rfl:=sm ha (yp hw)
 have hT2:=F0 (x:=((a:Nat):Int)) hT hv
 have hlen:=lb hw
 have z7:=(dC.1 hv).1
 have GA:(rm (u++[k.toNat])).length=L+2:=by unfold rm;simp[hlen]
 refine⟨?_,?_,by omega,?_,?_,?_⟩
 ·rw[wD]
  exact⟨i.toNat,by rw[oT aq];exact AA hw,(anX hi.1).symm⟩
 ·rw[GA,wD]
  exact⟨k.toNat,by rw[og aq,show L+2-1-u.length=0 from by omega];rfl,(anX h2).symm⟩
 ·intro t y z hy hz
  obtain⟨m,hm,rfl⟩:=wD.1 hy
  obtain⟨r,hr,rfl⟩:=wD.1 hz
  rw[dv]
  have hs:t+1<(u++[k.toNat]).length:=(dC.1 hr).1
  rw[fA,apb] at hs
  rw[oT aq] at hm
  by_cases gK:t+1<u.length
  ·rw[oT gK] at hr
   exact hT2.Jw t m r hm hr
  ·rw[og aq,show t+1-u.length=0 from by omega] at hr
   simp only[anA,anx] at hr;subst hr
   rw[show t=L from by omega,wL hw] at hm
   cases hm
   rw[anB z7]
 ·intro t ht1 SP hc
  rw[GA] at SP
  obtain⟨m,hm,e⟩:=wD.1 hc
  rw[oT aq] at hm
  exact hT.ne t m ht1 hm aq
 ·intro z hz
  obtain⟨t,ht⟩:=anE.1 hz
  obtain⟨m,hm,rfl⟩:=wD.1 ht
  obtain⟨L2,SL⟩:=hB.1
  have:=Dw SL hi.2 m<|dB hm
  rw[anj,hb.len]
  omega
theorem Sw {k:Nat} (hv:bs[k]? =some v) (kG:v= -1) (hx:0≤x):(bs.set k x).count (-1)+1=bs.count (-1):=by
 subst kG
 obtain⟨h1,h2⟩:=dC.1 hv
 have CK:0<bs.count (-1):=List.count_pos_iff.2 (dB hv)
 rw[List.count_set h1,h2]
 have gH:(x==(-1:Int))=false:=by rw[beq_eq_false_iff_ne];omega
 rw[gH]
 simp
 omega
end
theorem zE {n:Int} {rs:Rows} (h:bF n rs=true) {x:Nat} {r:Row} (hx:rs[x]? =some r):cV r=vQ n.toNat (fW rs x):=by rw[pb h hx,yl]
theorem Gd {bs td:List Int} {k v x:Int} {z:Nat} (hv:bs[k.toNat]? =some v) (kG:v= -1) (hx:0≤x) (hz:bs.count (-1)+td.length≤z):(bs.set k.toNat x).count (-1)+td.length≤z∧(bs.set k.toNat x).count (-1)+(td++[k]).length≤z:=by
 have h:=Sw hv kG hx
 exact⟨by omega,by rw[fA,apb];omega⟩
def fm (n:Int) (rs:Rows) (i j:Int):Option (List Int):=if 0≤i∧i<n∧0≤j∧j<n then (ED n.toNat (fW rs) i.toNat j.toNat).map rm else none
theorem sg {n:Int} {rs:Rows} {i j:Int} (h:i<0∨n≤i∨j<0∨n≤j):fm n rs i j=none:=by unfold fm;rw[anp aq]
theorem zK {n:Int} {rs:Rows} {i j:Int} (h:0≤i∧i<n∧0≤j∧j<n):fm n rs i j=(ED n.toNat (fW rs) i.toNat j.toNat).map rm:=by unfold fm;rw[ann h]
end Go.Ew
namespace Go.Ew
section
variable {n:Nat} {p:Nat→Nat→Bool} {j k s t q i:Nat} {d:List Int} {x y:Int}
variable {a:Nat} {b:Int}
variable {out:List Int} {at_:Int}
end
section
variable {n:Int} {rs:Rows} {l:List Int} {q:Nat} {x y:Int}
end
end Go.Ew
namespace Go.Ew
section
variable {n:Int} {rs:Rows} {a b c x y:Int} (h:bF n rs=true) (ha:0≤a∧a<n) (hb:0≤b∧b<n)
include h ha hb
theorem IP (hs:(fm n rs a b).isSome=true):∃w,(fm n rs a b).getD []=rm w∧Iv n.toNat (fW rs) a.toNat b.toNat w∧a.toNat<n.toNat:=by
 rw[zK ⟨ha.1,ha.2,hb.1,hb.2⟩] at hs ⊢
 cases hf:ED n.toNat (fW rs) a.toNat b.toNat with
 |none=>rw[hf] at hs;cases hs
 |some w=>exact⟨w,rfl,FK hf,by omega⟩
theorem Vg (hs:(fm n rs a b).isSome=true):2≤((fm n rs a b).getD []).length∧(((fm n rs a b).getD []).length:Int)≤n+1:=by
 obtain⟨w,e,hB,Tg⟩:=IP h ha hb hs
 have h2:=FM hB Tg
 obtain⟨L,hL⟩:=hB.1
 have h1:=lb hL
 rw[e];unfold rm;rw[anW]
 omega
end
end Go.Ew
namespace Go.Ew
section
variable {n a b:Int} {rs:Rows}
theorem AU (hs:(fm n rs a b).isSome=true):(0≤a∧a<n)∧0≤b∧b<n:=by
 unfold fm at hs
 split at hs
 ·omega
 ·cases hs
theorem Ve (h:bF n rs=true) (hs:(fm n rs a b).isSome=true):2≤((fm n rs a b).getD []).length∧(((fm n rs a b).getD []).length:Int)≤n+1:=Vg h (AU hs).1 (AU hs).2 hs
theorem Vf (h:bF n rs=true) (hs:(fm n rs a b).isSome=true) {q:Nat} {x:Int} (hx:((fm n rs a b).getD [])[q]? =some x):0≤x∧x<n:=by
 obtain⟨w,hw,⟨⟨L,hb⟩, -⟩,hn⟩:=IP h (AU hs).1 (AU hs).2 hs
 rw[hw] at hx
 unfold rm at hx
 rw[anu] at hx
 cases hq:w[q]? with
 |none=>rw[hq] at hx;cases hx
 |some y=>
  rw[hq] at hx
  have:=Dw hb hn y<|dB hq
  have e:((y:Nat):Int)=x:=anm hx
  omega
end
end Go.Ew
namespace Go.Ew
section
variable (I:List aI) (U:List Int)
def Bx (k:Int):Prop:=
 (k=1∧∃r:Nat,U[r]? =some (-2))∨
 (k=2∧∃i,i<I.length∧pH I U i i=true)∨
 (k=3∧∃r a,r<I.length∧a<I.length∧U[r]? =some (-1)∧iJ I (ql I ((r:Nat):Int)) ((a:Nat):Int)=false∧pH I U a r=true)∨
 (k=4∧∃r a b,r<I.length∧a<I.length∧b<I.length∧U[r]? =some ((b:Nat):Int)∧a≠b∧iJ I (ql I ((r:Nat):Int)) ((a:Nat):Int)=false∧pH I U a r=true∧pH I U b a=true)∨
 (k=5∧∃i,i<I.length∧cl I.length (EA I U) i i=true)∨
 (k=6∧∃o r a,o<I.length∧r<I.length∧a<I.length∧((r:Nat):Int)∈kX I ((o:Nat):Int)∧U[r]? =some (-1)∧iJ I (ql I ((r:Nat):Int)) ((a:Nat):Int)=false∧BB I U ((o:Nat):Int) a r=true)∨
 (k=7∧∃o i,o<I.length∧i<I.length∧BB I U ((o:Nat):Int) i i=true)
end
section
variable {I:List aI} {U:List Int} {n:Nat} {p:Nat→Nat→Bool}
theorem nK {α:Type} {l:List α} {q:α→Bool}:(l.find? q).isSome=true↔∃x∈l,q x=true:=by
 rw[List.find?_isSome]
theorem A4:(cQ ((n:Nat):Int) (cE n p)).isSome=true↔∃i,i<n∧p i i=true:=by
 unfold cQ
 rw[nK,dv]
 constructor
 ·rintro⟨i,hi,h⟩
  have hi:=ano.1 hi
  rw[um hi hi] at h
  exact⟨i,hi,h⟩
 ·rintro⟨i,hi,h⟩
  exact⟨i,ano.2 hi,by rw[um hi hi];exact h⟩
theorem sG {r:Nat} (hr:r<n) {z:Int}:z∈dh I ((n:Nat):Int) (cE n p) ((r:Nat):Int)↔∃a,a<n∧p a r=true∧iJ I (ql I ((r:Nat):Int)) ((a:Nat):Int)=false∧z=((a:Nat):Int):=by
 unfold dh aY
 rw[anD]
 unfold eQ
 rw[ann aq,wE,dv]
 constructor
 ·rintro⟨⟨a,ha,h,rfl⟩,h2⟩
  refine⟨a,by omega,?_,by simpa using h2,J⟩
  rw[dv,jA aq hr] at h
  exact h
 ·rintro⟨a,ha,h,h2,rfl⟩
  refine⟨⟨a,by omega,?_,J⟩,by rw[h2];rfl⟩
  rw[dv,jA ha hr]
  exact h
theorem zW {l:List Int}:decide (0<((l.length:Nat):Int))=true↔∃z,z∈l:=by
 rw[ank]
 cases l with
 |nil=>simp
 |cons a l=>simp only[iM];exact⟨fun _=>⟨a,by simp⟩,fun _=>by omega⟩
theorem wq {r:Nat} (hl:U.length=I.length) (hr:r<I.length) {x d:Int}:U.getD r d=x↔U[r]? =some x:=by
 rw[gZ,eB aq]
 simp
theorem UP {k:Int}:(oZ U k).isSome=true↔∃r:Nat,U[r]? =some (-2):=by
 rw[←NY,ank]
 have h:=uf (p:=fun z_:Int=>decide ((-2)=z_)) (r:=U)
 rw[←ank (p:=0≤_),h,anV]
 simp only[ank]
 constructor
 ·rintro⟨x,hx,rfl⟩
  obtain⟨r,hr⟩:=apj hx
  exact⟨r,hr⟩
 ·rintro⟨r,hr⟩
  exact⟨_,dB hr,J⟩
theorem wg {n:Nat} {q:Nat→Bool}:((List.range n).find? q).isSome=true↔∃i,i<n∧q i=true:=by
 rw[nK]
 simp only[ano]
theorem HH (hl:U.length=I.length) (ep:∀x∈U,x<((I.length:Nat):Int)) {k:Int} (hk:k=1∨k=2∨k=3∨k=4∨k=5∨k=6∨k=7):(j9 I U k).isSome=true↔Bx I U k:=by
 unfold j9 Bx
 rcases hk with rfl|rfl|rfl|rfl|rfl|rfl|rfl
 ·simp[UP]
 ·simp only[Int.reduceEq,aoX,aoa,aqj,aqq,aqs,apO]
  rw[←Cd]
  exact A4
 ·simp only[Int.reduceEq,aoX,aoa,aqj,aqq,aqs,apO]
  unfold pX Aj
  rw[apY,wg,hl]
  constructor
  ·rintro⟨r,hr,h⟩
   unfold vg at h
   rw[eI,ank,wq hl hr] at h
   obtain⟨z,hz⟩:=zW.1 h.2
   unfold cp at hz
   obtain⟨a,ha,h1,h2,_⟩:=(sG hr).1 hz
   exact⟨r,a,hr,ha,h.1,h2,h1⟩
  ·rintro⟨r,a,hr,ha,h1,h2,h3⟩
   refine⟨r,hr,?_⟩
   unfold vg
   rw[eI,ank,wq hl hr]
   exact⟨h1,zW.2 ⟨((a:Nat):Int),(sG hr).2 ⟨a,ha,h3,h2,J⟩⟩⟩
 ·simp only[Int.reduceEq,aoX,aoa,aqj,aqq,aqs,apO]
  unfold pY FL
  rw[apY,wg,hl]
  constructor
  ·rintro⟨r,hr,h⟩
   unfold vL zo at h
   rw[eI,nK] at h
   obtain⟨h0,z,hz,hq⟩:=h
   have h0:¬U.getD r 0<0:=by simpa using h0
   unfold cp at hz
   obtain⟨a,ha,h1,h2,rfl⟩:=(sG hr).1 hz
   have hb:U[r]? =some (((U.getD r 0).toNat:Nat):Int):=by
    rw[←wq hl hr (d:=0)];omega
   have BO:=ep _<|dB hb
   unfold zn at hq
   rw[eI] at hq
   obtain⟨I9,nw⟩:=hq
   have gH:¬((a:Nat):Int)=U.getD r 0:=by simpa using I9
   have hcc:((((U.getD r 0).toNat:Nat)):Int)=U.getD r 0:=by omega
   rw[←hcc] at nw
   unfold cp at nw
   rw[um aq ha] at nw
   exact⟨r,a,(U.getD r 0).toNat,hr,ha,by omega,hb,by omega,h2,h1,nw⟩
  ·rintro⟨r,a,b,hr,ha,hb,h1,h2,h3,h4,h5⟩
   refine⟨r,hr,?_⟩
   have h1':=(wq hl hr (d:=0)).2 h1
   unfold vL zo
   rw[eI,nK,h1']
   refine⟨by simp,((a:Nat):Int),(sG hr).2 ⟨a,ha,h4,h3,J⟩,?_⟩
   unfold zn cp
   rw[eI,um hb ha]
   exact⟨by simp;omega,h5⟩
 ·simp only[Int.reduceEq,aoX,aoa,aqj,aqq,aqs,apO]
  rw[←Cd]
  exact A4
 ·simp only[Int.reduceEq,aoX,aoa,aqj,aqq,aqs,apO]
  unfold se IJ
  rw[apY,wg]
  constructor
  ·rintro⟨o,ho,h⟩
   unfold II D6 at h
   obtain⟨z,hz,hq⟩:=nK.1 h
   have hz2:z∈cw I ((o:Nat):Int):=by
    unfold kX aY at hz
    exact(anD.1 hz).1
   unfold B9 at hq
   rw[eI,ank] at hq
   obtain⟨h1,h2⟩:=hq
   have hzn:0≤z∧z<((I.length:Nat):Int):=by
    by_cases hz0:0≤z∧z<((I.length:Nat):Int)
    ·exact hz0
    ·exfalso
     rw[zW] at h2
     obtain⟨y,hy⟩:=h2
     unfold dh aY eQ at hy
     rw[anp hz0] at hy
     simp at hy
   obtain⟨r,rfl⟩:∃r:Nat,z=((r:Nat):Int):=⟨z.toNat,by omega⟩
   have hr:r<I.length:=by omega
   rw[dv,wq hl hr] at h1
   obtain⟨y,hy⟩:=zW.1 h2
   unfold cU at hy
   obtain⟨a,ha,h3,h4,_⟩:=(sG hr).1 hy
   exact⟨o,r,a,ho,hr,ha,hz,h1,h4,h3⟩
  ·rintro⟨o,r,a,ho,hr,ha,h1,h2,h3,h4⟩
   refine⟨o,ho,?_⟩
   unfold II D6
   refine nK.2 ⟨((r:Nat):Int),h1,?_⟩
   unfold B9
   rw[eI,ank,dv,wq hl hr]
   exact⟨h2,zW.2 ⟨((a:Nat):Int),(sG hr).2 ⟨a,ha,h4,h3,J⟩⟩⟩
 ·simp only[Int.reduceEq,aoX,aoa,aqj,aqq,aqs,apO]
  unfold sc IC
  rw[apY,wg]
  constructor
  ·rintro⟨o,ho,h⟩
   unfold Xw at h
   obtain⟨i,hi,h⟩:=A4.1 h
   exact⟨o,i,ho,hi,h⟩
  ·rintro⟨o,i,ho,hi,h⟩
   exact⟨o,ho,A4.2 ⟨i,hi,h⟩⟩
end
structure BW (ju:List aI) (pF:List Int) (I:List aI) (U:List Int) (g:Nat→Nat):Prop where
 lt:∀a,a<ju.length→g a<I.length
 inj:∀a b,a<ju.length→b<ju.length→g a=g b→a=b
 ah:∀a b,a<ju.length→b<ju.length→Dg ju a b=true→Dg I (g a) (g b)=true
 fr:∀r x,pF[r]? =some x→U[g r]? =some (if 0≤x then ((g x.toNat:Nat):Int) else x)
 wr:∀a r,a<ju.length→r<ju.length→iJ ju (ql ju ((r:Nat):Int)) ((a:Nat):Int)=false→iJ I (ql I ((g r:Nat):Int)) ((g a:Nat):Int)=false
 kp:∀o r,o<ju.length→r<ju.length→((r:Nat):Int)∈kX ju ((o:Nat):Int)→((g r:Nat):Int)∈kX I ((g o:Nat):Int)
section
variable {ju I:List aI} {pF U:List Int} {g:Nat→Nat}
theorem BW.ed (E:BW ju pF I U g) (hl:pF.length=ju.length) (kQ:U.length=I.length) {a b:Nat} (ha:a<ju.length) (hb:b<ju.length) (h:Mu ju pF a b=true):Mu I U (g a) (g b)=true:=by
 unfold Mu at h ⊢
 rw[anv] at h ⊢
 rcases h with h|h
 ·exact .inl (E.ah a b ha hb h)
 ·refine .inr ?_
  unfold Lf at h ⊢
  rw[ank,wq hl hb] at h
  have:=E.fr b _ h
  rw[ann aq,dv] at this
  rw[ank,wq kQ (E.lt b hb)]
  exact this
theorem BW.co (E:BW ju pF I U g) (hl:pF.length=ju.length) (kQ:U.length=I.length) {a b:Nat} (ha:a<ju.length) (hb:b<ju.length) (h:pH ju pF a b=true):pH I U (g a) (g b)=true:=by
 unfold pH at h
 refine((pI ha hb).1 h).least (ai:=fun x y=>pH I U (g x) (g y)=true) (fun x y hx hy hp=>vh<|E.ed hl kQ hx hy hp) fun x y z hx hy hz h1 h2=>xL (E.lt y hy) h1 h2
theorem BW.cf (E:BW ju pF I U g) (ep:∀x∈pF,x<((ju.length:Nat):Int)) {p' p:Nat→Nat→Prop} (hp:∀a b,a<ju.length→b<ju.length→p' a b→p (g a) (g b)) {a b r:Nat} (h:Nb ju pF p' a b r):Nb I U p (g a) (g b) (g r):=by
 have hb:=ep _<|dB h.fr
 have hf:=E.fr r _ h.fr
 rw[ann aq,dv] at hf
 exact⟨E.lt a h.a1,E.lt r h.r1,hf,fun e=>h.ne (E.inj a b h.a1 aq e),E.wr a b h.a1 aq h.wr,hp a r h.a1 h.r1 h.ah⟩
theorem A2 {I:List aI} {U:List Int} {o a:Nat} (ho:o<I.length) (ha:a<I.length):((a:Nat):Int)∈bL ((I.length:Nat):Int) (cp I U) ((o:Nat):Int)↔pH I U a o=true∨a=o:=by
 unfold bL
 rw[ann aq,wE,dv,dv]
 constructor
 ·rintro⟨k,hk,h,e⟩
  obtain rfl:k=a:=by omega
  rw[anv,ank] at h
  unfold cp at h
  rw[jA hk ho] at h
  exact h
 ·intro h
  refine⟨a,ha,?_,J⟩
  rw[anv,ank]
  unfold cp
  rw[jA ha ho]
  exact h
theorem BW.sn (E:BW ju pF I U g) (hl:pF.length=ju.length) (kQ:U.length=I.length) (ep:∀x∈pF,x<((ju.length:Nat):Int)) {o a b:Nat} (ho:o<ju.length) (ha:a<ju.length) (hb:b<ju.length) (h:BB ju pF ((o:Nat):Int) a b=true):BB I U ((g o:Nat):Int) (g a) (g b)=true:=by
 have hR:=aba I U ((g o:Nat):Int)
 have key:Pu ju pF ((o:Nat):Int) (fun x y=>x<ju.length→y<ju.length→BB I U ((g o:Nat):Int) (g x) (g y)=true):=by
  refine⟨fun x y hx hy hc h1 h2 _ _=>?_,fun x y z hx hy hz h1 h2 _ _=>?_,fun x y r hr k hx hy=>?_⟩
  ·rw[A2 ho hx] at h1
   rw[A2 ho hy] at h2
   refine hR.base _ _ (E.lt x hx) (E.lt y hy) (E.co hl kQ hx hy hc) ((A2 (E.lt o ho)<|E.lt x hx).2 ?_)<|(A2 (E.lt o ho)<|E.lt y hy).2 ?_
   ·exact h1.imp (E.co hl kQ hx ho)<|ani g
   ·exact h2.imp (E.co hl kQ hy ho)<|ani g
  ·exact hR.trans _ _ _ (E.lt x hx) (E.lt y hy) (E.lt z hz) (h1 hx hy) (h2 hy hz)
  ·exact hR.PM _ _ (g r) (E.kp o r ho k.r1 hr)<|E.cf ep (p:=fun x y=>BB I U ((g o:Nat):Int) x y=true) (fun a b ha hb hp=>hp ha hb) k
 exact pN.1 h _ key ha hb
theorem BW.pat (E:BW ju pF I U g) (hl:pF.length=ju.length) (kQ:U.length=I.length) (ep:∀x∈pF,x<((ju.length:Nat):Int)) {k:Int} (h:Bx ju pF k):Bx I U k:=by
 unfold Bx at h ⊢
 rcases h with ⟨h0,r,hr⟩|⟨h0,i,hi,h⟩|⟨h0,r,a,hr,ha,h1,h2,h3⟩|⟨h0,r,a,b,hr,ha,hb,h1,h2,h3,h4,h5⟩|⟨h0,i,hi,h⟩|⟨h0,o,r,a,ho,hr,ha,h1,h2,h3,h4⟩|⟨h0,o,i,ho,hi,h⟩
 ·have:=E.fr r _ hr
  rw[anp aq] at this
  exact .inl ⟨h0,g r,this⟩
 ·exact .inr (.inl ⟨h0,g i,E.lt i hi,E.co hl kQ hi hi h⟩)
 ·have:=E.fr r _ h1
  rw[anp aq] at this
  exact .inr (.inr (.inl ⟨h0,g r,g a,E.lt r hr,E.lt a ha,this,E.wr a r ha hr h2,E.co hl kQ ha hr h3⟩))
 ·have:=E.fr r _ h1
  rw[ann aq,dv] at this
  exact .inr (.inr (.inr (.inl ⟨h0,g r,g a,g b,E.lt r hr,E.lt a ha,E.lt b hb,this,fun e=>h2 (E.inj a b ha hb e),E.wr a r ha hr h3,E.co hl kQ ha hr h4,E.co hl kQ hb ha h5⟩)))
 ·refine .inr (.inr (.inr (.inr (.inl ⟨h0,g i,E.lt i hi,?_⟩))))
  refine((pI hi hi).1 h).least (ai:=fun x y=>cl I.length (EA I U) (g x) (g y)=true) (fun x y hx hy hp=>vh ?_) fun x y z hx hy hz h1 h2=>xL (E.lt y hy) h1 h2
  unfold EA at hp ⊢
  rw[anv,@decide_eq_true_iff _ (Classical.propDecidable _)] at hp ⊢
  rcases hp with hp|⟨r,hp⟩
  ·exact .inl (E.co hl kQ hx hy hp)
  ·exact .inr ⟨g r,E.cf ep (fun a b ha hb h=>E.co hl kQ ha hb h) hp⟩
 ·have:=E.fr r _ h2
  rw[anp aq] at this
  exact .inr (.inr (.inr (.inr (.inr (.inl ⟨h0,g o,g r,g a,E.lt o ho,E.lt r hr,E.lt a ha,E.kp o r ho hr h1,this,E.wr a r ha hr h3,E.sn hl kQ ep ho ha hr h4⟩)))))
 ·exact .inr (.inr (.inr (.inr (.inr (.inr ⟨h0,g o,g i,E.lt o ho,E.lt i hi,E.sn hl kQ ep ho hi hi h⟩)))))
end
structure Du (I:List aI) (U:List Int) (t:Nat→Nat):Prop where
 inj:∀a b,a<I.length→b<I.length→t a=t b→a=b
 ah:∀a b,a<I.length→b<I.length→Dg I a b=true→t a<t b
 thin:∀r:Nat,U[r]?≠some (-2)
 rf:∀(r b:Nat),r<I.length→b<I.length→U[r]? =some ((b:Nat):Int)→t b<t r∧ql I ((b:Nat):Int)=ql I ((r:Nat):Int)
 last:∀(r a b:Nat),r<I.length→a<I.length→b<I.length→U[r]? =some ((b:Nat):Int)→iJ I (ql I ((r:Nat):Int)) ((a:Nat):Int)=false→t a<t r→a≠b→t a<t b
 init:∀(r a:Nat),r<I.length→a<I.length→U[r]? =some (-1)→iJ I (ql I ((r:Nat):Int)) ((a:Nat):Int)=false→¬t a<t r
section
variable {I:List aI} {U:List Int} {t:Nat→Nat}
theorem Du.co (E:Du I U t) (hl:U.length=I.length) {a b:Nat} (ha:a<I.length) (hb:b<I.length) (h:pH I U a b=true):t a<t b:=by
 refine((pI ha hb).1 h).least (ai:=fun x y=>t x<t y) (fun x y hx hy hp=>?_) fun x y z _ _ _ h1 h2=>aqu h1 h2
 unfold Mu at hp
 rw[anv] at hp
 rcases hp with hp|hp
 ·exact E.ah x y hx hy hp
 ·unfold Lf at hp
  rw[ank,wq hl hy] at hp
  exact(E.rf y x hy hx hp).1
theorem Du.cf (E:Du I U t) (ep:∀x∈U,x<((I.length:Nat):Int)) {p:Nat→Nat→Prop} {a b r:Nat} (h:Nb I U p a b r) (hp:p a r→t a<t r):t a<t b:=by
 have hb:=ep _<|dB h.fr
 have hw:=h.wr
 rw[(E.rf r b h.r1 aq h.fr).2] at hw
 exact E.last r a b h.r1 h.a1 aq h.fr hw (hp h.ah) h.ne
theorem Du.sn (E:Du I U t) (hl:U.length=I.length) (ep:∀x∈U,x<((I.length:Nat):Int)) {o:Int} {a b:Nat} (ha:a<I.length) (hb:b<I.length) (h:BB I U o a b=true):t a<t b:=by
 refine pN.1 h (fun x y=>t x<t y) ⟨fun x y hx hy hc _ _=>E.co hl hx hy hc,fun x y z _ _ _ h1 h2=>aqu h1 h2,fun x y r _ k=>E.cf ep k id⟩
theorem Du.none (E:Du I U t) (hl:U.length=I.length) (ep:∀x∈U,x<((I.length:Nat):Int)) {k:Int}:¬Bx I U k:=by
 unfold Bx
 rintro(⟨h0,r,hr⟩|⟨h0,i,hi,h⟩|⟨h0,r,a,hr,ha,h1,h2,h3⟩|⟨h0,r,a,b,hr,ha,hb,h1,h2,h3,h4,h5⟩|⟨h0,i,hi,h⟩|⟨h0,o,r,a,ho,hr,ha,h1,h2,h3,h4⟩|⟨h0,o,i,ho,hi,h⟩)
 ·exact E.thin r hr
 ·exact apq _<|E.co hl hi hi h
 ·exact E.init r a hr ha h1 h2<|E.co hl ha hr h3
 ·have:=E.last r a b hr ha hb h1 h3 (E.co hl ha hr h4) h2
  have:=E.co hl hb ha h5
  omega
 ·refine apq (t i)<|((pI hi hi).1 h).least (ai:=fun x y=>t x<t y) (fun x y hx hy hp=>?_) fun x y z _ _ _ h1 h2=>aqu h1 h2
  unfold EA at hp
  rw[anv,@decide_eq_true_iff _ (Classical.propDecidable _)] at hp
  rcases hp with hp|⟨r,hp⟩
  ·exact E.co hl hx hy hp
  ·exact E.cf ep hp fun h=>E.co hl hp.a1 hp.r1 h
 ·exact E.init r a hr ha h2 h3<|E.sn hl ep ha hr h4
 ·exact apq _<|E.sn hl ep hi hi h
end
section
variable {I ju:List aI} {U pF:List Int}
theorem rO (hl:U.length=I.length) (ep:∀x∈U,x<((I.length:Nat):Int)) {lv:Int}:ik I U lv=none↔∀k∈dQ lv,¬Bx I U k:=by
 unfold ik
 rw[apH]
 refine forall_congr' fun k=>forall_congr' fun hk=>?_
 rw[←HH hl ep (LH hk)]
 cases j9 I U k<;>simp
theorem IQ {k:Int} {x:vo} (h:j9 I U k=some x):x.1=k:=by
 unfold j9 at h
 split at h
 ·unfold oZ at h;split at h
  ·cases h;rfl
  ·cases h
 ·split at h
  ·unfold j8 at h;obtain⟨_,_,rfl⟩:=anL.1 h;rfl
  ·split at h
   ·unfold pX at h;obtain⟨_,_,rfl⟩:=anL.1 h;rfl
   ·split at h
    ·unfold pY at h;obtain⟨_,_,rfl⟩:=anL.1 h;rfl
    ·split at h
     ·unfold j8 at h;obtain⟨_,_,rfl⟩:=anL.1 h;rfl
     ·split at h
      ·unfold se at h;obtain⟨_,_,rfl⟩:=anL.1 h;rfl
      ·unfold sc at h;obtain⟨_,_,rfl⟩:=anL.1 h;rfl
theorem Wn (hl:U.length=I.length) (ep:∀x∈U,x<((I.length:Nat):Int)) (S6:pF.length=ju.length) (acL:∀x∈pF,x<((ju.length:Nat):Int)) {g:Nat→Nat} (E:BW ju pF I U g) {lv:Int} (h:ik I U lv=none):ik ju pF lv=none:=by
 rw[rO hl ep] at h
 rw[rO S6 acL]
 exact fun k hk hp=>h k hk<|E.pat S6 hl acL hp
end
end Go.Ew
namespace Go.Ew
section
variable {xs ys:List dX} {q k:Nat} {x:dX} {z:dX}
theorem aav (h:ys.length=xs.length) (hq:q≤ys.length):((ys.take q++List.replicate (ys.length-q) z).take ((q:Nat):Int).toNat).length≤xs.length:=by
 simp only[dv,gY,fA,od];omega
theorem aau (h:∀x∈ys,x∈xs) (hq:q≤ys.length):∀x∈(ys.take q++List.replicate (ys.length-q) z).take ((q:Nat):Int).toNat,x∈xs:=by
 rw[dv,aoI (by rw[gY];omega),ant (by rw[gY];omega)]
 exact fun x hx=>h x<|aoB hx
theorem aat (h:ys.length=xs.length∧∀x∈ys,x∈xs) {i:Nat} (hx:ys[i]? =some x):(ys.set k x).length=xs.length∧∀y∈ys.set k x,y∈xs:=by
 refine⟨by rw[anj];exact h.1,fun y hy=>?_⟩
 rcases an_ hy with hy|rfl
 ·exact h.2 y hy
 ·exact h.2 _<|dB hx
end
theorem TN {I:List aI} {U:List Int} {n:Int} {rs:Rows} (hn:n=((I.length:Nat):Int)) (hr:bF n rs=true) (eu:U.length=I.length) (fG:∀x∈U,x<((I.length:Nat):Int)):ot I.length (cH I U n rs):=by
 subst hn
 have h:=qM (I:=I) (U:=U) hr
 obtain⟨m,p,e,hm,rfl⟩:=l6 hr
 obtain rfl:m=I.length:=by omega
 exact DU eu fG h
theorem Ic {I:List aI} {U:List Int} {lv:Int} (h:¬eZ I U lv=0):ik I U lv=none:=by
 unfold eZ at h
 split at h
 ·exact absurd J h
 ·cases e:ik I U lv<;>simp_all
theorem Pc {I:List aI} {U:List Int} {lv:Int} (h:eZ I U lv=0):(ik I U lv).isSome=true:=by
 unfold eZ at h
 split at h
 ·assumption
 ·cases h
theorem aah {I:List aI} {U:List Int} {lv k r a b o:Int} (h:qg (ik I U lv) k r a b o) (hc:eZ I U lv=0) (hk:k=6∨k=7):0≤o∧o<((I.length:Nat):Int):=by
 obtain⟨y,hy⟩:=anJ.1 (Pc hc)
 have e:=h.2 y hy
 subst e
 unfold ik at hy
 obtain⟨q,hq,hp⟩:=List.exists_of_findSome?_eq_some hy
 have e:=IQ hp
 simp only at e
 subst e
 rcases hk with rfl|rfl
 ·have hp:se I U 6=some (6,r,a,b,o):=hp
  unfold se at hp
  obtain⟨o',h1,h2⟩:=anL.1 hp
  simp only[an1] at h2
  unfold IJ at h1
  have:=ano.1<|apM h1
  omega
 ·have hp:sc I U 7=some (7,r,a,b,o):=hp
  unfold sc at hp
  obtain⟨o',h1,h2⟩:=anL.1 hp
  simp only[an1] at h2
  unfold IC at h1
  have:=ano.1<|apM h1
  omega
end Go.Ew
namespace Go.Ew
open Go.RowKit
def pk (s:ByteArray):List (BitVec 8):=s.data.toList.map fun b=>b.toBitVec
def sE (s:ByteArray) (i:Int):Int:=((s[i.toNat]?).map fun c=>((c.toNat:Nat):Int)).getD 0
theorem ad6 {s:ByteArray} {i:Int} {c:UInt8} (h:s[i.toNat]? =some c):sE s i=((c.toNat:Nat):Int):=by unfold sE;rw[h];rfl
theorem FB {s:ByteArray} {i j:Nat} (h:i≤j) (h2:j≤s.size):(s.extract i j).size=j-i:=by rw[ByteArray.size_extract];omega
theorem C4 (s:ByteArray) (i j:Nat):(s.extract i j).size≤s.size:=by rw[ByteArray.size_extract];omega
theorem ux (s:ByteArray):(pk s).length=s.size:=by unfold pk;rw[anW,an4];rfl
section
variable {P:Program} {n:Nat} {ops:Array Oper} {f:aQ} {w:World} {K:aQ→World→Prop} {x y:Operand} {d:Nat} {ty T T2 e:TypeId} {ps:String} {af:Array Edge} {M M0:Nat→Prop} {w0:World} {l:List Item} {B:Nat} {a:Option Addr} {k c:Nat} {s:ByteArray} {lo hi:Int} {qY oX:Operand}
theorem PI (ox:bG n x=true) (ol:bG n qY=true) (oh:bG n oX=true) (hx:ev f x=.string s) (hl:ev f qY=.int .i64 lo) (hh:ev f oX=.int .i64 hi) (hb:0≤lo∧lo≤hi∧hi≤(s.size:Int)) (hu:P.underlying T=some .string) (h:K (cb f d (.string (s.extract lo.toNat hi.toNat))) w):
  SO P n ops ⟨some d,.slice T x (some qY) (some oX) none,ty,ps,af,none⟩ f w K:=by
 refine SO.value (v:=.string (s.extract lo.toNat hi.toNat)) (w':=w) ?_ h
 simp[execOp,aN ox,aN ol,aN oh,hx,hl,hh,Instr.sliceAt,gG hu,run_slice_string (P:=P) w T s .i64 .i64 lo hi hu hb.1 hb.2.1 hb.2.2]
theorem UY (ox:bG n x=true) (ol:bG n qY=true) (hx:ev f x=.string s) (hl:ev f qY=.int .i64 lo) (hb:0≤lo∧lo≤(s.size:Int)) (hu:P.underlying T=some .string) (h:K (cb f d (.string (s.extract lo.toNat s.size))) w):
  SO P n ops ⟨some d,.slice T x (some qY) none none,ty,ps,af,none⟩ f w K:=by
 refine SO.value (v:=.string (s.extract lo.toNat s.size)) (w':=w) ?_ h
 simp[execOp,aN ox,aN ol,hx,hl,Instr.sliceAt,gG hu,run_slice_string_l (P:=P) w T s hu .i64 lo hb.1 hb.2]
theorem ahH (ox:bG n x=true) (oh:bG n oX=true) (hx:ev f x=.string s) (hh:ev f oX=.int .i64 hi) (hb:0≤hi∧hi≤(s.size:Int)) (hu:P.underlying T=some .string) (h:K (cb f d (.string (s.extract 0 hi.toNat))) w):
  SO P n ops ⟨some d,.slice T x none (some oX) none,ty,ps,af,none⟩ f w K:=by
 refine SO.value (v:=.string (s.extract 0 hi.toNat)) (w':=w) ?_ h
 simp[execOp,aN ox,aN oh,hx,hh,Instr.sliceAt,gG hu,run_slice_string_h (P:=P) w T s hu .i64 hi hb.1 hb.2]
theorem Nl (s:ByteArray) (cap i:Nat) {b:BitVec 8} (h:(pk s)[i]? =some b):(bytesRow s cap)[i]? =some (U8 b):=by
 have hi:=(dC.1 h).1
 rw[ux] at hi
 unfold pk at h
 rw[anu,aox] at h
 unfold bytesRow
 have tM:i<s.data.size:=hi
 rw[ape (by simpa using tM),Array.getElem?_map]
 rw[Array.getElem?_eq_getElem tM] at h ⊢
 simp only[aoy,anx] at h ⊢
 rw[←h]
 rfl
theorem ajr (H:HI M0 w0 w l) (ox:bG n x=true) (hx:ev f x=.string s) (pA:s.size≤maxLen) (hs:P.underlying T=some .string) (hd:P.underlying T2=some (.slice e)) (he:P.underlying e=some (.int .u8))
  (h:∀a c w',Ext w w'→HI M0 w0 w' (tg (.slice a (pk s).length c) (pk s)::l)→K (cb f d (.slice a (pk s).length c)) w'):
  SO P n ops ⟨some d,.convert T T2 x,ty,ps,af,none⟩ f w K:=by
 have hr:=run_bytes_of_string (P:=P) w T T2 e s hs hd he
 have hX:Ext w (w.drew.alloc (.cells (bytesRow s (grownCap w s.size 0 e)) e ((bytesRow s (grownCap w s.size 0 e)).size,(bytesRow s (grownCap w s.size 0 e)).size+1))):=(Ext.drew w).trans (Ext.alloc _ _)
 have hk:K (cb f d (.slice (some ⟨w.heap.size,0,none⟩) (pk s).length (grownCap w s.size 0 e))) _:=h _ _ _ hX ((H.ext hX).put rfl (RV.list.2 ⟨_,_,_,rfl,rfl,by rw[ux];exact grownCap_ge w s.size 0 e,grownCap_le_maxLen w s.size 0 e pA,.inr ⟨_,rfl,fun i b hb=>?_⟩⟩))
 ·refine SO.value (v:=.slice (some ⟨w.heap.size,0,none⟩) s.size (grownCap w s.size 0 e)) ?_<|by rw[ux] at hk;exact hk
  simp[execOp,aN ox,hx,hr]
 ·have lj:(⟨w.heap.size,0,none⟩:Addr).add (i*GT.size (BitVec 8))=⟨w.heap.size,i,none⟩:=by show Addr.add _ (i*1)=_;rw[FQ,apu]
  rw[lj]
  refine⟨[U8 b],J,fun hM=>?_,fun j v hj=>?_⟩
  ·exact absurd (H.mb _ hM)<|apq _
  ·cases j with
   |succ j=>simp at hj
   |zero=>
    simp only[anA,anx] at hj
    subst hj
    rw[show ((⟨w.heap.size,i,none⟩:Addr).add 0)=⟨w.heap.size,i,none⟩ from by unfold Addr.add;simp]
    have hg:(w.drew.alloc (.cells (bytesRow s (grownCap w s.size 0 e)) e ((bytesRow s (grownCap w s.size 0 e)).size,(bytesRow s (grownCap w s.size 0 e)).size+1))).heap[w.heap.size]? =some (.cells (bytesRow s (grownCap w s.size 0 e)) e ((bytesRow s (grownCap w s.size 0 e)).size,(bytesRow s (grownCap w s.size 0 e)).size+1)):=by
     show (w.heap.push _)[w.heap.size]? =_
     simp
    rw[cell_of_row _ w.heap.size _ _ e _ hg]
    exact Nl s _ i hb
theorem XQ {kk:IntKind} {i:Int} (ox:bG n x=true) (oy:bG n y=true) (hx:ev f x=.string s) (hy:ev f y=.int kk i) (hi:0≤i∧i<(s.size:Int)) (hu:P.underlying T=some .string)
  (h:K (cb f d (.int .u8 (sE s i))) w):SO P n ops ⟨some d,.index T x y,ty,ps,af,none⟩ f w K:=
 ixS ox oy hx hy hi hu fun c hc=>by rw[←ad6 hc];exact h
theorem ahG {i j:Int} (ox:bG n x=true) (oy:bG n y=true) (hx:ev f x=.int .u8 i) (hy:ev f y=.int .u8 j) (hi:0≤i-j∧i-j≤255) (h:K (cb f d (.int .u8 (i-j))) w):SO P n ops ⟨some d,.binOp .sub T x y T2,ty,ps,af,none⟩ f w K:=
 bin ox oy hx hy (by simp[binOp,Op.intArith,(w8 hi.1 hi.2).1]) h
theorem Hp (b:BitVec 64):IntKind.i64.wrap (b.toNat:Int)=b.toInt:=by
 have:=b.isLt
 unfold IntKind.wrap
 rw[apJ]
 simp[IntKind.bits,IntKind.signed]
 split<;>split<;>omega
theorem cvT {e:TypeDesc} {b:BitVec 64} (ox:bG n x=true) (hx:ev f x=aj b) (h1:P.underlying T=some e) (h2:P.underlying T2=some (.int .i64)) (h:K (cb f d (.int .i64 b.toInt)) w):
  SO P n ops ⟨some d,.convert T T2 x,ty,ps,af,none⟩ f w K:=
 cv ox hx h1 h2 (by rw[Hp];exact h)
end
end Go.Ew
namespace Go.Ew
structure Ri (cs:ByteArray):Prop where
 two:2≤cs.size
 low:cs.size<4294967281
 asc:∀(j:Nat) b,cs.data.toList[j]? =some b→b.toNat<128
def trimB (s cs:ByteArray):ByteArray:=⟨(Go.Lib.trimS s.data.toList cs.data.toList).toArray⟩
def B4 (s cs:ByteArray):ByteArray:=⟨(Go.Lib.trimLeftS s.data.toList cs.data.toList).toArray⟩
abbrev r5:ByteArray:=⟨#[97,98,99,100,101,102,103,104,105,106,107,108,109,110,111,112,113,114,115,116,117,118,119,120,121,122]⟩
abbrev pS:ByteArray:=⟨#[48,49,50,51,52,53,54,55,56,57]⟩
theorem NO:Ri r5:=⟨by decide,by decide,fun j b h=>by
 have:∀b∈r5.data.toList,b.toNat<128:=by decide
 exact this b (dB h)⟩
theorem Hc:Ri pS:=⟨by decide,by decide,fun j b h=>by
 have:∀b∈pS.data.toList,b.toNat<128:=by decide
 exact this b (dB h)⟩
theorem dropWhile_nil {α:Type} {p:α→Bool}:∀{l:List α},l.dropWhile p=[]↔l.all p=true
 |[]=>by simp
 |a::l=>by
  rw[List.dropWhile_cons,List.all_cons]
  cases h:p a
  ·simp
  ·simp only[aoX,aoe];exact dropWhile_nil
theorem Rv {l cs:List UInt8}:Go.Lib.trimS l cs=[]↔l.all (cs.contains ·)=true:=by
 unfold Go.Lib.trimS Go.Lib.trimLeftS Go.Lib.trimRightS
 rw[dropWhile_nil]
 constructor
 ·intro h
  have h1:(l.reverse.dropWhile (cs.contains ·)).all (cs.contains ·)=true:=by rw[←ap5];exact h
  have h2:l.reverse.dropWhile (cs.contains ·)=[]:=by
   cases e:l.reverse.dropWhile (cs.contains ·) with
   |nil=>rfl
   |cons a t=>
    rw[e,List.all_cons,eI] at h1
    have:=List.head?_dropWhile_not (cs.contains ·) l.reverse
    rw[e] at this
    simp only[List.head?_cons] at this
    rw[h1.1] at this;cases this
  have:=dropWhile_nil.1 h2
  rwa [ap5] at this
 ·intro h
  rw[ap5]
  have:l.reverse.dropWhile (cs.contains ·)=[]:=dropWhile_nil.2 (by rw[ap5];exact h)
  rw[this];rfl
theorem ID {s cs:ByteArray}:trimB s cs=⟨#[]⟩↔s.data.toList.all (cs.data.toList.contains ·)=true:=by
 rw[←Rv]
 unfold trimB
 constructor
 ·intro h
  have:=ani (fun x:ByteArray=>x.data.toList) h
  simpa using this
 ·intro h;rw[h]
theorem D5 (s cs:ByteArray):(B4 s cs).size≤s.size:=by
 show (Go.Lib.trimLeftS s.data.toList cs.data.toList).toArray.size≤s.data.size
 rw[aoQ,←an4]
 exact(List.dropWhile_sublist _).length_le
theorem ND (c:UInt8):r5.data.toList.contains c=vO c:=by
 have:∀n:Fin 256,r5.data.toList.contains (UInt8.ofNat n.1)=vO (UInt8.ofNat n.1):=by decide +kernel
 have:=this ⟨c.toNat,c.toNat_lt⟩
 simpa using this
theorem Fe {s:ByteArray}:lS s=(bif !decide (s=⟨#[]⟩) then (bif decide ((s.size:Int)≤8) then decide (trimB s r5=⟨#[]⟩) else false) else false):=by
 have h1:decide (trimB s r5=⟨#[]⟩)=s.data.toList.all vO:=by
  rw[anH,ank,ID]
  rw[show (fun x=>r5.data.toList.contains x)=vO from funext ND]
 have h2:(!decide (s=⟨#[]⟩))=decide (1≤s.size):=by
  rw[anH]
  simp only[aos,anw,ank]
  constructor
  ·intro h
   rcases aqk s.size with h0|h0
   ·exact absurd (by cases s with|mk a=>exact ani ByteArray.mk (ao3 h0)) h
   ·exact h0
  ·rintro h rfl
   exact absurd h aw
 have h3:decide ((s.size:Int)≤8)=decide (s.size≤8):=by rw[aoA];omega
 rw[h1,h2,h3]
 unfold lS
 cases s.data.toList.all vO<;>cases decide (1≤s.size)<;>cases decide (s.size≤8)<;>rfl
theorem D8 {h:cD}:gC h=(bif decide ((h.flatten.length:Int)≤4096) then !(h.flatten.any (fun (x_:iP)=>!(lS x_.2.1))) else false):=by
 unfold gC
 have h1:(!(h.flatten.any (fun (x_:iP)=>!(lS x_.2.1))))=h.flatten.all zQ:=by
  rw[←List.not_all_eq_any_not,Bool.not_not];rfl
 have h2:decide ((h.flatten.length:Int)≤4096)=decide (h.flatten.length≤4096):=by rw[aoA];omega
 rw[h1,h2]
 cases h.flatten.all zQ<;>cases decide (h.flatten.length≤4096)<;>rfl
def By (vs:List ByteArray) (m:List (ByteArray×Int)):Prop:=∀s,fI m s=if gz vs s<0 then none else some (gz vs s)
theorem VF:By [] []:=fun s=>rfl
theorem QX (vs:List ByteArray) (a s:ByteArray):gz (vs++[a]) s=if gz vs s<0 then (if a=s then (vs.length:Int) else -1) else gz vs s:=by
 unfold gz eA
 rw[ap_]
 cases e:vs.findIdx? (Gu s) with
 |some i=>show ((i:Nat):Int)=if ((i:Nat):Int)<0 then _ else ((i:Nat):Int);rw[anp aq]
 |none=>
  simp only[Option.none_or,List.findIdx?_cons,List.findIdx?_nil]
  unfold Gu
  by_cases h:a=s<;>simp[h]
theorem VG {vs:List ByteArray} {m:List (ByteArray×Int)} {s:ByteArray} (h:By vs m) (hs:(fI m s).isSome=true):(fI m s).getD 0=gz vs s∧¬gz vs s<0:=by
 rw[h s] at hs ⊢
 by_cases h0:gz vs s<0
 ·rw[ann h0] at hs;cases hs
 ·rw[anp h0];exact⟨rfl,h0⟩
theorem I0 {vs:List ByteArray} {m:List (ByteArray×Int)} {s:ByteArray} (h:By vs m) (hs:(fI m s).isSome=false):gz vs s<0:=by
 rw[h s] at hs
 by_cases h0:gz vs s<0
 ·exact h0
 ·rw[anp h0] at hs;cases hs
theorem VE {vs:List ByteArray} {m:List (ByteArray×Int)} {s:ByteArray} (h:By vs m) (hs:(fI m s).isSome=false):By (vs++[s]) (lJ m s ((vs.length:Nat):Int)):=by
 intro t
 have h0:=I0 h hs
 rw[Wi,QX,h t]
 by_cases e:t=s
 ·subst e
  rw[ann rfl,ann h0,ann rfl,anp aq]
 ·have e2:¬s=t:=fun k=>e k.symm
  rw[anp e]
  by_cases h1:gz vs t<0
  ·simp only[h1,e2,aoX,aoa];rfl
  ·simp only[h1,aoa]
section
variable {h:cD} {i q:Nat} {vs:List ByteArray} {aH:List aI} {m:List (ByteArray×Int)} {x0:List iP} {x1:iP}
theorem OI (h1:vs=(jD i (gW h i) (h.getD i []) q).1) (h2:aH=(jD i (gW h i) (h.getD i []) q).2) (hm:By vs m) (aP:h[((i:Nat):Int).toNat]? =some x0) (cP:x0[((q:Nat):Int).toNat]? =some x1) (hs:(fI m x1.2.1).isSome=false):
  vs++[x1.2.1]=(jD i (gW h i) (h.getD i []) (q+1)).1∧aH++[(((i:Nat):Int),((q:Nat):Int),x1.1,((vs.length:Nat):Int),x1.2.2)]=(jD i (gW h i) (h.getD i []) (q+1)).2:=by
 have hf:=I0 hm hs
 subst h1 h2
 rw[fq aP] at *
 exact wU cP hf
theorem OH (h1:vs=(jD i (gW h i) (h.getD i []) q).1) (h2:aH=(jD i (gW h i) (h.getD i []) q).2) (hm:By vs m) (aP:h[((i:Nat):Int).toNat]? =some x0) (cP:x0[((q:Nat):Int).toNat]? =some x1) (hs:(fI m x1.2.1).isSome=true):
  vs=(jD i (gW h i) (h.getD i []) (q+1)).1∧aH++[(((i:Nat):Int),((q:Nat):Int),x1.1,(fI m x1.2.1).getD 0,x1.2.2)]=(jD i (gW h i) (h.getD i []) (q+1)).2:=by
 obtain⟨e,hf⟩:=VG hm hs
 rw[e]
 subst h1 h2
 rw[fq aP] at *
 exact wT cP hf
end
theorem TB {α:Type} (h:List (List α)) (j:Nat):((h.take j).flatten).length≤h.flatten.length:=by
 conv=>rhs;rw[←aov j h]
 rw[aqc,fA];omega
end Go.Ew
namespace Go.Ew
def jJ (s p:ByteArray):Bool:=bif decide ((p.size:Int)≤(s.size:Int)) then decide (s.extract 0 (p.size:Int).toNat=p) else false
def eD (s p:ByteArray):ByteArray:=bif jJ s p then s.extract (p.size:Int).toNat s.size else s
abbrev jN:ByteArray:=⟨#[45]⟩
def gv (s:ByteArray) (a:Int):Int:=bif decide (a<0)||decide ((s.size:Int)≤a) then 0 else ((s.extract a.toNat s.size).size:Int)-((B4 (eD (s.extract a.toNat s.size) jN) pS).size:Int)
theorem qS (s p:ByteArray):(eD s p).size≤s.size:=by
 unfold eD
 cases jJ s p
 ·exact anl _
 ·exact C4 _ _ _
theorem UR {s:ByteArray} {a:Int} (h:0≤a∧a≤(s.size:Int)):0≤gv s a∧a+gv s a≤(s.size:Int):=by
 unfold gv
 cases e:(decide (a<0)||decide ((s.size:Int)≤a)) with
 |true=>show (0:Int)≤0∧a+0≤_;omega
 |false=>
  show (0:Int)≤_-_∧a+(_-_)≤_
  have h1:=qS (s.extract a.toNat s.size) jN
  have h2:=D5 (eD (s.extract a.toNat s.size) jN) pS
  have h3:=FB (s:=s) (i:=a.toNat) (j:=s.size) aq<|anl _
  omega
def mO (m:Nat):List UInt8→Nat→Option Nat
 |[],n=>some n
 |c::l,n=>if (m-(c.toNat-48))/10<n then none else mO m l (10*n+(c.toNat-48))
def Bm (s:ByteArray):ByteArray:=eD s jN
def lM (s:ByteArray):Bool:=decide (eD s jN=⟨#[]⟩)||(!decide (trimB (eD s jN) pS=⟨#[]⟩)||(decide (sE (eD s jN) 0=48)&&!decide (s=⟨#[48]⟩)))
def oH (s:ByteArray):Nat:=bif jJ s jN then 9223372036854775808 else 9223372036854775807
def gf (s:ByteArray):Int×Int:=bif lM s then (0,2) else match mO (oH s) (Bm s).data.toList 0 with
 |none=>(0,3)
 |some n=>(bif jJ s jN then -((n:Nat):Int) else ((n:Nat):Int),0)
theorem Dy {m:Nat} (h9:9≤m):∀{l:List UInt8} {n k:Nat},(∀c∈l,48≤c.toNat∧c.toNat≤57)→n≤m→mO m l n=some k→k≤m
 |[],n,k,_,hn,h=>by cases h;exact hn
 |c::l,n,k,hl,hn,h=>by
  unfold mO at h
  split at h
  ·cases h
  ·rename_i hc
   have:=hl c<|by simp
   exact Dy h9 (fun x hx=>hl x<|by simp[hx]) aq h
theorem wu {s:ByteArray} (h:trimB s pS=⟨#[]⟩):∀c∈s.data.toList,48≤c.toNat∧c.toNat≤57:=by
 intro c hc
 have h1:=anr.1 (ID.1 h) c hc
 have:∀n:Fin 256,pS.data.toList.contains (UInt8.ofNat n.1)=true→48≤(UInt8.ofNat n.1).toNat∧(UInt8.ofNat n.1).toNat≤57:=by decide +kernel
 have:=this ⟨c.toNat,c.toNat_lt⟩
 simp only[UInt8.ofNat_toNat] at this
 exact this h1
theorem E' (s:ByteArray):aM (gf s).1∧0≤(gf s).2∧(gf s).2≤3:=by
 unfold gf
 cases hb:lM s with
 |true=>show aM 0∧(0:Int)≤2∧(2:Int)≤3;exact⟨by unfold aM;decide,by decide,by decide⟩
 |false=>
  show aM (Prod.fst (match mO (oH s) (Bm s).data.toList 0 with|none=>_|some n=>_))∧_
  cases e:mO (oH s) (Bm s).data.toList 0 with
  |none=>show aM 0∧(0:Int)≤3∧(3:Int)≤3;exact⟨by unfold aM;decide,by decide,by decide⟩
  |some n=>
   have hd:trimB (Bm s) pS=⟨#[]⟩:=by
    unfold lM at hb
    simp only[aoP,aps,ank] at hb
    exact hb.2.1
   refine⟨?_,by show (0:Int)≤0;decide,by show (0:Int)≤3;decide⟩
   show aM (bif jJ s jN then -((n:Nat):Int) else ((n:Nat):Int))
   have hle:=Dy (m:=oH s) (by unfold oH;cases jJ s jN<;>decide) (wu hd) (aoD _) e
   unfold oH at hle
   unfold aM
   cases h:jJ s jN<;>rw[h] at hle
   ·have hle:n≤9223372036854775807:=hle
    show -9223372036854775808≤((n:Nat):Int)∧((n:Nat):Int)≤9223372036854775807
    omega
   ·have hle:n≤9223372036854775808:=hle
    show -9223372036854775808≤ -((n:Nat):Int)∧ -((n:Nat):Int)≤9223372036854775807
    omega
section
variable {s dg:ByteArray} {m nv:BitVec 64} {x:BitVec 8} {j:Nat}
theorem Il (h:(pk dg)[((j:Nat):Int).toNat]? =some x):∃c:UInt8,dg.data.toList[j]? =some c∧c.toBitVec=x:=by
 rw[dv] at h
 unfold pk at h
 rw[anu] at h
 exact anL.1 h
theorem TV (h:trimB dg pS=⟨#[]⟩) (hx:(pk dg)[((j:Nat):Int).toNat]? =some x):48≤x.toNat∧x.toNat≤57:=by
 obtain⟨c,h1,rfl⟩:=Il hx
 exact wu h c<|dB h1
theorem O_ (h:48≤x.toNat∧x.toNat≤57):(BitVec.ofInt 64 (((x.toNat:Nat):Int)-48)).toNat=x.toNat-48:=by
 rw[ao']
 show (((x.toNat:Int)-48)%18446744073709551616).toNat=_
 omega
theorem O' (h:48≤x.toNat∧x.toNat≤57) (hm:9≤m.toNat):((m-BitVec.ofInt 64 (((x.toNat:Nat):Int)-48))/10#64).toNat=(m.toNat-(x.toNat-48))/10:=by
 rw[BitVec.toNat_udiv,BitVec.toNat_sub,O_ h]
 have:=m.isLt
 show (2^64-(x.toNat-48)+m.toNat)%2^64/10=_
 congr 1
 omega
theorem ZM {L:List UInt8} (h:48≤x.toNat∧x.toNat≤57) (hm:9≤m.toNat) (hx:∃c:UInt8,L[j]? =some c∧c.toBitVec=x) (hs:mO m.toNat L 0=mO m.toNat (L.drop j) nv.toNat) (hc:decide (((m-BitVec.ofInt 64 (((x.toNat:Nat):Int)-48))/10#64).toNat<nv.toNat)=true):mO m.toNat L 0=none:=by
 obtain⟨c,h1,rfl⟩:=hx
 rw[ank,O' h hm] at hc
 rw[hs,aof (dC.1 h1).1,(dC.1 h1).2]
 unfold mO
 exact ann hc
theorem Vw {L:List UInt8} (h:48≤x.toNat∧x.toNat≤57) (hm:9≤m.toNat) (hx:∃c:UInt8,L[j]? =some c∧c.toBitVec=x) (hs:mO m.toNat L 0=mO m.toNat (L.drop j) nv.toNat) (hc:decide (((m-BitVec.ofInt 64 (((x.toNat:Nat):Int)-48))/10#64).toNat<nv.toNat)=false):mO m.toNat L 0=mO m.toNat (L.drop (j+1)) (10#64*nv+BitVec.ofInt 64 (((x.toNat:Nat):Int)-48)).toNat:=by
 obtain⟨c,h1,rfl⟩:=hx
 rw[anw,O' h hm] at hc
 have e:(10#64*nv+BitVec.ofInt 64 (((c.toBitVec.toNat:Nat):Int)-48)).toNat=10*nv.toNat+(c.toBitVec.toNat-48):=by
  rw[BitVec.toNat_add,BitVec.toNat_mul,O_ h]
  have:=m.isLt
  show (10*nv.toNat%2^64+(c.toBitVec.toNat-48))%2^64=_
  omega
 rw[hs,aof (dC.1 h1).1,(dC.1 h1).2,e]
 conv=>lhs;unfold mO
 exact anp hc
theorem Ot {L:List UInt8} (hs:mO m.toNat L 0=mO m.toNat (L.drop j) nv.toNat) (hj:L.length≤j):mO m.toNat L 0=some nv.toNat:=by
 rw[hs,List.drop_of_length_le hj];rfl
theorem ZO (s:ByteArray):9≤oH s:=by unfold oH;cases jJ s jN<;>decide
theorem Pp (h:lM s=false):trimB (eD s jN) pS=⟨#[]⟩:=by
 unfold lM at h
 simp only[aoP,aps,ank] at h
 exact h.2.1
theorem aas (h:¬eD s jN=⟨#[]⟩):(0:Int)<((eD s jN).size:Int):=by
 rcases aqk (eD s jN).size with h0|h0
 ·exfalso
  refine h ?_
  cases e:eD s jN with
  |mk a=>rw[e] at h0;exact ani ByteArray.mk (ao3 h0)
 ·omega
theorem Fa (h:lM s=true):gf s=(0,2):=by unfold gf;rw[h];rfl
theorem VA (h:lM s=false) (hv:mO (oH s) (Bm s).data.toList 0=none):gf s=(0,3):=by unfold gf;rw[h,hv];rfl
theorem Vz (h:lM s=false) (hp:jJ s jN=true) (hv:mO (oH s) (Bm s).data.toList 0=some nv.toNat):gf s=((-nv).toInt,0):=by
 have hr:=Dy (m:=oH s) (by unfold oH;cases jJ s jN<;>decide) (wu (by
  unfold lM at h
  simp only[aoP,aps,ank] at h
  exact h.2.1)) (aoD _) hv
 unfold oH at hr
 rw[hp] at hr
 have hr:nv.toNat≤9223372036854775808:=hr
 unfold gf
 rw[h,hv,hp]
 show (-((nv.toNat:Nat):Int),(0:Int))=_
 congr 1
 rw[apJ,BitVec.toNat_neg]
 have:=nv.isLt
 by_cases h0:nv.toNat=0
 ·simp[h0]
 ·rw[apz aq]
  split<;>omega
theorem Vy (h:lM s=false) (hp:jJ s jN=false) (hv:mO (oH s) (Bm s).data.toList 0=some nv.toNat):gf s=(nv.toInt,0):=by
 have hr:=Dy (m:=oH s) (by unfold oH;cases jJ s jN<;>decide) (wu (by
  unfold lM at h
  simp only[aoP,aps,ank] at h
  exact h.2.1)) (aoD _) hv
 unfold oH at hr
 rw[hp] at hr
 have hr:nv.toNat≤9223372036854775807:=hr
 unfold gf
 rw[h,hv,hp]
 show (((nv.toNat:Nat):Int),(0:Int))=_
 congr 1
 rw[apJ]
 split<;>omega
end
def cC (s:ByteArray) (a e b:Int):Bool:=bif decide (e=0) then (bif decide (a<(s.size:Int)) then decide (sE s a=b) else false) else false
def eK (s:ByteArray) (a e b:Int):Int:=bif cC s a e b then a+1 else a
def ck (e x:Int):Int:=bif decide (e=0) then x else e
def A1 (s:ByteArray) (a e b:Int):Int×Int:=bif cC s a e b then (a+1,e) else (a,ck e 2)
def Lv (s:ByteArray):Nat→Int→Int
 |0,a=>a
 |k+1,a=>bif (bif decide (a<(s.size:Int)) then (bif decide (97≤sE s a) then decide (sE s a≤122) else false) else false) then Lv s k (a+1) else a
def zN (s:ByteArray) (a e:Int) (j:Nat):Int:=bif decide (e=0) then Lv s (8-j) (a+((j:Nat):Int)) else a+((j:Nat):Int)
def JT (s:ByteArray) (a e:Int):Int×Int×ByteArray:=(zN s a e 0,(bif decide (zN s a e 0=a) then ck e 2 else e),s.extract a.toNat (zN s a e 0).toNat)
def Ls (s:ByteArray) (a e:Int):Int×Int×Int:=bif !decide (e=0) then (a,e,0) else bif !decide ((gf (s.extract a.toNat (a+gv s a).toNat)).2=0) then (a,ck e (gf (s.extract a.toNat (a+gv s a).toNat)).2,0) else (a+gv s a,e,(gf (s.extract a.toNat (a+gv s a).toNat)).1)
def IU (s:ByteArray) (a on e:Int):Int:=bif (bif decide (on=4096) then (bif cC s a e 119 then true else cC s a e 114) else false) then ck e 3 else e
def IT (s:ByteArray) (a e:Int):Int×Int:=bif cC s a e 119 then (eK s a e 119,e) else A1 s (eK s a e 119) e 114
def zP (s:ByteArray) (a on e:Int):Int×Int×iP:=
 let e1:=IU s a on e
 let m1:=IT s a e1
 let m2:=A1 s m1.1 m1.2 58
 let nm:=JT s m2.1 m2.2
 let m3:=A1 s nm.1 nm.2.1 61
 let nb:=Ls s m3.1 m3.2
 (nb.1,nb.2.1,cC s a e1 119,nm.2.2,nb.2.2)
def AX (s:ByteArray):Nat→Int→Int→Int→List iP→Int×Int×Int×List iP
 |0,a,on,e,l=>(a,on,e,l)
 |k+1,a,on,e,l=>bif cC s a e 32 then AX s k (zP s (eK s a e 32) on e).1 (on+1) (zP s (eK s a e 32) on e).2.1 (l++[(zP s (eK s a e 32) on e).2.2]) else (a,on,e,l)
def ym (s:ByteArray) (a on e:Int):Int×Int×Int×List iP:=
 bif cC s a e 10 then (eK s a e 10,on,e,[]) else
  let o:=zP s (eK s a e 10) on e
  let L:=AX s (s.size+1) o.1 (on+1) o.2.1 [o.2.2]
  let m:=A1 s (eK s L.1 L.2.2.1 32) L.2.2.1 10
  (m.1,L.2.1,m.2,L.2.2.2)
def pz (s:ByteArray):Nat→Int→Int→Int→cD→Int×Int×Int×cD
 |0,a,on,e,h=>(a,on,e,h)
 |k+1,a,on,e,h=>bif (bif decide (e=0) then decide (a<(s.size:Int)) else false) then pz s k (ym s a on e).1 (ym s a on e).2.1 (ym s a on e).2.2.1 (h++[(ym s a on e).2.2.2]) else (a,on,e,h)
def kx (s:ByteArray):cD×Int×Int:=
 bif !decide ((pz s (s.size+1) 0 0 0 []).2.2.1=0) then ([],(pz s (s.size+1) 0 0 0 []).1,(pz s (s.size+1) 0 0 0 []).2.2.1) else ((pz s (s.size+1) 0 0 0 []).2.2.2,0,0)
section
variable {s:ByteArray} {a e b x:Int} {j:Nat}
theorem HA (h:cC s a e b=true):e=0∧a<(s.size:Int)∧sE s a=b:=by
 unfold cC at h
 cases h1:decide (e=0)<;>rw[h1] at h
 ·cases h
 ·cases h2:decide (a<(s.size:Int))<;>rw[h2] at h
  ·cases h
  ·exact⟨an7 h1,an7 h2,an7 h⟩
theorem cm (h:0≤a∧a≤(s.size:Int)):a≤eK s a e b∧eK s a e b≤(s.size:Int)∧eK s a e b≤a+1:=by
 unfold eK
 cases h1:cC s a e b
 ·show a≤a∧a≤_∧a≤a+1;omega
 ·have:=HA h1
  show a≤a+1∧a+1≤_∧a+1≤a+1;omega
theorem lk (h:0≤e∧e≤3) (hx:0≤x∧x≤3):0≤ck e x∧ck e x≤3:=by
 unfold ck
 cases decide (e=0)
 ·exact h
 ·exact hx
theorem zu {p:Int} (hp:p=a+((j:Nat):Int)) (h:(bif decide (e=0) then (bif decide (p-a<8) then (bif decide (p<(s.size:Int)) then (bif decide (97≤sE s p) then decide (sE s p≤122) else false) else false) else false) else false)=false):zN s a e j=p:=by
 subst hp
 unfold zN
 cases h1:decide (e=0)
 ·rfl
 ·rw[h1] at h
  show Lv s (8-j) _=_
  have h:(bif decide (a+((j:Nat):Int)-a<8) then _ else false)=false:=h
  cases h2:decide (a+((j:Nat):Int)-a<8)
  ·have:8-j=0:=by have:=aoW h2;omega
   rw[this];rfl
  ·rw[h2] at h
   obtain⟨k,hk⟩:∃k,8-j=k+1:=⟨8-j-1,by have:=an7 h2;omega⟩
   rw[hk]
   show (bif _ then _ else _)=_
   have h:(bif decide (a+((j:Nat):Int)<(s.size:Int)) then (bif decide (97≤sE s (a+((j:Nat):Int))) then decide (sE s (a+((j:Nat):Int))≤122) else false) else false)=false:=h
   rw[h];rfl
theorem Y9 {p:Int} (hp:p=a+((j:Nat):Int)) (h0:decide (e=0)=true) (h1:decide (p-a<8)=true) (h2:decide (p<(s.size:Int))=true) (h3:decide (97≤sE s p)=true) (h4:decide (sE s p≤122)=true):zN s a e j=zN s a e (j+1):=by
 subst hp
 unfold zN
 rw[h0]
 obtain⟨k,hk⟩:∃k,8-j=k+1:=⟨8-j-1,by have:=an7 h1;omega⟩
 rw[hk,show 8-(j+1)=k from by omega]
 show Lv s (k+1) _=Lv s k _
 conv=>lhs;unfold Lv
 rw[h2,h3,h4]
 show Lv s k _=_
 congr 1
 push_cast
 omega
theorem VC (h:(!cC s a e b)=false):e=0→e=0∧eK s a e b=a+1:=fun h0=>⟨h0,by unfold eK;rw[show cC s a e b=true by simpa using h];rfl⟩
theorem O1 (h:ck e 2=0):False:=by
 unfold ck at h
 cases h1:decide (e=0)<;>rw[h1] at h
 ·exact aoW h1 h
 ·exact absurd (show (2:Int)=0 from h) aw
theorem Wq (hx:¬x=0) (h:ck e x=0):False:=by
 unfold ck at h
 cases h1:decide (e=0)<;>rw[h1] at h
 ·exact aoW h1 h
 ·exact hx h
section
variable {k:Nat} {p n a2 e2:Int} {l:List iP} {o:iP} {Z:Int×Int×Int×List iP} {h:cD}
theorem Vt (hs:Z=AX s k p n e l) (hk:1≤k) (h:cC s p e 32=true) (ho:zP s (eK s p e 32) n e=(a2,e2,o)):Z=AX s (k-1) a2 (n+1) e2 (l++[o]):=by
 obtain⟨q,rfl⟩:∃q,k=q+1:=⟨k-1,by omega⟩
 rw[hs]
 conv=>lhs;unfold AX
 rw[h,ho];rfl
theorem Vs (hs:Z=AX s k p n e l) (h:cC s p e 32=false):Z=(p,n,e,l):=by
 rw[hs]
 cases k with
 |zero=>rfl
 |succ k=>unfold AX;rw[h];rfl
theorem Qe {n2:Int} {Y:Int×Int×Int×cD} (hs:Y=pz s k p n e h) (hk:1≤k) (h1:decide (e=0)=true) (h2:decide (p<(s.size:Int))=true) (ho:ym s p n e=(a2,n2,e2,l)):Y=pz s (k-1) a2 n2 e2 (h++[l]):=by
 obtain⟨q,rfl⟩:∃q,k=q+1:=⟨k-1,by omega⟩
 rw[hs]
 conv=>lhs;unfold pz
 rw[h1,h2,ho];rfl
theorem Gn {Y:Int×Int×Int×cD} (hs:Y=pz s k p n e h) (hc:(bif decide (e=0) then decide (p<(s.size:Int)) else false)=false):Y=(p,n,e,h):=by
 rw[hs]
 cases k with
 |zero=>rfl
 |succ k=>unfold pz;rw[hc];rfl
end
end
end Go.Ew
namespace Go.Ew
def iy (h:cD) (s p:Nat):Nat:=((h.take s).flatten).length+p
def gS (h:cD) (s p:Nat) (o:iP):Prop:=∃l,h[s]? =some l∧l[p]? =some o
theorem gS.un {h:cD} {s p:Nat} {o o':iP} (a:gS h s p o) (b:gS h s p o'):o=o':=by
 obtain⟨l,h1,h2⟩:=a
 obtain⟨l',h3,h4⟩:=b
 rw[h1] at h3
 obtain rfl:=anm h3
 rw[h2] at h4
 exact anm h4
theorem gS.mem {h:cD} {s p:Nat} {o:iP} (a:gS h s p o):o∈h.flatten:=by
 obtain⟨l,h1,h2⟩:=a
 exact List.mem_flatten.2 ⟨l,dB h1,dB h2⟩
theorem gS.lt {h:cD} {s p:Nat} {o:iP} (a:gS h s p o):s<h.length:=by
 obtain⟨l,h1,h2⟩:=a
 exact(dC.1 h1).1
theorem TG {vs:List ByteArray} {s:ByteArray} (h:¬gz vs s<0):∃v:Nat,gz vs s=((v:Nat):Int)∧vs[v]? =some s:=by
 unfold gz eA at *
 cases e:vs.findIdx? (Gu s) with
 |none=>rw[e] at h;exact absurd aw h
 |some i=>
  obtain⟨h1,h2,_⟩:=anF.1 e
  unfold Gu at h2
  rw[ank] at h2
  exact⟨i,J,by rw[eB h1,h2]⟩
theorem Wo {vs:List ByteArray} {s:ByteArray} (h:gz vs s<0):s∉vs:=by
 have:=uf (p:=Gu s) (r:=vs)
 unfold gz at h
 rw[ans aq] at this
 intro hm
 have h2:=ao5.1 this.symm s hm
 unfold Gu at h2
 simp at h2
theorem aaK {vs:List ByteArray} (s:ByteArray) (hn:vs.Nodup):∃(V:List ByteArray) (v:Nat),Io vs s=vs++V∧(vs++V).Nodup∧Lr vs s=((v:Nat):Int)∧(vs++V)[v]? =some s:=by
 unfold Io Lr
 by_cases h:gz vs s<0
 ·rw[ann h,ann h]
  refine⟨[s],vs.length,J,?_,J,by simp⟩
  rw[ao4]
  refine⟨hn,by simp,fun a ha b hb e=>Wo h ?_⟩
  simp at hb
  rw[←hb,←e];exact ha
 ·rw[anp h,anp h]
  obtain⟨v,h1,h2⟩:=TG h
  exact⟨[],v,by simp,by simpa using hn,h1,by simpa using h2⟩
theorem IE (i:Nat) (st:yT) (ops:List iP) (hn:st.1.Nodup):∀k,k≤ops.length→∃(V:List ByteArray) (L:List aI),jD i st ops k=(st.1++V,st.2++L)∧(st.1++V).Nodup∧L.length=k∧
  ∀p op,p<k→ops[p]? =some op→∃v:Nat,L[p]? =some (((i:Nat):Int),((p:Nat):Int),op.1,((v:Nat):Int),op.2.2)∧(st.1++V)[v]? =some op.2.1
 |0,_=>⟨[],[],by rw[AG];simp,by simpa using hn,rfl,fun p op h=>absurd h (apa _)⟩
 |k+1,hk=>by
  obtain⟨V,L,h1,h2,h3,h4⟩:=IE i st ops hn k aq
  have hx:ops[((k:Nat):Int).toNat]? =some ops[k]:=by rw[dv];exact eB aq
  obtain⟨V2,v,e1,e2,e3,e4⟩:=aaK ops[k].2.1 h2
  refine⟨V++V2,L++[(((i:Nat):Int),((k:Nat):Int),ops[k].1,((v:Nat):Int),ops[k].2.2)],?_,by rw[←anU];exact e2,by simp[h3],fun p op hp LW=>?_⟩
  ·rw[wQ hx,h1]
   unfold uy
   simp only
   rw[e1,e3,anU,anU]
  ·by_cases hpk:p<k
   ·obtain⟨u,h5,h6⟩:=h4 p op hpk LW
    refine⟨u,by rw[oT aq];exact h5,?_⟩
    rw[←anU,oT (dC.1 h6).1];exact h6
   ·obtain rfl:p=k:=by omega
    rw[eB aq] at LW
    obtain rfl:=anm LW
    exact⟨v,by rw[og aq,h3];simp,by rw[←anU];exact e4⟩
theorem Br (h:cD):∀j,j≤h.length→(gW h j).1.Nodup∧∀s p op,s<j→gS h s p op→∃v:Nat,(gW h j).2[iy h s p]? =some (((s:Nat):Int),((p:Nat):Int),op.1,((v:Nat):Int),op.2.2)∧(gW h j).1[v]? =some op.2.1
 |0,_=>⟨by simp[gW],fun s p op hs=>absurd hs (apa _)⟩
 |j+1,hj=>by
  obtain⟨h1,h2⟩:=Br h j aq
  have hx:h[((j:Nat):Int).toNat]? =some h[j]:=by rw[dv];exact eB aq
  have hl:=(Bq h j aq).1
  obtain⟨V,L,e1,e2,e3,e4⟩:=IE j (gW h j) h[j] h1 h[j].length (anl _)
  rw[vj hx]
  unfold K7
  rw[e1]
  refine⟨e2,fun s p op hs ho=>?_⟩
  by_cases hsj:s<j
  ·obtain⟨v,h3,h4⟩:=h2 s p op hsj ho
   exact⟨v,by rw[oT (dC.1 h3).1];exact h3,by rw[oT (dC.1 h4).1];exact h4⟩
  ·obtain rfl:s=j:=by omega
   obtain⟨l,k1,k2⟩:=ho
   rw[eB aq] at k1
   obtain rfl:=anm k1
   obtain⟨v,h3,h4⟩:=e4 p op (dC.1 k2).1 k2
   refine⟨v,?_,h4⟩
   unfold iy
   rw[←hl,og aq,show (gW h s).2.length+p-(gW h s).2.length=p by omega]
   exact h3
theorem jW {h:cD} {s p:Nat} {op:iP} (ho:gS h s p op):∃v:Nat,(fT h)[iy h s p]? =some (((s:Nat):Int),((p:Nat):Int),op.1,((v:Nat):Int),op.2.2)∧(yJ h)[v]? =some op.2.1:=
 (Br h h.length (anl _)).2 s p op ho.lt ho
theorem NI (h:cD):(yJ h).Nodup:=(Br h h.length (anl _)).1
theorem Sa (l:List iP) (t:cD) (s p:Nat):iy (l::t) (s+1) p=l.length+iy t s p:=by
 unfold iy;rw[List.take_succ_cons,aoF,fA];omega
theorem N0:∀(h:cD) {i:Nat},i<h.flatten.length→∃s p op,gS h s p op∧i=iy h s p
 |[],i,hi=>by simp at hi
 |l::t,i,hi=>by
  by_cases hl:i<l.length
  ·exact⟨0,i,l[i],⟨l,J,eB hl⟩,by unfold iy;simp⟩
  ·rw[aoF,fA] at hi
   obtain⟨s,p,op,⟨l',h1,h2⟩,h3⟩:=N0 t (i:=i-l.length) aq
   exact⟨s+1,p,op,⟨l',h1,h2⟩,by rw[Sa];omega⟩
section
variable {h:cD} {s p s' p':Nat} {op jL:iP}
theorem F8 (ho:gS h s p op):iy h s p<(fT h).length:=by
 obtain⟨v,h1,_⟩:=jW ho
 exact(dC.1 h1).1
theorem DE (ho:gS h s p op) (jl:gS h s' p' jL) (e:iy h s p=iy h s' p'):s=s'∧p=p':=by
 obtain⟨v,h1,_⟩:=jW ho
 obtain⟨v',h2,_⟩:=jW jl
 rw[e,h2] at h1
 have:=anm h1
 simp only[an1] at this
 omega
theorem jS {i:Nat} (hi:i<(fT h).length):∃s p op,gS h s p op∧i=iy h s p:=N0 h (by rwa [Jp] at hi)
theorem Hz (ho:gS h s p op):jX (fT h) (iy h s p)=((s:Nat):Int)∧kB (fT h) (iy h s p)=((p:Nat):Int):=by
 obtain⟨v,h1,_⟩:=jW ho
 unfold jX kB
 rw[gZ,h1]
 exact⟨J,J⟩
theorem Ut (ho:gS h s p op) (jl:gS h s' p' jL):Dg (fT h) (iy h s p) (iy h s' p')=true↔s=s'∧p<p':=by
 unfold Dg
 rw[eI,eI,ank,ank,ank,(Hz ho).1,(Hz jl).1]
 constructor
 ·rintro⟨⟨h1,h2⟩,h3⟩
  obtain rfl:s=s':=by omega
  unfold iy at h1
  exact⟨J,by omega⟩
 ·rintro⟨rfl,h1⟩
  exact⟨⟨by unfold iy;omega,F8 jl⟩,J⟩
theorem xg {v v':Nat} {a b:ByteArray} (h1:(yJ h)[v]? =some a) (h2:(yJ h)[v']? =some b):v=v'↔a=b:=by
 constructor
 ·rintro rfl;rw[h1] at h2;exact anm h2
 ·rintro rfl
  have l1:=(dC.1 h1).1
  have l2:=(dC.1 h2).1
  exact(List.getElem?_inj l1<|NI h).1 (h1.trans h2.symm)
theorem Rn (ho:gS h s p op) (jl:gS h s' p' jL):iJ (fT h) (ql (fT h) ((iy h s' p':Nat):Int)) ((iy h s p:Nat):Int)=false↔op.1=true∧op.2.1=jL.2.1:=by
 obtain⟨v,h1,h2⟩:=jW ho
 obtain⟨v',h3,h4⟩:=jW jl
 rw[Kz aq (by rw[dv];exact h1)]
 unfold ql
 rw[dv,h3]
 simp only[aoy,apy,aoP,aps,ank]
 rw[←xg h2 h4]
 exact and_congr Iff.rfl aq
theorem LI (ho:gS h s p op) (jl:gS h s' p' jL):((iy h s' p':Nat):Int)∈kX (fT h) ((iy h s p:Nat):Int)↔s'=s∧p'≤p∧jL.1=false:=by
 obtain⟨v',h3,h4⟩:=jW jl
 have hw:fJ (fT h) ((iy h s' p':Nat):Int)=jL.1:=by unfold fJ;rw[dv,h3];rfl
 unfold kX aY
 rw[anD,hw]
 have hl:=F8 ho
 unfold cw
 rw[ann aq,dv,(Hz ho).2,an6]
 constructor
 ·rintro⟨⟨q,hq,e⟩,h5⟩
  have hq:=ano.1 hq
  have h6:iy h s' p'=iy h s q:=by unfold iy at e ⊢;omega
  obtain⟨l,k1,k2⟩:=ho
  have hlp:=(dC.1 k2).1
  obtain⟨rfl,rfl⟩:=DE jl ⟨l,k1,eB (by omega:q<l.length)⟩ h6
  exact⟨J,by omega,by simpa using h5⟩
 ·rintro⟨rfl,h5,h6⟩
  exact⟨⟨p',ano.2 aq,by unfold iy;omega⟩,by rw[h6];rfl⟩
end
section
variable {h:cD} {s p s' p':Nat} {op jL:iP}
theorem Mm (ho:gS h s p op) (hw:op.1=true):(gx (fT h))[iy h s p]? =some (-3):=by
 obtain⟨v,h1,h2⟩:=jW ho
 unfold gx
 rw[anu,h1]
 show some (rE _ _)=_
 rw[←GM (x:=(((s:Nat):Int),((p:Nat):Int),op.1,((v:Nat):Int),op.2.2)) hw]
theorem OW (ho:gS h s p op) (hw:op.1=false) (h0:op.2.2=0):(gx (fT h))[iy h s p]? =some (-1):=by
 obtain⟨v,h1,h2⟩:=jW ho
 unfold gx
 rw[anu,h1]
 show some (rE _ _)=_
 rw[←GR (x:=(((s:Nat):Int),((p:Nat):Int),op.1,((v:Nat):Int),op.2.2)) hw h0]
theorem Tw (hc:(cT (fT h)).2.2=0) (ho:gS h s p op) (hw:op.1=false) (h0:op.2.2≠0) (jl:gS h s' p' jL) (yt:jL.1=true) (hn:jL.2.1=op.2.1) (hv:jL.2.2=op.2.2):(gx (fT h))[iy h s p]? =some ((iy h s' p':Nat):Int):=by
 obtain⟨v,h1,h2⟩:=jW ho
 obtain⟨v',h3,h4⟩:=jW jl
 rw[hn] at h4
 obtain rfl:=(xg h2 h4).2 rfl
 have hg:=(xM hc (j:=iy h s' p') (by rw[dv];exact h3) yt).2
 simp only at hg
 rw[hv] at hg
 unfold gx
 rw[anu,h1]
 show some (rE _ _)=_
 rw[←GP (x:=(((s:Nat):Int),((p:Nat):Int),op.1,((v:Nat):Int),op.2.2)) hw h0 (by rw[ank];simp only;rw[hg];omega)]
 simp only
 rw[hg]
 congr 1
 omega
theorem OX (ho:gS h s p op) (hw:op.1=false) (h0:op.2.2≠0) (hm:∀s' p' jL,gS h s' p' jL→jL.1=true→jL.2.1=op.2.1→jL.2.2=op.2.2→False):(gx (fT h))[iy h s p]? =some (-2):=by
 obtain⟨v,h1,h2⟩:=jW ho
 unfold gx
 rw[anu,h1]
 show some (rE _ _)=_
 rw[←GQ (x:=(((s:Nat):Int),((p:Nat):Int),op.1,((v:Nat):Int),op.2.2)) hw h0 ?_]
 rw[anw]
 intro u0
 simp only at u0
 unfold gm eA at u0
 cases e:(fT h).findIdx? (kF ((v:Nat):Int) op.2.2) with
 |none=>rw[e] at u0;exact absurd u0 aw
 |some i=>
  obtain⟨k1,k2,_⟩:=anF.1 e
  obtain⟨s',p',jL,jl,rfl⟩:=jS k1
  obtain⟨v',h3,h4⟩:=jW jl
  rw[eB k1] at h3
  rw[anm h3] at k2
  unfold kF at k2
  simp only[eI,ank] at k2
  obtain⟨⟨k3,k4⟩,k5⟩:=k2
  exact hm s' p' jL jl k3 ((xg h4 h2).1 aq) k5
end
structure HIn (g h:cD) (σ:Nat→Nat) (ρ:ByteArray→ByteArray):Prop where
 at_:∀s p o,gS g s p o→gS h (σ s) p (o.1,ρ o.2.1,o.2.2)
 inj:∀s s',s<g.length→s'<g.length→σ s=σ s'→s=s'
 nam:∀o o',o∈g.flatten→o'∈g.flatten→ρ o.2.1=ρ o'.2.1→o.2.1=o'.2.1
 wr:∀s p o,gS h s p o→o.1=true→∃s' o',s=σ s'∧gS g s' p o'∧o=(o'.1,ρ o'.2.1,o'.2.2)
theorem HIn.emb {g h:cD} {σ:Nat→Nat} {ρ:ByteArray→ByteArray} (ag:HIn g h σ ρ) (hg:(cT (fT g)).2.2=0) (hh:(cT (fT h)).2.2=0):∃f,BW (fT g) (gx (fT g)) (fT h) (gx (fT h)) f∧∀s p o,gS g s p o→f (iy g s p)=iy h (σ s) p:=by
 have hsp:∀i:Nat,∃j:Nat,∀s p o,gS g s p o→i=iy g s p→j=iy h (σ s) p:=by
  intro i
  by_cases hi:i<(fT g).length
  ·obtain⟨s,p,op,ho,e⟩:=jS hi
   refine⟨iy h (σ s) p,fun s' p' o' jl e'=>?_⟩
   obtain⟨rfl,rfl⟩:=DE ho jl (e.symm.trans e')
   rfl
  ·exact⟨0,fun s p o ho e=>absurd (e▸F8 ho) hi⟩
 obtain⟨f,hf⟩:=Classical.axiomOfChoice hsp
 have hf:∀s p o,gS g s p o→f (iy g s p)=iy h (σ s) p:=fun s p o ho=>hf _ s p o ho rfl
 refine⟨f,⟨?_,?_,?_,?_,?_,?_⟩,hf⟩
 ·intro a ha
  obtain⟨s,p,op,ho,rfl⟩:=jS ha
  rw[hf s p op ho]
  exact F8<|ag.at_ s p op ho
 ·intro a b ha hb e
  obtain⟨s,p,op,ho,rfl⟩:=jS ha
  obtain⟨s',p',jL,jl,rfl⟩:=jS hb
  rw[hf s p op ho,hf s' p' jL jl] at e
  obtain⟨e1,rfl⟩:=DE (ag.at_ s p op ho) (ag.at_ s' p' jL jl) e
  obtain rfl:=ag.inj s s' ho.lt jl.lt e1
  rfl
 ·intro a b ha hb e
  obtain⟨s,p,op,ho,rfl⟩:=jS ha
  obtain⟨s',p',jL,jl,rfl⟩:=jS hb
  rw[Ut ho jl] at e
  rw[hf s p op ho,hf s' p' jL jl,Ut (ag.at_ s p op ho) (ag.at_ s' p' jL jl),e.1]
  exact⟨J,e.2⟩
 ·intro r x hx
  have hr:r<(fT g).length:=by have:=(dC.1 hx).1;rwa [CX] at this
  obtain⟨s,p,op,ho,rfl⟩:=jS hr
  rw[hf s p op ho]
  have hi:=ag.at_ s p op ho
  by_cases hw:op.1=true
  ·rw[Mm ho hw] at hx
   cases hx
   rw[Mm hi hw];rfl
  have hw:op.1=false:=by simpa using hw
  by_cases h0:op.2.2=0
  ·rw[OW ho hw h0] at hx
   cases hx
   rw[OW hi hw h0];rfl
  by_cases hm:∃s' p' jL,gS g s' p' jL∧jL.1=true∧jL.2.1=op.2.1∧jL.2.2=op.2.2
  ·obtain⟨s',p',jL,jl,yt,hn,hv⟩:=hm
   rw[Tw hg ho hw h0 jl yt hn hv] at hx
   cases hx
   have oK:=ag.at_ s' p' jL jl
   rw[Tw hh hi hw h0 oK yt (by simp only;rw[hn]) hv,ann aq,dv,hf s' p' jL jl]
  ·rw[OX ho hw h0 (fun s' p' jL a b c d=>hm ⟨s',p',jL,a,b,c,d⟩)] at hx
   cases hx
   refine OX hi hw h0 fun s' p' jL a b c d=>?_
   obtain⟨t,o',rfl,e1,rfl⟩:=ag.wr s' p' jL a b
   exact hm ⟨t,p',o',e1,b,ag.nam _ _ e1.mem ho.mem c,d⟩
 ·intro a r ha hr e
  obtain⟨s,p,op,ho,rfl⟩:=jS ha
  obtain⟨s',p',jL,jl,rfl⟩:=jS hr
  rw[Rn ho jl] at e
  rw[hf s p op ho,hf s' p' jL jl,Rn (ag.at_ s p op ho) (ag.at_ s' p' jL jl)]
  exact⟨e.1,by simp only;rw[e.2]⟩
 ·intro o r ho hr e
  obtain⟨s,p,op,LW,rfl⟩:=jS ho
  obtain⟨s',p',jL,jl,rfl⟩:=jS hr
  rw[LI LW jl] at e
  rw[hf s p op LW,hf s' p' jL jl,LI (ag.at_ s p op LW) (ag.at_ s' p' jL jl),e.1]
  exact⟨J,e.2⟩
theorem adX {h:cD} (h0:∀s p o,gS h s p o→o.1=true→o.2.2≠0) (h2:∀s p o s' p' o',gS h s p o→gS h s' p' o'→o.1=true→o'.1=true→o.2.1=o'.2.1→o.2.2=o'.2.2→s=s'∧p=p'):(cT (fT h)).2.2=0:=by
 have hb:∀k,k<(fT h).length→nG (fT h) k=false:=by
  intro k hk
  obtain⟨s,p,op,ho,rfl⟩:=jS hk
  obtain⟨v,h3,h4⟩:=jW ho
  rw[Dd (by rw[dv];exact h3)]
  unfold xO
  simp only
  cases hw:op.1 with
  |false=>rfl
  |true=>
   rw[aoe,aoP,anw,anw]
   refine⟨h0 s p op ho hw,fun ep=>?_⟩
   unfold gm eA at ep
   cases e:(fT h).findIdx? (kF ((v:Nat):Int) op.2.2) with
   |none=>
    rw[aoZ] at e
    have:=e _<|dB h3
    unfold kF at this
    simp[hw] at this
   |some i=>
    rw[e] at ep
    obtain⟨k1,k2,_⟩:=anF.1 e
    obtain⟨s',p',jL,jl,rfl⟩:=jS k1
    obtain⟨v',h5,h6⟩:=jW jl
    rw[eB k1] at h5
    rw[anm h5] at k2
    unfold kF at k2
    simp only[eI,ank] at k2
    obtain⟨⟨k3,k4⟩,k5⟩:=k2
    obtain⟨rfl,rfl⟩:=h2 s' p' jL s p op jl ho k3 hw ((xg h6 h4).1 aq) k5
    simp only at ep
    omega
 exact ani (fun z:Int×Int×Int=>z.2.2)<|uw (j:=(fT h).length) hb<|anl _
theorem NL {h:cD} (hc:(cT (fT h)).2.2=0) {s p:Nat} {o:iP} (ho:gS h s p o) (hw:o.1=true):o.2.2≠0:=by
 obtain⟨v,h3,h4⟩:=jW ho
 exact(xM hc (by rw[dv];exact h3) hw).1
theorem WK {h:cD} (hc:(cT (fT h)).2.2=0) {s p s' p':Nat} {o o':iP} (ho:gS h s p o) (jl:gS h s' p' o') (hw:o.1=true) (yt:o'.1=true) (hn:o.2.1=o'.2.1) (hv:o.2.2=o'.2.2):s=s'∧p=p':=by
 obtain⟨v,h3,h4⟩:=jW ho
 obtain⟨v',h5,h6⟩:=jW jl
 have e:=(xg h4 h6).2 hn
 subst e
 have h7:=(xM hc (j:=iy h s p) (by rw[dv];exact h3) hw).2
 have h8:=(xM hc (j:=iy h s' p') (by rw[dv];exact h5) yt).2
 simp only at h7 h8
 rw[hv] at h7
 exact DE ho jl aq
end Go.Ew
namespace Go.Ew
theorem TI (h:cD):gW (h++[[]]) (h++[[]]).length=gW h h.length:=by
 have hx:(h++[([]:List iP)])[((h.length:Nat):Int).toNat]? =some []:=by rw[dv];simp
 rw[show (h++[([]:List iP)]).length=h.length+1 by simp,vj hx]
 unfold gW
 rw[apL rfl,aod]
 rfl
theorem Vv (h:cD):eO (h++[[]])=eO h∧lK (h++[[]])=lK h∧lL (h++[[]])=lL h∧gC (h++[[]])=gC h∧cN (h++[[]])=cN h:=by
 have hf:(h++[([]:List iP)]).flatten=h.flatten:=by simp
 have hr:gC (h++[[]])=gC h:=by unfold gC;rw[hf]
 have hi:cN (h++[[]])=cN h:=by unfold cN fT;rw[hr,TI]
 have ho:eO (h++[[]])=eO h:=by unfold eO;rw[hr,hi]
 exact⟨ho,by unfold lK;rw[ho,hi],by unfold lL;rw[ho,hi],hr,hi⟩
theorem IY {h:cD} (ho:eO h=true):gC h=true∧(cT (fT h)).2.2=0∧lK h=fT h∧lL h=gx (fT h):=by
 have h1:=ho
 unfold eO at h1
 rw[eI,ank] at h1
 obtain⟨hr,hc⟩:=h1
 rw[(rM hr).2.1] at hc
 exact⟨hr,hc,by rw[(wB ho).2.1,(rM hr).2.1],by rw[(wB ho).2.2,(rM hr).2.1]⟩
theorem abF {h:cD} (hr:gC h=true) (hc:(cT (fT h)).2.2=0):eO h=true:=by
 unfold eO;rw[hr,(rM hr).2.1,hc];rfl
theorem IL {h:cD}:gC h=true↔(∀o∈h.flatten,lS o.2.1=true)∧h.flatten.length≤4096:=by
 unfold gC
 rw[eI,anr,ank]
 rfl
theorem ZH {h:cD} {o:iP} (hm:o∈h.flatten):∃s p,gS h s p o:=by
 obtain⟨l,h1,h2⟩:=List.mem_flatten.1 hm
 obtain⟨s,hs⟩:=apj h1
 obtain⟨p,hp⟩:=apj h2
 exact⟨s,p,l,hs,hp⟩
section
variable {h:cD} {s n:Nat} {l:List iP} {o:iP}
theorem drop_at (hs:h[s]? =some l) (hn:l.length=n+1) {t p:Nat} {q:iP}:gS (h.set s (l.take n)) t p q↔gS h t p q∧¬(t=s∧p=n):=by
 have SR:=(dC.1 hs).1
 by_cases e:t=s
 ·subst e
  unfold gS
  constructor
  ·rintro⟨l',h1,h2⟩
   rw[anB SR] at h1
   obtain rfl:=anm h1
   have hp:p<n:=by
    have:=(dC.1 h2).1
    rw[gY] at this;omega
   rw[aoh hp] at h2
   exact⟨⟨l,hs,h2⟩,by omega⟩
  ·rintro⟨⟨l',h1,h2⟩,h3⟩
   rw[hs] at h1
   obtain rfl:=anm h1
   have hp:p<n:=by
    have:=(dC.1 h2).1
    omega
   exact⟨l.take n,anB SR,by rw[aoh hp];exact h2⟩
 ·unfold gS
  rw[anS (fun h=>e h.symm)]
  exact⟨fun h=>⟨h,fun k=>e k.1⟩,fun h=>h.1⟩
theorem aao (hs:h[s]? =some l) (hn:l.length=n+1) (ho:l[n]? =some o) (hr:o.1=false):HIn (h.set s (l.take n)) h id id where
 at_ t p q k:=((drop_at hs hn).1 k).1
 inj _ _ _ _ e:=e
 nam _ _ _ _ e:=e
 wr t p q k hw:=by
  refine⟨t,q,J,(drop_at hs hn).2 ⟨k,?_⟩,J⟩
  rintro⟨rfl,rfl⟩
  have:=k.un ⟨l,hs,ho⟩
  rw[this,hr] at hw;cases hw
theorem uo {h:cD} {l l':List iP}:∀{h:cD} {s:Nat},h[s]? =some l→l'.length≤l.length→(h.set s l').flatten.length≤h.flatten.length
 |[],s,hs,_=>by simp at hs
 |x::t,0,hs,hl=>by
  simp at hs;subst hs
  rw[ao9,aoF,aoF,fA,fA];omega
 |x::t,s+1,hs,hl=>by
  rw[List.set_cons_succ,aoF,aoF,fA,fA]
  have:=uo (h:=t) (s:=s) (by simpa using hs) hl
  omega
theorem Wv (hh:eO h=true) (hs:h[s]? =some l) (hn:l.length=n+1) (ho:l[n]? =some o) (hr:o.1=false) {lv:Int} (hf:ik (lK h) (lL h) lv=none):eO (h.set s (l.take n))=true∧ik (lK (h.set s (l.take n))) (lL (h.set s (l.take n))) lv=none:=by
 obtain⟨h1,h2,h3,h4⟩:=IY hh
 have hR:gC (h.set s (l.take n))=true:=by
  obtain⟨k1,k2⟩:=IL.1 h1
  refine IL.2 ⟨fun q hq=>?_,Nat.le_trans (uo (h:=h) hs<|by rw[gY];omega) k2⟩
  obtain⟨t,p,hq⟩:=ZH hq
  exact k1 q ((drop_at hs hn).1 hq).1.mem
 have hC:(cT (fT (h.set s (l.take n)))).2.2=0:=by
  refine adX (fun t p q k hw=>?_) fun t p q t' p' q' k k' hw yt e1 e2=>?_
  ·exact NL h2 ((drop_at hs hn).1 k).1 hw
  ·exact WK h2 ((drop_at hs hn).1 k).1 ((drop_at hs hn).1 k').1 hw yt e1 e2
 have hO:=abF hR hC
 obtain⟨_,_,g3,g4⟩:=IY hO
 obtain⟨f,E,_⟩:=(aao hs hn ho hr).emb hC h2
 rw[h3,h4] at hf
 refine⟨hO,?_⟩
 rw[g3,g4]
 exact Wn (CX _) Fz (CX _) Fz E hf
end
section
variable {h g:cD} {σ σ':Nat→Nat} {ρ:ByteArray→ByteArray}
end
end Go.Ew
namespace Go.Ew
def sl (lv:Int):Bool:=decide (0<(((dQ lv).length:Nat):Int))
def lN (h:cD) (lv:Int):Int:=bif decide (lu h=0) then (bif sl lv then (cT (cN h)).2.2 else 1) else 1
def ly (h:cD) (lv:Int):Int×Int:=bif decide (lu h=0) then (bif sl lv then ((cT (cN h)).1,(cT (cN h)).2.1) else (0,0)) else (0,0)
def rB (h:cD) (lv:Int):Int:=bif decide (lN h lv=0) then lv else 0
noncomputable def kP (h:cD) (lv:Int):Bool:=bif decide (lN h lv=0) then !decide (eZ (cN h) (gJ (cN h)) lv=0) else false
noncomputable def eW (h:cD) (lv:Int):vo:=bif decide (lN h lv=0) then (ik (cN h) (gJ (cN h)) lv).getD (0,0,0,0,0) else (0,0,0,0,0)
section
variable {h:cD} {lv:Int}
theorem XN (hl:sl lv=true):lv=1∨lv=2∨lv=3:=by
 by_cases h1:lv=1
 ·exact .inl h1
 by_cases h2:lv=2
 ·exact .inr (.inl h2)
 by_cases h3:lv=3
 ·exact .inr (.inr h3)
 unfold sl dQ at hl
 rw[ans h1,ans h2,ans h3] at hl
 cases hl
theorem ae8 (hl:lv=1∨lv=2∨lv=3):sl lv=true:=by rcases hl with rfl|rfl|rfl<;>rfl
theorem X1 (he:lu h=0) (hl:sl lv=true) (hc:(cT (cN h)).2.2=0):lN h lv=0∧ly h lv=(0,0)∧rB h lv=lv∧kP h lv=(!decide (eZ (cN h) (gJ (cN h)) lv=0))∧eW h lv=(ik (cN h) (gJ (cN h)) lv).getD (0,0,0,0,0):=by
 have e1:lN h lv=0:=by unfold lN;rw[anq he,hl];exact hc
 refine⟨e1,?_,?_,?_,?_⟩
 ·unfold ly;rw[anq he,hl]
  show ((cT (cN h)).1,(cT (cN h)).2.1)=_
  rw[(Pe hc).1,(Pe hc).2]
 ·unfold rB;rw[e1];rfl
 ·unfold kP;rw[e1];rfl
 ·unfold eW;rw[e1];rfl
theorem Qq {e:Int} (he:lN h lv=e) (h0:¬e=0):rB h lv=0∧kP h lv=false∧eW h lv=(0,0,0,0,0):=by
 subst he
 unfold rB kP eW
 rw[ans h0]
 exact⟨J,J,J⟩
theorem SS (hx:decide (lu h=0)=false∨sl lv=false):lN h lv=1∧ly h lv=(0,0):=by
 unfold lN ly
 rcases hx with hx|hx<;>rw[hx]
 ·exact⟨J,J⟩
 ·cases decide (lu h=0)<;>exact⟨rfl,rfl⟩
theorem aco (he:lu h=0) (hl:sl lv=true):lN h lv=(cT (cN h)).2.2∧ly h lv=((cT (cN h)).1,(cT (cN h)).2.1):=by
 unfold lN ly;rw[anq he,hl];exact⟨rfl,rfl⟩
theorem Mk (hc:(cT (cN h)).2.2=0):∀x∈gJ (cN h),x<(((cN h).length:Nat):Int):=by rw[HU hc];exact Fz
theorem aaT {k r a b o:Int} (hw:qg (ik (cN h) (gJ (cN h)) lv) k r a b o) (hc:eZ (cN h) (gJ (cN h)) lv=0):(ik (cN h) (gJ (cN h)) lv).getD (0,0,0,0,0)=(k,r,a,b,o):=by
 obtain⟨y,hy⟩:=anJ.1 (Pc hc)
 rw[hy,hw.2 y hy];rfl
theorem aaR (hc:¬eZ (cN h) (gJ (cN h)) lv=0):(ik (cN h) (gJ (cN h)) lv).getD (0,0,0,0,0)=(0,0,0,0,0):=by rw[Ic hc];rfl
theorem xo (ho:eO h=true) (hl:lv=1∨lv=2∨lv=3):lN h lv=0∧ly h lv=(0,0)∧rB h lv=lv∧kP h lv=(ik (lK h) (lL h) lv).isNone∧eW h lv=(ik (lK h) (lL h) lv).getD (0,0,0,0,0):=by
 have hy:=wB ho
 unfold eO at ho
 rw[eI,ank] at ho
 obtain⟨h1,h2,h3,h4,h5⟩:=X1 (lv:=lv) (rM ho.1).2.2 (ae8 hl) ho.2
 refine⟨h1,h2,h3,?_,?_⟩
 ·rw[h4,hy.2.1,hy.2.2,HU ho.2]
  unfold eZ
  cases ik (cN h) (gx (cN h)) lv<;>rfl
 ·rw[h5,hy.2.1,hy.2.2,HU ho.2]
end
theorem WM {α0 α1 α2 α3 α4 α5 α6 α7 α8 α9 aaN β:Type} (f:α0→α1→α2→α3→α4→α5→α6→α7→α8→α9→aaN→β) {x0 y0:α0} {x1 y1:α1} {x2 y2:α2} {x3 y3:α3} {x4 y4:α4} {x5 y5:α5} {x6 y6:α6} {x7 y7:α7} {x8 y8:α8} {x9 y9:α9} {x10 y10:aaN} (h0:x0=y0) (h1:x1=y1) (h2:x2=y2) (h3:x3=y3) (h4:x4=y4) (h5:x5=y5) (h6:x6=y6) (h7:x7=y7) (h8:x8=y8) (h9:x9=y9) (h10:x10=y10):f x0 x1 x2 x3 x4 x5 x6 x7 x8 x9 x10=f y0 y1 y2 y3 y4 y5 y6 y7 y8 y9 y10:=by
 subst h0;subst h1;subst h2;subst h3;subst h4;subst h5;subst h6;subst h7;subst h8;subst h9;subst h10;rfl
def D2 (s:ByteArray) (lv:Int):Bool:=bif sl lv then decide ((kx s).2.2=0) else false
def uG (s:ByteArray) (lv:Int):Int:=bif sl lv then (bif decide ((kx s).2.2=0) then lN (kx s).1 lv else (kx s).2.2) else 1
def zD (s:ByteArray) (lv:Int):Int:=bif sl lv then (bif decide ((kx s).2.2=0) then 0 else (kx s).2.1) else 0
def sQ (s:ByteArray) (lv:Int):Int×Int:=bif D2 s lv then ly (kx s).1 lv else (0,0)
def zC (s:ByteArray) (lv:Int):Int:=bif D2 s lv then rB (kx s).1 lv else 0
noncomputable def qZ (s:ByteArray) (lv:Int):Bool:=bif D2 s lv then kP (kx s).1 lv else false
noncomputable def kv (s:ByteArray) (lv:Int):vo:=bif D2 s lv then eW (kx s).1 lv else (0,0,0,0,0)
section
variable {s:ByteArray} {lv a e:Int} {h:cD}
theorem aeR (hl:sl lv=false):uG s lv=1∧zD s lv=0∧sQ s lv=(0,0)∧zC s lv=0∧qZ s lv=false∧kv s lv=(0,0,0,0,0):=by
 have hr:D2 s lv=false:=by unfold D2;rw[hl];rfl
 refine⟨?_,?_,?_,?_,?_,?_⟩
 ·unfold uG;rw[hl];rfl
 ·unfold zD;rw[hl];rfl
 ·unfold sQ;rw[hr];rfl
 ·unfold zC;rw[hr];rfl
 ·unfold qZ;rw[hr];rfl
 ·unfold kv;rw[hr];rfl
theorem aa3 (hl:sl lv=true) (ht:kx s=(h,a,e)) (he:¬e=0):uG s lv=e∧zD s lv=a∧sQ s lv=(0,0)∧zC s lv=0∧qZ s lv=false∧kv s lv=(0,0,0,0,0):=by
 have hd:decide ((kx s).2.2=0)=false:=by rw[ht];exact ans he
 have hr:D2 s lv=false:=by unfold D2;rw[hl,hd];rfl
 refine⟨?_,?_,?_,?_,?_,?_⟩
 ·unfold uG;rw[hl,hd,ht];rfl
 ·unfold zD;rw[hl,hd,ht];rfl
 ·unfold sQ;rw[hr];rfl
 ·unfold zC;rw[hr];rfl
 ·unfold qZ;rw[hr];rfl
 ·unfold kv;rw[hr];rfl
theorem PD (hl:sl lv=true) (ht:kx s=(h,a,e)) (he:e=0):uG s lv=lN h lv∧zD s lv=0∧sQ s lv=ly h lv∧zC s lv=rB h lv∧qZ s lv=kP h lv∧kv s lv=eW h lv:=by
 have hd:decide ((kx s).2.2=0)=true:=by rw[ht];exact anq he
 have hr:D2 s lv=true:=by unfold D2;rw[hl,hd];rfl
 refine⟨?_,?_,?_,?_,?_,?_⟩
 ·unfold uG;rw[hl,hd,ht];rfl
 ·unfold zD;rw[hl,hd];rfl
 ·unfold sQ;rw[hr,ht];rfl
 ·unfold zC;rw[hr,ht];rfl
 ·unfold qZ;rw[hr,ht];rfl
 ·unfold kv;rw[hr,ht];rfl
end
end Go.Ew
namespace Go.Ew
set_option maxRecDepth 100000
abbrev Jz:ByteArray:=⟨#[119,58,120,61,49,32,114,58,120,61,50,10,119,58,120,61,50,32,114,58,120,61,49,10]⟩
def YW:cD:=[[(true,⟨#[120]⟩,1),(false,⟨#[120]⟩,2)],[(true,⟨#[120]⟩,2),(false,⟨#[120]⟩,1)]]
def kS:List aI:=[(0,0,true,0,1),(0,1,false,0,2),(1,0,true,0,2),(1,1,false,0,1)]
def nn:List Int:=[-3,2, -3,0]
theorem Im:kx Jz=(YW,0,0):=by decide +kernel
theorem Um:eO YW=true:=by decide +kernel
theorem aej:lK YW=kS:=by decide +kernel
theorem aek:lL YW=nn:=by decide +kernel
theorem Hb:∀x∈nn,x<((kS.length:Nat):Int):=by decide
def yP (o:Int) (a b:Nat):Bool:=(decide (o=1)&&((a,b)==(0,1)||(a,b)==(2,1)||(a,b)==(0,2)))||(decide (o=3)&&((a,b)==(2,3)||(a,b)==(0,3)||(a,b)==(2,0)))
theorem aeg:∀r:Nat,¬nn[r]? =some (-2):=by
 intro r h
 have:(-2:Int)∈nn:=dB h
 exact absurd this aw
theorem Un:∀r:Nat,¬nn[r]? =some (-1):=by
 intro r h
 have:(-1:Int)∈nn:=dB h
 exact absurd this aw
theorem aef:∀i,i<4→pH kS nn i i=false:=by decide +kernel
theorem tx {p:Nat→Bool} (h:(List.range 4).all p=true) {i:Nat} (hi:i<4):p i=true:=anr.1 h i (ano.2 hi)
def OL (a b:Bool):Bool:=!a||b
theorem imp {a b:Bool} (h:OL a b=true) (ha:a=true):b=true:=by unfold OL at h;rw[ha] at h;simpa using h
theorem agd:((List.range 4).all fun r=>(List.range 4).all fun a=>(List.range 4).all fun b=>OL (decide (nn[r]? =some ((b:Nat):Int))&&(decide (a≠b)&&(!(iJ kS (ql kS ((r:Nat):Int)) ((a:Nat):Int))&&pH kS nn a r))) (!(pH kS nn b a)))=true:=by decide +kernel
theorem aee:∀r,r<4→∀a,a<4→∀b,b<4→nn[r]? =some ((b:Nat):Int)→a≠b→iJ kS (ql kS ((r:Nat):Int)) ((a:Nat):Int)=false→pH kS nn a r=true→pH kS nn b a=false:=by
 intro r hr a ha b hb h1 h2 h3 h4
 have:=imp (tx (tx (tx agd hr) ha) hb)<|by rw[anq h1,anq h2,h3,h4];rfl
 simpa using this
theorem agc:((List.range 4).all fun o=>(List.range 4).all fun a=>(List.range 4).all fun b=>OL (pH kS nn a b&&(decide (((a:Nat):Int)∈bL ((kS.length:Nat):Int) (cp kS nn) ((o:Nat):Int))&&decide (((b:Nat):Int)∈bL ((kS.length:Nat):Int) (cp kS nn) ((o:Nat):Int)))) (yP ((o:Nat):Int) a b))=true:=by decide +kernel
theorem aaG:∀o,o<4→∀a,a<4→∀b,b<4→pH kS nn a b=true→((a:Nat):Int)∈bL ((kS.length:Nat):Int) (cp kS nn) ((o:Nat):Int)→((b:Nat):Int)∈bL ((kS.length:Nat):Int) (cp kS nn) ((o:Nat):Int)→yP ((o:Nat):Int) a b=true:=by
 intro o ho a ha b hb h1 h2 h3
 exact imp (tx (tx (tx agc ho) ha) hb)<|by rw[h1,anq h2,anq h3];rfl
theorem aga:((List.range 4).all fun o=>(List.range 4).all fun a=>(List.range 4).all fun b=>(List.range 4).all fun c=>OL (yP ((o:Nat):Int) a b&&yP ((o:Nat):Int) b c) (yP ((o:Nat):Int) a c))=true:=by decide +kernel
theorem W8:∀o,o<4→∀a,a<4→∀b,b<4→∀c,c<4→yP ((o:Nat):Int) a b=true→yP ((o:Nat):Int) b c=true→yP ((o:Nat):Int) a c=true:=by
 intro o ho a ha b hb c hc h1 h2
 exact imp (tx (tx (tx (tx aga ho) ha) hb) hc)<|by rw[h1,h2];rfl
theorem agb:((List.range 4).all fun o=>(List.range 4).all fun a=>(List.range 4).all fun b=>(List.range 4).all fun r=>OL (decide (((r:Nat):Int)∈kX kS ((o:Nat):Int))&&(decide (nn[r]? =some ((b:Nat):Int))&&(decide (a≠b)&&(!(iJ kS (ql kS ((b:Nat):Int)) ((a:Nat):Int))&&yP ((o:Nat):Int) a r)))) (yP ((o:Nat):Int) a b))=true:=by decide +kernel
theorem aaF:∀o,o<4→∀a,a<4→∀b,b<4→∀r,r<4→((r:Nat):Int)∈kX kS ((o:Nat):Int)→nn[r]? =some ((b:Nat):Int)→a≠b→iJ kS (ql kS ((b:Nat):Int)) ((a:Nat):Int)=false→yP ((o:Nat):Int) a r=true→yP ((o:Nat):Int) a b=true:=by
 intro o ho a ha b hb r hr h1 h2 h3 h4 h5
 exact imp (tx (tx (tx (tx agb ho) ha) hb) hr)<|by rw[anq h1,anq h2,anq h3,h4,h5];rfl
theorem aeh:∀o,o<4→∀i,i<4→yP ((o:Nat):Int) i i=false:=by decide +kernel
theorem aed:∀o i,o<4→i<4→¬BB kS nn ((o:Nat):Int) i i=true:=by
 intro o i ho hi h
 have:=pN.1 h (fun a b=>yP ((o:Nat):Int) a b=true) ⟨fun a b ha hb=>aaG o ho a ha b hb,fun a b c ha hb hc=>W8 o ho a ha b hb c hc,fun a b r hr k=>by
  have hb:=Hb _<|dB k.fr
  have hb:b<4:=by have:kS.length=4:=rfl;omega
  exact aaF o ho a k.a1 b hb r k.r1 hr k.fr k.ne k.wr k.ah⟩
 rw[aeh o ho i hi] at this
 cases this
theorem YV:ik kS nn 3=none:=by
 rw[rO rfl Hb]
 intro k hk
 unfold Bx
 rintro(⟨h0,r,hr⟩|⟨h0,i,hi,h⟩|⟨h0,r,a,hr,ha,h1,h2,h3⟩|⟨h0,r,a,b,hr,ha,hb,h1,h2,h3,h4,h5⟩|⟨h0,i,hi,h⟩|⟨h0,o,r,a,ho,hr,ha,h1,h2,h3,h4⟩|⟨h0,o,i,ho,hi,h⟩)
 ·exact aeg r hr
 ·rw[aef i hi] at h;cases h
 ·exact Un r h1
 ·rw[aee r hr a ha b hb h1 h2 h3 h4] at h5;cases h5
 ·subst h0;exact absurd hk aw
 ·exact Un r h2
 ·exact aed o i ho hi h
theorem aei:∃y,ik kS nn 2=some y∧y.1=5:=by
 have h5:(j9 kS nn 5).isSome=true:=by
  rw[HH rfl Hb aq]
  refine .inr (.inr (.inr (.inr (.inl ⟨J,0,by decide,?_⟩))))
  have e1:EA kS nn 0 2=true:=by
   unfold EA
   rw[anv,@decide_eq_true_iff _ (Classical.propDecidable _)]
   exact .inr ⟨1,by decide,by decide,J,by decide,by decide +kernel,by decide +kernel⟩
  have e2:EA kS nn 2 0=true:=by
   unfold EA
   rw[anv,@decide_eq_true_iff _ (Classical.propDecidable _)]
   exact .inr ⟨3,by decide,by decide,J,by decide,by decide +kernel,by decide +kernel⟩
  exact xL (b:=2) aw (vh e1)<|vh e2
 have hn:∀k,k=1∨k=2∨k=3∨k=4→j9 kS nn k=none:=by
  intro k hk
  have:¬(j9 kS nn k).isSome=true:=by
   rw[HH rfl Hb aq]
   have:=(rO (I:=kS) (U:=nn) (lv:=3) J Hb).1 YV k
   refine this ?_
   rcases hk with rfl|rfl|rfl|rfl<;>decide
  cases e:j9 kS nn k with
  |none=>rfl
  |some x=>rw[e] at this;exact absurd rfl this
 obtain⟨y,hy⟩:=anJ.1 h5
 refine⟨y,?_,IQ hy⟩
 unfold ik
 rw[show dQ 2=[1,2,3,4,5] from rfl]
 simp only[List.findSome?_cons,hn 1 aq,hn 2 aq,hn 3 aq,hn 4 aq,hy]
theorem Uo:(kx Jz).2.2=0→(kx Jz).1.flatten.length≤64:=by rw[Im];decide
theorem FN:uG Jz 3=0∧qZ Jz 3=true:=by
 obtain⟨h1,_,_,_,h2,_⟩:=PD (lv:=3) rfl Im rfl
 obtain⟨k1,_,_,k2,_⟩:=xo (lv:=3) Um aq
 rw[h1,h2,k1,k2,aej,aek,YV]
 exact⟨J,J⟩
theorem zp:uG Jz 2=0∧qZ Jz 2=false∧(kv Jz 2).1=5:=by
 obtain⟨h1,_,_,_,h2,h3⟩:=PD (lv:=2) rfl Im rfl
 obtain⟨k1,_,_,k2,k3⟩:=xo (lv:=2) Um aq
 obtain⟨y,e1,e2⟩:=aei
 rw[h1,h2,h3,k1,k2,k3,aej,aek,e1]
 exact⟨J,J,e2⟩
end Go.Ew
