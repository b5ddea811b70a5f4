/- Plain words and laws: hulls, as the program and the reference make them (law 4). -/
import Derived.Test.YtgjakhpjmapelaaGreatDoorQwnB
import Derived.Test.YtgjakhpjmapelaaGreatDoorQwnA
import Derived.Shelf.SlSortCmp.WholeK
import Derived.Shelf.SlSortCmp.NoneTotal
import Derived.Sort.LotA
import Derived.Laws.IdiomStrings
import Derived.Lib.SlTrimSet
set_option linter.unusedVariables false
set_option linter.unusedSimpArgs false
set_option linter.unusedSectionVars false
namespace Go.Ew
variable {n:Int} {q k:Nat} {x:Row}
theorem U_ {rs xs:Rows} (hs:xs=cI n.toNat (wM (gi rs) q)) (hq:q≤n.toNat) (nK:n.toNat≤q):xs=fl n rs:=by
 obtain rfl:q=n.toNat:=by omega
 exact hs
section
variable {n:Int} {rs:Rows} (h:bL n rs=true)
include h
theorem OR:rs=cI n.toNat (wM (gi rs) 0):=C0 h
theorem pJ {i:Nat} (hx:rs[i]? =some x):x=ic n.toNat (gi rs i):=by
 have h1:=C0 h
 have h2:(cI n.toNat (gi rs))[i]? =some x:=by rw[←h1];exact hx
 exact(mZ h2).2
theorem S9 {i:Nat} {j:Int} (hx:rs[i]? =some x) (hj:(cZ x)[q]? =some j):0≤j∧j<n∧j<((rs.length:Nat):Int):=by
 rw[pJ h hx,zg] at hj
 obtain⟨k,hk, -,rfl⟩:=xF.1 (dO hj)
 have:=(bU h).1
 omega
end
def A8 (p:ib) (i j k a b:Nat):Bool:=if a<k then Cf p i j a b else p a b
section
variable {n:Int} {rs xs:Rows} {i j:Int} (h:bL n rs=true)
theorem Ip (hq:kG n [i,j]=false):iu n i j=0∧ie n rs i j=[]∧lM n i j=1:=by
 refine⟨(oW (rs:=rs) hq).1,?_,(oW (rs:=rs) hq).2.2⟩
 unfold ie;rw[apr (by rw[hq];decide)]
theorem abT (hq:kG n [i,j]=true) (hb:eO n rs i j=true):ie n rs i j=rs:=by unfold ie;rw[apo hq,apo hb]
include h
theorem X_:rs=cI n.toNat (A8 (gi rs) i.toNat j.toNat 0):=by
 rw[show cI n.toNat (A8 (gi rs) i.toNat j.toNat 0)=cI n.toNat (gi rs) from dM fun a b _ _=>by unfold A8;simp]
 exact C0 h
theorem VB (hs:xs=cI n.toNat (A8 (gi rs) i.toNat j.toNat k)) (hx:xs[q]? =some x):x.length=words n:=by
 subst hs
 have:=(bU h).2.2.2.1
 rw[(mZ hx).2,jO,ap0 this]
theorem VA {k:Nat} {x xj:Row} (hq:kG n [i,j]=true) (hs:xs=cI n.toNat (A8 (gi rs) i.toNat j.toNat k)) (hx:xs[((k:Nat):Int).toNat]? =some x) (hj:rs[j.toNat]? =some xj)
  (hc:((k:Nat):Int)=i∨∃z,rs[((k:Nat):Int).toNat]? =some z∧fy z i=true):xs.set ((k:Nat):Int).toNat (jT x (eo xj j))=cI n.toNat (A8 (gi rs) i.toNat j.toNat (k+1)):=by
 have hr:=ju.1 hq
 have hn:((n.toNat:Nat):Int)=n:=by omega
 subst hs
 obtain⟨hk,hx⟩:=mZ hx
 rw[dS] at hk ⊢
 rw[dS] at hx
 rw[hx,pJ h hj,vn hr.2.1 aq,IT,yj]
 have AS:((decide (k=i.toNat))||gi rs k i.toNat)=true:=by
  rcases hc with hc|⟨z,hz,hb⟩
  ·simp[show k=i.toNat from by omega]
  ·rw[dS] at hz
   rw[pJ h hz,ji] at hb
   simp only[eP] at hb
   rw[hb.2];simp
 refine dM fun a b ha hb=>?_
 unfold A8
 by_cases e:a=k
 ·subst e
  rw[apo rfl,apr aq,apo aq]
  unfold Cf
  rw[AS,aqc]
  cases gi rs a b<;>cases gi rs j.toNat b<;>simp
 ·rw[apr e]
  by_cases e2:a<k
  ·rw[apo e2,apo aq]
  ·rw[apr e2,apr aq]
theorem ahD {z:Row} (hq:kG n [i,j]=true) (hs:xs=cI n.toNat (A8 (gi rs) i.toNat j.toNat k)) (gI:¬((k:Nat):Int)=i) (hz:rs[((k:Nat):Int).toNat]? =some z) (hb:fy z i=false):
  xs=cI n.toNat (A8 (gi rs) i.toNat j.toNat (k+1)):=by
 have hr:=ju.1 hq
 rw[hs]
 refine dM fun a b ha vS=>?_
 unfold A8
 by_cases e2:a<k
 ·rw[apo e2,apo aq]
 ·by_cases e:a=k
  ·subst e
   rw[apr e2,apo aq]
   unfold Cf
   rw[pJ h hz,ji,dS] at hb
   have wW:gi rs a i.toNat=false:=by
    have h1:decide (0≤i)=true:=apt hr.1.1
    have h2:decide (i<((n.toNat:Nat):Int))=true:=apt aq
    rw[h1,h2] at hb
    simpa using hb
   rw[wW,apv (show ¬a=i.toNat from by omega)];simp
  ·rw[apr e2,apr aq]
theorem afL (hq:kG n [i,j]=true) (hb:eO n rs i j=false) (hs:xs=cI n.toNat (A8 (gi rs) i.toNat j.toNat k)) (hk:n.toNat≤k):xs=ie n rs i j:=by
 unfold ie
 rw[apo hq,apr (by rw[hb];decide),hs]
 exact dM fun a b ha _=>by unfold A8;rw[apo aq]
end
def OY (p:ib) (l:aE) (a b:Nat):Bool:=p a b&&(decide (((a:Nat):Int)∈l)&&decide (((b:Nat):Int)∈l))
def gr (n:Int) (rs:Rows) (l:aE):Rows:=cI n.toNat (OY (gi rs) l)
def pL (n:Nat) (l:aE):Row:=ic n fun b=>decide (((b:Nat):Int)∈l)
theorem WO (h:0≤n) (l:aE):ej n=pL n.toNat (l.take 0):=by
 have:=Di n.toNat
 rw[ap0 h] at this
 rw[this]
 exact kO fun k _=>by simp
theorem aaS {l:aE} {x:Int} {mk:Row} (hs:mk=pL n.toNat (l.take q)) (hx:l[((q:Nat):Int).toNat]? =some x) (h:x<n):eo mk x=pL n.toNat (l.take (q+1)):=by
 subst hs
 rw[nX hx]
 by_cases h0:0≤x
 ·unfold pL
  rw[vn h0 aq]
  refine kO fun k _=>?_
  rw[apF]
  simp only[apw,apl,apM,apD,asA,arQ]
  exact or_congr Iff.rfl ⟨fun e=>by omega,fun e=>by omega⟩
 ·rw[←aar aq]
  refine kO fun k _=>?_
  rw[apF]
  simp only[apl,apM,apD,asA,arQ]
  exact⟨.inl,fun e=>e.elim id fun e=>by omega⟩
theorem ade {l:aE} {x:Int} {mk:Row} (hs:mk=pL n.toNat (l.take q)) (hx:l[((q:Nat):Int).toNat]? =some x) (h:n≤x):mk=pL n.toNat (l.take (q+1)):=by
 rw[hs,nX hx]
 refine kO fun k hk=>?_
 rw[apF]
 simp only[apl,apM,apD,asA,arQ]
 exact⟨.inl,fun e=>e.elim id fun e=>by omega⟩
theorem JP (h:0≤n) (l:aE):(pL n.toNat l).length=words n:=by unfold pL;rw[jO,ap0 h]
def mI (x m:Row) (k:Nat):Row:=(List.range x.length).map fun t=>if t<k then x.getD t 0#64 &&& m.getD t 0#64 else 0#64
theorem tw (x m:Row) (k:Nat):(mI x m k).length=x.length:=by unfold mI;simp
theorem Sb (x m:Row):List.replicate x.length 0#64=mI x m 0:=by
 unfold mI
 apply aqY
 ·simp
 ·intro i h1 h2;simp
theorem Sc {m:Row} {u v:bw} (hu:x[((k:Nat):Int).toNat]? =some u) (hv:m[((k:Nat):Int).toNat]? =some v):(mI x m k).set ((k:Nat):Int).toNat (u &&& v)=mI x m (k+1):=by
 have e1:=xH hu
 have e2:=xH hv
 rw[dS]
 apply aqY
 ·rw[apk,tw,tw]
 ·intro i h1 h2
  rw[ar5]
  simp only[mI,List.getElem_map,arU]
  by_cases e:k=i
  ·subst e;rw[apo rfl,apo aq,e1,e2]
  ·rw[apr e]
   by_cases h3:i<k
   ·rw[apo h3,apo aq]
   ·rw[apr h3,apr aq]
theorem Vy {n:Nat} {p q:Nat→Bool} (h:(ic n p).length≤k):mI (ic n p) (ic n q) k=ic n fun b=>p b&&q b:=by
 refine Av (by rw[tw,jO]) fun b=>?_
 have h1:∀r:Row,fy r ((b:Nat):Int)=(r.getD (b/64) 0#64).getLsbD (b%64):=by intro r;unfold fy;simp
 have e1:=ji n p ((b:Nat):Int)
 have e2:=ji n q ((b:Nat):Int)
 rw[h1] at e1 e2 ⊢
 by_cases hb:b/64<(ic n p).length
 ·have:(mI (ic n p) (ic n q) k).getD (b/64) 0#64=(ic n p).getD (b/64) 0#64 &&& (ic n q).getD (b/64) 0#64:=by
   unfold mI
   rw[gX,apx,aqm hb]
   show (if b/64<k then _ else _)=_
   rw[apo aq]
  rw[this,arw,e1,e2]
  by_cases Un:b<n
  ·simp[Un]
  ·simp[Un]
 ·have Un:¬b<n:=by
   intro Un
   apply hb
   rw[jO,qR];omega
  have:(mI (ic n p) (ic n q) k).getD (b/64) 0#64=0#64:=by
   rw[gX,apz (by rw[tw];omega)];rfl
  rw[this];simp[Un]
def xP (p:ib) (l:aE) (k a b:Nat):Bool:=if a<k then OY p l a b else false
section
variable {n:Int} {rs xs:Rows} {l:aE} {mk:Row} {k:Nat} (h:bL n rs=true)
include h
theorem VU:List.replicate n.toNat (ej n)=cI n.toNat (xP (gi rs) l 0):=by
 have h0:=kW h
 have:=ze n.toNat
 unfold wB at this
 rw[ap0 h0] at this
 rw[this]
 exact dM fun a b _ _=>by unfold xP;simp
theorem aaf (hs:xs=cI n.toNat (xP (gi rs) l k)) (hm:mk=pL n.toNat l) (hk:k<n.toNat) (hb:fy mk ((k:Nat):Int)=false):xs=cI n.toNat (xP (gi rs) l (k+1)):=by
 rw[hs]
 refine dM fun a b ha vS=>?_
 unfold xP
 by_cases e2:a<k
 ·rw[apo e2,apo aq]
 ·by_cases e:a=k
  ·subst e
   rw[apr e2,apo aq]
   rw[hm] at hb
   unfold pL at hb
   rw[ji] at hb
   have Zg:decide (((a:Nat):Int)∈l)=false:=by
    have h2:decide (((a:Nat):Int)<((n.toNat:Nat):Int))=true:=apt aq
    rw[h2] at hb
    simpa using hb
   unfold OY
   rw[Zg];simp
  ·rw[apr e2,apr aq]
theorem aga (hs:xs=cI n.toNat (xP (gi rs) l k)) (hx:rs[((k:Nat):Int).toNat]? =some x):xs=xs.set k (mI x mk 0):=by
 have qH:rs[k]? =some x:=hx
 have hk:k<n.toNat:=by have:=(dZ.1 qH).1;have:=(bU h).1;omega
 have h0:=kW h
 have e:mI x mk 0=ej n:=by
  rw[←Sb]
  unfold ej
  rw[nY h qH]
 rw[e]
 apply apX
 intro a
 rw[aqI]
 split
 ·rename_i e2;subst e2
  rw[apo (by rw[hs,mh];exact hk),hs,sN hk]
  congr 1
  have:=Di n.toNat
  rw[ap0 h0] at this
  rw[this]
  exact kO fun b _=>by unfold xP;simp
 ·rfl
theorem LA {r:Row} {ys:Rows} (hs:xs=cI n.toNat (xP (gi rs) l k)) (hy:ys=xs.set k (mI x mk q)) (hx:rs[((k:Nat):Int).toNat]? =some x) (hr:ys[((k:Nat):Int).toNat]? =some r):r=mI x mk q:=by
 have qH:rs[k]? =some x:=hx
 have hk:k<n.toNat:=by have:=(dZ.1 qH).1;have:=(bU h).1;omega
 rw[hy,dS,apH (by rw[hs,mh];exact hk)] at hr
 exact(apm hr).symm
theorem aae {q:Nat} {x r:Row} {ys:Rows} {u v:bw} (hs:xs=cI n.toNat (xP (gi rs) l k)) (hy:ys=xs.set k (mI x mk q)) (hx:rs[((k:Nat):Int).toNat]? =some x) (hr:ys[((k:Nat):Int).toNat]? =some r)
  (hu:x[((q:Nat):Int).toNat]? =some u) (hv:mk[((q:Nat):Int).toNat]? =some v):ys.set ((k:Nat):Int).toNat (r.set ((q:Nat):Int).toNat (u &&& v))=xs.set k (mI x mk (q+1)):=by
 rw[LA h hs hy hx hr,hy,Sc hu hv,dS,List.set_set]
theorem aag {ys:Rows} (hs:xs=cI n.toNat (xP (gi rs) l k)) (hy:ys=xs.set k (mI x mk q)) (hx:rs[((k:Nat):Int).toNat]? =some x) (hm:mk=pL n.toNat l) (hb:fy mk ((k:Nat):Int)=true) (hq:x.length≤q):ys=cI n.toNat (xP (gi rs) l (k+1)):=by
 have qH:rs[k]? =some x:=hx
 have hk:k<n.toNat:=by have:=(dZ.1 qH).1;have:=(bU h).1;omega
 rw[hy,hm,hs,pJ h qH]
 unfold pL
 rw[Vy (by rw[pJ h qH] at hq;exact hq),yj]
 rw[hm] at hb
 unfold pL at hb
 rw[ji] at hb
 simp only[eP] at hb
 refine dM fun a b ha vS=>?_
 unfold xP
 by_cases e:a=k
 ·subst e
  rw[apo rfl,apo aq]
  unfold OY
  have:decide (((a:Nat):Int)∈l)=true:=by simpa using hb.2
  rw[this,aqc]
 ·rw[apr e]
  by_cases e2:a<k
  ·rw[apo e2,apo aq]
  ·rw[apr e2,apr aq]
theorem ab7 (hs:xs=cI n.toNat (xP (gi rs) l k)) (hk:n.toNat≤k):xs=gr n rs l:=by
 rw[hs]
 exact dM fun a b ha _=>by unfold xP;rw[apo aq]
end
theorem CJ {rs:Rows} (h:bL n rs=true) (l:aE):bL n (gr n rs l)=true:=by
 obtain⟨m,p,rfl,hm,rfl⟩:=ma h
 unfold gr;rw[dS];exact lN hm
end Go.Ew
namespace Go.Ew
structure Rch (n:Nat) (p:ib) (i:Nat) (sn:List Bool) (td:aE) (at_:Int) (j:Nat):Prop where
 len:sn.length=n
 snd:∀k,sn.getD k false=true→TC n p i k
 tdo:∀t∈td,∃k,t=((k:Nat):Int)∧k<n∧(k=i∨sn.getD k false=true)
 don:∀x,x<n→(x=i∨sn.getD x false=true)→((x:Nat):Int)∈td∨(((x:Nat):Int)=at_∧∀y,y<j→p x y=true→sn.getD y false=true)∨∀y,y<n→p x y=true→sn.getD y false=true
section
variable {n:Nat} {p:ib} {i j:Nat} {sn:List Bool} {td:aE} {at_:Int}
end
theorem O6 {td:aE} (h:¬(0:Int)<((td.length:Nat):Int)):td=[]:=aqM aq
section
variable {n:Int} {rs:Rows} {i a j:Nat} {sn:List Bool} {td:aE} {x:Int} (rt:bL n rs=true) (e:x=((a:Nat):Int)) (h:Rch n.toNat (gi rs) i sn td x j) (Uo:a<n.toNat) (hj:j<n.toNat)
include rt e h Uo hj
end
section
variable {k:Int} {l:List (BitVec 8×BitVec 8)} {z:BitVec 8×BitVec 8} (hk:0<k) (h4:k≤4096)
include hk h4
end
end Go.Ew
namespace Go.Ew
section
variable {n:Int} {rs:Rows} (h:bL n rs=true)
include h
end
end Go.Ew
namespace Go.Ew
variable {n o:Int} {rs:Rows} {x:Row}
def fb (n:Int) (rs:Rows) (o:Int):aE:=if 0≤o∧o<n then wP n.toNat (fun a=>gi rs a o.toNat) else []
def bR (n:Int) (rs:Rows) (o:Int):aE:=if 0≤o∧o<n then wP n.toNat (fun a=>gi rs a o.toNat||decide (a=o.toNat)) else []
theorem Mj (h:¬(0≤o∧o<n)):fb n rs o=[]:=by unfold fb;rw[apr h]
theorem Ly (h:¬(0≤o∧o<n)):bR n rs o=[]:=by unfold bR;rw[apr h]
theorem EP (h:bL n rs=true) (h0:0≤o∧o<n) (hx:(gP n rs)[o.toNat]? =some x):x=ic n.toNat fun a=>gi rs a o.toNat:=by
 obtain⟨m,p,rfl,hm,rfl⟩:=ma h
 rw[Jp] at hx
 obtain⟨h1,rfl⟩:=mZ hx
 rw[dS]
 exact kO fun a ha=>(jP ha h1).symm
theorem Tm (h:bL n rs=true) (h0:0≤o∧o<n) (hx:(gP n rs)[o.toNat]? =some x):cZ x=fb n rs o:=by
 rw[EP h h0 hx,zg];unfold fb;rw[apo h0]
theorem Sx (h:bL n rs=true) (h0:0≤o∧o<n) (hx:(gP n rs)[o.toNat]? =some x):cZ (eo x o)=bR n rs o:=by
 rw[EP h h0 hx,vn h0.1 aq,zg];unfold bR;rw[apo h0]
theorem xR (h:bL n rs=true) {i:Nat} (hx:(gP n rs)[i]? =some x):x.length≤64:=(bU (G0 h)).2.2.2.2 _ (dO hx)
theorem vA (h:bL n rs=true) (o:Int):(fb n rs o).length≤4096:=by
 have h4:=(bU h).2.2.1
 unfold fb;split
 ·have:=PF n.toNat (fun a=>gi rs a o.toNat);omega
 ·simp
theorem vj (h:bL n rs=true) (o:Int):(bR n rs o).length≤4096:=by
 have h4:=(bU h).2.2.1
 unfold bR;split
 ·have:=PF n.toNat (fun a=>gi rs a o.toNat||decide (a=o.toNat));omega
 ·simp
section
variable {n:Int} {rs:Rows} (h:bL n rs=true) {k:Int} (hk:0≤k∧k<n)
include h hk
end
end Go.Ew
namespace Go.Ew
def bc (p:Int→Bool) (xs:aE):aE:=xs.filter fun x=>!p x
def DF (p:Int→Bool) (xs ys:aE) (q:Int) (k:Nat):Prop:=ys.length=xs.length∧ys.take q.toNat=bc p (xs.take k)∧ys.drop k=xs.drop k
section
variable {p:Int→Bool} {xs ys:aE} {q x:Int} {k:Nat}
theorem abv (h:eM p xs= -1):xs=bc p xs:=by
 have h1:=uU (p:=p) (r:=xs)
 rw[h,apv aq] at h1
 unfold bc
 refine(asf.2 fun x hx=>?_).symm
 have:=aq9.1 h1.symm x hx
 simpa using this
theorem XE (h:¬eM p xs= -1):0≤eM p xs∧(eM p xs).toNat<xs.length∧DF p xs xs (eM p xs) ((eM p xs).toNat+1):=by
 unfold eM at h ⊢
 cases hf:xs.findIdx? p with
 |none=>rw[hf] at h;exact absurd rfl h
 |some i=>
  rw[hf] at h
  obtain⟨h1,h2,h3⟩:=apK.1 hf
  refine⟨by show (0:Int)≤((i:Nat):Int);omega,h1,J,?_,J⟩
  show xs.take i=bc p (xs.take (i+1))
  unfold bc
  rw[apW,eB h1,aqQ]
  have e1:(xs.take i).filter (fun x=>!p x)=xs.take i:=by
   refine asf.2 fun y hy=>?_
   obtain⟨j,hj⟩:=apG.1 hy
   have yr:=(dZ.1 hj).1
   rw[iH] at yr
   have h4:=h3 j aq
   rw[aqO aq,eB aq] at hj
   rw[←apm hj]
   simpa using h4
  rw[e1]
  simp[h2]
theorem R7 (h:DF p xs ys q k) (hx:ys[k]? =some x):xs[k]? =some x:=by
 have h1:=h.2.2
 have:(ys.drop k)[0]? =some x:=by rw[ap6];exact hx
 rw[h1,ap6] at this
 exact this
theorem Qd (hx:xs[k]? =some x):bc p (xs.take (k+1))=bc p (xs.take k)++(if p x=true then [] else [x]):=by
 unfold bc
 rw[apW,hx,aqQ]
 cases hp:p x<;>simp[hp]
theorem NC (h:DF p xs ys q k):ys.drop (k+1)=xs.drop (k+1):=by
 have h1:=h.2.2
 rw[←aqj,←aqj,h1]
theorem abx (h:DF p xs ys q k) (hx:ys[k]? =some x) (hp:p x=true):DF p xs ys q (k+1):=
 ⟨h.1,by rw[Qd (R7 h hx),apo hp,aql];exact h.2.1,NC h⟩
theorem abw (h:DF p xs ys q k) (hx:ys[k]? =some x) (hp:p x=false) (h0:0≤q) (hq:q<((k:Nat):Int)):DF p xs (ys.set q.toNat x) (q+1) (k+1):=by
 have hk:=(dZ.1 hx).1
 refine⟨by rw[apk];exact h.1,?_,?_⟩
 ·rw[Qd (R7 h hx),apr (by rw[hp];decide),←h.2.1,show (q+1).toNat=q.toNat+1 from by omega,apW,List.take_set_of_le (apn _),apH aq]
  rfl
 ·rw[List.drop_set_of_lt aq]
  exact NC h
theorem afl (h:DF p xs ys q k) (hk:xs.length≤k) (h0:0≤q) (hq:q.toNat≤ys.length) (m:Nat):(ys.take q.toNat++(List.replicate m (0:Int)++[])).take q.toNat=bc p xs:=by
 rw[ar' (by rw[iH];omega),h.2.1,apu hk]
end
def gR (aI:List aO) (v i:Int):Bool:=decide (i<0)||(match aI[i.toNat]? with
 |none=>true
 |some x=>!x.2.2.1||!decide (x.2.2.2.1=v))
def fk (aI:List aO) (i:Int):Bool:=((aI[i.toNat]?).map (fun x=>x.2.2.1)).getD false
section
variable {aI:List aO} {v i:Int} {x:aO}
theorem aac (h:i<0):gR aI v i=true:=by unfold gR;rw[apt h];rfl
theorem aab (h:((aI.length:Nat):Int)≤i):gR aI v i=true:=by
 unfold gR
 rw[apz aq];simp
theorem Lw (h0:¬i<0) (hx:aI[i.toNat]? =some x):gR aI v i=(!x.2.2.1||!decide (x.2.2.2.1=v)):=by
 unfold gR
 rw[apv h0,hx];rfl
theorem ab6 (hx:aI[i.toNat]? =some x):fk aI i=x.2.2.1:=by unfold fk;rw[hx];rfl
theorem JI (o:ij aI) {t:Int} {q:Nat} {x:Int} (hx:(cF aI t)[q]? =some x):0≤x∧x<((aI.length:Nat):Int):=by
 by_cases h:0≤t∧t<(aI.length:Int)
 ·have:=aaE o h.1 h.2 hx
  omega
 ·rw[←FW h] at hx;simp at hx
end
end Go.Ew
namespace Go.Ew
abbrev cP:=Int×Int×Int×Int×Int
def iI (I:List aO) (i:Int):Bool:=decide (0≤i)&&decide (i<((I.length:Nat):Int))
def ml (I:List aO) (i:Int):Int:=((I[i.toNat]?).map (fun x=>x.2.2.2.1)).getD 0
section
variable {I:List aO} {U:aE}
end
end Go.Ew
namespace Go.Ew
section
variable {I:List aO} {U:aE} {pre:List cP} {pl:List Bool} {kd fr to sa sb:Int}
end
end Go.Ew
namespace Go.Ew
variable {h:dp} {I:List aO} {U:aE} {j n:Nat} {w:Int}
def fS (h:dp):Bool:=jG h&&decide ((dC (cX h)).2.2=0)
def tQ (h:dp):List aY:=if fS h then mo h else []
def me (h:dp):List aO:=if fS h then cX h else []
def mg (h:dp):aE:=if fS h then fR (cX h) else []
theorem AJ (hq:fS h=false):tQ h=[]∧me h=[]∧mg h=[]:=by unfold tQ me mg;simp[hq]
theorem xC (hq:fS h=true):tQ h=mo h∧me h=cX h∧mg h=fR (cX h):=by unfold tQ me mg;simp[hq]
theorem aaN {h:dp} (he:¬lG h=0):fS h=false:=by
 unfold fS
 cases hr:jG h with
 |false=>rfl
 |true=>exact absurd (tP hr).2.2 he
theorem agv {h:dp} (he:lG h=0):jG h=true:=by
 cases hr:jG h with
 |true=>rfl
 |false=>rw[(yh hr).2.2] at he;cases he
theorem aaM (he:¬(dC (cX h)).2.2=0):fS h=false:=by unfold fS;rw[apv he];simp
theorem ac4 (he:lG h=0) (hc:(dC (cX h)).2.2=0):fS h=true:=by unfold fS;rw[agv he,apt hc];rfl
theorem Mv (h:dp):(mg h).length=(me h).length:=by
 unfold mg me;split
 ·exact vV _
 ·rfl
theorem Gz {aI:List aO}:∀x∈fR aI,x<((aI.length:Nat):Int):=by
 intro x hx
 unfold fR at hx
 obtain⟨y,hy,rfl⟩:=ap4.1 hx
 have:=(OD (aI:=aI) (x:=y) J).2.2.2.1
 exact this
def JC (U:aE) (a b:Nat):Bool:=decide (U.getD b (-1)=((a:Nat):Int))
def oY (I:List aO) (U:aE):Rows:=cI I.length (JC U)
def uQ (n:Nat) (U:aE) (j:Nat):Rows:=cI n fun a b=>decide (b<j)&&JC U a b
theorem aaz (n:Nat) (U:aE):wB ((n:Nat):Int)=uQ n U 0:=by
 rw[ze];exact dM fun a b _ _=>by simp
theorem acS (hl:U.length=I.length) (hj:U.length≤j):uQ I.length U j=oY I U:=
 dM fun a b _ hb=>by rw[apt (show b<j by omega)];rfl
theorem agq (hw:U[((j:Nat):Int).toNat]? =some w) (h:w<0):uQ n U j=uQ n U (j+1):=by
 refine dM fun a b ha hb=>?_
 by_cases e:b=j
 ·subst e
  rw[dS] at hw
  unfold JC
  rw[gX,hw,apv (show ¬(some w).getD (-1)=((a:Nat):Int) by simp;omega)];simp
 ·have:decide (b<j)=decide (b<j+1):=by rw[aqE];omega
  rw[this]
theorem agr (h0:0≤w) (hw:w<((n:Nat):Int)) (hj:j<n):kG ((n:Nat):Int) [w,((j:Nat):Int)]=true:=ju.2 aq
theorem acQ (hw:U[((j:Nat):Int).toNat]? =some w) (h0:0≤w) (h1:w<((n:Nat):Int)) (hj:j<n):rW (uQ n U j) (w,((j:Nat):Int))=uQ n U (j+1):=by
 unfold uQ
 rw[CW (agr h0 h1 hj)]
 refine dM fun a b ha hb=>?_
 rw[dS] at hw ⊢
 by_cases e:b=j
 ·subst e
  rw[apv (ars b),apt (aqN b),apt rfl]
  unfold JC
  rw[gX,hw]
  show (false&&_||decide (a=w.toNat)&&true)=(true&&decide (w=((a:Nat):Int)))
  rw[asl,are,ast,aqc,aqE]
  omega
 ·rw[apv e,asm,aqR]
  have:decide (b<j)=decide (b<j+1):=by rw[aqE];omega
  rw[this]
theorem acR {xs:Rows} {x:Row} (hs:xs=uQ n U j) (hw:U[((j:Nat):Int).toNat]? =some w) (h0:0≤w) (h1:w<((n:Nat):Int)) (hj:j<n) (hx:xs[w.toNat]? =some x):xs.set w.toNat (eo x ((j:Nat):Int))=uQ n U (j+1):=by
 rw[IJ hx,hs];exact acQ hw h0 h1 hj
theorem We (n:Nat) (U:aE) (j:Nat):(uQ n U j).length=n:=mh _ _
theorem aaB (I:List aO) (U:aE):(oY I U).length=I.length:=mh _ _
theorem aaA (h:n≤4096) (U:aE) (j:Nat):(((uQ n U j).length:Nat):Int)=((n:Nat):Int)∧∀x∈uQ n U j,x.length≤1000000000:=⟨by rw[We],BH h⟩
theorem Hf (h:n≤4096) (P:ib):(((cI n P).length:Nat):Int)=((n:Nat):Int)∧∀x∈cI n P,x.length≤1000000000:=⟨by rw[mh],BH h⟩
def HZ (I:List aO) (U:aE) (a b:Nat):Bool:=CA I a b||JC U a b
def kA (I:List aO) (U:aE):Rows:=cI I.length (HZ I U)
theorem ZJ (I:List aO) (U:aE):tN ((I.length:Nat):Int) ((I.length:Nat):Int)=((I.length:Nat):Int)∧mc ((I.length:Nat):Int) (pa I) ((I.length:Nat):Int) (oY I U)=kA I U:=by
 refine⟨(AD (ar:=pa I) (br:=oY I U) J).1,?_⟩
 rw[(AD rfl).2.1,dS]
 exact Tx _ _
def pC (I:List aO) (U:aE):ib:=cl I.length (HZ I U)
def cA (I:List aO) (U:aE):Rows:=cI I.length (pC I U)
theorem XK (I:List aO) (U:aE):fl ((I.length:Nat):Int) (kA I U)=cA I U:=Fi
theorem Nz (U:aE) (h:I.length≤4096):bL ((I.length:Nat):Int) (kA I U)=true:=lN h
theorem pS (U:aE) (h:I.length≤4096):bL ((I.length:Nat):Int) (cA I U)=true:=lN h
end Go.Ew
namespace Go.Ew
def eb (lv:Int):aE:=bif decide (lv=1) then [1,2,3,4] else bif decide (lv=2) then [1,2,3,4]++[5] else bif decide (lv=3) then [1,2,3,4]++[6,7] else []
section
variable (I:List aO) (U:aE)
def l3 (o:Int):aE:=bc (fk I) (cF I o)
end
section
variable {I:List aO} {U:aE}
end
end Go.Ew
namespace Go.Ew
def iM (l:aE) (n:Int):Bool:=l.any (fun z_=>decide (z_=n))
section
variable (I:List aO) (U:aE)
end
section
variable {I:List aO} {U:aE}
end
end Go.Ew
namespace Go.Ew
section
variable {I:List aO} {U:aE} {l:List cP}
theorem tf {i:Int} (h:iI I i=true):0≤i∧i<((I.length:Nat):Int):=by
 unfold iI at h
 simpa only[eP,apl] using h
theorem jC {α:Type} {xs:List α} {j:Nat} {x z:α} (h:xs[((j:Nat):Int).toNat]? =some x):xs.getD j z=x:=by
 rw[dS] at h
 rw[gX,h];rfl
end

section
variable {α:Type} {l:List α} {p:α→Bool} {q:Nat→Bool} {j n:Nat} {x:α}
theorem abN (hx:l[((j:Nat):Int).toNat]? =some x) (h:p x=true):true=l.any p:=by
 symm;rw[apO];exact⟨x,dO hx,h⟩
theorem abO (hs:(l.take j).any p=false) (h:l.length≤j):false=l.any p:=by rw[apu h] at hs;exact hs.symm
end
section
variable {l:List cP} {j:Nat} {s:cP} {ys:List Bool} {x:Bool}
end
section
variable {I:List aO} {U:aE} {l:List cP}
end
end Go.Ew
namespace Go.Ew
def fK (a b:Int):Int:=bif decide (a<b) then -1 else bif decide (b<a) then 1 else 0
def Dd:aE→Int
 |[]=>0
 |x::r=>if x=0 then Dd r else x
abbrev eu:=Int×Int×Int
def yJ (x y:eu):Int:=Dd [fK x.1 y.1,fK x.2.1 y.2.1,fK x.2.2 y.2.2]
theorem Pr:∀{l:aE} {j:Nat} {x:Int},(∀y∈l.take j,y=0)→l[j]? =some x→¬x=0→Dd l=x
 |[],j,x,_,h,_=>by simp at h
 |a::l,0,x,_,h,hx=>by
  simp only[apC,apy] at h
  subst h
  exact apr hx
 |a::l,j+1,x,hs,h,hx=>by
  simp only[apI] at h
  show (if a=0 then Dd l else a)=x
  rw[apo (hs a (by simp)),Pr (fun y hy=>hs y (by simp[hy])) h hx]
theorem Mq:∀{l:aE},(∀y∈l,y=0)→Dd l=0
 |[],_=>rfl
 |a::l,h=>by
  show (if a=0 then Dd l else a)=0
  rw[apo (h a (by simp)),Mq (fun y hy=>h y (by simp[hy]))]
theorem Z7 {l:aE} {j:Nat} {x:Int} (hs:∀y∈l.take j,y=0) (hx:l[((j:Nat):Int).toNat]? =some x) (h:x=0):∀y∈l.take (j+1),y=0:=by
 rw[dS] at hx
 intro y hy
 rw[apW,hx] at hy
 rcases apM.1 hy with hy|hy
 ·exact hs y hy
 ·simp at hy;rw[hy];exact h
theorem GH (a b:Int):aK (fK a b):=by
 unfold fK aK
 cases decide (a<b)<;>cases decide (b<a)<;>simp
end Go.Ew
namespace Go.Ew
open Go.RowKit
def pR (a:Option Addr) (c lo:Nat):Option Addr:=if c=lo then a else a.map (·.add (lo*3))
theorem Ae {α:Type} [GT α] {M:cg} {w:aJ}:∀(k:Nat) {xs:List α} {cs:List Value},bC M w cs xs→bC M w (cs.take (k*GT.size α)) (xs.take k)∧bC M w (cs.drop (k*GT.size α)) (xs.drop k)
 |0,xs,cs,h=>⟨by rw[arR,arl,arl];rfl,by simpa using h⟩
 |k+1,[],cs,h=>by
  rw[show cs=[] from h]
  exact⟨by simp[bC],by simp[bC]⟩
 |k+1,x::xs,cs,h=>by
  obtain⟨c1,c2,rfl,h2,h3⟩:=h
  obtain⟨i1,i2⟩:=Ae k h3
  have e:=GT.len h2
  have e1:(k+1)*GT.size α=c1.length+k*GT.size α:=by rw[aqd,e];omega
  refine⟨⟨c1,c2.take (k*GT.size α),?_,h2,i1⟩,?_⟩
  ·rw[e1,List.take_length_add_append]
  ·rw[e1,List.drop_length_add_append];exact i2
theorem af' (n:Nat):(Builtin.zeroCells #[Value.int .i64 0,Value.int .i64 0,Value.int .i64 0] n).toList=List.replicate (n*3) (Value.int .i64 0):=by
 unfold Builtin.zeroCells
 apply apX
 intro i
 simp only[Array.toList_map,apx,Array.toList_range,aq_]
 by_cases h:i<n*3
 ·rw[aqm (by simpa using h),apo h]
  have:i%3=0∨i%3=1∨i%3=2:=by omega
  rcases this with h|h|h<;>simp[h]
 ·rw[apz (by simpa using h),apr h];rfl
theorem W4:aK 0:=by unfold aK;omega
theorem Jb {M:cg} {w:aJ}:∀n,bC M w (List.replicate (n*3) (Value.int .i64 0)) (List.replicate n ((0,0,0):eu))
 |0=>rfl
 |n+1=>⟨[.int .i64 0,.int .i64 0,.int .i64 0],List.replicate (n*3) (.int .i64 0),by rw[show (n+1)*3=n*3+1+1+1 by omega,aqf,aqf,aqf];rfl,⟨[_],[_,_],rfl,⟨rfl,W4⟩,[_],[_],rfl,⟨rfl,W4⟩,rfl,W4⟩,Jb n⟩
section
variable {P:Program} {n:Nat} {ops:Array Oper} {f:aR} {w:aJ} {K:aR→aJ→Prop} {x y:Operand} {d:Nat} {ty T e:TypeId} {ps:String} {af:Array Edge} {v u:Value} {M M0:cg} {w0:aJ} {l:List Item} {bytes:Nat} {z:Value} {B:Nat} {kk:IntKind} {agg:Bool} {xs ys:List eu} {a:Option Addr} {k c:Nat}
theorem xl (hO:(own B e (.slice a k c) xs).holds M w):k=xs.length∧xs.length≤c:=by
 obtain⟨cs,h1,h2⟩:=hO
 rcases h1.2 with ⟨h3,h4⟩|⟨g,cap,cur,h3,h4,h5,h6,h7⟩
 ·cases h3;omega
 ·cases h3;exact⟨rfl,h6⟩
theorem V7 {lo:Int} {rL:Operand} (hO:(own B e (.slice a k c) xs).holds M w) (ox:bM n x=true) (ol:bM n rL=true) (hx:ev f x=.slice a k c) (hl:ev f rL=.int kk lo) (hb:0≤lo∧lo≤xs.length) (hu:P.underlying T=some (.slice e)) (F:ez P e 3 agg bytes z)
  (h:K (cq f d (.slice (pR a c lo.toNat) (k-lo.toNat) (c-lo.toNat))) w):
  SO P n ops ⟨some d,.slice T x (some rL) none none,ty,ps,af,none⟩ f w K:=by
 obtain⟨hk,hc⟩:=xl hO
 refine SO.value (v:=.slice (pR a c lo.toNat) (k-lo.toNat) (c-lo.toNat)) (w':=w) ?_ h
 have vQ:P.underlying T=some (.slice (P.elem T)):=by rw[hu];simp[Program.elem,hu]
 have uY:P.elem T=e:=by simp[Program.elem,hu]
 simp[execOp,aP ox,aP ol,hx,hl,Instr.sliceAt,gO hu]
 have:=run_slice_l (P:=P) (w:=w) T a k c vQ kk lo hb.1 aq
 rw[uY,F.jA] at this
 simp[this,sliced,pR]
theorem agn {hi:Int} {px:Operand} (hO:(own B e (.slice a k c) xs).holds M w) (ox:bM n x=true) (oh:bM n px=true) (hx:ev f x=.slice a k c) (hh:ev f px=.int kk hi) (hb:0≤hi∧hi≤xs.length) (hu:P.underlying T=some (.slice e)) (F:ez P e 3 agg bytes z)
  (h:K (cq f d (.slice (pR a c 0) hi.toNat c)) w):
  SO P n ops ⟨some d,.slice T x none (some px) none,ty,ps,af,none⟩ f w K:=by
 obtain⟨hk,hc⟩:=xl hO
 refine SO.value (v:=.slice (pR a c 0) hi.toNat c) (w':=w) ?_ h
 have vQ:P.underlying T=some (.slice (P.elem T)):=by rw[hu];simp[Program.elem,hu]
 have uY:P.elem T=e:=by simp[Program.elem,hu]
 simp[execOp,aP ox,aP oh,hx,hh,Instr.sliceAt,gO hu]
 have:=run_slice_h (P:=P) (w:=w) T a k c vQ kk hi hb.1 aq
 rw[uY,F.jA] at this
 simp[this,sliced,pR]
theorem SY {hi:Int} {px:Operand} (H:HI M0 w0 w l) (i:Nat) (p9:l[i]? =some (own B e (.slice a k c) xs)) (ox:bM n x=true) (oh:bM n px=true) (hx:ev f x=.slice a k c) (hh:ev f px=.int kk hi) (hb:0≤hi∧hi≤xs.length) (hu:P.underlying T=some (.slice e)) (F:ez P e 3 agg bytes z)
  (h:HI M0 w0 w (l.set i (own B e (.slice a (xs.take hi.toNat).length c) (xs.take hi.toNat)))→K (cq f d (.slice a (xs.take hi.toNat).length c)) w):
  SO P n ops ⟨some d,.slice T x none (some px) none,ty,ps,af,none⟩ f w K:=by
 have hO:=H.at_ i p9
 have jU:=(dZ.1 p9).1
 have hlen:(xs.take hi.toNat).length=hi.toNat:=by simp;omega
 have Gn:pR a c 0=a:=by
  unfold pR
  split
  ·rfl
  ·obtain⟨cs,h1,h2⟩:=hO
   rcases h1.2 with ⟨h3,h4⟩|⟨g,cap,cur,h3,h4⟩
   ·cases h3;rfl
   ·cases h3
    show some (Addr.add _ (0*3))=_
    rw[GR]
 refine agn hO ox oh hx hh hb hu F ?_
 rw[Gn]
 rw[hlen] at h
 refine h ?_
 refine H.weaken ?_ ?_
 ·apply apX
  intro j
  rw[apx,apx]
  by_cases hj:i=j
  ·subst hj;rw[apH jU,p9];cases a<;>rfl
  ·rw[ap1 hj]
 ·intro j it nJ hj rP M Uf
  by_cases qM:i=j
  ·subst qM
   rw[apH jU] at rP
   rw[p9] at hj
   cases hj;cases rP
   obtain⟨cs,h1,h2⟩:=Uf
   have sg:=bC.length h2
   have AO:GT.size eu=3:=rfl
   have q:=(Ae hi.toNat h2).1
   rw[AO] at q sg
   refine⟨cs.take (hi.toNat*3),⟨by rw[hlen,AO,iH];omega,?_⟩,q⟩
   rcases h1.2 with ⟨h3,h4⟩|⟨g,cap,cur,h3,h4,h5,h6,h7,h8,h9⟩
   ·cases h3
    refine .inl ⟨by rw[show hi.toNat=0 from by omega],by rw[hlen];omega⟩
   ·cases h3
    refine .inr ⟨g,c,cur,by rw[hlen],h4,h5,by omega,h7,h8,?_⟩
    rw[AO] at h9
    rw[←h9,hlen,AO,aqS]
    congr 1
    omega
  ·rw[ap1 qM,hj] at rP;cases rP;exact Uf
theorem clE (H:HI M0 w0 w l) (i:Nat) (hi:l[i]? =some (own B e (.slice a k c) xs)) (hB:B=w0.heap.size) (ox:bM n x=true) {q:Nat} (hx:ev f x=.slice (pR a c q) (k-q) (c-q))
  (hu:P.underlying T=some (.slice e)) (F:ez P e 3 agg bytes (.agg #[.int .i64 0,.int .i64 0,.int .i64 0])) (hq:q≤xs.length)
  (h:∀w',HI M0 w0 w' (l.set i (own B e (.slice a k c) (xs.take q++List.replicate (xs.length-q) (0,0,0))))→K f w'):
  SO P n ops ⟨none,.call {callee:=.builtin .clear,args:=#[x],argTypes:=#[T]},ty,ps,af,none⟩ f w K:=by
 subst hB
 have hO:=H.at_ i hi
 have jU:=(dZ.1 hi).1
 obtain⟨hk,hc⟩:=xl hO
 obtain⟨cs,h1,h2⟩:=hO
 have AO:GT.size eu=3:=rfl
 by_cases nK:q=xs.length
 ·have hz:k-q=0:=by omega
  refine SO.value (d:=none) (v:=.tuple #[]) (w':=w) ?_<|h w ?_
  ·have AP:(Builtin.clear_ #[T] ty #[.slice (pR a c q) 0 (c-q)]).run P w=.ok (.tuple #[]) w:=by
    cases hca:pR a c q<;>simp[Builtin.clear_,run_underlying hu]
   rw[hz] at hx
   simp[execOp,resolve,invoke,builtin,aP ox,hx,AP]
  ·have e9:xs.take q++List.replicate (xs.length-q) (0,0,0)=xs:=by rw[nK];simp
   rw[e9]
   have:l.set i (own w0.heap.size e (.slice a k c) xs)=l:=by
    apply apX
    intro j
    by_cases hj:i=j
    ·subst hj;rw[apH jU,hi]
    ·rw[ap1 hj]
   rw[this];exact H
 ·rcases h1.2 with ⟨h0,h3⟩|⟨g',c1,cur,h0,h3,h4,h5,h6,h7,h8⟩
  ·omega
  ·cases h0
   have pZ:cur.size=c*3:=by rw[h7,AO]
   have Um:pR (some ⟨g',0,none⟩) c q=some ⟨g',q*3,none⟩:=by unfold pR;rw[apr aq];show some (Addr.add _<|q*3)=_;rw[GR]
   rw[Um] at hx
   have sg:=bC.length h2
   rw[AO] at sg h8
   have hz:bC (MS M0 l) w (List.replicate ((xs.length-q)*3) (Value.int .i64 0)) (List.replicate (xs.length-q) ((0,0,0):eu)):=Jb _
   have re:=run_storeCells_at P g' (q*3) e (List.replicate ((xs.length-q)*3)<|Value.int .i64 0) 0 cur w h4 (by rw[oI];omega)<|bC.BB hz
   refine SO.value (d:=none) (v:=.tuple #[]) (w':=w.setRow g' (cur.toList.take (q*3)++List.replicate ((xs.length-q)*3) (Value.int .i64 0)++cur.toList.drop (q*3+(List.replicate ((xs.length-q)*3)<|Value.int .i64 0).length)).toArray) ?_<|h _ ?_
   ·obtain⟨m,hm⟩:∃m,xs.length-q=m+1:=⟨xs.length-q-1,by omega⟩
    have AP:(Builtin.clear_ #[T] ty #[.slice (some ⟨g',q*3,none⟩) (xs.length-q) (c-q)]).run P w=.ok (.tuple #[]) (w.setRow g' (cur.toList.take (q*3)++List.replicate ((xs.length-q)*3) (Value.int .i64 0)++cur.toList.drop (q*3+(List.replicate ((xs.length-q)*3) (Value.int .i64 0)).length)).toArray):=by
     have sh:(Builtin.zeroCells (Value.agg #[.int .i64 0,.int .i64 0,.int .i64 0]).cells (xs.length-q)).toList=List.replicate ((xs.length-q)*3) (Value.int .i64 0):=af' _
     rw[ap3] at re
     rw[hm] at re sh ⊢
     simp[Builtin.clear_,run_underlying hu,F.uK,sh,re]
    simp[execOp,resolve,invoke,builtin,aP ox,hx,AP]
   ·have Y4:(List.replicate ((xs.length-q)*3) (Value.int .i64 0)).length=(xs.length-q)*3:=oI
    have Hz:(xs.take q++List.replicate (xs.length-q) ((0,0,0):eu)).length=xs.length:=by simp;omega
    have aet:cur.toList.length=c*3:=by simpa using pZ
    refine H.wx i hi J J J (by simp) (apn _) (fun q' hq' gI=>setRow_other w g' q' _<|fun e=>gI<|by rw[e];rfl) ?_ ?_
    ·intro b hb
     refine⟨?_,.inl hb⟩
     rw[size_setRow]
     exact(H.jD _ (dO hi) b hb).2
    ·have rb:Up (MS M0 l) w (MS M0 (l.set i (own w0.heap.size e (Value.slice (some ⟨g',0,none⟩) xs.length c) (xs.take q++List.replicate (xs.length-q) (0,0,0))))) (w.setRow g' (cur.toList.take (q*3)++List.replicate ((xs.length-q)*3) (Value.int .i64 0)++cur.toList.drop (q*3+(List.replicate ((xs.length-q)*3) (Value.int .i64 0)).length)).toArray):=by
      refine⟨by simp,fun b hb hM=>⟨setRow_other w g' b _ (fun e=>hM<|.inr ⟨_,dO hi,by rw[e];rfl⟩),?_⟩⟩
      rintro(DR|⟨it,hit,mi⟩)
      ·exact hM<|.inl DR
      ·rcases aqb hit with hit|rfl
       ·exact hM<|.inr ⟨it,hit,mi⟩
       ·exact hM<|.inr ⟨_,dO hi,mi⟩
     have qc:=(Ae q h2).1
     rw[AO] at qc
     refine⟨cs.take (q*3)++List.replicate ((xs.length-q)*3) (Value.int .i64 0),⟨by rw[Hz,AO,gj,iH,Y4];omega,.inr ⟨g',c,_,by rw[Hz],h3,setRow_heap w g' cur _ e _ h4,by omega,h6,?_,?_⟩⟩,?_⟩
     ·simp only[aqT,gj,iH,apJ,AO,Y4]
      omega
     ·rw[Hz]
      show (cur.toList.take (q*3)++List.replicate ((xs.length-q)*3) (Value.int .i64 0)++cur.toList.drop (q*3+(List.replicate ((xs.length-q)*3) (Value.int .i64 0)).length)).take (xs.length*3)=_
      rw[aqL (by rw[gj,iH,Y4];omega),apu (by rw[gj,iH,Y4];omega),←h8,aqS,aqk aq]
     ·exact bC.append (bC.lift rb qc)<|Jb _
end
end Go.Ew
namespace Go.Ew
open Go.RowKit
section
variable {P:Program} {n:Nat} {ops:Array Oper} {f:aR} {w:aJ} {K:aR→aJ→Prop} {x y:Operand} {d:Nat} {ty T e:TypeId} {ps:String} {af:Array Edge} {v u:Value} {M M0:cg} {w0:aJ} {l:List Item} {bytes:Nat} {z:Value} {B:Nat} {kk:IntKind} {agg:Bool} {xs ys:List eu} {a:Option Addr} {k c:Nat}
theorem U6 {q:Nat} {i:Int} (hO:(own B e (.slice a k c) xs).holds M w0) (hi:0≤i∧i<((k-q:Nat):Int)):
  ∃g,a=some ⟨g,0,none⟩∧pR a c q=some ⟨g,q*3,none⟩∧q+i.toNat<xs.length∧∀xv,xs[q+i.toNat]? =some xv→ik M w0 ⟨g,q*3+i.toNat*3,none⟩ xv:=by
 obtain⟨hk,hc⟩:=xl hO
 have h0:=hO
 obtain⟨cs,h1,h2⟩:=hO
 rcases h1.2 with ⟨h3,h4⟩|⟨g',c1,cur,h3,h4⟩
 ·omega
 ·cases h3
  refine⟨g',J,?_,by omega,fun xv hx=>?_⟩
  ·unfold pR;rw[apr aq];show some (Addr.add _ (q*3))=_;rw[GR]
  ·have:=acX h0 J hx
   rwa [show (q+i.toNat)*GT.size eu=q*3+i.toNat*3 from by show (q+i.toNat)*3=_;omega] at this
theorem Td {K:aR→Prop} {rest:dz} {q:Nat} {i:Int} (hO:(own B e (.slice a k c) xs).holds M w0) (ox:bM n x=true) (oy:bM n y=true) (hx:ev f x=.slice (pR a c q) (k-q) (c-q)) (hy:ev f y=.int kk i) (hi:0≤i∧i<((k-q:Nat):Int)) (hu:P.underlying T=some (.slice e)) (F:ez P e 3 agg bytes z)
  (h:∀ad xv,xs[q+i.toNat]? =some xv→ik M w0 ad xv→PW P n ops w0 K rest (cq f d (.pointer (some ad)))):PW P n ops w0 K (⟨some d,.indexAddr T x y,ty,ps,af,none⟩::rest) f:=by
 obtain⟨g,rfl,Gn,eH,hat⟩:=U6 hO hi
 rw[Gn] at hx
 have lE:(⟨g,q*3,none⟩:Addr).add (i.toNat*3)=⟨g,q*3+i.toNat*3,none⟩:=by unfold Addr.add;split<;>simp_all
 refine⟨.pointer (some ⟨g,q*3+i.toNat*3,none⟩),fun w hw=>SO.value (v:=.pointer (some ⟨g,q*3+i.toNat*3,none⟩)) (w':=w) ?_ ⟨J,Ext.refl w⟩,h _ xs[q+i.toNat] (eB eH) (hat _<|eB eH)⟩
 have hb:0≤i∧i<((k-q:Nat):Int):=hi
 simp[execOp,aP ox,aP oy,hx,hy,Instr.indexAt,asIntOf,gO hu,hb,F.jA,lE]
theorem ajs {q:Nat} {i:Int} (hO:(own B e (.slice a k c) xs).holds M w) (ox:bM n x=true) (oy:bM n y=true) (hx:ev f x=.slice (pR a c q) (k-q) (c-q)) (hy:ev f y=.int kk i) (hi:0≤i∧i<((k-q:Nat):Int)) (hu:P.underlying T=some (.slice e)) (F:ez P e 3 agg bytes z)
  (h:∀ad xv,xs[q+i.toNat]? =some xv→ik M w ad xv→K (cq f d (.pointer (some ad))) w):SO P n ops ⟨some d,.indexAddr T x y,ty,ps,af,none⟩ f w K:=by
 obtain⟨g,rfl,Gn,eH,hat⟩:=U6 hO hi
 rw[Gn] at hx
 have lE:(⟨g,q*3,none⟩:Addr).add (i.toNat*3)=⟨g,q*3+i.toNat*3,none⟩:=by unfold Addr.add;split<;>simp_all
 refine SO.value (v:=.pointer (some ⟨g,q*3+i.toNat*3,none⟩)) (w':=w) ?_<|h _ xs[q+i.toNat] (eB eH)<|hat _<|eB eH
 have hb:0≤i∧i<((k-q:Nat):Int):=hi
 simp[execOp,aP ox,aP oy,hx,hy,Instr.indexAt,asIntOf,gO hu,hb,F.jA,lE]
end
end Go.Ew
namespace Go.Ew
variable {p:Nat→Bool} {j:Nat}
def dy (I:List aO) (n:Int) (rs:Rows) (r:Int):aE:=bc (gR I (ml I r)) (fb n rs r)
section
variable (I:List aO) (U:aE) (n:Int) (rs:Rows)
def wb (r:Nat):Bool:=decide (U.getD r 0= -1)&&decide (0<(((dy I n rs ((r:Nat):Int)).length:Nat):Int))
def A1:Option Nat:=(List.range U.length).find? (wb I U n rs)
end
theorem EF {n:Nat} (hs:∀q,q<j→p q=false) (hj:j<n) (h:p j=true):(List.range n).find? p=some j:=by
 rw[List.find?_range_eq_some]
 refine⟨h,apq.2 hj,fun q hq=>?_⟩
 rw[hs q hq];rfl
theorem B2 {n:Nat} (hs:∀q,q<j→p q=false) (hj:n≤j):(List.range n).find? p=none:=by
 rw[aqP]
 intro q hq
 rw[hs q (apV (apq.1 hq) hj)];decide
theorem sR (hs:∀q,q<j→p q=false) (h:p j=false):∀q,q<j+1→p q=false:=by
 intro q hq
 by_cases e:q=j
 ·rw[e];exact h
 ·exact hs q aq
theorem Nf {l:aE} {x:Int} (h:l[(0:Int).toNat]? =some x):l.headD 0=x:=by
 cases l with
 |nil=>simp at h
 |cons a l=>simp at h;exact h
def Ag (n:Int) (rs:Rows) (a k:Int):Bool:=!decide (k=a)&&eO n rs a k
section
variable (I:List aO) (U:aE) (n:Int) (rs:Rows)
def Ah (r:Nat):Option Int:=(dy I n rs ((r:Nat):Int)).find? (Ag n rs (U.getD r 0))
def wH (r:Nat):Bool:=!decide (U.getD r 0<0)&&(Ah I U n rs r).isSome
def GL:Option Nat:=(List.range U.length).find? (wH I U n rs)
end
theorem PG {α:Type} {l:List α} {p:α→Bool} {x:α} (hs:∀y∈l.take j,p y=false) (hx:l[((j:Nat):Int).toNat]? =some x) (h:p x=false):∀y∈l.take (j+1),p y=false:=by
 rw[dS] at hx
 intro y hy
 rw[apW,hx] at hy
 rcases apM.1 hy with hy|hy
 ·exact hs y hy
 ·simp at hy;rw[hy];exact h
theorem adm {α:Type} {p:α→Bool}:∀{l:List α} {j:Nat} {x:α},(∀y∈l.take j,p y=false)→l[((j:Nat):Int).toNat]? =some x→p x=true→l.find? p=some x:=by
 intro l j x hs hx h
 rw[dS] at hx
 have hj:=(dZ.1 hx).1
 have e:l=l.take j++x::l.drop (j+1):=by
  rw[←(dZ.1 hx).2,ar3,aqz]
 rw[e,List.find?_append,aqP.2 (fun y hy=>by rw[hs y hy];decide),List.find?_cons_of_pos h];rfl
theorem aa0 {α:Type} {l:List α} {p:α→Bool} (hs:∀y∈l.take j,p y=false) (hj:l.length≤j):l.find? p=none:=by
 rw[apu hj] at hs
 exact aqP.2 fun y hy=>by rw[hs y hy];decide
theorem afz {I:List aO} {U:aE} {n:Int} {rs:Rows} {j q:Nat} {a x:Int} (hs:∀q,q<j→wH I U n rs q=false) (hj:j<U.length) (aN:U[((j:Nat):Int).toNat]? =some a) (h0:decide (a<0)=false)
  (gS:∀y∈(dy I n rs (j:Int)).take q,Ag n rs a y=false) (cO:(dy I n rs (j:Int))[((q:Nat):Int).toNat]? =some x) (h1:decide (x=a)=false) (h2:eO n rs a x=true):
  GL I U n rs=some j∧Ah I U n rs j=some x∧U.getD j 0=a:=by
 have hq:Ag n rs a x=true:=by unfold Ag;rw[h1,h2];rfl
 have hk:Ah I U n rs j=some x:=by unfold Ah;rw[jC aN];exact adm gS cO hq
 refine⟨EF hs hj ?_,hk,jC aN⟩
 unfold wH
 rw[jC aN,h0,hk];rfl
theorem afy {I:List aO} {U:aE} {n:Int} {rs:Rows} {a:Int} (hs:∀q,q<j→wH I U n rs q=false) (aN:U[((j:Nat):Int).toNat]? =some a) (h0:decide (a<0)=true):∀q,q<j+1→wH I U n rs q=false:=
 sR hs (by unfold wH;rw[jC aN,h0];rfl)
theorem X2 {I:List aO} {U:aE} {n:Int} {rs:Rows} {j q:Nat} {a:Int} (hs:∀q,q<j→wH I U n rs q=false) (aN:U[((j:Nat):Int).toNat]? =some a)
  (gS:∀y∈(dy I n rs (j:Int)).take q,Ag n rs a y=false) (hq:(dy I n rs (j:Int)).length≤q):∀q,q<j+1→wH I U n rs q=false:=
 sR hs (by unfold wH Ah;rw[jC aN,aa0 gS hq];simp)
theorem Sd {n:Int} {rs:Rows} (h:bL n rs=true) (I:List aO) (r:Int):(dy I n rs r).length≤4096:=by
 unfold dy bc
 exact Nat.le_trans (aqn _ _)<|vA h r
end Go.Ew
namespace Go.Ew
open Go.RowKit Go.Sort Go.Proofs
variable {w:aJ} {g:Nat}
section
variable {β:Type} [Inhabited β] {enc:β→List Value} {k:Nat}
theorem UF (hk:∀x,(enc x).length=k) (hp:0<k):∀(xs:List β) (t:Nat),t<xs.length*k→(xs.flatMap enc)[t]! =(enc xs[t/k]!)[t%k]!
 |[],t,h=>by simp at h
 |x::xs,t,h=>by
  rw[aqV]
  by_cases ht:t<k
  ·rw[arD ht,arC ht,List.getElem!_cons_zero,aqJ,aqJ,pt (by rw[hk];exact ht)]
  ·have h2:t-k<xs.length*k:=by rw[jb,aqd] at h;omega
   have e1:t/k=(t-k)/k+1:=by rw[show t=(t-k)+k by omega,Nat.add_div_right _ hp];simp
   have e2:t%k=(t-k)%k:=by rw[show t=(t-k)+k by omega,Nat.add_mod_right];simp
   have ih:=UF hk hp xs (t-k) h2
   rw[e1,e2,List.getElem!_cons_succ,←ih,aqJ,aqJ,oM (by rw[hk];omega),hk]
theorem DW (hk:∀x,(enc x).length=k):∀xs:List β,(xs.flatMap enc).length=xs.length*k
 |[]=>by simp
 |x::xs=>by rw[aqV,gj,DW hk xs,hk,jb,aqd];omega
theorem HP (hk:∀x,(enc x).length=k) (hp:0<k) (d:Array β):flatK enc k d=(d.toList.flatMap enc).toArray:=by
 apply Array.ext
 ·simp[DW hk]
 ·intro t h1 h2
  have h3:t<d.size*k:=by simpa using h1
  have e1:=get_flatK enc k d t h3
  have e2:=UF hk hp d.toList t<|by simpa using h3
  rw[asw (flatK enc k d) t h1] at e1
  rw[asw (d.toList.flatMap enc) t (by simpa using h2)] at e2
  have e3:d.toList[t/k]! =d[t/k]!:=by
   rw[aqJ,aqB,Array.getElem!_eq_getD,Array.getD_eq_getD_getElem?]
  rw[e1,List.getElem_toArray,e2,e3]
end
variable {α β:Type} [GT α] [Inhabited β] {val:β→α} {enc:β→List Value}
theorem Ie (h:∀M w cs x,GT.rep M w cs x↔∃b,cs=enc b∧val b=x) {M:cg} {w:aJ}:∀{xs:List α} {cs:List Value},bC M w cs xs→∃bs:List β,bs.map val=xs∧cs=bs.flatMap enc
 |[],cs,hc=>⟨[],rfl,hc⟩
 |x::xs,cs,⟨c1,c2,e,h1,h2⟩=>by
  obtain⟨bs,e1,e2⟩:=Ie h h2
  obtain⟨b,e3,e4⟩:=(h _ _ _ _).1 h1
  exact⟨b::bs,by simp[e1,e4],by rw[e,e2,e3];rfl⟩
theorem HY (h:∀M w cs x,GT.rep M w cs x↔∃b,cs=enc b∧val b=x) {M:cg} {w:aJ}:∀bs:List β,bC M w (bs.flatMap enc) (bs.map val)
 |[]=>rfl
 |b::bs=>⟨enc b,bs.flatMap enc,rfl,(h _ _ _ _).2 ⟨b,rfl,rfl⟩,HY h bs⟩
theorem KU {f:Array Value→Array Value} {cur:Array Value} {e:TypeId} {z:Nat×Nat} (h:w.heap[g]? =some (.cells cur e z)):(mapBlock w g f).heap[g]? =some (.cells (f cur) e z):=by
 simp[mapBlock,Array.getElem?_modify,h,onCells]
theorem IU {c:Nat} {f:Array Value→Array Value} (h:c≠g):(mapBlock w g f).heap[c]? =w.heap[c]?:=by
 simp[mapBlock,Array.getElem?_modify,Ne.symm h]
theorem SK {M0:cg} {w0:aJ} {l:List Item} {i:Nat} {e:TypeId} {cap:Nat} {xs:List α} (h:∀M w cs x,GT.rep M w cs x↔∃b,cs=enc b∧val b=x) (H:HI M0 w0 w l) (hi:l[i]? =some (own w0.heap.size e (.slice (some ⟨g,0,none⟩) xs.length cap) xs)):
  ∃bs:List β,bs.map val=xs∧HoldsK enc (GT.size α) w g 0 bs.toArray∧g<w.heap.size∧
   ∀(ds:List β) n os,ds.length=bs.length→HI M0 w0 (sortWorldK enc (GT.size α) w g 0 n ds.toArray os) (l.set i (own w0.heap.size e (.slice (some ⟨g,0,none⟩) xs.length cap) (ds.map val))):=by
 have hk:∀x:β,(enc x).length=GT.size α:=fun x=>GT.len<|(h (fun _=>True) w (enc x)<|val x).2 ⟨x,J,J⟩
 have hp:0<GT.size α:=GT.pos
 have BY:=dO hi
 obtain⟨cs,⟨hl,ho⟩,hc⟩:=H.all _ BY
 obtain⟨bs,rfl,rfl⟩:=Ie h hc
 have hblk:=H.jD _ BY g J
 rcases ho with ⟨ho, -⟩|⟨g',aoD,cur,ho,h1,h2,h3,h4,h5,h6⟩
 ·cases ho
 cases ho
 have hlen:(bs.flatMap enc).length=bs.length*GT.size α:=DW hk bs
 have pZ:bs.length*GT.size α≤cur.size:=by rw[h5];exact aqr _ (by simpa using h3)
 refine⟨bs,J,?_,hblk.2,?_⟩
 ·intro j hj
  rw[HP hk hp] at hj ⊢
  have rP:j<bs.length*GT.size α:=by simpa [hlen] using hj
  have yt:j<cur.size:=by omega
  have e1:(bs.flatMap enc)[j]? =some cur[j]:=by
   rw[←h6,apS,apo (by simpa using rP)];simp[yt]
  constructor
  ·simp only[World.cell?,h2,ap_,Option.isSome_none]
   rw[asw _ j (by simpa [hlen] using rP)]
   have e2:(bs.flatMap enc)[j]'aq=cur[j]:=apm<|(eB _).symm.trans e1
   simp[e2,yt]
  ·simp[World.frozen?,h2]
 ·intro ds n os Uj
  have hW:(sortWorldK enc (GT.size α) w g 0 n ds.toArray os).heap=(mapBlock (Go.Sort.ahead w n) g (putCells id 0 (ds.flatMap enc).toArray)).heap++os:=by
   simp only[sortWorldK,putRowK,putRow,grow,HP hk hp]
  have hms:(mapBlock (Go.Sort.ahead w n) g (putCells id 0 (ds.flatMap enc).toArray)).heap.size=w.heap.size:=by simp[mapBlock,Go.Sort.ahead]
  have uW:∀c,c<w.heap.size→(sortWorldK enc (GT.size α) w g 0 n ds.toArray os).heap[c]? =(mapBlock (Go.Sort.ahead w n) g (putCells id 0 (ds.flatMap enc).toArray)).heap[c]?:=by
   intro c hc
   rw[hW,arf aq]
  refine H.wx i hi J J J (by rw[hW,asu];omega) (by simp[sortWorldK,putRowK,putRow,grow,mapBlock,Go.Sort.ahead]) (fun c hcw gI=>?_) (fun b hb=>?_) ?_
  ·rw[uW c hcw]
   exact IU (w:=Go.Sort.ahead w n) fun e=>gI (by rw[e];rfl)
  ·cases hb
   exact⟨by rw[hW,asu];exact apV hblk.2 aq,.inl rfl⟩
  ·refine⟨ds.flatMap enc,⟨?_,.inr ⟨g,cap,putCells id 0 (ds.flatMap enc).toArray cur,by simp[Uj],h1,?_,by simpa [Uj] using h3,h4,by simpa [putCells] using h5,?_⟩⟩,HY h ds⟩
   ·rw[DW hk,apZ]
   ·rw[uW g hblk.2]
    exact KU (w:=Go.Sort.ahead w n) h2
   ·apply apX
    intro j
    have od:(ds.flatMap enc).length=ds.length*GT.size α:=DW hk ds
    rw[apS,apZ]
    split
    ·rename_i hj
     have yt:j<cur.size:=by rw[Uj] at hj;omega
     have hjf:j<(ds.flatMap enc).length:=by omega
     clear hW hms uW
     generalize ds.flatMap enc=F at hjf ⊢
     simp[putCells,yt,hjf]
    ·rw[apz aq]
theorem Ext.grow {w w':aJ} (h:Ext w w'):∃q os',w'=Go.Sort.grow (w.drewN q) os':=by
 refine⟨w'.drawn-w.drawn,w'.heap.extract w.heap.size w'.heap.size,?_⟩
 have hh:w'.heap=w.heap++w'.heap.extract w.heap.size w'.heap.size:=by
  apply Array.ext_getElem?
  intro c
  by_cases hc:c<w.heap.size
  ·rw[arf hc,h.block c hc]
  ·rw[Array.getElem?_append_right aq,Array.getElem?_extract]
   split
   ·congr 1;omega
   ·exact Array.getElem?_eq_none aq
 have hd:=h.drawn
 obtain⟨h1,h2,h3,h4⟩:_∧_∧_∧_:=⟨h.os,h.tape,h.output,hh⟩
 cases w';cases w
 simp only[Go.Sort.grow,World.drewN] at *
 subst h1 h2 h3
 congr 1
 omega
end Go.Ew
namespace Go.Ew
open Go.RowKit Go.Sort Go.Proofs
def CC:Type:={x:eu //aK x.1∧aK x.2.1∧aK x.2.2}
instance :Inhabited CC:=⟨⟨(0,0,0),by simp[aK],by simp[aK],by simp[aK]⟩⟩
def R5 (x:CC):List Value:=[.int .i64 x.1.1,.int .i64 x.1.2.1,.int .i64 x.1.2.2]
def ltE (x y:eu):Bool:=decide (yJ x y<0)
theorem Ja (a b:Int):(fK a b<0↔a<b)∧(fK a b=0↔a=b):=by
 unfold fK;constructor<;>cases h:decide (a<b)<;>cases k:decide (b<a)<;>simp at h k ⊢<;>omega
theorem Qg (x y:eu):yJ x y<0↔x.1<y.1∨x.1=y.1∧(x.2.1<y.2.1∨x.2.1=y.2.1∧x.2.2<y.2.2):=by
 have h1:=Ja x.1 y.1
 have h2:=Ja x.2.1 y.2.1
 have h3:=Ja x.2.2 y.2.2
 simp only[yJ,Dd]
 repeat' split
 all_goals omega
theorem XA (M:cg) (w:aJ) (cs:List Value) (x:eu):GT.rep M w cs x↔∃b:CC,cs=R5 b∧b.1=x:=by
 obtain⟨a,b,c⟩:=x
 constructor
 ·rintro⟨c1,c2,rfl,⟨rfl,h1⟩,d1,d2,rfl,⟨rfl,h2⟩,rfl,h3⟩
  exact⟨⟨(a,b,c),h1,h2,h3⟩,J,J⟩
 ·rintro⟨⟨⟨a',b',c'⟩,h1,h2,h3⟩,rfl,e⟩
  cases e
  exact⟨[_],[_,_],J,⟨J,h1⟩,[_],[_],J,⟨J,h2⟩,J,h3⟩
theorem acg:SWO (ltOf fun x y:CC=>yJ x.1 y.1):=by
 refine⟨fun x=>?_,fun x y z=>?_,fun x y z=>?_⟩<;>simp only[ltOf,apl,apA,Qg]<;>omega
theorem ajc (x y:CC) (h:(ltOf fun x y:CC=>yJ x.1 y.1) x y=false) (k:(ltOf fun x y:CC=>yJ x.1 y.1) y x=false):x=y:=by
 simp only[ltOf,apA,Qg] at h k
 obtain⟨⟨a,b,c⟩,hx⟩:=x
 obtain⟨⟨a',b',c'⟩,hy⟩:=y
 have e:((a,b,c):eu)=(a',b',c'):=by
  simp only[ap8]
  simp only at h k
  omega
 exact Subtype.ext e
def xh (l:List eu):List eu:=l.mergeSort fun x y=>!ltE y x
theorem SN:xh []=[]:=by unfold xh;simp
theorem SP (bs:List CC):xh (bs.map fun b=>b.1)=(bs.mergeSort fun x y=>!(ltOf fun x y:CC=>yJ x.1 y.1) y x).map fun b=>b.1:=by
 refine(List.map_mergeSort fun a _ b _=>?_).symm
 rfl
end Go.Ew
namespace Go.Ew
structure Yh (I:List aO) (U:aE) (n:Int) (rs:Rows) (e:eu):Prop where
 r0:0≤e.2.2
 r1:e.2.2<((U.length:Nat):Int)
 fr:U[e.2.2.toNat]? =some e.2.1
 w0:0≤e.2.1
 ne:e.1≠e.2.1
 ah:e.1∈bc (gR I (ml I e.2.1)) (fb n rs e.2.2)
def El (I:List aO) (U:aE) (n:Int) (rs:Rows) (es:List eu):Prop:=es.length≤4096*U.length∧∀e,e∈es↔Yh I U n rs e
section
variable (I:List aO) (U:aE) (n:Int) (rs:Rows)
def Cy (w r:Int) (l:aE):List eu:=(l.filter fun x=>!decide (x=w)).map fun x=>(x,w,r)
def D3 (r:Nat):List eu:=if U.getD r (-1)<0 then [] else Cy (U.getD r (-1)) ((r:Nat):Int) (bc (gR I (ml I (U.getD r (-1)))) (fb n rs ((r:Nat):Int)))
def u5 (j:Nat):List eu:=(List.range j).flatMap (D3 I U n rs)
def cL:List eu:=xh (u5 I U n rs U.length)
end
section
variable {I:List aO} {U:aE} {n:Int} {rs:Rows} {j q:Nat} {w x v:Int} {es P8:List eu}
theorem D2:u5 I U n rs (j+1)=u5 I U n rs j++D3 I U n rs j:=by
 unfold u5;rw[aqs,aq'];simp
theorem UX (hw:U[((j:Nat):Int).toNat]? =some w):U.getD j (-1)=w:=by
 rw[dS] at hw;rw[gX,hw];rfl
theorem afg (h:es=u5 I U n rs j) (hw:U[((j:Nat):Int).toNat]? =some w) (h0:w<0):es=u5 I U n rs (j+1):=by
 rw[D2,D3,UX hw,apo h0,aql];exact h
theorem abr (hv:v=ml I w) (h:es=u5 I U n rs j) (h2:P8=es++Cy w ((j:Nat):Int) ((bc (gR I v) (fb n rs ((j:Nat):Int))).take q)) (hw:U[((j:Nat):Int).toNat]? =some w) (h0:¬w<0) (hq:(bc (gR I v) (fb n rs ((j:Nat):Int))).length≤q):P8=u5 I U n rs (j+1):=by
 rw[D2,D3,UX hw,apr h0,h2,apu hq,h,hv]
theorem XB {l:aE} {r:Int} (h:P8=es++Cy w r (l.take q)) (hx:l[((q:Nat):Int).toNat]? =some x) (he:x=w):P8=es++Cy w r (l.take (q+1)):=by
 rw[dS] at hx
 rw[h,apW,hx];unfold Cy;simp[he]
theorem abq {l:aE} {r:Int} (h:P8=es++Cy w r (l.take q)) (hx:l[((q:Nat):Int).toNat]? =some x) (he:¬x=w):P8++[(x,w,r)]=es++Cy w r (l.take (q+1)):=by
 rw[dS] at hx
 rw[h,apW,hx];unfold Cy;simp[he]
theorem NA (hr:bL n rs=true):(u5 I U n rs j).length≤4096*j:=by
 induction j with
 |zero=>simp[u5]
 |succ j ih=>
  rw[D2,gj]
  have:(D3 I U n rs j).length≤4096:=by
   unfold D3
   split
   ·simp
   ·unfold Cy bc
    rw[apZ]
    exact Nat.le_trans (aqn _ _)<|Nat.le_trans (aqn _ _)<|vA hr _
  omega
theorem Kr:(u5 I U n rs U.length).length=(cL I U n rs).length:=by unfold cL xh;rw[List.length_mergeSort]
theorem rB (hr:bL n rs=true):El I U n rs (cL I U n rs):=by
 refine⟨by rw[←Kr];exact NA hr,fun e=>?_⟩
 unfold cL xh
 rw[List.mem_mergeSort]
 unfold u5
 rw[asB]
 constructor
 ·rintro⟨r,hr,h⟩
  have hr:=apq.1 hr
  unfold D3 at h
  split at h
  ·cases h
  ·rename_i h0
   unfold Cy at h
   rw[ap4] at h
   obtain⟨x,hx,rfl⟩:=h
   rw[apE] at hx
   refine⟨by simp only;omega,by simp only;omega,?_,by simp only;omega,by simpa using hx.2,hx.1⟩
   simp only[dS]
   rw[gX,eB hr];rfl
 ·intro h
  obtain⟨a,b,r⟩:=e
  obtain⟨r0,r1,fr,w0,ne,ah⟩:=h
  simp only at r0 r1 fr w0 ne ah
  refine⟨r.toNat,apq.2 aq,?_⟩
  have e1:U.getD r.toNat (-1)=b:=by rw[gX,fr];rfl
  have e2:((r.toNat:Nat):Int)=r:=by omega
  unfold D3 Cy
  rw[e1,e2,apr aq,ap4]
  exact⟨a,apE.2 ⟨ah,by simpa using ne⟩,J⟩
end
end Go.Ew
namespace Go.Ew
open Go.RowKit
section
variable {κ ν:Type} [DecidableEq κ]
def fT:List (κ×ν)→κ→Option ν
 |[],_=>none
 |x::xs,k=>if k=x.1 then some x.2 else fT xs k
def lV:List (κ×ν)→κ→ν→List (κ×ν)
 |[],k,v=>[(k,v)]
 |x::xs,k,v=>if k=x.1 then (k,v)::xs else x::lV xs k v
def og:List (κ×Value)→κ→Nat→Option (Nat×Value)
 |[],_,_=>none
 |x::xs,k,i=>if k=x.1 then some (i,x.2) else og xs k (i+1)
def mJ (ek:κ→Value) (es:List MapEntry) (m:List (κ×Value)):Prop:=es.map (fun e=>(e.key,e.val))=m.map fun x=>(ek x.1,x.2)
def mB (ev:ν→Value) (m:List (κ×ν)):List (κ×Value):=m.map fun x=>(x.1,ev x.2)
theorem Kp (ev:ν→Value):∀(m:List (κ×ν)) (k:κ) (i:Nat),(og (mB ev m) k i).map (·.2)=(fT m k).map ev
 |[],_,_=>rfl
 |x::xs,k,i=>by
  simp only[mB,apP]
  unfold og fT
  by_cases h:k=x.1
  ·simp[h]
  ·rw[apr h,apr h];exact Kp ev xs k (i+1)
theorem HT (ek:κ→Value) (ev:ν→Value):∀(m:List (κ×ν)) (es:List MapEntry) (k:κ) (i j:Nat) (v:Value),mJ ek es (mB ev m)→og (mB ev m) k i=some (j,v)→
  ∃q e,j=i+q∧es[q]? =some e∧e.key=ek k∧∀(u:ν),mJ ek (es.modify q fun e=>{e with key:=ek k,val:=ev u}) (mB ev (lV m k u))
 |[],_,_,_,_,_,_,h=>by cases h
 |x::xs,es,k,i,j,v,hr,h=>by
  match es,hr with
  |[],hr=>simp[mJ,mB] at hr
  |e::es,hr=>
   simp only[mJ,mB,apP,aqu,ap8] at hr
   obtain⟨⟨h1,h2⟩,h3⟩:=hr
   simp only[mB,apP] at h
   unfold og at h
   split at h
   ·rename_i hk
    simp only[apy,ap8] at h
    refine⟨0,e,h.1.symm,J,by rw[h1,hk],fun u=>?_⟩
    unfold lV
    rw[apo hk]
    simp[mJ,mB] at h3 ⊢
    exact h3
   ·rename_i hk
    obtain⟨q,e',JZ,nK,E9,E8⟩:=HT ek ev xs es k (i+1) j v h3 h
    refine⟨q+1,e',by omega,by simpa using nK,E9,fun u=>?_⟩
    have:=E8 u
    unfold lV
    rw[apr hk]
    simp only[mJ,mB,List.modify_succ_cons,apP,aqu,ap8]
    exact⟨⟨h1,h2⟩,this⟩
theorem HU (ek:κ→Value) (ev:ν→Value):∀(m:List (κ×ν)) (es:List MapEntry) (k:κ) (i:Nat),mJ ek es (mB ev m)→og (mB ev m) k i=none→∀(c:Nat) (u:ν),mJ ek (es++[⟨ek k,ev u,c⟩]) (mB ev (lV m k u))
 |[],es,k,_,hr,_,c,u=>by
  have:es=[]:=by simpa [mJ,mB] using hr
  subst this;simp[mJ,mB,lV]
 |x::xs,es,k,i,hr,h,c,u=>by
  match es,hr with
  |[],hr=>simp[mJ,mB] at hr
  |e::es,hr=>
   simp only[mJ,mB,apP,aqu,ap8] at hr
   obtain⟨⟨h1,h2⟩,h3⟩:=hr
   simp only[mB,apP] at h
   unfold og at h
   split at h
   ·cases h
   ·rename_i hk
    have:=HU ek ev xs es k (i+1) h3 h c u
    unfold lV
    rw[apr hk]
    simp only[mJ,mB,arJ,apP,aqu,ap8]
    exact⟨⟨h1,h2⟩,this⟩
theorem Xs (m:List (κ×ν)) (k k':κ) (v:ν):fT (lV m k v) k'=if k'=k then some v else fT m k':=by
 induction m with
 |nil=>simp[lV,fT]
 |cons x xs ih=>
  unfold lV
  by_cases h:k=x.1
  ·subst h
   simp only[aq0,fT]
   by_cases h':k'=x.1<;>simp[h']
  ·rw[apr h]
   simp only[fT,ih]
   by_cases h':k'=x.1
   ·rw[apo h',apo h',apr (by rw[h'];exact fun e=>h e.symm)]
   ·rw[apr h',apr h']
theorem abf {m:List (κ×ν)} {iv:ν→Prop} (h:∀x∈m,iv x.2) {k:κ} {v:ν} (hv:fT m k=some v):iv v:=by
 induction m with
 |nil=>cases hv
 |cons x xs ih=>
  unfold fT at hv
  split at hv
  ·cases hv;exact h x (by simp)
  ·exact ih (fun y hy=>h y<|by simp[hy]) hv
theorem Pk {m:List (κ×ν)} {iv:ν→Prop} (h:∀x∈m,iv x.2) (k:κ) {v:ν} (hv:iv v):∀x∈lV m k v,iv x.2:=by
 induction m with
 |nil=>intro x hx;simp[lV] at hx;subst hx;exact hv
 |cons y ys ih=>
  intro x hx
  unfold lV at hx
  split at hx
  ·rcases apD.1 hx with rfl|hx
   ·exact hv
   ·exact h x<|by simp[hx]
  ·rcases apD.1 hx with rfl|hx
   ·exact h x<|by simp
   ·exact ih (fun z hz=>h z<|by simp[hz]) x hx
def Dk (ek:κ→Value) (ev:ν→Value) (iv:ν→Prop) (b:Nat) (m:List (κ×ν)):Item:=
 ⟨some b,fun _ w=>∃es clock,w.heap[b]? =some (.map es clock)∧mJ ek es.toList (mB ev m)∧∀x∈m,iv x.2,fun h _ hb=>by
  obtain⟨es,c,h1,h2⟩:=h
  exact⟨es,c,(hb b rfl).trans h1,h2⟩⟩
end
structure Sl (P:Program) (kt:TypeId) {κ:Type} [DecidableEq κ] (ek:κ→Value):Prop where
 Cz:∀e a w,(Instr.checkKey e 10000 kt (ek a)).run P w=.ok () w
 find:∀(k:κ) (w:aJ) (m:List (κ×Value)) (es:List MapEntry),mJ ek es m→(Instr.findKey kt (ek k) es).run P w=.ok (og m k 0) w
 stays:∀k w,(Instr.keyThatStays (ek k) (ek k)).run P w=.ok (ek k) w
structure Iw (P:Program) (T:TypeId) {κ ν:Type} [DecidableEq κ] (ek:κ→Value) (ev:ν→Value) (z:ν):Prop where
 h:∃kt et,P.underlying T=some (.map kt et)∧Sl P kt ek∧∀w,(zeroValue et).run P w=.ok (ev z) w
abbrev tS (b:Nat) (m:List (aY×Int)):Item:=Dk (fun s=>Value.string s) (fun v=>Value.int .i64 v) aK b m
abbrev bW (b:Nat) (m:List ((Int×Int)×Bool)):Item:=Dk K2 Value.bool (fun _=>True) b m
section
variable {P:Program}
theorem N1 {kt:TypeId} (F:Ed P kt) (k:Int×Int) (w:aJ):∀(m:List ((Int×Int)×Value)) (es:List MapEntry) (i:Nat),mJ K2 es m→(Instr.findAsking kt (K2 k) es i).run P w=.ok (og m k i) w
 |[],es,i,h=>by
  have:es=[]:=by simpa [mJ] using h
  subst this;simp[Instr.findAsking,og]
 |x::xs,es,i,h=>by
  match es,h with
  |e::es,h=>
   simp only[mJ,apP,aqu,ap8] at h
   obtain⟨⟨h1,h2⟩,h3⟩:=h
   have ih:=N1 F k w xs es (i+1) h3
   by_cases hk:k=x.1
   ·simp[Instr.findAsking,og,h1,h2,F.eq,hk]
   ·simp[Instr.findAsking,og,h1,h2,F.eq,hk,ih]
  |[],h=>simp[mJ] at h
theorem WZ {kt:TypeId} (F:Ed P kt):Sl P kt K2 where
 Cz:=F.Cz
 find k w m es h:=by
  obtain⟨d,hd⟩:=F.u
  cases es with
  |nil=>
   have:m=[]:=by simpa [mJ] using h.symm
   subst this
   simp[Instr.findKey,run_underlying hd,Result.andThen,Instr.findNow,og]
  |cons e es=>
   have h0:Instr.findNow d (K2 k) (e::es) 0=none:=Fg d _ e es 0
   simp[Instr.findKey,run_underlying hd,Result.andThen,h0,N1 F k w m _ 0 h]
 stays k w:=by simp[Instr.keyThatStays,Instr.sameBits]
theorem X5 (s t:aY):(s==t)=decide (s=t):=by
 rw[apF]
 rcases s with ⟨a⟩
 rcases t with ⟨b⟩
 show (a==b)=true↔_
 simp
theorem Pz (k:aY):∀(m:List (aY×Value)) (es:List MapEntry) (i:Nat),mJ (fun s=>Value.string s) es m→Instr.findNow .string (.string k) es i=some (og m k i)
 |[],es,i,h=>by
  have:es=[]:=by simpa [mJ] using h
  subst this;rfl
 |x::xs,es,i,h=>by
  match es,h with
  |e::es,h=>
   simp only[mJ,apP,aqu,ap8] at h
   obtain⟨⟨h1,h2⟩,h3⟩:=h
   have ih:=Pz k xs es (i+1) h3
   unfold Instr.findNow og
   rw[h1,h2]
   by_cases hk:k=x.1
   ·simp[Instr.sameNow,X5,hk]
   ·simp[Instr.sameNow,X5,hk,ih]
  |[],h=>simp[mJ] at h
theorem W0 {kt:TypeId} (hd:P.underlying kt=some .string):Sl P kt (fun s=>Value.string s) where
 Cz e a w:=by
  rw[show (10000:Nat)=9999+1 from rfl]
  generalize 9999=q
  simp[Instr.checkKey,run_underlying hd,Result.andThen]
 find k w m es h:=by simp[Instr.findKey,run_underlying hd,Result.andThen,Pz k m es 0 h]
 stays k w:=by simp[Instr.keyThatStays,Instr.sameBits,X5]
theorem YL {T kt et:TypeId} {κ ν:Type} [DecidableEq κ] {ek:κ→Value} {ev:ν→Value} {z:ν} {v:Value} {k b:Nat} {a:Bool} (h:P.underlying T=some (.map kt et)) (K:Sl P kt ek) (F:ez P et k a b v) (hv:v=ev z):Iw P T ek ev z:=⟨kt,et,h,K,hv▸F.uK⟩
variable {κ ν:Type} [DecidableEq κ] {ek:κ→Value} {ev:ν→Value} {z:ν} {iv:ν→Prop}
variable {n:Nat} {ops:Array Oper} {f:aR} {w:aJ} {K:aR→aJ→Prop} {x y c:Operand} {d:Nat} {ty T:TypeId} {ps:String} {af:Array Edge} {M0:cg} {w0:aJ} {l:List Item} {m:List (κ×ν)} {b:Nat}
theorem mmG (H:HI M0 w0 w l) (h:∀b w',Ext w w'→HI M0 w0 w' (Dk ek ev iv b []::l)→K (cq f d (.map (some b))) w'):SO P n ops ⟨some d,.makeMap T none,ty,ps,af,none⟩ f w K:=
 SO.value (v:=.map (some w.heap.size)) (w':=w.alloc (.map #[] 0)) (by simp[execOp,run_makeMap]) (h _ _ (Ext.alloc w _)
  (H.new (Ext.alloc w _) w.heap.size rfl (apn _) (by simp) ⟨#[],0,heap_alloc_new w _,rfl,fun _ h=>(by cases h)⟩))
theorem adh {k:κ} {U9:Bool} (F:Iw P T ek ev z) (hz:iv z) (H:HI M0 w0 w l) (i:Nat) (hi:l[i]? =some (Dk ek ev iv b m)) (ox:bM n x=true) (oy:bM n y=true) (hx:Go.Ew.ev f x=.map (some b)) (hy:Go.Ew.ev f y=ek k)
  (h:iv ((fT m k).getD z)→K (cq f d (if U9 then .tuple #[ev ((fT m k).getD z),.bool (fT m k).isSome] else ev ((fT m k).getD z))) w):SO P n ops ⟨some d,.lookup T x y U9,ty,ps,af,none⟩ f w K:=by
 obtain⟨kt,et,h1,h2,h3⟩:=F.h
 obtain⟨es,clock,g1,g2,g3⟩:=H.at_ i hi
 have hI:iv ((fT m k).getD z):=by
  cases hg:fT m k with
  |none=>exact hz
  |some v=>exact abf g3 hg
 refine SO.value (v:=if U9 then .tuple #[ev ((fT m k).getD z),.bool (fT m k).isSome] else ev ((fT m k).getD z)) (w':=w) ?_<|h hI
 have hf:=Kp ev m k 0
 have hr:=h2.find k w (mB ev m) es.toList g2
 simp only[execOp,aP ox,aP oy,hx,hy,Instr.lookup,Sem.run_bind,run_underlying h1,get_map g1,h2.Cz,hr,Result.andThen_ok,Sem.run_pure]
 cases hq:og (mB ev m) k 0 with
 |none=>
  have hg:fT m k=none:=by rw[hq] at hf;simpa using hf.symm
  simp[hq,hg,h3 w]
 |some p=>
  obtain⟨j,v⟩:=p
  rw[hq] at hf
  cases hg:fT m k with
  |none=>rw[hg] at hf;cases hf
  |some u=>
   rw[hg] at hf
   simp only[aqC,apy] at hf
   subst hf
   simp
theorem adb {dd:Option Nat} {k:κ} {v:ν} (F:Iw P T ek ev z) (H:HI M0 w0 w l) (i:Nat) (hi:l[i]? =some (Dk ek ev iv b m)) (ox:bM n x=true) (oy:bM n y=true) (oc:bM n c=true) (hx:Go.Ew.ev f x=.map (some b)) (hy:Go.Ew.ev f y=ek k) (hc:Go.Ew.ev f c=ev v) (hv:iv v)
  (h:∀w',HI M0 w0 w' (l.set i (Dk ek ev iv b (lV m k v)))→K (de f dd undef) w'):SO P n ops ⟨dd,.mapUpdate T x y c,ty,ps,af,none⟩ f w K:=by
 obtain⟨kt,et,h1,h2,h3⟩:=F.h
 obtain⟨es,clock,g1,g2,g3⟩:=H.at_ i hi
 have hr:=h2.find k w (mB ev m) es.toList g2
 have eH:b<w.heap.size:=(apU.1 g1).1
 have fin:∀(o:Obj),(∀M w',w'.heap[b]? =some o→(Dk ek ev iv b (lV m k v)).holds M w')→
   HI M0 w0 {w with heap:=w.heap.setIfInBounds b o} (l.set i (Dk ek ev iv b (lV m k v))):=by
  intro o ho
  refine H.wx i hi J J J (by simp) (apn _) (fun q hq gI=>?_) (fun q hq=>?_)<|ho _ _ (Bm g1).1
  ·exact(Bm g1).2 q fun e=>gI (by rw[e];rfl)
  ·cases hq
   exact⟨by simpa using eH,.inl rfl⟩
 cases hq:og (mB ev m) k 0 with
 |none=>
  refine SO.skip (w':={w with heap:=w.heap.setIfInBounds b (.map (es.push ⟨ek k,ev v,clock⟩) (clock+1))}) ?_ (h _<|fin _ ?_)
  ·simp[execOp,aP ox,aP oy,aP oc,hx,hy,hc,Instr.mapUpdate,run_underlying h1,get_map g1,h2.Cz,hr,hq,Es _ g1]
  ·intro M w' hw
   exact⟨_,_,hw,by rw[Array.toList_push];exact HU ek ev m es.toList k 0 g2 hq clock v,Pk g3 k hv⟩
 |some p=>
  obtain⟨j,u⟩:=p
  obtain⟨q,e,JZ,nK,E9,E8⟩:=HT ek ev m es.toList k 0 j u g2 hq
  obtain rfl:j=q:=by omega
  have he:es[j]? =some e:=by simpa using nK
  have hsb:(Instr.keyThatStays e.key (ek k)).run P w=.ok (ek k) w:=by rw[E9];exact h2.stays k w
  refine SO.skip (w':={w with heap:=w.heap.setIfInBounds b (.map (es.modify j fun e=>{e with key:=ek k,val:=ev v}) clock)}) ?_ (h _<|fin _ ?_)
  ·simp[execOp,aP ox,aP oy,aP oc,hx,hy,hc,Instr.mapUpdate,run_underlying h1,get_map g1,h2.Cz,hr,hq,he,hsb,Es _ g1]
  ·intro M w' hw
   exact⟨_,_,hw,by rw[Array.toList_modify];exact E8 v,Pk g3 k hv⟩
end
section
variable {P:Program} {n:Nat} {ops:Array Oper} {f:aR} {w:aJ} {K:aR→aJ→Prop} {x y c:Operand} {d:Nat} {dd:Option Nat} {ty T:TypeId} {ps:String} {af:Array Edge} {M0:cg} {w0:aJ} {l:List Item} {b:Nat}
abbrev Si (P:Program) (T:TypeId):Prop:=Iw P T K2 Value.bool false
abbrev Sh (P:Program) (T:TypeId):Prop:=Iw P T (fun s=>Value.string s) (fun v=>Value.int .i64 v) (0:Int)
theorem mmP (H:HI M0 w0 w l) (h:∀b w',Ext w w'→HI M0 w0 w' (bW b []::l)→K (cq f d (.map (some b))) w'):SO P n ops ⟨some d,.makeMap T none,ty,ps,af,none⟩ f w K:=mmG H h
theorem mmS (H:HI M0 w0 w l) (h:∀b w',Ext w w'→HI M0 w0 w' (tS b []::l)→K (cq f d (.map (some b))) w'):SO P n ops ⟨some d,.makeMap T none,ty,ps,af,none⟩ f w K:=mmG H h
theorem ajp {m:List ((Int×Int)×Bool)} {k:Int×Int} (F:Si P T) (H:HI M0 w0 w l) (i:Nat) (hi:l[i]? =some (bW b m)) (ox:bM n x=true) (oy:bM n y=true) (hx:Go.Ew.ev f x=.map (some b)) (hy:Go.Ew.ev f y=K2 k)
  (h:K (cq f d (.bool ((fT m k).getD false))) w):SO P n ops ⟨some d,.lookup T x y false,ty,ps,af,none⟩ f w K:=adh (U9:=false) F trivial H i hi ox oy hx hy fun _=>h
theorem ajo {m:List (aY×Int)} {k:aY} (F:Sh P T) (H:HI M0 w0 w l) (i:Nat) (hi:l[i]? =some (tS b m)) (ox:bM n x=true) (oy:bM n y=true) (hx:Go.Ew.ev f x=.map (some b)) (hy:Go.Ew.ev f y=.string k)
  (h:aK ((fT m k).getD 0)→K (cq f d (.tuple #[.int .i64 ((fT m k).getD 0),.bool (fT m k).isSome])) w):SO P n ops ⟨some d,.lookup T x y true,ty,ps,af,none⟩ f w K:=adh (U9:=true) F (by unfold aK;omega) H i hi ox oy hx hy h
theorem ajn {m:List ((Int×Int)×Bool)} {k:Int×Int} {v:Bool} (F:Si P T) (H:HI M0 w0 w l) (i:Nat) (hi:l[i]? =some (bW b m)) (ox:bM n x=true) (oy:bM n y=true) (oc:bM n c=true) (hx:Go.Ew.ev f x=.map (some b)) (hy:Go.Ew.ev f y=K2 k) (hc:Go.Ew.ev f c=.bool v)
  (h:∀w',HI M0 w0 w' (l.set i (bW b (lV m k v)))→K (de f dd undef) w'):SO P n ops ⟨dd,.mapUpdate T x y c,ty,ps,af,none⟩ f w K:=adb F H i hi ox oy oc hx hy hc trivial h
theorem ajm {m:List (aY×Int)} {k:aY} {v:Int} (F:Sh P T) (H:HI M0 w0 w l) (i:Nat) (hi:l[i]? =some (tS b m)) (ox:bM n x=true) (oy:bM n y=true) (oc:bM n c=true) (hx:Go.Ew.ev f x=.map (some b)) (hy:Go.Ew.ev f y=.string k) (hc:Go.Ew.ev f c=.int .i64 v) (hv:aK v)
  (h:∀w',HI M0 w0 w' (l.set i (tS b (lV m k v)))→K (de f dd undef) w'):SO P n ops ⟨dd,.mapUpdate T x y c,ty,ps,af,none⟩ f w K:=adb F H i hi ox oy oc hx hy hc hv h
end
end Go.Ew
namespace Go.Ew
section
variable {α σ:Type} (st:σ→α→Bool×σ)
def gq:σ→List α→List α×σ
 |s,[]=>([],s)
 |s,x::l=>if (st s x).1 then gq (st s x).2 l else (x::(gq (st s x).2 l).1,(gq (st s x).2 l).2)
theorem OQ (s:σ) (l r:List α):gq st s (l++r)=((gq st s l).1++(gq st (gq st s l).2 r).1,(gq st (gq st s l).2 r).2):=by
 induction l generalizing s with
 |nil=>simp[gq]
 |cons x l ih=>
  rw[arJ,gq,gq]
  split
  ·exact ih _
  ·rw[ih];rfl
theorem XG (s:σ) (x:α):gq st s [x]=if (st s x).1 then ([],(st s x).2) else ([x],(st s x).2):=by simp[gq]
theorem XH (s:σ) (l:List α):(gq st s l).1.length≤l.length:=by
 induction l generalizing s with
 |nil=>simp[gq]
 |cons x l ih=>
  rw[gq]
  split
  ·exact Nat.le_trans (ih _)<|asC _
  ·simp only[jb];exact Nat.succ_le_succ (ih _)
theorem XF (s:σ) (l:List α):∀x∈(gq st s l).1,x∈l∧∃s',(st s' x).1=false:=by
 induction l generalizing s with
 |nil=>intro x h;cases h
 |cons y l ih=>
  intro x h
  rw[gq] at h
  split at h
  ·obtain⟨h1,h2⟩:=ih _ x h;exact⟨apT _ h1,h2⟩
  ·rename_i hy
   rcases apD.1 h with rfl|h
   ·exact⟨by simp,s,by simpa using hy⟩
   ·obtain⟨h1,h2⟩:=ih _ x h;exact⟨apT _ h1,h2⟩
def Of (s:σ) (xs:List α) (ix:Int) (s':σ):Prop:=(ix= -1∧gq st s xs=(xs,s'))∨∃j:Nat,ix=((j:Nat):Int)∧j<xs.length∧gq st s (xs.take (j+1))=(xs.take j,s')
variable {st} {s s':σ} {xs ys:List α} {x:α} {j k:Nat} {q:Int}
theorem Xu:gq st s (xs.take 0)=(xs.take 0,s):=by simp[gq]
theorem EC (hx:xs[k]? =some x):gq st s (xs.take (k+1))=if (st (gq st s (xs.take k)).2 x).1 then ((gq st s (xs.take k)).1,(st (gq st s (xs.take k)).2 x).2) else ((gq st s (xs.take k)).1++[x],(st (gq st s (xs.take k)).2 x).2):=by
 rw[apW,hx,OQ,show (some x).toList=[x] from rfl,XG]
 split<;>simp
theorem abg (h:gq st s (xs.take j)=(xs.take j,s')) (hx:xs[((j:Nat):Int).toNat]? =some x) (hp:(st s' x).1=false):gq st s (xs.take (j+1))=(xs.take (j+1),(st s' x).2):=by
 rw[dS] at hx
 rw[EC hx,h]
 show (if (st s' x).1=true then _ else _)=_
 rw[apr (by rw[hp];decide),apW,hx];rfl
theorem ae6 (h:gq st s (xs.take j)=(xs.take j,s')) (hj:j<xs.length) (hx:xs[((j:Nat):Int).toNat]? =some x) (hp:(st s' x).1=true):Of st s xs ((j:Nat):Int) (st s' x).2:=by
 rw[dS] at hx
 refine .inr ⟨j,J,hj,?_⟩
 rw[EC hx,h]
 show (if (st s' x).1=true then _ else _)=_
 rw[apo hp]
theorem ae7 (h:gq st s (xs.take j)=(xs.take j,s')) (hj:xs.length≤j):Of st s xs (-1) s':=by
 rw[apu hj] at h;exact .inl ⟨rfl,h⟩
def DS (st:σ→α→Bool×σ) (s:σ) (xs ys:List α) (q:Int) (k:Nat) (s':σ):Prop:=0≤q∧q<((k:Nat):Int)∧ys.length=xs.length∧gq st s (xs.take k)=(ys.take q.toNat,s')∧ys.drop k=xs.drop k
theorem Qa (h:Of st s xs q s') (hq:q= -1):gq st s xs=(xs,s'):=by
 rcases h with ⟨_,h⟩|⟨j,h,_⟩
 ·exact h
 ·omega
theorem XC (h:Of st s xs q s') (hq:¬q= -1):q.toNat<xs.length∧DS st s xs xs q (q.toNat+1) s':=by
 rcases h with ⟨h,_⟩|⟨j,rfl,h1,h2⟩
 ·omega
 ·refine⟨by omega,by omega,by omega,J,?_,J⟩
  rw[dS];exact h2
theorem ZL (h:DS st s xs ys q k s') (hx:ys[k]? =some x):xs[k]? =some x:=by
 have:=apj (fun l=>l[0]?) h.2.2.2.2
 simp only[ap6,ap3] at this
 rw[←this];exact hx
theorem abu (h:DS st s xs ys q k s') (hx:ys[((k:Nat):Int).toNat]? =some x) (hp:(st s' x).1=true):DS st s xs ys q (k+1) (st s' x).2:=by
 rw[dS] at hx
 have qH:=ZL h hx
 obtain⟨h0,h1,h2,h3,h4⟩:=h
 refine⟨h0,by omega,h2,?_,?_⟩
 ·rw[EC qH,h3]
  show (if (st s' x).1=true then _ else _)=_
  rw[apo hp]
 ·rw[←aqj,h4,aqj]
theorem abt (h:DS st s xs ys q k s') (hx:ys[((k:Nat):Int).toNat]? =some x) (hp:(st s' x).1=false):DS st s xs (ys.set q.toNat x) (q+1) (k+1) (st s' x).2:=by
 rw[dS] at hx
 have qH:=ZL h hx
 have hk:=(dZ.1 hx).1
 obtain⟨h0,h1,h2,h3,h4⟩:=h
 refine⟨by omega,by omega,by rw[apk];exact h2,?_,?_⟩
 ·rw[EC qH,h3]
  show (if (st s' x).1=true then _ else _)=_
  rw[apr (by rw[hp];decide),show (q+1).toNat=q.toNat+1 from by omega,apW,List.take_set_of_le (apn _),apH aq]
  rfl
 ·rw[List.drop_set_of_lt aq,←aqj,h4,aqj]
theorem U3 (h:DS st s xs ys q k s') (hk:xs.length≤k) (AT:k≤xs.length) (r:List α):(ys.take q.toNat++r).take q.toNat=(gq st s xs).1∧s'=(gq st s xs).2:=by
 obtain⟨h0,h1,h2,h3,h4⟩:=h
 rw[apu hk] at h3
 rw[h3]
 exact⟨by rw[aqL (by simp;omega),aqS,Nat.min_self],J⟩
end
def ff (n:Int) (rs:Rows) (kp:aE) (met:List ((Int×Int)×Bool)) (e:eu):Bool×List ((Int×Int)×Bool):=
 bif (fT met (e.1,e.2.1)).getD false||(eO n rs e.1 e.2.1||!(kp.any fun z_=>decide (e.2.2=z_))) then (true,met) else (false,lV met (e.1,e.2.1) true)
def gJ (n:Int) (rs:Rows) (kp:aE) (es:List eu):List eu:=(gq (ff n rs kp) [] es).1
theorem DT {n:Int} {rs:Rows} {kp:aE} {es:List eu} {e:eu} (h:e∈gJ n rs kp es):e∈es∧eO n rs e.1 e.2.1=false∧e.2.2∈kp:=by
 obtain⟨h1,s',h2⟩:=XF _ _ _ e h
 refine⟨h1,?_⟩
 unfold ff at h2
 cases ha:(fT s' (e.1,e.2.1)).getD false<;>cases hb:eO n rs e.1 e.2.1<;>cases hc:(kp.any fun z_=>decide (e.2.2=z_))<;>simp[ha,hb,hc] at h2
 obtain⟨z,hz,hz2⟩:=apO.1 hc
 exact⟨J,by rw[show e.2.2=z by simpa using hz2];exact hz⟩
theorem UB {n:Int} {rs:Rows} {kp:aE} {es:List eu} (h:gJ n rs kp es=[]) {e:eu} (he:e∈es) (hk:e.2.2∈kp):eO n rs e.1 e.2.1=true:=by
 have key:∀es:List eu,(gq (ff n rs kp) [] es).1=[]→∀e∈es,e.2.2∈kp→eO n rs e.1 e.2.1=true:=by
  intro es
  induction es with
  |nil=>intro _ e h;cases h
  |cons x l ih=>
   intro h e he hk
   rw[gq] at h
   split at h
   ·rename_i hx
    have hs:(ff n rs kp [] x).2=[]:=by
     unfold ff at hx ⊢
     cases hb:eO n rs x.1 x.2.1<;>cases hc:(kp.any fun z_=>decide (x.2.2=z_))<;>simp[fT,hb,hc] at hx ⊢
    rw[hs] at h
    rcases apD.1 he with rfl|he
    ·unfold ff at hx
     have hc:(kp.any fun z_=>decide (e.2.2=z_))=true:=apO.2 ⟨_,hk,by simp⟩
     cases hb:eO n rs e.1 e.2.1<;>simp[fT,hb,hc] at hx
     rfl
    ·exact ih h e he hk
   ·cases h
 exact key es h e he hk
theorem UC (n:Int) (rs:Rows) (kp:aE) (es:List eu):(gJ n rs kp es).length≤es.length:=XH _ _ _
end Go.Ew
namespace Go.Ew
variable {n o:Int} {rs:Rows} {l:List eu} {p:ib} {a b q:Nat} {I:List aO} {U:aE}
def l8 (n:Int) (rs:Rows) (l:List eu):Rows:=l.foldl (fun m e=>ie n m e.1 e.2.1) rs
def TrP (n:Nat) (p:ib):Prop:=∀i j k,i<n→j<n→k<n→p i j=true→p j k=true→p i k=true
def UZ (es:List eu) (a b:Nat):Bool:=es.any fun e=>decide (e.1=((a:Nat):Int))&&decide (e.2.1=((b:Nat):Int))
def oP (n:Nat) (es:List eu):Prop:=∀e∈es,kG ((n:Nat):Int) [e.1,e.2.1]=true
theorem R_ (n:Nat) (p:ib):TrP n (cl n p):=fun i j k _ hj _ h1 h2=>yK hj h1 h2
theorem Cc {e:eu}:l8 n rs (l++[e])=ie n (l8 n rs l) e.1 e.2.1:=by unfold l8;rw[aq8];rfl
theorem afp {n:Nat} {q:ib} (ha:a<n) (hb:b<n):cl n (fun x y=>cl n p x y||q x y) a b=cl n (fun x y=>p x y||q x y) a b:=by
 rw[apF,rC ha hb,rC ha hb]
 constructor
 ·intro h
  refine h.least (fun x y hx hy h=>?_) fun x y z _ _ _=>TC.trans
  rcases apw _ _▸h with h|h
  ·exact((rC hx hy).1 h).mono fun _ _ _ _ h=>by simp[h]
  ·exact .one hx hy (by simp[h])
 ·intro h
  refine h.mono fun x y hx hy h=>?_
  rcases apw _ _▸h with h|h
  ·simp[ud h]
  ·simp[h]
theorem N5 {n:Nat} {p:ib} (h:TrP n p):∀{es:List eu},oP n es→l8 ((n:Nat):Int) (cI n p) es=cI n (cl n fun a b=>p a b||UZ es a b):=by
 have key:∀(k:Nat) (es:List eu),es.length=k→oP n es→l8 ((n:Nat):Int) (cI n p) es=cI n (cl n fun a b=>p a b||UZ es a b):=by
  intro k
  induction k with
  |zero=>
   intro es hl _
   rw[aqp.1 hl]
   refine dM fun a b ha hb=>?_
   rw[apF,rC ha hb]
   constructor
   ·intro h;exact .one ha hb (by simp[h])
   ·intro k
    refine k.least (ai:=fun x y=>p x y=true) (fun x y _ _ h=>by simpa [UZ] using h) fun x y z hx hy hz=>h x y z hx hy hz
  |succ k ih=>
   intro es hl Ct
   obtain⟨l,e,rfl⟩:∃l e,es=l++[e]:=⟨es.dropLast,es.getLast (by intro h;rw[h] at hl;simp at hl),(List.dropLast_concat_getLast _).symm⟩
   have hi:=Ct e<|by simp
   have hr:=ju.1 hi
   rw[Cc,ih l (by simpa using hl) (fun x hx=>Ct x (by simp[hx])),Se hi (R_ n _)]
   refine dM fun a b ha hb=>?_
   rw[afp ha hb]
   refine GI (fun x y _ _=>?_) ha hb
   rw[Bool.or_assoc]
   congr 1
   unfold UZ
   rw[List.any_append]
   congr 1
   simp only[List.any_cons,List.any_nil,aqR]
   rw[apF]
   simp only[eP,apl]
   omega
 intro es Ct
 exact key _ es J Ct
theorem Ak {n:Nat} {rs:Rows} {es:List eu} (h:bL ((n:Nat):Int) rs=true) (Ct:oP n es):bL ((n:Nat):Int) (l8 ((n:Nat):Int) rs es)=true:=by
 have key:∀(k:Nat) (es:List eu),es.length=k→oP n es→bL ((n:Nat):Int) (l8 ((n:Nat):Int) rs es)=true:=by
  intro k
  induction k with
  |zero=>intro es hl _;rw[aqp.1 hl];exact h
  |succ k ih=>
   intro es hl Ct
   obtain⟨l,e,rfl⟩:∃l e,es=l++[e]:=⟨es.dropLast,es.getLast (by intro h;rw[h] at hl;simp at hl),(List.dropLast_concat_getLast _).symm⟩
   rw[Cc]
   have:=OV (i:=e.1) (j:=e.2.1)<|ih l (by simpa using hl)<|fun x hx=>Ct x<|by simp[hx]
   unfold iu at this
   rwa [apo (Ct e (by simp))] at this
 exact key _ es J Ct
def ND (n:Nat) (p:ib):Nat:=(List.range (n*n)).countP fun k=>p (k/n) (k%n)
theorem abE (n:Nat) (p:ib):ND n p≤n*n:=by
 unfold ND;exact Nat.le_trans List.countP_le_length (by simp)
theorem Kt {α:Type} {p q:α→Bool}:∀{l:List α},(∀x∈l,p x=true→q x=true)→(∃x∈l,p x=false∧q x=true)→l.countP p<l.countP q
 |[],_,h=>by obtain⟨x,hx,_⟩:=h;cases hx
 |a::l,h,⟨x,hx,h1,h2⟩=>by
  have hm:l.countP p≤l.countP q:=List.countP_mono_left fun y hy=>h y (by simp[hy])
  rw[List.countP_cons,List.countP_cons]
  rcases apD.1 hx with rfl|hx
  ·rw[h1,h2];simp;omega
  ·have ih:=Kt (l:=l) (fun y hy=>h y<|by simp[hy]) ⟨x,hx,h1,h2⟩
   have:=h a<|by simp
   cases hp:p a<;>cases hq:q a<;>simp_all<;>omega
theorem abD {n:Nat} {q:ib} (h:∀a b,a<n→b<n→p a b=true→q a b=true) (ha:a<n) (hb:b<n) (h1:p a b=false) (h2:q a b=true):ND n p<ND n q:=by
 have hn:0<n:=by omega
 refine Kt (fun k hk hp=>h _ _ ?_ (Nat.mod_lt _ hn) hp) ⟨a*n+b,?_,?_,?_⟩
 ·exact(Nat.div_lt_iff_lt_mul hn).2 (apq.1 hk)
 ·rw[apq]
  calc a*n+b<a*n+n:=by omega
   _=(a+1)*n:=by rw[aqd,Nat.one_mul]
   _≤n*n:=aqr _ ha
 ·rw[show (a*n+b)/n=a by rw[arT,Nat.mul_add_div hn,arD hb,ap3],show (a*n+b)%n=b by rw[arT,Nat.mul_add_mod,arC hb]];exact h1
 ·rw[show (a*n+b)/n=a by rw[arT,Nat.mul_add_div hn,arD hb,ap3],show (a*n+b)%n=b by rw[arT,Nat.mul_add_mod,arC hb]];exact h2
structure Og (I:List aO) (U:aE) (p:Nat→cg) (a b r:Nat):Prop where
 a1:a<I.length
 r1:r<I.length
 fr:U[r]? =some ((b:Nat):Int)
 ne:a≠b
 wr:gR I (ml I ((b:Nat):Int)) ((a:Nat):Int)=false
 ah:p a r
theorem B4 (ey:U.length=I.length) {e:eu} (h:Yh I U ((I.length:Nat):Int) (cI I.length p) e):∃a b r:Nat,e=(((a:Nat):Int),((b:Nat):Int),((r:Nat):Int))∧Og I U (fun x y=>p x y=true) a b r:=by
 obtain⟨a,b,r⟩:=e
 obtain⟨r0,r1,fr,w0,ne,ah⟩:=h
 simp only at r0 r1 fr w0 ne ah
 unfold bc at ah
 rw[apE] at ah
 obtain⟨ah,wr⟩:=ah
 unfold fb at ah
 rw[apo aq,xF,dS] at ah
 obtain⟨k,hk,hp,rfl⟩:=ah
 refine⟨k,b.toNat,r.toNat,by rw[show ((b.toNat:Nat):Int)=b by omega,show ((r.toNat:Nat):Int)=r by omega],hk,by omega,by rw[fr];congr 1;omega,fun e=>ne aq,?_,?_⟩
 ·rw[show ((b.toNat:Nat):Int)=b by omega];simpa using wr
 ·rw[jP hk aq] at hp;exact hp
theorem P_ (ey:U.length=I.length) {r:Nat} (h:Og I U (fun x y=>p x y=true) a b r):Yh I U ((I.length:Nat):Int) (cI I.length p) (((a:Nat):Int),((b:Nat):Int),((r:Nat):Int)):=by
 obtain⟨a1,r1,fr,ne,wr,ah⟩:=h
 refine⟨by simp only;omega,by simp only;omega,by simpa using fr,by simp only;omega,by simp only;omega,?_⟩
 simp only
 unfold bc
 rw[apE]
 refine⟨?_,by rw[wr];rfl⟩
 unfold fb
 rw[apo aq,xF,dS]
 exact⟨a,a1,by rw[dS,jP a1 r1];exact ah,J⟩
theorem EI {es:List eu} (ey:U.length=I.length) (fP:∀x∈U,x<((I.length:Nat):Int)) (h:El I U ((I.length:Nat):Int) (cI I.length p) es):oP I.length es:=by
 intro e he
 obtain⟨a,b,r,rfl,k⟩:=B4 ey ((h.2 e).1 he)
 have:=fP _<|dO k.fr
 have:=k.a1
 exact ju.2<|by simp only;omega
structure Qw (I:List aO) (U:aE) (o:Int) (ai:Nat→cg):Prop where
 base:∀a b,a<I.length→b<I.length→pC I U a b=true→((a:Nat):Int)∈bR ((I.length:Nat):Int) (cA I U) o→((b:Nat):Int)∈bR ((I.length:Nat):Int) (cA I U) o→ai a b
 trans:∀a b c,a<I.length→b<I.length→c<I.length→ai a b→ai b c→ai a c
 QR:∀a b r,((r:Nat):Int)∈l3 I o→Og I U ai a b r→ai a b
noncomputable def Ck (I:List aO) (U:aE) (o:Int) (a b:Nat):Bool:=@decide (∀ai,Qw I U o ai→ai a b) (Classical.propDecidable _)
noncomputable def cY (I:List aO) (U:aE) (o:Int):Rows:=cI I.length (Ck I U o)
theorem ql:Ck I U o a b=true↔∀ai,Qw I U o ai→ai a b:=by unfold Ck;exact @decide_eq_true_iff _ (Classical.propDecidable _)
theorem ack (I:List aO) (U:aE) (o:Int):Qw I U o (fun a b=>Ck I U o a b=true) where
 base a b ha hb hc h1 h2:=ql.2 fun ai hR=>hR.base a b ha hb hc h1 h2
 trans a b c ha hb hc h1 h2:=ql.2 fun ai hR=>hR.trans a b c ha hb hc (ql.1 h1 ai hR) (ql.1 h2 ai hR)
 QR a b r hr h:=ql.2 fun ai hR=>hR.QR a b r hr ⟨h.a1,h.r1,h.fr,h.ne,h.wr,ql.1 h.ah ai hR⟩
structure SnQ (I:List aO) (U:aE) (o:Int) (p:ib):Prop where
 tr:TrP I.length p
 base:∀a b,a<I.length→b<I.length→pC I U a b=true→((a:Nat):Int)∈bR ((I.length:Nat):Int) (cA I U) o→((b:Nat):Int)∈bR ((I.length:Nat):Int) (cA I U) o→p a b=true
 le:∀ai,Qw I U o ai→∀a b,a<I.length→b<I.length→p a b=true→ai a b
def KG (I:List aO) (U:aE) (o:Int) (n:Int) (rs:Rows):Prop:=n=((I.length:Nat):Int)∧∃p,rs=cI I.length p∧SnQ I U o p
def I' (I:List aO) (rs:Rows):Nat:=ND I.length (gi rs)
section
variable {I:List aO} {U:aE} {o n:Int} {rs:Rows} {es:List eu}
theorem V1 (I:List aO) (U:aE) (o:Int):KG I U o ((I.length:Nat):Int) (gr ((I.length:Nat):Int) (cA I U) (bR ((I.length:Nat):Int) (cA I U) o)):=by
 have hm:∀a b,a<I.length→b<I.length→(OY (gi (cA I U)) (bR ((I.length:Nat):Int) (cA I U) o) a b=true↔pC I U a b=true∧((a:Nat):Int)∈bR ((I.length:Nat):Int) (cA I U) o∧((b:Nat):Int)∈bR ((I.length:Nat):Int) (cA I U) o):=by
  intro a b ha hb
  unfold OY
  rw[show gi (cA I U) a b=pC I U a b from jP ha hb]
  simp only[eP,apl]
 refine⟨J,_,by unfold gr;rw[dS],?_,?_,?_⟩
 ·intro i j k hi hj hk h1 h2
  obtain⟨a1,a2,a3⟩:=(hm i j hi hj).1 h1
  obtain⟨b1,b2,b3⟩:=(hm j k hj hk).1 h2
  exact(hm i k hi hk).2 ⟨yK hj a1 b1,a2,b3⟩
 ·intro a b ha hb h1 h2 h3
  exact(hm a b ha hb).2 ⟨h1,h2,h3⟩
 ·intro ai hR a b ha hb h
  obtain⟨h1,h2,h3⟩:=(hm a b ha hb).1 h
  exact hR.base a b ha hb h1 h2 h3
theorem LR (h:KG I U o n rs) (hn:I.length≤4096):bL n rs=true:=by
 obtain⟨rfl,p,rfl,_⟩:=h;exact lN hn
theorem Yw (h:KG I U o n rs) (ey:U.length=I.length) (fP:∀x∈U,x<((I.length:Nat):Int)) (he:El I U n rs es) {kp:aE}:oP I.length (gJ n rs kp es):=by
 obtain⟨rfl,p,rfl,_⟩:=h
 exact fun e hm=>EI ey fP he e (DT hm).1
theorem aao (h:KG I U o n rs) (ey:U.length=I.length) (fP:∀x∈U,x<((I.length:Nat):Int)) (he:El I U n rs es):
  KG I U o n (l8 n rs (gJ n rs (l3 I o) es))∧(gJ n rs (l3 I o) es≠[]→I' I rs<I' I (l8 n rs (gJ n rs (l3 I o) es))):=by
 have tj:=Yw h ey fP he (kp:=l3 I o)
 obtain⟨rfl,p,rfl,q⟩:=h
 rw[N5 q.tr tj]
 refine⟨⟨J,_,J,R_ _ _,?_,?_⟩,?_⟩
 ·intro a b ha hb h1 h2 h3
  exact ud<|by simp[q.base a b ha hb h1 h2 h3]
 ·intro ai hR a b ha hb h
  refine((rC ha hb).1 h).least (fun x y hx hy hp=>?_) fun x y z hx hy hz=>hR.trans x y z hx hy hz
  rcases apw _ _▸hp with hp|hp
  ·exact q.le ai hR x y hx hy hp
  ·obtain⟨e,Uh,zp⟩:=apO.1 hp
   obtain⟨m1,m2,m3⟩:=DT Uh
   obtain⟨a',b',r',rfl,k⟩:=B4 ey ((he.2 e).1 m1)
   simp only[eP,apl] at zp
   obtain⟨e1,e2⟩:=zp
   obtain rfl:a'=x:=by omega
   obtain rfl:b'=y:=by omega
   exact hR.QR a' b' r' m3 ⟨k.a1,k.r1,k.fr,k.ne,k.wr,q.le ai hR a' r' k.a1 k.r1 k.ah⟩
 ·intro gI
  obtain⟨e,Uh⟩:=List.exists_mem_of_ne_nil _ gI
  obtain⟨m1,m2,m3⟩:=DT Uh
  have hi:=tj e Uh
  obtain⟨a',b',r',rfl,k⟩:=B4 ey ((he.2 e).1 m1)
  have hr:=ju.1 hi
  simp only at hr m2
  have hb:b'<I.length:=by omega
  rw[u2 k.a1 hb] at m2
  unfold I'
  refine abD (a:=a') (b:=b') (fun a b ha hb h=>?_) k.a1 hb ?_ ?_
  ·rw[jP ha hb] at h ⊢
   exact ud<|by simp[h]
  ·rw[jP k.a1 hb];exact m2
  ·rw[jP k.a1 hb]
   refine ud ?_
   rw[apw]
   exact .inr (apO.2 ⟨_,Uh,by simp⟩)
theorem acj (h:KG I U o n rs) (ey:U.length=I.length) (fP:∀x∈U,x<((I.length:Nat):Int)) (he:El I U n rs es) (hz:gJ n rs (l3 I o) es=[]):rs=cY I U o:=by
 obtain⟨rfl,p,rfl,q⟩:=h
 have hR:Qw I U o (fun a b=>p a b=true):=by
  refine⟨q.base,q.tr,fun a b r hr k=>?_⟩
  have hb:=fP _<|dO k.fr
  have hh:=UB hz ((he.2 _).2 (P_ ey k)) hr
  simp only at hh
  rw[u2 k.a1 aq] at hh
  exact hh
 refine dM fun a b ha hb=>?_
 rw[apF,ql]
 exact⟨fun h ai hR=>q.le ai hR a b ha hb h,fun h=>h _ hR⟩
theorem LU (rs:Rows) (I:List aO):I' I rs≤I.length*I.length:=abE _ _
end
theorem BO (h:ij I) (hn:I.length≤64) (ho:0≤o∧o<((I.length:Nat):Int)):(bc (fk I) (cF I o)).length≤64:=by
 unfold bc
 refine Nat.le_trans (aqn _ _) ?_
 unfold cF
 rw[apo ho,apZ,arh]
 have h1:=To h ho.1 ho.2
 unfold cF at h1
 rw[apo ho,apZ,arh] at h1
 have h2:=(ij.back h o.toNat aq).1
 omega
theorem Cd {n2:Int} {m2:Rows} {x:eu} (h:n2=n∧m2=l8 n rs (l.take q)) (hx:l[((q:Nat):Int).toNat]? =some x) (hi:kG n [x.1,x.2.1]=true):
  iu n2 x.1 x.2.1=n∧ie n2 m2 x.1 x.2.1=l8 n rs (l.take (q+1)):=by
 obtain⟨rfl,rfl⟩:=h
 rw[dS] at hx
 refine⟨by unfold iu;rw[apo hi],?_⟩
 rw[apW,hx,show (some x).toList=[x] from rfl,Cc]
theorem aci {n2:Int} {m2:Rows} (h:KG I U o n rs) (hn:I.length≤4096) (he:oP I.length l) (h2:n2=n∧m2=l8 n rs (l.take q)):bL n2 m2=true:=by
 obtain⟨rfl,rfl⟩:=h2
 have hr:=LR h hn
 rw[h.1] at hr ⊢
 exact Ak hr fun e Ui=>he e (aqF Ui)
theorem LS {x:eu} (h:n=((I.length:Nat):Int)) (he:oP I.length l) (hx:l[((q:Nat):Int).toNat]? =some x):kG n [x.1,x.2.1]=true:=by
 rw[h];exact he x (dO hx)
end Go.Ew
namespace Go.Ew
variable {r N:Int} {j:Nat} {ai:Rows}
abbrev yP:=Int×Int×Int×Int×Int
structure VD (k r a b o:Int):Prop where
 k:aK k
 r:aK r
 a:aK a
 b:aK b
 o:aK o
def qO (x:Option yP) (k r a b o:Int):Prop:=VD k r a b o∧∀y,x=some y→y=(k,r,a,b,o)
theorem uH {x:Option yP} {k a b o:Int} (h:x=none) (i:VD k r a b o):qO x k r a b o:=⟨i,fun y hy=>by rw[h] at hy;cases hy⟩
theorem Ao {x:Option yP} {k a b o:Int} (h:x=some (k,r,a,b,o)) (i:VD k r a b o):qO x k r a b o:=⟨i,fun y hy=>by rw[h] at hy;exact(apm hy).symm⟩
section
variable (I:List aO) (U:aE)
def pG (kd:Int):Option yP:=if 0≤eM (fun z_=>decide ((-2)=z_)) U then some (kd,eM (fun z_=>decide ((-2)=z_)) U, -1, -1, -1) else none
def kn (n:Int) (rs:Rows) (kd:Int):Option yP:=(cV n rs).map fun i=>(kd, -1, -1, -1,((i:Nat):Int))
def qC (n:Int) (rs:Rows) (kd:Int):Option yP:=(A1 I U n rs).map fun r=>(kd,((r:Nat):Int),(dy I n rs ((r:Nat):Int)).headD 0, -1, -1)
def qD (n:Int) (rs:Rows) (kd:Int):Option yP:=(GL I U n rs).map fun r=>(kd,((r:Nat):Int),U.getD r 0,(Ah I U n rs r).getD 0, -1)
noncomputable def Kw (a b:Nat):Bool:=pC I U a b||@decide (∃r,Og I U (fun x y=>pC I U x y=true) a b r) (Classical.propDecidable _)
noncomputable def A4:Rows:=cI I.length (cl I.length (Kw I U))
def CV (n:Int) (rs:Rows) (r:Int):Bool:=decide (U.getD r.toNat 0= -1)&&decide (0<(((dy I n rs r).length:Nat):Int))
def ET (n:Int) (rs:Rows) (o:Int):Option Int:=(l3 I o).find? (CV I U n rs)
noncomputable def Jy (o:Nat):Bool:=(ET I U ((I.length:Nat):Int) (cY I U ((o:Nat):Int)) ((o:Nat):Int)).isSome
noncomputable def Jz:Option Nat:=(List.range I.length).find? (Jy I U)
noncomputable def sV (kd:Int):Option yP:=(Jz I U).map fun o=>(kd,(ET I U ((I.length:Nat):Int) (cY I U ((o:Nat):Int)) ((o:Nat):Int)).getD 0,(dy I ((I.length:Nat):Int) (cY I U ((o:Nat):Int)) ((ET I U ((I.length:Nat):Int) (cY I U ((o:Nat):Int)) ((o:Nat):Int)).getD 0)).headD 0, -1,((o:Nat):Int))
noncomputable def Yv (o:Nat):Bool:=(cV ((I.length:Nat):Int) (cY I U ((o:Nat):Int))).isSome
noncomputable def Jq:Option Nat:=(List.range I.length).find? (Yv I U)
noncomputable def sU (kd:Int):Option yP:=(Jq I U).map fun o=>(kd, -1,(((cV ((I.length:Nat):Int) (cY I U ((o:Nat):Int))).getD 0:Nat):Int), -1,((o:Nat):Int))
noncomputable def ko (kd:Int):Option yP:=
 if kd=1 then pG U kd else if kd=2 then kn ((I.length:Nat):Int) (cA I U) kd else if kd=3 then qC I U ((I.length:Nat):Int) (cA I U) kd else if kd=4 then qD I U ((I.length:Nat):Int) (cA I U) kd
 else if kd=5 then kn ((I.length:Nat):Int) (A4 I U) kd else if kd=6 then sV I U kd else sU I U kd
noncomputable def iU (lv:Int):Option yP:=(eb lv).findSome? (ko I U)
noncomputable def eZ:List (Int×Rows):=(List.range I.length).map fun o=>(((I.length:Nat):Int),cY I U ((o:Nat):Int))
end
section
variable {I:List aO} {U:aE}
theorem Bo:(eZ I U).length=I.length:=by unfold eZ;simp
theorem Pc {x:Int×Rows} (h:(eZ I U)[((j:Nat):Int).toNat]? =some x):j<I.length∧x=(((I.length:Nat):Int),cY I U ((j:Nat):Int)):=by
 rw[dS] at h
 have hl:=(dZ.1 h).1
 rw[Bo] at hl
 unfold eZ at h
 rw[apx,aqm hl] at h
 exact⟨hl,(apm h).symm⟩
theorem S1 (hj:j<I.length):(eZ I U).take j++[(((I.length:Nat):Int),cY I U ((j:Nat):Int))]=(eZ I U).take (j+1):=by
 have h:(eZ I U)[j]? =some (((I.length:Nat):Int),cY I U ((j:Nat):Int)):=by unfold eZ;rw[apx,aqm hj];rfl
 rw[apW,h];rfl
theorem ahs {es:List eu} (ey:U.length=I.length) (fP:∀x∈U,x<((I.length:Nat):Int)) (h:El I U ((I.length:Nat):Int) (cA I U) es):l8 ((I.length:Nat):Int) (cA I U) es=A4 I U:=by
 unfold cA at h ⊢
 rw[N5 (p:=pC I U) (R_ I.length (HZ I U)) (EI ey fP h)]
 unfold A4
 refine dM fun a b ha hb=>GI (fun x y hx hy=>?_) ha hb
 rw[apF]
 unfold Kw UZ
 rw[apw,apw,apO,@decide_eq_true_iff _ (Classical.propDecidable _)]
 refine or_congr Iff.rfl ⟨?_,?_⟩
 ·rintro⟨e,he,h2⟩
  simp only[eP,apl] at h2
  obtain⟨a',b',r',rfl,k⟩:=B4 ey ((h.2 e).1 he)
  obtain rfl:a'=x:=by simp only at h2;omega
  obtain rfl:b'=y:=by simp only at h2;omega
  exact⟨r',k⟩
 ·rintro⟨r,k⟩
  exact⟨_,(h.2 _).2 (P_ ey k),by simp⟩
theorem abi {α β:Type} {l:List α} {f:α→Option β} {x:α} (hs:∀y∈l.take j,f y=none) (hx:l[((j:Nat):Int).toNat]? =some x) (h:f x=none):∀y∈l.take (j+1),f y=none:=by
 rw[dS] at hx
 intro y hy
 rw[apW,hx] at hy
 rcases apM.1 hy with hy|hy
 ·exact hs y hy
 ·simp at hy;rw[hy];exact h
theorem abh {α β:Type} {l:List α} {f:α→Option β} {x:α} {y:β} (hs:∀y∈l.take j,f y=none) (hx:l[((j:Nat):Int).toNat]? =some x) (h:f x=some y):l.findSome? f=some y:=by
 rw[dS] at hx
 have e:l=l.take j++x::l.drop (j+1):=by
  rw[←(dZ.1 hx).2,ar3,aqz]
 rw[e,List.findSome?_append,arK.2 hs,List.findSome?_cons,h];rfl
theorem ae8 {α β:Type} {l:List α} {f:α→Option β} (hs:∀y∈l.take j,f y=none) (hj:l.length≤j):l.findSome? f=none:=by
 rw[apu hj] at hs
 exact arK.2 hs
theorem MO {lv x:Int} (h:x∈eb lv):x=1∨x=2∨x=3∨x=4∨x=5∨x=6∨x=7:=by
 unfold eb at h
 cases h1:decide (lv=1)<;>cases h2:decide (lv=2)<;>cases h3:decide (lv=3)<;>simp[h1,h2,h3] at h<;>omega
end
theorem rZ:aK (-1):=by unfold aK;omega
theorem F_:aK 0:=by unfold aK;omega
theorem IW (h:j≤9223372036854775807):aK ((j:Nat):Int):=by unfold aK;omega
theorem OZ:VD 0 0 0 0 0:=⟨F_,F_,F_,F_,F_⟩
section
variable {I:List aO} {U:aE} {n kd:Int} {rs:Rows} {j:Nat} {x a:Int}
theorem wiN (h:aK kd):VD kd (-1) (-1) (-1) (-1):=⟨h,rZ,rZ,rZ,rZ⟩
theorem O5:decide (0≤eM (fun z_=>decide ((-2)=z_)) U)=(pG U kd).isSome:=by
 unfold pG;split<;>simp_all
theorem acd (hk:aK kd) (hl:U.length≤9223372036854775807):qO (pG U kd) kd (eM (fun z_=>decide ((-2)=z_)) U) (-1) (-1) (-1):=by
 have h:=xp (p:=fun z_=>decide ((-2)=z_)) (r:=U)
 refine⟨⟨hk,by unfold aK;omega,rZ,rZ,rZ⟩,fun y hy=>?_⟩
 unfold pG at hy
 split at hy
 ·exact(apm hy).symm
 ·cases hy
theorem CZ:(cV n rs).isSome=(kn n rs kd).isSome:=by unfold kn;simp
theorem MG {i:Nat} (h:cV n rs=some i):i<n.toNat:=by
 unfold cV at h;exact apq.1 (arO h)
theorem QU (hk:aK kd) (hn:n≤9223372036854775807) (h:(cV n rs).isSome=true):qO (kn n rs kd) kd (-1) (-1) (-1) (((cV n rs).getD 0:Nat):Int):=by
 obtain⟨i,hi⟩:=apL.1 h
 have hl:=MG hi
 unfold kn
 rw[hi]
 exact Ao J ⟨hk,rZ,rZ,rZ,IW (by simp only[arB];omega)⟩
theorem QV (hk:aK kd) (h:(cV n rs).isSome=false):qO (kn n rs kd) kd (-1) (-1) (-1) (-1):=
 uH (by unfold kn;cases e:cV n rs<;>simp_all) (wiN hk)
theorem afh (h:A1 I U n rs=some j):true=(qC I U n rs kd).isSome:=by unfold qC;rw[h];rfl
theorem UY (h:A1 I U n rs=none):qC I U n rs kd=none:=by unfold qC;rw[h];rfl
theorem ahr (hk:aK kd) (h:A1 I U n rs=some j) (hj:j≤9223372036854775807) (hx:(dy I n rs ((j:Nat):Int))[(0:Int).toNat]? =some x) (ix:aK x):qO (qC I U n rs kd) kd ((j:Nat):Int) x (-1) (-1):=by
 refine Ao ?_ ⟨hk,IW hj,ix,rZ,rZ⟩
 unfold qC;rw[h];show some (kd,_,(dy I n rs ((j:Nat):Int)).headD 0,_,_)=_
 rw[Nf hx]
theorem afs (h:GL I U n rs=some j):true=(qD I U n rs kd).isSome:=by unfold qD;rw[h];rfl
theorem Vh (h:GL I U n rs=none):qD I U n rs kd=none:=by unfold qD;rw[h];rfl
theorem aht (hk:aK kd) (h:GL I U n rs=some j) (hb:Ah I U n rs j=some x) (ha:U.getD j 0=a) (hj:j≤9223372036854775807) (ia:aK a) (ix:aK x):qO (qD I U n rs kd) kd ((j:Nat):Int) a x (-1):=by
 refine Ao ?_ ⟨hk,IW hj,ia,ix,rZ⟩
 unfold qD;rw[h];show some (kd,_,U.getD j 0,(Ah I U n rs j).getD 0,_)=_
 rw[hb,ha];rfl
end
theorem N4 {I:List aO} {n:Int} {rs:Rows} {k:Nat} {x:Int} (h:bL n rs=true) (hx:(dy I n rs r)[k]? =some x):aK x:=by
 have hm:=dO hx
 unfold dy bc at hm
 have hm:=(apE.1 hm).1
 unfold fb at hm
 split at hm
 ·obtain⟨k,hk,_,rfl⟩:=xF.1 hm
  have:=(bU h).2.2.1
  unfold aK;omega
 ·cases hm
section
variable {I:List aO} {U:aE} {cn n2 kd:Int} {cr m2:Rows} {es:List eu} {q:Nat}
theorem ZO (ey:U.length=I.length) (fP:∀x∈U,x<((I.length:Nat):Int)) (oK:cn=((I.length:Nat):Int)) (qa:cr=cA I U) (h:El I U cn cr es):oP I.length es:=by
 subst oK qa;exact EI ey fP h
theorem Vc (hn:I.length≤4096) (oK:cn=((I.length:Nat):Int)) (qa:cr=cA I U) (he:oP I.length es) (h2:n2=cn∧m2=l8 cn cr (es.take q)):bL n2 m2=true:=by
 obtain⟨rfl,rfl⟩:=h2
 subst oK qa
 exact Ak (pS U hn) fun e Ui=>he e (aqF Ui)
theorem afq (ey:U.length=I.length) (fP:∀x∈U,x<((I.length:Nat):Int)) (oK:cn=((I.length:Nat):Int)) (qa:cr=cA I U) (h:El I U cn cr es) (h2:n2=cn∧m2=l8 cn cr (es.take q)) (hq:es.length≤q):n2=((I.length:Nat):Int)∧m2=A4 I U:=by
 obtain⟨rfl,rfl⟩:=h2
 subst oK qa
 rw[apu hq]
 exact⟨J,ahs ey fP h⟩
theorem Pf (h:n2=N∧m2=ai):(cV n2 m2).isSome=(kn N ai kd).isSome:=by obtain⟨rfl,rfl⟩:=h;exact CZ
theorem acO (h:n2=N∧m2=ai) (hk:aK kd) (hn:N≤9223372036854775807) (h1:(cV n2 m2).isSome=true):qO (kn N ai kd) kd (-1) (-1) (-1) (((cV n2 m2).getD 0:Nat):Int):=by obtain⟨rfl,rfl⟩:=h;exact QU hk hn h1
theorem acP (h:n2=N∧m2=ai) (hk:aK kd) (h1:(cV n2 m2).isSome=false):qO (kn N ai kd) kd (-1) (-1) (-1) (-1):=by obtain⟨rfl,rfl⟩:=h;exact QV hk h1
end
end Go.Ew
namespace Go.Ew
section
variable {α:Type} {l:List α} {p:α→Bool} {j:Nat} {x:α}
theorem ZF (hs:∀y∈l.take j,p y=false) (hx:l[((j:Nat):Int).toNat]? =some x) (h:p x=false):∀y∈l.take (j+1),p y=false:=by
 rw[dS] at hx
 intro y hy
 rw[apW,hx] at hy
 rcases apM.1 hy with hy|hy
 ·exact hs y hy
 ·simp at hy;rw[hy];exact h
theorem ae' (hs:∀y∈l.take j,p y=false) (hx:l[((j:Nat):Int).toNat]? =some x) (h:p x=true):l.find? p=some x:=by
 rw[dS] at hx
 have e:l=l.take j++x::l.drop (j+1):=by
  rw[←(dZ.1 hx).2,ar3,aqz]
 rw[e,List.find?_append,aqP.2 (fun y hy=>by rw[hs y hy];exact arW),List.find?_cons,h];rfl
theorem aa3 {l:aE} {p:Int→Bool} {j:Nat} {x:Int} (h:(bc p l)[((j:Nat):Int).toNat]? =some x):∃q:Nat,l[q]? =some x:=by
 have h1:=dO h
 unfold bc at h1
 exact asa (apE.1 h1).1
theorem afa (hs:∀y∈l.take j,p y=false) (hj:l.length≤j):l.find? p=none:=by
 rw[apu hj] at hs
 exact aqP.2 fun y hy=>by rw[hs y hy];exact arW
end
section
variable {I:List aO} {U:aE} {kd:Int} {j:Nat} {r y x:Int} {X:Int×Rows}
theorem G2 (hn:I.length≤64) (hj:j<I.length):bL ((I.length:Nat):Int) (cY I U ((j:Nat):Int))=true:=by
 unfold cY;exact lN aq
theorem aap (h:(l3 I ((j:Nat):Int)).find? (CV I U ((I.length:Nat):Int) (cY I U ((j:Nat):Int)))=none):Jy I U j=false:=by
 unfold Jy ET;rw[h];rfl
theorem acp (h:(l3 I ((j:Nat):Int)).find? (CV I U ((I.length:Nat):Int) (cY I U ((j:Nat):Int)))=some r):Jy I U j=true:=by
 unfold Jy ET;rw[h];rfl
theorem agp (h:Jz I U=some j):true=(sV I U kd).isSome:=by unfold sV;rw[h];rfl
theorem Yx (h:Jz I U=none):sV I U kd=none:=by unfold sV;rw[h];rfl
theorem ajh (hk:aK kd) (h:Jz I U=some j) (h2:(l3 I ((j:Nat):Int)).find? (CV I U ((I.length:Nat):Int) (cY I U ((j:Nat):Int)))=some r) (hj:j≤9223372036854775807) (hr:aK r)
  (hx:(dy I ((I.length:Nat):Int) (cY I U ((j:Nat):Int)) r)[(0:Int).toNat]? =some x) (ix:aK x):qO (sV I U kd) kd r x (-1) ((j:Nat):Int):=by
 refine Ao ?_ ⟨hk,hr,ix,rZ,IW hj⟩
 unfold sV;rw[h]
 have e:ET I U ((I.length:Nat):Int) (cY I U ((j:Nat):Int)) ((j:Nat):Int)=some r:=h2
 show some (kd,(ET I U ((I.length:Nat):Int) (cY I U ((j:Nat):Int)) ((j:Nat):Int)).getD 0,(dy I ((I.length:Nat):Int) (cY I U ((j:Nat):Int)) ((ET I U ((I.length:Nat):Int) (cY I U ((j:Nat):Int)) ((j:Nat):Int)).getD 0)).headD 0,_,_)=_
 rw[e]
 show some (kd,r,(dy I ((I.length:Nat):Int) (cY I U ((j:Nat):Int)) r).headD 0,_,_)=_
 rw[Nf hx]
theorem age (h:Jq I U=some j):true=(sU I U kd).isSome:=by unfold sU;rw[h];rfl
theorem Yu (h:Jq I U=none):sU I U kd=none:=by unfold sU;rw[h];rfl
theorem ajb (hk:aK kd) (h:Jq I U=some j) (hj:j<I.length) (hn:I.length≤64) (h2:(cV ((I.length:Nat):Int) (cY I U ((j:Nat):Int))).isSome=true):
  qO (sU I U kd) kd (-1) (((cV ((I.length:Nat):Int) (cY I U ((j:Nat):Int))).getD 0:Nat):Int) (-1) ((j:Nat):Int):=by
 obtain⟨i,hi⟩:=apL.1 h2
 have hl:=MG hi
 refine Ao ?_ ⟨hk,rZ,IW (by rw[hi,arB];omega),rZ,IW aq⟩
 unfold sU;rw[h];rfl
end
section
variable {I:List aO} {U:aE} {lv x:Int} {j:Nat} {P:Option yP} {k r a b o:Int}
theorem Wv:ko I U 1=pG U 1:=by unfold ko;exact apo rfl
theorem Wu:ko I U 2=kn ((I.length:Nat):Int) (cA I U) 2:=by unfold ko;rw[apr aw];exact apo rfl
theorem Ws:ko I U 3=qC I U ((I.length:Nat):Int) (cA I U) 3:=by unfold ko;rw[apr aw,apr aw];exact apo rfl
theorem Wr:ko I U 4=qD I U ((I.length:Nat):Int) (cA I U) 4:=by unfold ko;rw[apr aw,apr aw,apr aw];exact apo rfl
theorem Wq:ko I U 5=kn ((I.length:Nat):Int) (A4 I U) 5:=by unfold ko;rw[apr aw,apr aw,apr aw,apr aw];exact apo rfl
theorem Wp:ko I U 6=sV I U 6:=by unfold ko;rw[apr aw,apr aw,apr aw,apr aw,apr aw];exact apo rfl
theorem Wo:ko I U 7=sU I U 7:=by unfold ko;rw[apr aw,apr aw,apr aw,apr aw,apr aw];exact apr aw
theorem Bv (hs:∀y∈(eb lv).take j,ko I U y=none) (hx:(eb lv)[((j:Nat):Int).toNat]? =some x) (e:ko I U x=P) (h:P.isSome=false):∀y∈(eb lv).take (j+1),ko I U y=none:=
 abi hs hx (by rw[e];cases P<;>simp_all)
theorem ob (hs:∀y∈(eb lv).take j,ko I U y=none) (hx:(eb lv)[((j:Nat):Int).toNat]? =some x) (e:ko I U x=P) (h:P.isSome=true):iU I U lv=P:=by
 obtain⟨y,rfl⟩:=apL.1 h
 exact abh hs hx e
theorem Pl (hs:∀y∈(eb lv).take j,ko I U y=none) (h:(eb lv).length≤j):iU I U lv=none:=ae8 hs h
noncomputable def fh (I:List aO) (U:aE) (lv:Int):Int:=if (iU I U lv).isSome=true then 0 else 8
theorem sS (e:iU I U lv=P) (h:P.isSome=true):0=fh I U lv:=by unfold fh;rw[apo (by rw[e];exact h)]
theorem abC (e:iU I U lv=none):8=fh I U lv:=by unfold fh;rw[apr (by rw[e];exact arW)]
theorem xN (e:iU I U lv=P) (h:qO P k r a b o):qO (iU I U lv) k r a b o:=by rw[e];exact h
theorem WY (h:lv=1∨lv=2∨lv=3):eb lv≠[]:=by
 rcases h with rfl|rfl|rfl<;>simp[eb]
theorem TU:(eb lv).length≤6:=by
 unfold eb
 cases h1:decide (lv=1)<;>cases h2:decide (lv=2)<;>cases h3:decide (lv=3)<;>simp
end
end Go.Ew
namespace Go.Ew
variable {n x:Int} {r:Row} {q:Nat} {rs:Rows}
def Lb (a b:Row) (j:Nat):Bool:=!decide ((a.getD j 0#64 &&& b.getD j 0#64)=0#64)
def pd (a b:Row):Bool:=(List.range a.length).any (Lb a b)
theorem afI {p:Nat→Bool} {n j:Nat} (hj:j<n) (h:p j=true):true=(List.range n).any p:=(apO.2 ⟨j,apq.2 hj,h⟩).symm
theorem abR {p:Nat→Bool} {n j:Nat} (hs:∀q,q<j→p q=false) (hj:n≤j):false=(List.range n).any p:=by
 symm
 rw[aq9]
 intro q hq
 rw[hs q (by have:=apq.1 hq;omega)]
 exact arW
theorem aa8 {α:Type} {p:α→Bool} {r:List α} (h:0≤eM p r):eM p r<((r.length:Nat):Int):=by
 unfold eM at h ⊢
 cases e:r.findIdx? p with
 |none=>rw[e] at h;exact absurd h aw
 |some i=>
  have:=(apK.1 e).1
  show ((i:Nat):Int)<_
  omega
def Ch (n:Int) (r:Row):Prop:=r.length=words n∧∀x∈cZ r,0≤x∧x<n
theorem aaX:Ch n (ej n):=by
 refine⟨by unfold ej;simp,fun x hx=>?_⟩
 have:=vF.1 hx
 rw[F0] at this;cases this
theorem aaW (h:Ch n r) (h0:0≤x) (h1:x<n):Ch n (eo r x):=by
 refine⟨by rw[←h.1];unfold eo;split<;>simp,fun y hy=>?_⟩
 have:=vF.1 hy
 rw[DO,apw] at this
 rcases this with h2|h2
 ·exact h.2 y<|vF.2 h2
 ·simp only[eP,apl] at h2
  rw[h2.1];exact⟨h0,h1⟩
theorem aaY {x y:bw} (h:Ch n r) (hx:r[q]? =some x):Ch n (r.set q (x &&& ~~~y)):=by
 refine⟨by rw[apk];exact h.1,fun z hz=>?_⟩
 have h1:=vF.1 hz
 refine h.2 z<|vF.2 ?_
 unfold fy at h1 ⊢
 rw[eP] at h1 ⊢
 refine⟨h1.1,?_⟩
 have h2:=h1.2
 rw[gX,aqI] at h2
 split at h2
 ·rename_i e
  rw[←e,gX,hx]
  split at h2
  ·simp only[arB,arw,eP] at h2
   exact h2.1
  ·simp at h2
 ·rwa [←gX] at h2
theorem adl (h:Ch n r) (hx:(cZ r)[q]? =some x):0≤x∧x<n:=h.2 x (dO hx)
theorem WU (h:Ch n r) (h0:0≤x) (h1:x<n):x<64*((r.length:Nat):Int):=by
 rw[h.1];unfold words;omega
def LJ (T:Rows) (lf:Row) (x:Int):Bool:=!(pd (T.getD x.toNat []) lf)
def afo (lf:Row) (x:Int):Row:=lf.set (x/64).toNat (lf.getD (x/64).toNat 0#64 &&& ~~~((1#64) <<< ((BitVec.ofInt 64 (x%64)).toNat:Int).toNat))
def Bh (T:Rows):Nat→Row→aE→aE×Int
 |0,_,os=>(os,0)
 |k+1,lf,os=>if eM (LJ T lf) (cZ lf)<0 then ([],7) else Bh T k (afo lf ((cZ lf).getD (eM (LJ T lf) (cZ lf)).toNat 0)) (os++[(cZ lf).getD (eM (LJ T lf) (cZ lf)).toNat 0])
def rG (n:Int):aE→Row→Option Row
 |[],lf=>some lf
 |x::r,lf=>if x<0∨n≤x∨fy lf x=true then none else rG n r (eo lf x)
def dJ (n:Int) (rs:Rows) (nd:aE):aE×Int:=match rG n nd (ej n) with
 |none=>([],1)
 |some lf=>Bh (gP n rs) nd.length lf []
section
variable {n:Int} {rs T:Rows} {nd os:aE} {lf:Row} {j:Nat} {x:Int} {y:bw}
theorem aam (h:rG n nd (ej n)=rG n (nd.drop j) lf) (hx:nd[((j:Nat):Int).toNat]? =some x) (h0:0≤x) (h1:x<n) (h2:fy lf x=false):rG n nd (ej n)=rG n (nd.drop (j+1)) (eo lf x):=by
 rw[dS] at hx
 obtain⟨hj,qH⟩:=dZ.1 hx
 rw[h,aqi hj,qH]
 show (if _ then _ else _)=_
 rw[apr (by rintro(h3|h3|h3);omega;omega;rw[h2] at h3;cases h3)]
theorem LM (h:rG n nd (ej n)=rG n (nd.drop j) lf) (hx:nd[((j:Nat):Int).toNat]? =some x) (h1:x<0∨n≤x∨fy lf x=true):dJ n rs nd=([],1):=by
 rw[dS] at hx
 obtain⟨hj,qH⟩:=dZ.1 hx
 rw[aqi hj,qH] at h
 have:rG n nd (ej n)=none:=by
  rw[h];show (if _ then _ else _)=_;rw[apo h1]
 unfold dJ;rw[this]
theorem VY (h:rG n nd (ej n)=rG n (nd.drop j) lf) (hj:nd.length≤j):dJ n rs nd=Bh (gP n rs) (nd.length-([]:aE).length) lf []:=by
 rw[List.drop_of_length_le hj] at h
 unfold dJ;rw[h];rfl
theorem agf (h:dJ n rs nd=Bh (gP n rs) (nd.length-os.length) lf os) (hl:os.length<nd.length) (hi:eM (LJ (gP n rs) lf) (cZ lf)<0):dJ n rs nd=([],7):=by
 rw[h,show nd.length-os.length=(nd.length-os.length-1)+1 from by omega]
 show (if _ then _ else _)=_
 rw[apo hi]
theorem aal (h:dJ n rs nd=Bh (gP n rs) (nd.length-os.length) lf os) (hl:os.length<nd.length) (hi:¬eM (LJ (gP n rs) lf) (cZ lf)<0) (hx:(cZ lf)[(eM (LJ (gP n rs) lf) (cZ lf)).toNat]? =some x) (hy:lf[(x/64).toNat]? =some y):
  dJ n rs nd=Bh (gP n rs) (nd.length-(os++[x]).length) (lf.set (x/64).toNat (y &&& ~~~((1#64) <<< ((BitVec.ofInt 64 (x%64)).toNat:Int).toNat))) (os++[x]):=by
 have e1:(cZ lf).getD (eM (LJ (gP n rs) lf) (cZ lf)).toNat 0=x:=by rw[gX,hx];rfl
 have e2:lf.getD (x/64).toNat 0#64=y:=by rw[gX,hy];rfl
 rw[h,show nd.length-os.length=(nd.length-os.length-1)+1 from by omega]
 show (if _ then _ else _)=_
 rw[apr hi,e1,gj,jb,gC,show nd.length-(os.length+(0+1))=nd.length-os.length-1 from by omega]
 unfold afo
 rw[e2]
theorem ace (h:dJ n rs nd=Bh (gP n rs) (nd.length-os.length) lf os) (hl:nd.length≤os.length):dJ n rs nd=(os,0):=by
 rw[h,show nd.length-os.length=0 from by omega];rfl
theorem LK:∀(k:Nat) (lf:Row) (os:aE),(Bh T k lf os).1.length≤os.length+k
 |0,_,_=>apn _
 |k+1,lf,os=>by
  show (if _ then _ else _:aE×Int).1.length≤_
  split
  ·exact aqH _
  ·refine Nat.le_trans (LK k _ _) ?_
   rw[gj,jb,gC];omega
theorem LL:(dJ n rs nd).1.length≤nd.length:=by
 unfold dJ
 split
 ·exact aqH _
 ·refine Nat.le_trans (LK _ _ _) ?_
  simp
end
theorem agm {I:List aO} {U:aE} {o:Int} (hn:I.length≤64):bL ((I.length:Nat):Int) (cY I U o)=true:=by
 unfold cY;exact lN aq
theorem aa2 {l:aE} {p:Int→Bool}:(bc p l).length≤l.length:=by unfold bc;exact aqn _ _
theorem vi (h:bL n rs=true) (o:Int) (p:Int→Bool):(bc p (bR n rs o)).length≤4096:=Nat.le_trans aa2 (vj h o)
theorem SG (h:bL n rs=true) (o:Int) (p:Int→Bool):(dJ n rs (bc p (bR n rs o))).1.length≤4096:=Nat.le_trans LL (vi h o p)
theorem Jc {I:List aO} {mn n2:Int} {m2:Rows} {es:List eu} (Cq:mn=((I.length:Nat):Int)) (h:bL mn rs=true) (he:oP I.length es) (h2:n2=mn∧m2=l8 mn rs (es.take q)):bL n2 m2=true:=by
 obtain⟨rfl,rfl⟩:=h2
 subst Cq
 exact Ak h fun e Ui=>he e (aqF Ui)
theorem S7:bL 0 []=true:=by decide
end Go.Ew
namespace Go.Ew
variable {x y w:List Nat} {a b:Nat}
def pU (n:Nat) (p:ib):Nat→Nat→Nat→List Nat→Prop
 |0,a,b,w=>a=b∧w=[a]
 |L+1,a,b,w=>∃k v,k<n∧p a k=true∧pU n p L k b v∧w=a::v
def JT:List Nat→List Nat→Prop
 |a::x,b::y=>a<b∨(a=b∧JT x y)
 |_,_=>False
def slt (x y:List Nat):Prop:=x.length<y.length∨(x.length=y.length∧JT x y)
def sle (x y:List Nat):Prop:=x=y∨slt x y
section
variable {n:Nat} {p:ib}
theorem Hh:∀x,¬JT x x
 |[],h=>h
 |a::x,h=>by
  rcases h with h|⟨-,h⟩
  ·exact ars _ h
  ·exact Hh x h
theorem JS:∀{x y z:List Nat},JT x y→JT y z→JT x z
 |a::x,b::y,c::z,h,k=>by
  rcases h with h|⟨rfl,h⟩
  ·rcases k with k|⟨rfl,k⟩
   ·exact .inl (asz h k)
   ·exact .inl h
  ·rcases k with k|⟨rfl,k⟩
   ·exact .inl k
   ·exact .inr ⟨J,JS h k⟩
 |[],_,_,h,_=>h.elim
 |_::_,[],_,h,_=>h.elim
 |_::_,_::_,[],_,k=>k.elim
theorem BK:∀{x y:List Nat} {a b:Nat},x.length=y.length→(JT x y∨(x=y∧a<b))→JT (x++[a]) (y++[b])
 |[],[],a,b,_,h=>by
  rcases h with h|⟨-,h⟩
  ·exact h.elim
  ·exact .inl h
 |c::x,d::y,a,b,hl,h=>by
  have hl':x.length=y.length:=by simpa using hl
  rcases h with (h|⟨rfl,h⟩)|⟨h,k⟩
  ·exact .inl h
  ·exact .inr ⟨J,BK hl' (.inl h)⟩
  ·cases h;exact .inr ⟨rfl,BK hl' (.inr ⟨rfl,k⟩)⟩
theorem QL (x:List Nat):¬slt x x:=by
 rintro(h|⟨-,h⟩)
 ·exact ars _ h
 ·exact Hh x h
theorem Jv {z:List Nat} (h:slt x y) (k:slt y z):slt x z:=by
 rcases h with h|⟨h1,h2⟩<;>rcases k with k|⟨k1,k2⟩
 ·exact .inl aq
 ·exact .inl aq
 ·exact .inl aq
 ·exact .inr ⟨by omega,JS h2 k2⟩
theorem CT {z:List Nat} (h:sle x y) (k:sle y z):sle x z:=by
 rcases h with rfl|h
 ·exact k
 ·rcases k with rfl|k
  ·exact .inr h
  ·exact .inr (Jv h k)
theorem LX (h:sle x y) (k:sle y x):x=y:=by
 rcases h with rfl|h
 ·rfl
 ·rcases k with rfl|k
  ·rfl
  ·exact absurd (Jv h k)<|QL _
theorem LV (a b:Nat) (h:slt x y):slt (x++[a]) (y++[b]):=by
 rcases h with h|⟨h1,h2⟩
 ·exact .inl (by simp;omega)
 ·exact .inr ⟨by simp;omega,BK h1 (.inl h2)⟩
theorem V3 (h:a<b):slt (x++[a]) (x++[b]):=.inr ⟨by simp,BK rfl (.inr ⟨rfl,h⟩)⟩
theorem LW (a:Nat) (h:sle x y):sle (x++[a]) (y++[a]):=by
 rcases h with rfl|h
 ·exact .inl rfl
 ·exact .inr (LV a a h)
theorem O9 (h:sle x y):x.length≤y.length:=by
 rcases h with rfl|h|⟨h, -⟩<;>omega
theorem V5 (a:Nat) (h:sle x y):sle (a::x) (a::y):=by
 rcases h with rfl|h|⟨h1,h2⟩
 ·exact .inl rfl
 ·exact .inr (.inl (by simp;omega))
 ·exact .inr (.inr ⟨by simp;omega,.inr ⟨J,h2⟩⟩)
theorem lA:∀{L a b:Nat} {w:List Nat},pU n p L a b w→w.length=L+1
 |0,a,b,w,h=>by rw[h.2];rfl
 |L+1,a,b,w,h=>by
  obtain⟨k,v,_,_,h,rfl⟩:=h
  rw[jb,lA h]
theorem Bd:∀{L a b:Nat} {w:List Nat},pU n p L a b w→w[0]? =some a
 |0,a,b,w,h=>by rw[h.2];rfl
 |L+1,a,b,w,h=>by
  obtain⟨k,v,_,_,h,rfl⟩:=h
  rfl
theorem xO:∀{L a b:Nat} {w:List Nat},pU n p L a b w→w[L]? =some b
 |0,a,b,w,h=>by rw[h.2,h.1];rfl
 |L+1,a,b,w,h=>by
  obtain⟨k,v,_,_,h,rfl⟩:=h
  have:=xO h
  simpa using this
theorem FF:∀{L a b c:Nat} {w:List Nat},pU n p L a b w→c<n→p b c=true→pU n p (L+1) a c (w++[c])
 |0,a,b,c,w,h,hc,hp=>by
  obtain⟨rfl,rfl⟩:=h
  exact⟨c,[c],hc,hp,⟨J,J⟩,J⟩
 |L+1,a,b,c,w,h,hc,hp=>by
  obtain⟨k,v,h1,h2,h,rfl⟩:=h
  exact⟨k,v++[c],h1,h2,FF h hc hp,J⟩
theorem tC:∀{L a c:Nat} {w:List Nat},pU n p (L+1) a c w→∃b v,pU n p L a b v∧p b c=true∧c<n∧w=v++[c]
 |0,a,c,w,h=>by
  obtain⟨k,v,h1,h2,⟨rfl,rfl⟩,rfl⟩:=h
  exact⟨a,[a],⟨J,J⟩,h2,h1,J⟩
 |L+1,a,c,w,h=>by
  obtain⟨k,v,h1,h2,h,rfl⟩:=h
  obtain⟨b,u,h3,h4,h5,rfl⟩:=tC h
  exact⟨b,a::u,⟨k,u,h1,h2,h3,J⟩,h4,h5,J⟩
theorem Em {L a b:Nat} {w:List Nat} (h:pU n p L a b w) (ha:a<n):∀x∈w,x<n:=by
 induction L generalizing a w with
 |zero=>obtain⟨rfl,rfl⟩:=h;simpa using ha
 |succ L ih=>
  obtain⟨k,v,h1,h2,h,rfl⟩:=h
  intro x hx
  rcases apD.1 hx with rfl|hx
  ·exact ha
  ·exact ih h h1 x hx
theorem CI:∀{L a b t:Nat} {w:List Nat} {x:Nat},pU n p L a b w→w[t]? =some x→(∃u,pU n p t a x u)∧∃v,pU n p (L-t) x b v
 |L,a,b,0,w,x,h,hx=>by
  rw[Bd h] at hx;cases hx
  exact⟨⟨[a],J,J⟩,w,h⟩
 |0,a,b,t+1,w,x,h,hx=>by obtain⟨rfl,rfl⟩:=h;simp at hx
 |L+1,a,b,t+1,w,x,h,hx=>by
  obtain⟨k,v,h1,h2,h,rfl⟩:=h
  obtain⟨⟨u,hu⟩,v',hv⟩:=CI h (by simpa using hx)
  exact⟨⟨a::u,k,u,h1,h2,hu,J⟩,v',by rwa [show L+1-(t+1)=L-t from by omega]⟩
theorem Lx:∀{L M a b c:Nat} {u v:List Nat},pU n p L a b u→pU n p M b c v→∃w,pU n p (L+M) a c w
 |0,M,a,b,c,u,v,h,k=>by obtain⟨rfl,rfl⟩:=h;exact⟨v,by rwa [ap_]⟩
 |L+1,M,a,b,c,u,v,h,k=>by
  obtain⟨x,u',h1,h2,h,rfl⟩:=h
  obtain⟨w,hw⟩:=Lx h k
  exact⟨a::w,by rw[show L+1+M=(L+M)+1 from by omega];exact⟨x,w,h1,h2,hw,J⟩⟩
def U {α:Type} (f:Nat→Option α):Nat→Option α
 |0=>none
 |k+1=>match U f k with
  |some x=>some x
  |none=>f k
theorem EE {α:Type} {f:Nat→Option α} {x:α}:∀{n:Nat},U f n=some x→∃k,k<n∧f k=some x∧∀j,j<k→f j=none
 |k+1,h=>by
  unfold U at h
  have pf:∀m,U f m=none→∀j,j<m→f j=none:=by
   intro m
   induction m with
   |zero=>intro _ j hj;omega
   |succ m ih=>
    intro hm j hj
    unfold U at hm
    cases h1:U f m with
    |some y=>rw[h1] at hm;cases hm
    |none=>
     rw[h1] at hm
     rcases aq3.1 hj with hj|rfl
     ·exact ih h1 j hj
     ·exact hm
  cases h1:U f k with
  |some y=>
   rw[h1] at h;cases h
   obtain⟨j,h2,h3,h4⟩:=EE h1
   exact⟨j,by omega,h3,h4⟩
  |none=>rw[h1] at h;exact⟨k,by omega,h,pf k h1⟩
theorem I3 {α:Type} {f:Nat→Option α}:∀{n:Nat},U f n=none→∀j,j<n→f j=none
 |m+1,hm,j,hj=>by
  unfold U at hm
  cases h1:U f m with
  |some y=>rw[h1] at hm;cases hm
  |none=>
   rw[h1] at hm
   rcases aq3.1 hj with hj|rfl
   ·exact I3 h1 j hj
   ·exact hm
theorem ahp {α:Type} {f:Nat→Option α} {x:α} {n k:Nat} (hk:k<n) (h:f k=some x) (hj:∀j,j<k→f j=none):U f n=some x:=by
 cases h1:U f n with
 |none=>rw[I3 h1 k hk] at h;cases h
 |some y=>
  obtain⟨m,_,h3,h4⟩:=EE h1
  rcases ar1 m k with hm|rfl|hm
  ·rw[hj m hm] at h3;cases h3
  ·rw[h3] at h;rw[h]
  ·rw[h4 k hm] at h;cases h
def wl (n:Nat) (p:ib):Nat→Nat→Nat→Option (List Nat)
 |0,a,b=>if a=b then some [a] else none
 |L+1,a,b=>U (fun k=>if p a k=true then (wl n p L k b).map (a::·) else none) n
theorem En:∀{L a b:Nat},wl n p L a b=none→∀w,¬pU n p L a b w
 |0,a,b,h,w,hw=>by obtain⟨rfl,rfl⟩:=hw;unfold wl at h;simp at h
 |L+1,a,b,h,w,hw=>by
  obtain⟨k,v,h1,h2,h3,rfl⟩:=hw
  have h4:=I3 h k h1
  rw[apo h2,Option.map_eq_none_iff] at h4
  exact En h4 v h3
theorem Ap:∀{L a b:Nat} {w:List Nat},wl n p L a b=some w→pU n p L a b w∧∀v,pU n p L a b v→sle w v
 |0,a,b,w,h=>by
  unfold wl at h
  split at h
  ·rename_i e;cases h;exact⟨⟨e,rfl⟩,fun v hv=>.inl hv.2.symm⟩
  ·cases h
 |L+1,a,b,w,h=>by
  obtain⟨k,h1,h2,h3⟩:=EE h
  have hp:p a k=true:=by
   cases hp:p a k with
   |true=>rfl
   |false=>rw[hp] at h2;simp at h2
  rw[apo hp,apN] at h2
  obtain⟨u,h2,rfl⟩:=h2
  obtain⟨h4,h5⟩:=Ap h2
  refine⟨⟨k,u,h1,hp,h4,J⟩,?_⟩
  rintro v ⟨m,v,k1,k2,k3,rfl⟩
  rcases ar1 m k with hm|rfl|hm
  ·have:=h3 m hm
   rw[apo k2,Option.map_eq_none_iff] at this
   exact absurd k3<|En this v
  ·exact V5 a<|h5 v k3
  ·refine .inr (.inr ⟨by simp[lA h4,lA k3],.inr ⟨J,?_⟩⟩)
   have e1:=Bd h4;have e2:=Bd k3
   cases u with
   |nil=>simp at e1
   |cons x u=>
    cases v with
    |nil=>simp at e2
    |cons y v=>
     simp at e1 e2
     subst e1;subst e2
     exact .inl hm
def Fp (n:Nat) (p:ib) (a b:Nat):Option (List Nat):=U (fun L=>wl n p (L+1) a b) n
def Jo (n:Nat) (p:ib) (a b:Nat) (w:List Nat):Prop:=(∃L,pU n p (L+1) a b w)∧∀L v,pU n p (L+1) a b v→sle w v
theorem Mz:∀{n:Nat} {l:List Nat},l.Nodup→(∀x∈l,x<n)→l.length≤n
 |0,l,_,h=>by
  cases l with
  |nil=>simp
  |cons x l=>exact absurd (h x ap') aq
 |n+1,l,hd,h=>by
  have h1:(l.filter (fun x=>decide (x≠n))).length≤n:=Mz (arV List.filter_sublist hd) fun x hx=>by
   have:=apE.1 hx
   have h2:=h x this.1
   have h3:=ap5 this.2
   omega
  have h2:∀l:List Nat,l.Nodup→l.length≤(l.filter (fun x=>decide (x≠n))).length+1:=by
   intro l
   induction l with
   |nil=>simp
   |cons a l ih=>
    intro hd
    have hd:=aqt.1 hd
    by_cases ha:a=n
    ·subst ha
     have hf:l.filter (fun x=>decide (x≠a))=l:=asf.2<|fun x hx=>apt<|fun (e:x=a)=>hd.1<|by rw[←e];exact hx
     rw[List.filter_cons_of_neg (by simp),hf]
     simp
    ·rw[List.filter_cons_of_pos (by simpa using ha)]
     have:=ih hd.2
     simp only[jb];omega
  have:=h2 l hd
  omega
theorem X3 (h:Jo n p a b w) {s t x:Nat} (re:s<t) (hs:w[s]? =some x) (ht:w[t]? =some x):s=0∧t+1=w.length:=by
 obtain⟨⟨L,hw⟩,hl⟩:=h
 have hlen:=lA hw
 have PT:t<w.length:=(dZ.1 ht).1
 obtain⟨⟨u,hu⟩, -⟩:=CI hw hs
 obtain⟨-,v,hv⟩:=CI hw ht
 obtain⟨y,hy⟩:=Lx hu hv
 refine ap7 fun hc=>?_
 have Dw:∃M,s+(L+1-t)=M+1:=⟨s+(L+1-t)-1,by omega⟩
 obtain⟨M,hM⟩:=Dw
 rw[hM] at hy
 have h1:=O9<|hl _ _ hy
 have h2:=lA hy
 omega
theorem GM (h:Jo n p a b w) (ha:a<n):w.length≤n+1:=by
 have h0:=h
 obtain⟨⟨L,hw⟩,hl⟩:=h
 have hlen:=lA hw
 have hm:=Em hw ha
 have hd:w.dropLast.Nodup:=by
  rw[List.nodup_iff_pairwise_ne,List.pairwise_iff_getElem]
  intro i j hi hj Kf e
  rw[List.length_dropLast] at hi hj
  rw[List.getElem_dropLast,List.getElem_dropLast] at e
  have:=X3 h0 Kf (eB aq)<|by rw[e];exact eB aq
  omega
 have:=Mz hd fun x hx=>hm x (List.dropLast_subset _ hx)
 rw[List.length_dropLast] at this
 omega
theorem X4 {a b:Nat} {w:List Nat} (h:Jo n p a b w) (ha:a<n):Fp n p a b=some w:=by
 have hlen:=GM h ha
 have h0:=h
 obtain⟨⟨L,hw⟩,hl⟩:=h
 have hwl:=lA hw
 have agB:wl n p (L+1) a b=some w:=by
  cases h1:wl n p (L+1) a b with
  |none=>exact absurd hw (En h1 w)
  |some v=>
   obtain⟨h2,h3⟩:=Ap h1
   rw[LX (h3 _ hw) (hl _ _ h2)]
 refine ahp (k:=L) aq agB fun j hj=>?_
 cases h1:wl n p (j+1) a b with
 |none=>rfl
 |some v=>
  have h2:=O9<|hl _ _ (Ap h1).1
  have h3:=lA (Ap h1).1
  omega
theorem GK (h:Fp n p a b=some w):Jo n p a b w:=by
 obtain⟨L,h1,h2,h3⟩:=EE h
 obtain⟨h4,h5⟩:=Ap h2
 refine⟨⟨L,h4⟩,fun M v hv=>?_⟩
 rcases ar1 M L with hm|rfl|hm
 ·exact absurd hv<|En (h3 M hm) v
 ·exact h5 v hv
 ·exact .inr (.inl (by rw[lA h4,lA hv];omega))
theorem afx {a b:Nat} (h:∀L w,¬pU n p (L+1) a b w):Fp n p a b=none:=by
 cases h1:Fp n p a b with
 |none=>rfl
 |some w=>obtain⟨⟨L,h2⟩,_⟩:=GK h1;exact absurd h2 (h L w)
end
end Go.Ew
namespace Go.Ew
variable {x:Int} {t a k:Nat} {w u:List Nat}
structure Bk (bs:aE) (i j:Int) (w:aE):Prop where
 head:w[0]? =some i
 last:w[w.length-1]? =some j
 len:2≤w.length
 KA:∀t x y,w[t]? =some x→w[t+1]? =some y→bs[y.toNat]? =some x
 ne:∀t,1≤t→t+1<w.length→w[t]?≠some i
 rng:∀x∈w,0≤x∧x<(bs.length:Int)
theorem ahu {bs:aE} {i j:Int} {w v:aE} (h:Bk bs i j w) (k:Bk bs i j v):w=v:=by
 have key:∀s,s<w.length→s<v.length→w[w.length-1-s]? =v[v.length-1-s]?:=by
  intro s
  induction s with
  |zero=>intro _ _;rw[arS,arS,h.last,k.last]
  |succ s ih=>
   intro h1 h2
   have e:=ih aq aq
   have a1:w[w.length-1-(s+1)]? =some w[w.length-1-(s+1)]:=eB aq
   have a2:v[v.length-1-(s+1)]? =some v[v.length-1-(s+1)]:=eB aq
   have b1:w[w.length-1-s]? =some w[w.length-1-s]:=eB aq
   have b2:v[v.length-1-s]? =some v[v.length-1-s]:=eB aq
   have c1:=h.KA _ _ _ a1<|by rw[show w.length-1-(s+1)+1=w.length-1-s from by omega];exact b1
   have c2:=k.KA _ _ _ a2<|by rw[show v.length-1-(s+1)+1=v.length-1-s from by omega];exact b2
   rw[b1,b2] at e
   rw[apm e,c2] at c1
   rw[a1,a2,c1]
 have hl:w.length=v.length:=by
  refine ap7 fun gI=>?_
  have l1:=h.len;have l2:=k.len
  rcases Nat.lt_or_gt_of_ne gI with hc|hc
  ·have:=key (w.length-1) aq aq
   rw[aqq,h.head] at this
   exact k.ne _ aq aq this.symm
  ·have:=key (v.length-1) aq aq
   rw[aqq,k.head] at this
   exact h.ne _ aq aq this
 apply apX
 intro s
 by_cases hs:s<w.length
 ·have:=key (w.length-1-s) aq aq
  rwa [show w.length-1-(w.length-1-s)=s from by omega,show v.length-1-(w.length-1-s)=s from by omega] at this
 ·rw[apz aq,apz aq]
open Classical in
noncomputable def wc (bs:aE) (i j:Int):aE:=if h:∃w,Bk bs i j w then Classical.choose h else []
theorem afv {bs:aE} {i j:Int} {w:aE} (h:Bk bs i j w):wc bs i j=w:=by
 have hh:∃w,Bk bs i j w:=⟨w,h⟩
 unfold wc
 rw[dif_pos hh]
 exact ahu (Classical.choose_spec hh) h
section
variable {bs:aE} {i j:Int} {w:aE} (h:Bk bs i j w)
include h
theorem XU (hx:bs[j.toNat]? =some x):w[w.length-1-1]? =some x:=by
 have l1:=h.len
 have a1:w[w.length-1-1]? =some w[w.length-1-1]:=eB aq
 have:=h.KA _ _ _ a1<|by rw[show w.length-1-1+1=w.length-1 from by omega];exact h.last
 rw[hx] at this
 rw[a1,apm this]
theorem abG:[j]=(w.drop (w.length-1)).reverse:=by
 have l1:=h.len
 have h2:=h.last
 rw[eB aq] at h2
 rw[aqi aq,show w.length-1+1=w.length from by omega,List.drop_length,apm h2];rfl
theorem Qn {l:aE} (ht:1≤t) (PT:t<w.length) (hx:w[t-1]? =some x) (hl:l=(w.drop t).reverse):l++[x]=(w.drop (t-1)).reverse:=by
 have h1:t-1<w.length:=by omega
 rw[eB h1] at hx
 rw[aqi h1,show t-1+1=t from by omega,List.reverse_cons,←hl,apm hx]
theorem abF (ht:1≤t) (PT:t<w.length) (hx:w[t-1]? =some x) (e:x=i):t=1:=by
 refine ap7 fun gI=>?_
 exact h.ne (t-1) aq aq<|by rw[hx,e]
theorem afu {l:aE} (ht:1≤t) (PT:t<w.length) (hx:w[t-1]? =some x) (e:x=i) (hl:l=(w.drop t).reverse):(l++[x]).reverse=w:=by
 have h1:=abF h ht PT hx e
 rw[Qn h ht PT hx hl,List.reverse_reverse,h1];rfl
theorem ZP (ht:1≤t) (hx:w[t-1]? =some x) (e:¬x=i):1≤t-1:=by
 refine ap7 fun gI=>?_
 rw[show t-1=0 from by omega,h.head] at hx
 exact e (apm hx).symm
theorem abH {y:Int} (ht:1≤t) (PT:t<w.length) (hx:w[t-1]? =some x) (e:¬x=i) (hy:bs[x.toNat]? =some y):w[t-1-1]? =some y:=by
 have h1:=ZP h ht hx e
 have a1:w[t-1-1]? =some w[t-1-1]:=eB aq
 have:=h.KA _ _ _ a1<|by rw[show t-1-1+1=t-1 from by omega];exact hx
 rw[hy] at this
 rw[a1,apm this]
theorem Vj (hx:w[t]? =some x):0≤x∧x<(bs.length:Int):=h.rng x (dO hx)
end
def pH (n:Nat) (p:ib) (a:Nat):List Nat:=(List.range n).filter (p a)
def ki (w:List Nat) (k:Nat):Prop:=w.getLast?=some k
def Dn (n:Nat) (p:ib) (E:List (List Nat)) (c t:Nat) (u:List Nat) (k:Nat):Prop:=
 ∃a,ki u a∧k∈pH n p a∧((∃s,s<c∧E[s]? =some u)∨(E[c]? =some u∧k∈(pH n p a).take t))
structure Tr (n:Nat) (p:ib) (i:Nat) (bs:aE) (w:List Nat):Prop where
 wk:∃L b,pU n p L i b w
 KA:∀s x y,w[s]? =some x→w[s+1]? =some y→bs[y]? =some ((x:Nat):Int)
 ne:∀s x,1≤s→w[s]? =some x→x≠i
structure wo (n:Nat) (p:ib) (i j:Nat) (bs:aE) (E:List (List Nat)) (c t:Nat):Prop where
 len:bs.length=n
 hd:E[0]? =some [i]
 ZN:c≤E.length
 inc:∀(s u:Nat) (a b:List Nat),s<u→E[s]? =some a→E[u]? =some b→slt a b
 tr:∀w∈E,Tr n p i bs w
 dn:∀w∈E,w=[i]∨∃u k,w=u++[k]∧Dn n p E c t u k
 al:∀u k,Dn n p E c t u k→k≠j∧(k≠i→∃w∈E,ki w k∧sle w (u++[k]))
 Qm:∀k v,bs[k]? =some v→v≠ -1→k≠j∧(k≠i→∃w∈E,ki w k)
section
variable {n:Nat} {p:ib} {i j:Nat} {bs:aE} {E:List (List Nat)} {c t:Nat}
theorem uR:k∈pH n p a↔k<n∧p a k=true:=by unfold pH;simp[apE]
theorem aan {s u x y:Nat} (hsu:s<u) (hx:(pH n p a)[s]? =some x) (hy:(pH n p a)[u]? =some y):x<y:=by
 have h0:(pH n p a).Pairwise (·<·):=List.Pairwise.filter _ List.pairwise_lt_range
 have h1:=(dZ.1 hx);have h2:=(dZ.1 hy)
 have:=(List.pairwise_iff_getElem.1 h0) s u h1.1 h2.1 hsu
 rw[h1.2,h2.2] at this;exact this
theorem Hq (u:List Nat) (k:Nat):ki (u++[k]) k:=by unfold ki;simp
theorem zj {L b:Nat} (h:pU n p L a b w):ki w b:=by
 unfold ki
 rw[List.getLast?_eq_getElem?,lA h]
 exact xO h
theorem te {b:Nat} (h:ki w a) (k:ki w b):a=b:=by unfold ki at h k;rw[h] at k;exact apm k
theorem Vl (hi:i<n):wo n p i j (List.replicate n (-1)) [[i]] 0 0 where
 len:=by simp
 hd:=rfl
 ZN:=by simp
 inc:=by
  intro s u a b hsu ha hb
  have h2:=(dZ.1 hb).1
  simp at h2;omega
 tr:=by
  intro w hw
  rw[aqD.1 hw]
  refine⟨⟨0,i,J,J⟩,?_,?_⟩
  ·intro s x y _ hy;simp at hy
  ·intro s x hs hx
   have h2:=(dZ.1 hx).1
   simp at h2;omega
 dn:=by intro w hw;exact .inl (aqD.1 hw)
 al:=by
  rintro u k ⟨a,_,_,⟨s,hs,_⟩|⟨_,hk⟩⟩
  ·omega
  ·simp at hk
 Qm:=by
  intro k v hk hv
  have h2:=dZ.1 hk
  obtain⟨h3,h4⟩:=h2
  simp at h4
  exact absurd h4.symm hv
theorem XY (h:wo n p i j bs E c t) (hu:E[c]? =some u) (ha:ki u a) (ht:(pH n p a).length≤t):wo n p i j bs E (c+1) 0:=by
 have hD:∀v k,Dn n p E (c+1) 0 v k↔Dn n p E c t v k:=by
  intro v k
  constructor
  ·rintro⟨b,h1,h2,⟨s,hs,h3⟩|⟨_,h3⟩⟩
   ·rcases aq3.1 hs with hs|rfl
    ·exact⟨b,h1,h2,.inl ⟨s,hs,h3⟩⟩
    ·rw[hu] at h3;cases h3
     obtain rfl:=te ha h1
     exact⟨a,h1,h2,.inr ⟨hu,by rwa [apu ht]⟩⟩
   ·simp at h3
  ·rintro⟨b,h1,h2,⟨s,hs,h3⟩|⟨h3,_⟩⟩
   ·exact⟨b,h1,h2,.inl ⟨s,by omega,h3⟩⟩
   ·exact⟨b,h1,h2,.inl ⟨c,by omega,h3⟩⟩
 refine⟨h.len,h.hd,(dZ.1 hu).1,h.inc,h.tr,?_,?_,h.Qm⟩
 ·intro w hw
  rcases h.dn w hw with e|⟨v,k,e,hd⟩
  ·exact .inl e
  ·exact .inr ⟨v,k,e,(hD v k).2 hd⟩
 ·intro v k hd
  exact h.al v k<|(hD v k).1 hd
theorem Vm {u w:List Nat} {a k:Nat} (h:wo n p i j bs E c t) (hu:E[c]? =some u) (ha:ki u a) (hk:(pH n p a)[t]? =some k) (hw:w∈E):slt w (u++[k]):=by
 have hul:0<u.length:=by
  cases u with
  |nil=>unfold ki at ha;simp at ha
  |cons x u=>simp
 rcases h.dn w hw with rfl|⟨v,m,rfl,b,h1,h2,⟨s,hs,h3⟩|⟨h3,h4⟩⟩
 ·exact .inl (by simp;omega)
 ·exact LV _ _<|h.inc s c v u hs h3 hu
 ·rw[hu] at h3;cases h3
  obtain rfl:=te ha h1
  obtain⟨s,hs⟩:=apG.1 h4
  have re:s<t:=by
   have:=(dZ.1 hs).1
   rw[iH] at this;omega
  rw[apS,apo re] at hs
  exact V3<|aan re hs hk
theorem I8 {v:List Nat} {m:Nat} (hu:E[c]? =some u) (ha:ki u a) (hk:(pH n p a)[t]? =some k) (h:Dn n p E c (t+1) v m):Dn n p E c t v m∨(v=u∧m=k):=by
 obtain⟨b,h1,h2,h3|⟨h3,h4⟩⟩:=h
 ·exact .inl ⟨b,h1,h2,.inl h3⟩
 ·rw[hu] at h3;cases h3
  obtain rfl:=te ha h1
  rw[apW,hk] at h4
  rcases apM.1 h4 with h4|h4
  ·exact .inl ⟨a,h1,h2,.inr ⟨hu,h4⟩⟩
  ·exact .inr ⟨J,by simpa using h4⟩
theorem R6 {m:Nat} (h:Dn n p E c t u m):Dn n p E c (t+1) u m:=by
 obtain⟨b,h1,h2,h3|⟨h3,h4⟩⟩:=h
 ·exact⟨b,h1,h2,.inl h3⟩
 ·exact⟨b,h1,h2,.inr ⟨h3,by
   obtain⟨s,hs⟩:=apG.1 h4
   have re:s<t:=by
    have:=(dZ.1 hs).1
    rw[iH] at this;omega
   rw[apS,apo re] at hs
   exact apG.2 ⟨s,by rw[apS,apo aq];exact hs⟩⟩⟩
theorem XV {v:Int} (h:wo n p i j bs E c t) (hu:E[c]? =some u) (ha:ki u a) (hk:(pH n p a)[t]? =some k) (hv:bs[k]? =some v) (kT:v≠ -1):wo n p i j bs E c (t+1):=by
 refine⟨h.len,h.hd,h.ZN,h.inc,h.tr,?_,?_,h.Qm⟩
 ·intro w hw
  rcases h.dn w hw with e|⟨v,m,e,hd⟩
  ·exact .inl e
  ·exact .inr ⟨v,m,e,R6 hd⟩
 ·intro v' m hd
  rcases I8 hu ha hk hd with hd|⟨rfl,rfl⟩
  ·exact h.al v' m hd
  ·obtain⟨h1,h2⟩:=h.Qm m v hv kT
   refine⟨h1,fun hi=>?_⟩
   obtain⟨w,hw,hwl⟩:=h2 hi
   exact⟨w,hw,hwl,.inr (Vm h hu ha hk hw)⟩
theorem G1 (h:Tr n p i bs w) (hk:bs[k]? =some (-1)):Tr n p i (bs.set k x) w:=by
 refine⟨h.wk,?_,h.ne⟩
 intro s a b ha hb
 have h1:=h.KA s a b ha hb
 rw[aqI]
 split
 ·rename_i e;subst e
  rw[hk] at h1
  have:=apm h1
  omega
 ·exact h1
theorem ahw (h:wo n p i j bs E c t) (Kf:i≠j) (hu:E[c]? =some u) (ha:ki u a) (hk:(pH n p a)[t]? =some i) (hv:bs[i]? =some (-1)):wo n p i j (bs.set i ((a:Nat):Int)) E c (t+1):=by
 refine⟨by rw[apk];exact h.len,h.hd,h.ZN,h.inc,fun w hw=>G1 (h.tr w hw) hv,?_,?_,?_⟩
 ·intro w hw
  rcases h.dn w hw with e|⟨v,m,e,hd⟩
  ·exact .inl e
  ·exact .inr ⟨v,m,e,R6 hd⟩
 ·intro v m hd
  rcases I8 hu ha hk hd with hd|⟨rfl,rfl⟩
  ·exact h.al v m hd
  ·exact⟨Kf,fun hi=>absurd rfl hi⟩
 ·intro m v hm kT
  by_cases e:m=i
  ·exact⟨by rw[e];exact Kf,fun hi=>absurd e hi⟩
  ·rw[ap1 aq] at hm
   exact h.Qm m v hm kT
theorem aak (h:Tr n p i bs u) (ha:ki u a) (hk:k∈pH n p a) (hv:bs[k]? =some (-1)) (AS:k≠i):Tr n p i (bs.set k ((a:Nat):Int)) (u++[k]):=by
 obtain⟨L,b,hw⟩:=h.wk
 obtain rfl:=te ha (zj hw)
 obtain⟨fO,AT⟩:=uR.1 hk
 have hlen:=lA hw
 have h2:=G1 (x:=((a:Nat):Int)) h hv
 refine⟨⟨L+1,k,FF hw fO AT⟩,?_,?_⟩
 ·intro s x y hx hy
  have hs:s+1<(u++[k]).length:=(dZ.1 hy).1
  rw[gj,arc] at hs
  rw[pt aq] at hx
  by_cases gS:s+1<u.length
  ·rw[pt gS] at hy
   exact h2.KA s x y hx hy
  ·rw[oM aq,show s+1-u.length=0 from by omega] at hy
   simp at hy;subst hy
   rw[show s=L from by omega,xO hw] at hx
   cases hx
   rw[apH (by have:=(dZ.1 hv).1;omega)]
 ·intro s x hs hx
  by_cases gS:s<u.length
  ·rw[pt gS] at hx
   exact h.ne s x hs hx
  ·rw[oM aq] at hx
   have:=(dZ.1 hx).1
   simp at this
   rw[show s-u.length=0 from by omega] at hx
   simp at hx;rw[←hx];exact AS
theorem XW (h:wo n p i j bs E c t) (hu:E[c]? =some u) (ha:ki u a) (hk:(pH n p a)[t]? =some k) (hv:bs[k]? =some (-1)) (AS:k≠i) (PU:k≠j):
  wo n p i j (bs.set k ((a:Nat):Int)) (E++[u++[k]]) c (t+1):=by
 have sg:c<E.length:=(dZ.1 hu).1
 have hE:∀s v,s≤c→((E++[u++[k]])[s]? =some v↔E[s]? =some v):=fun s v hs=>by rw[pt aq]
 have hD:∀v m tt,Dn n p (E++[u++[k]]) c tt v m↔Dn n p E c tt v m:=by
  intro v m tt
  constructor
  ·rintro⟨b,h1,h2,⟨s,hs,h3⟩|⟨h3,h4⟩⟩
   ·exact⟨b,h1,h2,.inl ⟨s,hs,(hE s v aq).1 h3⟩⟩
   ·exact⟨b,h1,h2,.inr ⟨(hE c v aq).1 h3,h4⟩⟩
  ·rintro⟨b,h1,h2,⟨s,hs,h3⟩|⟨h3,h4⟩⟩
   ·exact⟨b,h1,h2,.inl ⟨s,hs,(hE s v aq).2 h3⟩⟩
   ·exact⟨b,h1,h2,.inr ⟨(hE c v aq).2 h3,h4⟩⟩
 have Kc:k∈pH n p a:=dO hk
 refine⟨by rw[apk];exact h.len,by rw[pt aq];exact h.hd,by rw[gj];omega,?_,?_,?_,?_,?_⟩
 ·intro s m x y hsm hx hy
  by_cases hm:m<E.length
  ·rw[pt aq] at hx
   rw[pt hm] at hy
   exact h.inc s m x y hsm hx hy
  ·have h1:=(dZ.1 hy).1
   rw[gj,arc] at h1
   rw[oM aq,show m-E.length=0 from by omega] at hy
   simp at hy;subst hy
   rw[pt aq] at hx
   exact Vm h hu ha hk<|dO hx
 ·intro w hw
  rcases apM.1 hw with hw|hw
  ·exact G1 (h.tr w hw) hv
  ·rw[aqD.1 hw]
   exact aak (h.tr u<|dO hu) ha Kc hv AS
 ·intro w hw
  rcases apM.1 hw with hw|hw
  ·rcases h.dn w hw with e|⟨v,m,e,hd⟩
   ·exact .inl e
   ·exact .inr ⟨v,m,e,(hD _ _ _).2 (R6 hd)⟩
  ·refine .inr ⟨u,k,aqD.1 hw,(hD _ _ _).2 ⟨a,ha,Kc,.inr ⟨hu,?_⟩⟩⟩
   exact apG.2 ⟨t,by rw[apS,apo aq];exact hk⟩
 ·intro v m hd
  rcases I8 hu ha hk ((hD _ _ _).1 hd) with hd|⟨rfl,rfl⟩
  ·obtain⟨h1,h2⟩:=h.al v m hd
   refine⟨h1,fun hi=>?_⟩
   obtain⟨w,hw,T0⟩:=h2 hi
   exact⟨w,aqG _ hw,T0⟩
  ·exact⟨PU,fun _=>⟨v++[m],aqA _ (aqD.2 J),Hq _ _,.inl rfl⟩⟩
 ·intro m v hm kT
  by_cases e:m=k
  ·subst e
   exact⟨PU,fun _=>⟨u++[m],aqA _ (aqD.2 J),Hq _ _⟩⟩
  ·rw[ap1 aq] at hm
   obtain⟨h1,h2⟩:=h.Qm m v hm kT
   refine⟨h1,fun hi=>?_⟩
   obtain⟨w,hw,T0⟩:=h2 hi
   exact⟨w,aqG _ hw,T0⟩
theorem NP {u:List Nat} (h:wo n p i j bs E c t) (hu:E[c]? =some u):∀L b w,pU n p L i b w→sle u w∨∃s v,s<c∧E[s]? =some v∧ki v b∧sle v w
 |0,b,w,hw=>by
  obtain⟨rfl,rfl⟩:=hw
  rcases aso c with rfl|hc
  ·rw[h.hd] at hu;cases hu
   exact .inl (.inl rfl)
  ·exact .inr ⟨0,[i],hc,h.hd,J,.inl rfl⟩
 |L+1,b,w,hw=>by
  obtain⟨d,x,h1,h2,h3,rfl⟩:=tC hw
  have eH:slt x (x++[b]):=.inl (by simp)
  rcases NP h hu L d x h1 with h4|⟨s,v,hs,hv,T1,hvx⟩
  ·exact .inl (CT h4<|.inr eH)
  ·obtain⟨h5,h6⟩:=h.al v b ⟨d,T1,uR.2 ⟨h3,h2⟩,.inl ⟨s,hs,hv⟩⟩
   by_cases yy:b=i
   ·subst yy
    exact .inr ⟨0,[b],by omega,h.hd,J,.inr (.inl (by simp[lA h1]))⟩
   ·obtain⟨y,hy,AM,hyv⟩:=h6 yy
    have YT:sle y (x++[b]):=CT hyv<|LW b hvx
    obtain⟨m,hm⟩:=apG.1 hy
    rcases ar1 m c with hmc|rfl|hmc
    ·exact .inr ⟨m,y,hmc,hm,AM,YT⟩
    ·rw[hu] at hm;cases hm
     exact .inl YT
    ·exact .inl (CT (.inr (h.inc c m u y hmc hu hm)) YT)
theorem Vn (h:wo n p i j bs E c t) (hu:E[c]? =some u) (ha:ki u a) (hk:(pH n p a)[t]? =some j):Jo n p i j (u++[j]):=by
 obtain⟨L,b,hw⟩:=(h.tr u (dO hu)).wk
 obtain rfl:=te ha (zj hw)
 obtain⟨h1,h2⟩:=uR.1 (dO hk)
 refine⟨⟨L,FF hw h1 h2⟩,fun M v hv=>?_⟩
 obtain⟨d,x,k1,k2,k3,rfl⟩:=tC hv
 rcases NP h hu M d x k1 with h4|⟨s,y,hs,hy,AM,YT⟩
 ·exact LW j h4
 ·exact absurd J (h.al y j ⟨d,AM,uR.2 ⟨k3,k2⟩,.inl ⟨s,hs,hy⟩⟩).1
theorem Qo (h:wo n p i j bs E E.length 0):∀L b w,pU n p L i b w→∃v∈E,ki v b
 |0,b,w,hw=>by obtain⟨rfl,rfl⟩:=hw;exact⟨[i],dO h.hd,rfl⟩
 |L+1,b,w,hw=>by
  obtain⟨d,x,h1,h2,h3,rfl⟩:=tC hw
  obtain⟨v,hv,T1⟩:=Qo h L d x h1
  obtain⟨s,hs⟩:=apG.1 hv
  obtain⟨h5,h6⟩:=h.al v b ⟨d,T1,uR.2 ⟨h3,h2⟩,.inl ⟨s,(dZ.1 hs).1,hs⟩⟩
  by_cases yy:b=i
  ·subst yy;exact⟨[b],dO h.hd,rfl⟩
  ·obtain⟨y,hy,AM,_⟩:=h6 yy
   exact⟨y,hy,AM⟩
theorem XX (h:wo n p i j bs E E.length 0):Fp n p i j=none:=afx fun L w hw=>by
 obtain⟨d,x,h1,h2,h3,rfl⟩:=tC hw
 obtain⟨v,hv,T1⟩:=Qo h L d x h1
 obtain⟨s,hs⟩:=apG.1 hv
 exact(h.al v j ⟨d,T1,uR.2 ⟨h3,h2⟩,.inl ⟨s,(dZ.1 hs).1,hs⟩⟩).1 rfl
end
end Go.Ew
namespace Go.Ew
variable {ys:aE} {q m:Nat} {v n:Int} {rs:Rows}
theorem XJ (h:q≤ys.length):(GD ys q).length=ys.length:=by unfold GD;simp;omega
theorem JD {xs zs:aE} (hx:xs.length=1) (hm:1≤m) (hz:zs.length=m):(xs++zs.drop xs.length).length=m∧(xs++zs.drop xs.length).take 1=List.replicate 1 (xs.headD 0):=by
 obtain⟨a,rfl⟩:=List.length_eq_one_iff.1 hx
 exact⟨by simp;omega,by simp⟩
theorem Wf (h:ys.take q=List.replicate q v) (hl:ys.length=m) (hq:q<m):(GD ys q).take (q+min q (ys.length-q))=List.replicate (q+min q (ys.length-q)) v:=by
 unfold GD
 rw[h,List.take_replicate,←apY,List.replicate_append_replicate,show min (ys.length-q) q=min q (ys.length-q) from Nat.min_comm _ _]
 exact ar'<|by simp
theorem aaC (h:ys.take q=List.replicate q v) (hl:ys.length=m) (hq:q≤m) (hm:m≤q):ys=List.replicate m v:=by
 rw[apu aq] at h
 rw[h,show q=m from by omega]
theorem IG (h0:0≤n) (h1:n≤4096):(BitVec.ofInt 64 n).toNat=n.toNat:=by
 rw[arb]
 congr 1
 exact Int.emod_eq_of_lt h0<|by show n<18446744073709551616;omega
theorem aaR {x y:bw} (h:x=1#64):
  (x >>> 32)*(y >>> 32)+(((x >>> 32)*(y &&& 4294967295#64)+((x &&& 4294967295#64)*(y &&& 4294967295#64)) >>> 32) >>> 32)+(((((x >>> 32)*(y &&& 4294967295#64)+((x &&& 4294967295#64)*(y &&& 4294967295#64)) >>> 32) &&& 4294967295#64)+(x &&& 4294967295#64)*(y >>> 32)) >>> 32)=0#64:=by
 subst h
 have e1:(1#64:bw) &&& 4294967295#64=1#64:=by decide
 have e2:(1#64:bw) >>> 32=0#64:=by decide
 have e3:∀z:bw,1#64*z=z:=fun z=>BitVec.one_mul z
 have e4:∀z:bw,0#64*z=0#64:=fun z=>BitVec.zero_mul
 have e5:(y &&& 4294967295#64) >>> 32=0#64:=by
  apply aq1
  rw[arp,BitVec.toNat_and,ari]
  have:=Nat.and_lt_two_pow y.toNat<|show (4294967295#64).toNat<2^32 by decide
  rw[arD this];rfl
 have e6:(y >>> 32) >>> 32=0#64:=by
  apply aq1
  rw[arp,arp,ari,ari]
  have:=y.isLt
  show y.toNat/4294967296/4294967296=0
  omega
 have e7:(0#64:bw) >>> 32=0#64:=by decide
 have e8:(0#64:bw) &&& 4294967295#64=0#64:=by decide
 have e9:∀z:bw,0#64+z=z:=fun z=>BitVec.zero_add z
 rw[e1,e2,e4,e4,e3,e3,e5,e9,e9,e7,e8,e9,e9,e6]
def qL (E:List (List Nat)) (c:Nat):aE:=(E.drop c).map fun w=>((w.getLastD 0:Nat):Int)
def Qx (n:Nat) (p:ib) (i j:Int) (bs td:aE):Prop:=∃E c,wo n p i.toNat j.toNat bs E c 0∧td=qL E c
def FB (n:Nat) (p:ib) (i j:Int) (bs td:aE) (x:Int) (q:Nat):Prop:=
 ∃E c u a,wo n p i.toNat j.toNat bs E c q∧E[c]? =some u∧ki u a∧x=((a:Nat):Int)∧td=qL E (c+1)
section
variable {n:Nat} {p:ib} {i j:Int} {bs td:aE} {x k v:Int} {q:Nat}
theorem YC {E:List (List Nat)} {c:Nat} (h:(qL E c)[0]? =some x):∃u,E[c]? =some u∧x=((u.getLastD 0:Nat):Int):=by
 unfold qL at h
 rw[apx,ap6,ap3,apN] at h
 obtain⟨u,h1,h2⟩:=h
 exact⟨u,h1,h2.symm⟩
theorem PI {w:List Nat} {a:Nat} (h:ki w a):w.getLastD 0=a:=by
 unfold ki at h
 rw[List.getLastD_eq_getLast?,h];rfl
theorem NQ {c t:Nat} {E:List (List Nat)} {u:List Nat} {i j:Nat} (hi:i<n) (h:wo n p i j bs E c t) (hu:u∈E):∃a,ki u a∧a<n:=by
 obtain⟨L,b,hw⟩:=(h.tr u hu).wk
 exact⟨b,zj hw,Em hw hi b (dO<|xO hw)⟩
theorem Vp (h0:0≤i) (h1:i.toNat<n):Qx n p i j (List.replicate n (-1)) [i]:=⟨[[i.toNat]],0,Vl h1,by simp[qL,ap0 h0]⟩
theorem afw (hi:i.toNat<n) (h:Qx n p i j bs td) (hx:td[0]? =some x):0≤x∧x.toNat<n:=by
 obtain⟨E,c,hb,rfl⟩:=h
 obtain⟨u,hu,rfl⟩:=YC hx
 obtain⟨a,ha,Uo⟩:=NQ hi hb (dO hu)
 rw[PI ha]
 exact⟨by omega,by omega⟩
theorem abK (hi:i.toNat<n) (h:Qx n p i j bs td) (hx:td[0]? =some x):FB n p i j bs (td.drop 1) x 0:=by
 obtain⟨E,c,hb,rfl⟩:=h
 obtain⟨u,hu,rfl⟩:=YC hx
 obtain⟨a,ha,Uo⟩:=NQ hi hb (dO hu)
 exact⟨E,c,u,a,hb,hu,ha,by rw[PI ha],by unfold qL;rw[←List.map_drop,aqj]⟩
theorem Ev {x:Int} (hk:(wP n (p x.toNat))[q]? =some k):(pH n p x.toNat)[q]? =some k.toNat∧0≤k∧k.toNat<n:=by
 unfold wP rX at hk
 rw[apx,apN] at hk
 obtain⟨m,h1,rfl⟩:=hk
 refine⟨by simpa [pH] using h1,by omega,?_⟩
 have:=(uR.1<|show m∈pH n p x.toNat from dO h1).1
 omega
theorem XZ (h:FB n p i j bs td x q) (hk:(wP n (p x.toNat))[q]? =some k) (hv:bs[k.toNat]? =some v) (kT:¬v= -1):FB n p i j bs td x (q+1):=by
 obtain⟨E,c,u,a,hb,hu,ha,rfl,ht⟩:=h
 obtain⟨h1,h2,h3⟩:=Ev hk
 rw[dS] at h1
 exact⟨E,c,u,a,XV hb hu ha h1 hv kT,hu,ha,J,ht⟩
theorem ahx (h:FB n p i j bs td x q) (hk:(wP n (p x.toNat))[q]? =some k) (hv:bs[k.toNat]? =some v) (kT:v= -1) (PU:¬k=j) (AS:k=i) (hj:0≤j):FB n p i j (bs.set k.toNat x) td x (q+1):=by
 obtain⟨E,c,u,a,hb,hu,ha,rfl,ht⟩:=h
 obtain⟨h1,h2,h3⟩:=Ev hk
 rw[dS] at h1
 subst AS;subst kT
 exact⟨E,c,u,a,ahw hb aq hu ha h1 hv,hu,ha,J,ht⟩
theorem X0 (h:FB n p i j bs td x q) (hk:(wP n (p x.toNat))[q]? =some k) (hv:bs[k.toNat]? =some v) (kT:v= -1) (PU:¬k=j) (AS:¬k=i) (hj:0≤j) (hi:0≤i):FB n p i j (bs.set k.toNat x) (td++[k]) x (q+1):=by
 obtain⟨E,c,u,a,hb,hu,ha,rfl,ht⟩:=h
 obtain⟨h1,h2,h3⟩:=Ev hk
 rw[dS] at h1
 subst kT
 have sg:=(dZ.1 hu).1
 refine⟨E++[u++[k.toNat]],c,u,a,XW hb hu ha h1 hv aq aq,by rw[pt sg];exact hu,ha,J,?_⟩
 unfold qL at ht ⊢
 rw[ase aq,aqW,←ht]
 simp only[apP,List.map_nil,List.getLastD_concat]
 rw[ap0 h2]
theorem X1 (h:FB n p i j bs td x q) (hq:(wP n (p x.toNat)).length≤q):Qx n p i j bs td:=by
 obtain⟨E,c,u,a,hb,hu,ha,rfl,ht⟩:=h
 refine⟨E,c+1,XY hb hu ha ?_,ht⟩
 rw[dS] at hq
 unfold wP rX at hq
 rw[apZ] at hq
 exact hq
theorem Qp (h:Qx n p i j bs td) (ht:td=[]):Fp n p i.toNat j.toNat=none:=by
 obtain⟨E,c,hb,rfl⟩:=h
 unfold qL at ht
 rw[List.map_eq_nil_iff,List.drop_eq_nil_iff] at ht
 have hc:c=E.length:=Nat.le_antisymm hb.ZN ht
 subst hc
 exact XX hb
theorem xE {w:List Nat} {t:Nat}:(rX w)[t]? =some x↔∃m,w[t]? =some m∧x=((m:Nat):Int):=by
 unfold rX
 rw[apx,apN]
 exact⟨fun ⟨m,h1,h2⟩=>⟨m,h1,h2.symm⟩,fun ⟨m,h1,h2⟩=>⟨m,h1,h2.symm⟩⟩
theorem Vo (hi:0≤i∧i.toNat<n) (h:FB n p i j bs td x q) (hk:(wP n (p x.toNat))[q]? =some k) (hv:bs[k.toNat]? =some v) (kT:v= -1) (PU:k=j) (hj:0≤j):
  ∃w,Bk (bs.set k.toNat x) i j (rX w)∧Fp n p i.toNat j.toNat=some w:=by
 obtain⟨E,c,u,a,hb,hu,ha,rfl,ht⟩:=h
 obtain⟨h1,h2,h3⟩:=Ev hk
 rw[dS] at h1
 subst kT;subst PU
 have hB:=Vn hb hu ha h1
 refine⟨u++[k.toNat],?_,X4 hB hi.2⟩
 have hT:=hb.tr u<|dO hu
 obtain⟨L,b,hw⟩:=hT.wk
 obtain rfl:=te ha (zj hw)
 have hT2:=G1 (x:=((a:Nat):Int)) hT hv
 have hlen:=lA hw
 have AR:=(dZ.1 hv).1
 have Hz:(rX (u++[k.toNat])).length=L+2:=by unfold rX;simp[hlen]
 refine⟨?_,?_,by omega,?_,?_,?_⟩
 ·rw[xE]
  exact⟨i.toNat,by rw[pt aq];exact Bd hw,(ap0 hi.1).symm⟩
 ·rw[Hz,xE]
  exact⟨k.toNat,by rw[oM aq,show L+2-1-u.length=0 from by omega];rfl,(ap0 h2).symm⟩
 ·intro t y z hy hz
  obtain⟨m,hm,rfl⟩:=xE.1 hy
  obtain⟨r,hr,rfl⟩:=xE.1 hz
  rw[dS]
  have hs:t+1<(u++[k.toNat]).length:=(dZ.1 hr).1
  rw[gj,arc] at hs
  rw[pt aq] at hm
  by_cases gS:t+1<u.length
  ·rw[pt gS] at hr
   exact hT2.KA t m r hm hr
  ·rw[oM aq,show t+1-u.length=0 from by omega] at hr
   simp only[apC,apy] at hr;subst hr
   rw[show t=L from by omega,xO hw] at hm
   cases hm
   rw[apH AR]
 ·intro t ht1 T4 hc
  rw[Hz] at T4
  obtain⟨m,hm,e⟩:=xE.1 hc
  rw[pt aq] at hm
  exact hT.ne t m ht1 hm aq
 ·intro z hz
  obtain⟨t,ht⟩:=apG.1 hz
  obtain⟨m,hm,rfl⟩:=xE.1 ht
  obtain⟨L2,T0⟩:=hB.1
  have:=Em T0 hi.2 m<|dO hm
  rw[apk,hb.len]
  omega
theorem TJ {k:Nat} (hv:bs[k]? =some v) (kT:v= -1) (hx:0≤x):(bs.set k x).count (-1)+1=bs.count (-1):=by
 subst kT
 obtain⟨h1,h2⟩:=dZ.1 hv
 have Dw:0<bs.count (-1):=List.count_pos_iff.2<|dO hv
 rw[List.count_set h1,h2]
 have gI:(x==(-1:Int))=false:=by rw[beq_eq_false_iff_ne];omega
 rw[gI]
 simp
 omega
end
theorem Au (h:bL n rs=true) {x:Nat} {r:Row} (hx:rs[x]? =some r):cZ r=wP n.toNat (gi rs x):=by rw[pJ h hx,zg]
theorem Hc {bs td:aE} {k x:Int} {z:Nat} (hv:bs[k.toNat]? =some v) (kT:v= -1) (hx:0≤x) (hz:bs.count (-1)+td.length≤z):(bs.set k.toNat x).count (-1)+td.length≤z∧(bs.set k.toNat x).count (-1)+(td++[k]).length≤z:=by
 have h:=TJ hv kT hx
 exact⟨by omega,by rw[gj,arc];omega⟩
def fB (n:Int) (rs:Rows) (i j:Int):Option aE:=if 0≤i∧i<n∧0≤j∧j<n then (Fp n.toNat (gi rs) i.toNat j.toNat).map rX else none
theorem sX {i j:Int} (h:i<0∨n≤i∨j<0∨n≤j):fB n rs i j=none:=by unfold fB;rw[apr aq]
theorem AA {i j:Int} (h:0≤i∧i<n∧0≤j∧j<n):fB n rs i j=(Fp n.toNat (gi rs) i.toNat j.toNat).map rX:=by unfold fB;rw[apo h]
end Go.Ew
namespace Go.Ew
section
variable {n:Nat} {p:ib} {j k s t q i:Nat} {d:aE} {x y:Int}
variable {a:Nat} {b:Int}
variable {out:aE} {at_:Int}
end
section
variable {n:Int} {rs:Rows} {l:aE} {q:Nat} {x y:Int}
end
end Go.Ew
namespace Go.Ew
section
variable {n:Int} {rs:Rows} {a b c x y:Int} (h:bL n rs=true) (ha:0≤a∧a<n) (hb:0≤b∧b<n)
include h ha hb
theorem JF (hs:(fB n rs a b).isSome=true):∃w,(fB n rs a b).getD []=rX w∧Jo n.toNat (gi rs) a.toNat b.toNat w∧a.toNat<n.toNat:=by
 rw[AA ⟨ha.1,ha.2,hb.1,hb.2⟩] at hs ⊢
 cases hf:Fp n.toNat (gi rs) a.toNat b.toNat with
 |none=>rw[hf] at hs;cases hs
 |some w=>exact⟨w,rfl,GK hf,by omega⟩
theorem Wn (hs:(fB n rs a b).isSome=true):2≤((fB n rs a b).getD []).length∧(((fB n rs a b).getD []).length:Int)≤n+1:=by
 obtain⟨w,e,hB,Uo⟩:=JF h ha hb hs
 have h2:=GM hB Uo
 obtain⟨L,hL⟩:=hB.1
 have h1:=lA hL
 rw[e];unfold rX;rw[apZ]
 omega
end
end Go.Ew
namespace Go.Ew
section
variable {n a b:Int} {rs:Rows}
theorem Bx (hs:(fB n rs a b).isSome=true):(0≤a∧a<n)∧0≤b∧b<n:=by
 unfold fB at hs
 split at hs
 ·omega
 ·cases hs
theorem Wl (h:bL n rs=true) (hs:(fB n rs a b).isSome=true):2≤((fB n rs a b).getD []).length∧(((fB n rs a b).getD []).length:Int)≤n+1:=Wn h (Bx hs).1 (Bx hs).2 hs
theorem Wm (h:bL n rs=true) (hs:(fB n rs a b).isSome=true) {q:Nat} {x:Int} (hx:((fB n rs a b).getD [])[q]? =some x):0≤x∧x<n:=by
 obtain⟨w,hw,⟨⟨L,hb⟩, -⟩,hn⟩:=JF h (Bx hs).1 (Bx hs).2 hs
 rw[hw] at hx
 unfold rX at hx
 rw[apx] at hx
 cases hq:w[q]? with
 |none=>rw[hq] at hx;cases hx
 |some y=>
  rw[hq] at hx
  have:=Em hb hn y<|dO hq
  have e:((y:Nat):Int)=x:=apm hx
  omega
end
end Go.Ew
namespace Go.Ew
variable {r a b:Nat} {k:Int}
section
variable (I:List aO) (U:aE)
def GV (k:Int):Prop:=
 (k=1∧∃r:Nat,U[r]? =some (-2))∨
 (k=2∧∃i,i<I.length∧pC I U i i=true)∨
 (k=3∧∃r a,r<I.length∧a<I.length∧U[r]? =some (-1)∧gR I (ml I ((r:Nat):Int)) ((a:Nat):Int)=false∧pC I U a r=true)∨
 (k=4∧∃r a b,r<I.length∧a<I.length∧b<I.length∧U[r]? =some ((b:Nat):Int)∧a≠b∧gR I (ml I ((r:Nat):Int)) ((a:Nat):Int)=false∧pC I U a r=true∧pC I U b a=true)∨
 (k=5∧∃i,i<I.length∧cl I.length (Kw I U) i i=true)∨
 (k=6∧∃o r a,o<I.length∧r<I.length∧a<I.length∧((r:Nat):Int)∈l3 I ((o:Nat):Int)∧U[r]? =some (-1)∧gR I (ml I ((r:Nat):Int)) ((a:Nat):Int)=false∧Ck I U ((o:Nat):Int) a r=true)∨
 (k=7∧∃o i,o<I.length∧i<I.length∧Ck I U ((o:Nat):Int) i i=true)
end
section
variable {I:List aO} {U:aE} {n:Nat} {p:ib}
theorem n3 {α:Type} {l:List α} {q:α→Bool}:(l.find? q).isSome=true↔∃x∈l,q x=true:=by
 rw[List.find?_isSome]
theorem BI:(cV ((n:Nat):Int) (cI n p)).isSome=true↔∃i,i<n∧p i i=true:=by
 unfold cV
 rw[n3,dS]
 constructor
 ·rintro⟨i,hi,h⟩
  have hi:=apq.1 hi
  rw[u2 hi hi] at h
  exact⟨i,hi,h⟩
 ·rintro⟨i,hi,h⟩
  exact⟨i,apq.2 hi,by rw[u2 hi hi];exact h⟩
theorem tx (hr:r<n) {z:Int}:z∈dy I ((n:Nat):Int) (cI n p) ((r:Nat):Int)↔∃a,a<n∧p a r=true∧gR I (ml I ((r:Nat):Int)) ((a:Nat):Int)=false∧z=((a:Nat):Int):=by
 unfold dy bc
 rw[apE]
 unfold fb
 rw[apo aq,xF,dS]
 constructor
 ·rintro⟨⟨a,ha,h,rfl⟩,h2⟩
  refine⟨a,by omega,?_,by simpa using h2,J⟩
  rw[dS,jP aq hr] at h
  exact h
 ·rintro⟨a,ha,h,h2,rfl⟩
  refine⟨⟨a,by omega,?_,J⟩,by rw[h2];rfl⟩
  rw[dS,jP ha hr]
  exact h
theorem AL {l:aE}:decide (0<((l.length:Nat):Int))=true↔∃z,z∈l:=by
 rw[apl]
 cases l with
 |nil=>simp
 |cons a l=>simp only[jb];exact⟨fun _=>⟨a,by simp⟩,fun _=>by omega⟩
theorem vf (hl:U.length=I.length) (hr:r<I.length) {x d:Int}:U.getD r d=x↔U[r]? =some x:=by
 rw[gX,eB aq]
 simp
theorem VX:(pG U k).isSome=true↔∃r:Nat,U[r]? =some (-2):=by
 rw[←O5,apl]
 have h:=uU (p:=fun z_:Int=>decide ((-2)=z_)) (r:=U)
 rw[←apl (p:=0≤_),h,apO]
 simp only[apl]
 constructor
 ·rintro⟨x,hx,rfl⟩
  obtain⟨r,hr⟩:=asa hx
  exact⟨r,hr⟩
 ·rintro⟨r,hr⟩
  exact⟨_,dO hr,J⟩
theorem xi {n:Nat} {q:Nat→Bool}:((List.range n).find? q).isSome=true↔∃i,i<n∧q i=true:=by
 rw[n3]
 simp only[apq]
theorem IS (hl:U.length=I.length) (eH:∀x∈U,x<((I.length:Nat):Int)) (hk:k=1∨k=2∨k=3∨k=4∨k=5∨k=6∨k=7):(ko I U k).isSome=true↔GV I U k:=by
 unfold ko GV
 rcases hk with rfl|rfl|rfl|rfl|rfl|rfl|rfl
 ·simp[VX]
 ·simp only[Int.reduceEq,aq0,aqe,asn,asv,asx,arQ]
  rw[←CZ]
  exact BI
 ·simp only[Int.reduceEq,aq0,aqe,asn,asv,asx,arQ]
  unfold qC A1
  rw[ar0,xi,hl]
  constructor
  ·rintro⟨r,hr,h⟩
   unfold wb at h
   rw[eP,apl,vf hl hr] at h
   obtain⟨z,hz⟩:=AL.1 h.2
   unfold cA at hz
   obtain⟨a,ha,h1,h2,_⟩:=(tx hr).1 hz
   exact⟨r,a,hr,ha,h.1,h2,h1⟩
  ·rintro⟨r,a,hr,ha,h1,h2,h3⟩
   refine⟨r,hr,?_⟩
   unfold wb
   rw[eP,apl,vf hl hr]
   exact⟨h1,AL.2 ⟨((a:Nat):Int),(tx hr).2 ⟨a,ha,h3,h2,J⟩⟩⟩
 ·simp only[Int.reduceEq,aq0,aqe,asn,asv,asx,arQ]
  unfold qD GL
  rw[ar0,xi,hl]
  constructor
  ·rintro⟨r,hr,h⟩
   unfold wH Ah at h
   rw[eP,n3] at h
   obtain⟨h0,z,hz,hq⟩:=h
   have h0:¬U.getD r 0<0:=by simpa using h0
   unfold cA at hz
   obtain⟨a,ha,h1,h2,rfl⟩:=(tx hr).1 hz
   have hb:U[r]? =some (((U.getD r 0).toNat:Nat):Int):=by
    rw[←vf hl hr (d:=0)];omega
   have Cv:=eH _<|dO hb
   unfold Ag at hq
   rw[eP] at hq
   obtain⟨JZ,nK⟩:=hq
   have gI:¬((a:Nat):Int)=U.getD r 0:=by simpa using JZ
   have hcc:((((U.getD r 0).toNat:Nat)):Int)=U.getD r 0:=by omega
   rw[←hcc] at nK
   unfold cA at nK
   rw[u2 aq ha] at nK
   exact⟨r,a,(U.getD r 0).toNat,hr,ha,by omega,hb,by omega,h2,h1,nK⟩
  ·rintro⟨r,a,b,hr,ha,hb,h1,h2,h3,h4,h5⟩
   refine⟨r,hr,?_⟩
   have h1':=(vf hl hr (d:=0)).2 h1
   unfold wH Ah
   rw[eP,n3,h1']
   refine⟨by simp,((a:Nat):Int),(tx hr).2 ⟨a,ha,h4,h3,J⟩,?_⟩
   unfold Ag cA
   rw[eP,u2 hb ha]
   exact⟨by simp;omega,h5⟩
 ·simp only[Int.reduceEq,aq0,aqe,asn,asv,asx,arQ]
  rw[←CZ]
  exact BI
 ·simp only[Int.reduceEq,aq0,aqe,asn,asv,asx,arQ]
  unfold sV Jz
  rw[ar0,xi]
  constructor
  ·rintro⟨o,ho,h⟩
   unfold Jy ET at h
   obtain⟨z,hz,hq⟩:=n3.1 h
   have hz2:z∈cF I ((o:Nat):Int):=by
    unfold l3 bc at hz
    exact(apE.1 hz).1
   unfold CV at hq
   rw[eP,apl] at hq
   obtain⟨h1,h2⟩:=hq
   have hzn:0≤z∧z<((I.length:Nat):Int):=by
    by_cases hz0:0≤z∧z<((I.length:Nat):Int)
    ·exact hz0
    ·exfalso
     rw[AL] at h2
     obtain⟨y,hy⟩:=h2
     unfold dy bc fb at hy
     rw[apr hz0] at hy
     simp at hy
   obtain⟨r,rfl⟩:∃r:Nat,z=((r:Nat):Int):=⟨z.toNat,by omega⟩
   have hr:r<I.length:=by omega
   rw[dS,vf hl hr] at h1
   obtain⟨y,hy⟩:=AL.1 h2
   unfold cY at hy
   obtain⟨a,ha,h3,h4,_⟩:=(tx hr).1 hy
   exact⟨o,r,a,ho,hr,ha,hz,h1,h4,h3⟩
  ·rintro⟨o,r,a,ho,hr,ha,h1,h2,h3,h4⟩
   refine⟨o,ho,?_⟩
   unfold Jy ET
   refine n3.2 ⟨((r:Nat):Int),h1,?_⟩
   unfold CV
   rw[eP,apl,dS,vf hl hr]
   exact⟨h2,AL.2 ⟨((a:Nat):Int),(tx hr).2 ⟨a,ha,h4,h3,J⟩⟩⟩
 ·simp only[Int.reduceEq,aq0,aqe,asn,asv,asx,arQ]
  unfold sU Jq
  rw[ar0,xi]
  constructor
  ·rintro⟨o,ho,h⟩
   unfold Yv at h
   obtain⟨i,hi,h⟩:=BI.1 h
   exact⟨o,i,ho,hi,h⟩
  ·rintro⟨o,i,ho,hi,h⟩
   exact⟨o,ho,BI.2 ⟨i,hi,h⟩⟩
end
structure KM (kH:List aO) (vW:aE) (I:List aO) (U:aE) (g:Nat→Nat):Prop where
 lt:∀a,a<kH.length→g a<I.length
 inj:∀a b,a<kH.length→b<kH.length→g a=g b→a=b
 ah:∀a b,a<kH.length→b<kH.length→CA kH a b=true→CA I (g a) (g b)=true
 fr:∀r x,vW[r]? =some x→U[g r]? =some (if 0≤x then ((g x.toNat:Nat):Int) else x)
 wr:∀a r,a<kH.length→r<kH.length→gR kH (ml kH ((r:Nat):Int)) ((a:Nat):Int)=false→gR I (ml I ((g r:Nat):Int)) ((g a:Nat):Int)=false
 kp:∀o r,o<kH.length→r<kH.length→((r:Nat):Int)∈l3 kH ((o:Nat):Int)→((g r:Nat):Int)∈l3 I ((g o:Nat):Int)
section
variable {kH I:List aO} {vW U:aE} {g:Nat→Nat}
theorem KM.ed (E:KM kH vW I U g) (hl:vW.length=kH.length) (od:U.length=I.length) (ha:a<kH.length) (hb:b<kH.length) (h:HZ kH vW a b=true):HZ I U (g a) (g b)=true:=by
 unfold HZ at h ⊢
 rw[apw] at h ⊢
 rcases h with h|h
 ·exact .inl (E.ah a b ha hb h)
 ·refine .inr ?_
  unfold JC at h ⊢
  rw[apl,vf hl hb] at h
  have:=E.fr b _ h
  rw[apo aq,dS] at this
  rw[apl,vf od (E.lt b hb)]
  exact this
theorem KM.co (E:KM kH vW I U g) (hl:vW.length=kH.length) (od:U.length=I.length) (ha:a<kH.length) (hb:b<kH.length) (h:pC kH vW a b=true):pC I U (g a) (g b)=true:=by
 unfold pC at h
 refine((rC ha hb).1 h).least (ai:=fun x y=>pC I U (g x) (g y)=true) (fun x y hx hy hp=>ud<|E.ed hl od hx hy hp) fun x y z hx hy hz h1 h2=>yK (E.lt y hy) h1 h2
theorem KM.cf (E:KM kH vW I U g) (eH:∀x∈vW,x<((kH.length:Nat):Int)) {p' p:Nat→cg} (hp:∀a b,a<kH.length→b<kH.length→p' a b→p (g a) (g b)) (h:Og kH vW p' a b r):Og I U p (g a) (g b) (g r):=by
 have hb:=eH _<|dO h.fr
 have hf:=E.fr r _ h.fr
 rw[apo aq,dS] at hf
 exact⟨E.lt a h.a1,E.lt r h.r1,hf,fun e=>h.ne (E.inj a b h.a1 aq e),E.wr a b h.a1 aq h.wr,hp a r h.a1 h.r1 h.ah⟩
theorem BG {I:List aO} {U:aE} {o:Nat} (ho:o<I.length) (ha:a<I.length):((a:Nat):Int)∈bR ((I.length:Nat):Int) (cA I U) ((o:Nat):Int)↔pC I U a o=true∨a=o:=by
 unfold bR
 rw[apo aq,xF,dS,dS]
 constructor
 ·rintro⟨k,hk,h,e⟩
  obtain rfl:k=a:=by omega
  rw[apw,apl] at h
  unfold cA at h
  rw[jP hk ho] at h
  exact h
 ·intro h
  refine⟨a,ha,?_,J⟩
  rw[apw,apl]
  unfold cA
  rw[jP ha ho]
  exact h
theorem KM.sn (E:KM kH vW I U g) (hl:vW.length=kH.length) (od:U.length=I.length) (eH:∀x∈vW,x<((kH.length:Nat):Int)) {o:Nat} (ho:o<kH.length) (ha:a<kH.length) (hb:b<kH.length) (h:Ck kH vW ((o:Nat):Int) a b=true):Ck I U ((g o:Nat):Int) (g a) (g b)=true:=by
 have hR:=ack I U ((g o:Nat):Int)
 have key:Qw kH vW ((o:Nat):Int) (fun x y=>x<kH.length→y<kH.length→Ck I U ((g o:Nat):Int) (g x) (g y)=true):=by
  refine⟨fun x y hx hy hc h1 h2 _ _=>?_,fun x y z hx hy hz h1 h2 _ _=>?_,fun x y r hr k hx hy=>?_⟩
  ·rw[BG ho hx] at h1
   rw[BG ho hy] at h2
   refine hR.base _ _ (E.lt x hx) (E.lt y hy) (E.co hl od hx hy hc) ((BG (E.lt o ho)<|E.lt x hx).2 ?_)<|(BG (E.lt o ho)<|E.lt y hy).2 ?_
   ·exact h1.imp (E.co hl od hx ho)<|apj g
   ·exact h2.imp (E.co hl od hy ho)<|apj g
  ·exact hR.trans _ _ _ (E.lt x hx) (E.lt y hy) (E.lt z hz) (h1 hx hy) (h2 hy hz)
  ·exact hR.QR _ _ (g r) (E.kp o r ho k.r1 hr)<|E.cf eH (p:=fun x y=>Ck I U ((g o:Nat):Int) x y=true) (fun a b ha hb hp=>hp ha hb) k
 exact ql.1 h _ key ha hb
end
structure Ci (I:List aO) (U:aE) (t:Nat→Nat):Prop where
 inj:∀a b,a<I.length→b<I.length→t a=t b→a=b
 ah:∀a b,a<I.length→b<I.length→CA I a b=true→t a<t b
 thin:∀r:Nat,U[r]?≠some (-2)
 rf:∀(r b:Nat),r<I.length→b<I.length→U[r]? =some ((b:Nat):Int)→t b<t r∧ml I ((b:Nat):Int)=ml I ((r:Nat):Int)
 last:∀(r a b:Nat),r<I.length→a<I.length→b<I.length→U[r]? =some ((b:Nat):Int)→gR I (ml I ((r:Nat):Int)) ((a:Nat):Int)=false→t a<t r→a≠b→t a<t b
 init:∀(r a:Nat),r<I.length→a<I.length→U[r]? =some (-1)→gR I (ml I ((r:Nat):Int)) ((a:Nat):Int)=false→¬t a<t r
section
variable {I:List aO} {U:aE} {t:Nat→Nat}
theorem Ci.co (E:Ci I U t) (hl:U.length=I.length) (ha:a<I.length) (hb:b<I.length) (h:pC I U a b=true):t a<t b:=by
 refine((rC ha hb).1 h).least (ai:=fun x y=>t x<t y) (fun x y hx hy hp=>?_) fun x y z _ _ _ h1 h2=>asz h1 h2
 unfold HZ at hp
 rw[apw] at hp
 rcases hp with hp|hp
 ·exact E.ah x y hx hy hp
 ·unfold JC at hp
  rw[apl,vf hl hy] at hp
  exact(E.rf y x hy hx hp).1
theorem Ci.cf (E:Ci I U t) (eH:∀x∈U,x<((I.length:Nat):Int)) {p:Nat→cg} (h:Og I U p a b r) (hp:p a r→t a<t r):t a<t b:=by
 have hb:=eH _<|dO h.fr
 have hw:=h.wr
 rw[(E.rf r b h.r1 aq h.fr).2] at hw
 exact E.last r a b h.r1 h.a1 aq h.fr hw (hp h.ah) h.ne
theorem Ci.sn (E:Ci I U t) (hl:U.length=I.length) (eH:∀x∈U,x<((I.length:Nat):Int)) {o:Int} (ha:a<I.length) (hb:b<I.length) (h:Ck I U o a b=true):t a<t b:=by
 refine ql.1 h (fun x y=>t x<t y) ⟨fun x y hx hy hc _ _=>E.co hl hx hy hc,fun x y z _ _ _ h1 h2=>asz h1 h2,fun x y r _ k=>E.cf eH k id⟩
theorem Ci.none (E:Ci I U t) (hl:U.length=I.length) (eH:∀x∈U,x<((I.length:Nat):Int)):¬GV I U k:=by
 unfold GV
 rintro(⟨h0,r,hr⟩|⟨h0,i,hi,h⟩|⟨h0,r,a,hr,ha,h1,h2,h3⟩|⟨h0,r,a,b,hr,ha,hb,h1,h2,h3,h4,h5⟩|⟨h0,i,hi,h⟩|⟨h0,o,r,a,ho,hr,ha,h1,h2,h3,h4⟩|⟨h0,o,i,ho,hi,h⟩)
 ·exact E.thin r hr
 ·exact ars _<|E.co hl hi hi h
 ·exact E.init r a hr ha h1 h2<|E.co hl ha hr h3
 ·have:=E.last r a b hr ha hb h1 h3 (E.co hl ha hr h4) h2
  have:=E.co hl hb ha h5
  omega
 ·refine ars (t i)<|((rC hi hi).1 h).least (ai:=fun x y=>t x<t y) (fun x y hx hy hp=>?_) fun x y z _ _ _ h1 h2=>asz h1 h2
  unfold Kw at hp
  rw[apw,@decide_eq_true_iff _ (Classical.propDecidable _)] at hp
  rcases hp with hp|⟨r,hp⟩
  ·exact E.co hl hx hy hp
  ·exact E.cf eH hp fun h=>E.co hl hp.a1 hp.r1 h
 ·exact E.init r a hr ha h2 h3<|E.sn hl eH ha hr h4
 ·exact ars _<|E.sn hl eH hi hi h
end
section
variable {I kH:List aO} {U vW:aE}
theorem sB (hl:U.length=I.length) (eH:∀x∈U,x<((I.length:Nat):Int)) {lv:Int}:iU I U lv=none↔∀k∈eb lv,¬GV I U k:=by
 unfold iU
 rw[arK]
 refine forall_congr' fun k=>forall_congr' fun hk=>?_
 rw[←IS hl eH (MO hk)]
 cases ko I U k<;>simp
theorem JH {x:yP} (h:ko I U k=some x):x.1=k:=by
 unfold ko at h
 split at h
 ·unfold pG at h;split at h
  ·cases h;rfl
  ·cases h
 ·split at h
  ·unfold kn at h;obtain⟨_,_,rfl⟩:=apN.1 h;rfl
  ·split at h
   ·unfold qC at h;obtain⟨_,_,rfl⟩:=apN.1 h;rfl
   ·split at h
    ·unfold qD at h;obtain⟨_,_,rfl⟩:=apN.1 h;rfl
    ·split at h
     ·unfold kn at h;obtain⟨_,_,rfl⟩:=apN.1 h;rfl
     ·split at h
      ·unfold sV at h;obtain⟨_,_,rfl⟩:=apN.1 h;rfl
      ·unfold sU at h;obtain⟨_,_,rfl⟩:=apN.1 h;rfl
theorem UL (hl:U.length=I.length) (eH:∀x∈U,x<((I.length:Nat):Int)) {t:Nat→Nat} (E:Ci I U t) {lv:Int}:iU I U lv=none:=by
 rw[sB hl eH]
 exact fun k _=>E.none hl eH
end
end Go.Ew
namespace Go.Ew
variable {I:List aO} {U:aE} {lv:Int}
section
variable {xs ys:List eu} {q k:Nat} {x:eu} {z:eu}
theorem abB (h:ys.length=xs.length) (hq:q≤ys.length):((ys.take q++List.replicate (ys.length-q) z).take ((q:Nat):Int).toNat).length≤xs.length:=by
 simp only[dS,iH,gj,oI];omega
theorem abA (h:∀x∈ys,x∈xs) (hq:q≤ys.length):∀x∈(ys.take q++List.replicate (ys.length-q) z).take ((q:Nat):Int).toNat,x∈xs:=by
 rw[dS,aqL (by rw[iH];omega),apu (by rw[iH];omega)]
 exact fun x hx=>h x<|aqF hx
theorem abz (h:ys.length=xs.length∧∀x∈ys,x∈xs) {i:Nat} (hx:ys[i]? =some x):(ys.set k x).length=xs.length∧∀y∈ys.set k x,y∈xs:=by
 refine⟨by rw[apk];exact h.1,fun y hy=>?_⟩
 rcases aqb hy with hy|rfl
 ·exact h.2 y hy
 ·exact h.2 _<|dO hx
end
theorem UW {n:Int} {rs:Rows} (hn:n=((I.length:Nat):Int)) (hr:bL n rs=true) (ey:U.length=I.length) (fP:∀x∈U,x<((I.length:Nat):Int)):oP I.length (cL I U n rs):=by
 subst hn
 have h:=rB (I:=I) (U:=U) hr
 obtain⟨m,p,e,hm,rfl⟩:=ma hr
 obtain rfl:m=I.length:=by omega
 exact EI ey fP h
theorem I_ (h:¬fh I U lv=0):iU I U lv=none:=by
 unfold fh at h
 split at h
 ·exact absurd J h
 ·cases e:iU I U lv<;>simp_all
theorem Qf (h:fh I U lv=0):(iU I U lv).isSome=true:=by
 unfold fh at h
 split at h
 ·assumption
 ·cases h
theorem abn {k r a b o:Int} (h:qO (iU I U lv) k r a b o) (hc:fh I U lv=0) (hk:k=6∨k=7):0≤o∧o<((I.length:Nat):Int):=by
 obtain⟨y,hy⟩:=apL.1 (Qf hc)
 have e:=h.2 y hy
 subst e
 unfold iU at hy
 obtain⟨q,hq,hp⟩:=List.exists_of_findSome?_eq_some hy
 have e:=JH hp
 simp only at e
 subst e
 rcases hk with rfl|rfl
 ·have hp:sV I U 6=some (6,r,a,b,o):=hp
  unfold sV at hp
  obtain⟨o',h1,h2⟩:=apN.1 hp
  simp only[ap8] at h2
  unfold Jz at h1
  have:=apq.1<|arO h1
  omega
 ·have hp:sU I U 7=some (7,r,a,b,o):=hp
  unfold sU at hp
  obtain⟨o',h1,h2⟩:=apN.1 hp
  simp only[ap8] at h2
  unfold Jq at h1
  have:=apq.1<|arO h1
  omega
end Go.Ew
namespace Go.Ew
open Go.RowKit
def pT (s:aY):List (BitVec 8):=s.data.toList.map fun b=>b.toBitVec
def tv (s:aY) (i:Int):Int:=((s[i.toNat]?).map fun c=>((c.toNat:Nat):Int)).getD 0
theorem afr {s:aY} {i:Int} {c:UInt8} (h:s[i.toNat]? =some c):tv s i=((c.toNat:Nat):Int):=by unfold tv;rw[h];rfl
theorem GA {s:aY} {i j:Nat} (h:i≤j) (h2:j≤s.size):(s.extract i j).size=j-i:=by rw[ByteArray.size_extract];omega
theorem D0 (s:aY) (i j:Nat):(s.extract i j).size≤s.size:=by rw[ByteArray.size_extract];omega
theorem u7 (s:aY):(pT s).length=s.size:=by unfold pT;rw[apZ,ap9];rfl
section
variable {P:Program} {n:Nat} {ops:Array Oper} {f:aR} {w:aJ} {K:aR→aJ→Prop} {x y:Operand} {d:Nat} {ty T T2 e:TypeId} {ps:String} {af:Array Edge} {M M0:cg} {w0:aJ} {l:List Item} {B:Nat} {a:Option Addr} {k c:Nat} {s:aY} {lo hi:Int} {rL px:Operand}
theorem QM (ox:bM n x=true) (ol:bM n rL=true) (oh:bM n px=true) (hx:ev f x=.string s) (hl:ev f rL=.int .i64 lo) (hh:ev f px=.int .i64 hi) (hb:0≤lo∧lo≤hi∧hi≤(s.size:Int)) (hu:P.underlying T=some .string) (h:K (cq f d (.string (s.extract lo.toNat hi.toNat))) w):
  SO P n ops ⟨some d,.slice T x (some rL) (some px) none,ty,ps,af,none⟩ f w K:=by
 refine SO.value (v:=.string (s.extract lo.toNat hi.toNat)) (w':=w) ?_ h
 simp[execOp,aP ox,aP ol,aP oh,hx,hl,hh,Instr.sliceAt,gO hu,run_slice_string (P:=P) w T s .i64 .i64 lo hi hu hb.1 hb.2.1 hb.2.2]
theorem V6 (ox:bM n x=true) (ol:bM n rL=true) (hx:ev f x=.string s) (hl:ev f rL=.int .i64 lo) (hb:0≤lo∧lo≤(s.size:Int)) (hu:P.underlying T=some .string) (h:K (cq f d (.string (s.extract lo.toNat s.size))) w):
  SO P n ops ⟨some d,.slice T x (some rL) none none,ty,ps,af,none⟩ f w K:=by
 refine SO.value (v:=.string (s.extract lo.toNat s.size)) (w':=w) ?_ h
 simp[execOp,aP ox,aP ol,hx,hl,Instr.sliceAt,gO hu,run_slice_string_l (P:=P) w T s hu .i64 lo hb.1 hb.2]
theorem ajf (ox:bM n x=true) (oh:bM n px=true) (hx:ev f x=.string s) (hh:ev f px=.int .i64 hi) (hb:0≤hi∧hi≤(s.size:Int)) (hu:P.underlying T=some .string) (h:K (cq f d (.string (s.extract 0 hi.toNat))) w):
  SO P n ops ⟨some d,.slice T x none (some px) none,ty,ps,af,none⟩ f w K:=by
 refine SO.value (v:=.string (s.extract 0 hi.toNat)) (w':=w) ?_ h
 simp[execOp,aP ox,aP oh,hx,hh,Instr.sliceAt,gO hu,run_slice_string_h (P:=P) w T s hu .i64 hi hb.1 hb.2]
theorem Oq (s:aY) (cap i:Nat) {b:BitVec 8} (h:(pT s)[i]? =some b):(bytesRow s cap)[i]? =some (U8 b):=by
 have hi:=(dZ.1 h).1
 rw[u7] at hi
 unfold pT at h
 rw[apx,aqB] at h
 unfold bytesRow
 have ux:i<s.data.size:=hi
 rw[arf (by simpa using ux),Array.getElem?_map]
 rw[Array.getElem?_eq_getElem ux] at h ⊢
 simp only[aqC,apy] at h ⊢
 rw[←h]
 rfl
theorem ak6 (H:HI M0 w0 w l) (ox:bM n x=true) (hx:ev f x=.string s) (pZ:s.size≤maxLen) (hs:P.underlying T=some .string) (hd:P.underlying T2=some (.slice e)) (he:P.underlying e=some (.int .u8))
  (h:∀a c w',Ext w w'→HI M0 w0 w' (sf (.slice a (pT s).length c) (pT s)::l)→K (cq f d (.slice a (pT s).length c)) w'):
  SO P n ops ⟨some d,.convert T T2 x,ty,ps,af,none⟩ f w K:=by
 have hr:=run_bytes_of_string (P:=P) w T T2 e s hs hd he
 have hX:Ext w (w.drew.alloc (.cells (bytesRow s (grownCap w s.size 0 e)) e ((bytesRow s (grownCap w s.size 0 e)).size,(bytesRow s (grownCap w s.size 0 e)).size+1))):=(Ext.drew w).trans (Ext.alloc _ _)
 have hk:K (cq f d (.slice (some ⟨w.heap.size,0,none⟩) (pT s).length (grownCap w s.size 0 e))) _:=h _ _ _ hX<|(H.ext hX).put rfl (RV.list.2 ⟨_,_,_,J,J,by rw[u7];exact grownCap_ge w s.size 0 e,grownCap_le_maxLen w s.size 0 e pZ,.inr ⟨_,J,fun i b hb=>?_⟩⟩)
 ·refine SO.value (v:=.slice (some ⟨w.heap.size,0,none⟩) s.size (grownCap w s.size 0 e)) ?_<|by rw[u7] at hk;exact hk
  simp[execOp,aP ox,hx,hr]
 ·have lE:(⟨w.heap.size,0,none⟩:Addr).add (i*GT.size (BitVec 8))=⟨w.heap.size,i,none⟩:=by show Addr.add _ (i*1)=_;rw[GR,arx]
  rw[lE]
  refine⟨[U8 b],J,fun hM=>?_,fun j v hj=>?_⟩
  ·exact absurd (H.mb _ hM)<|ars _
  ·cases j with
   |succ j=>simp at hj
   |zero=>
    simp only[apC,apy] at hj
    subst hj
    rw[show ((⟨w.heap.size,i,none⟩:Addr).add 0)=⟨w.heap.size,i,none⟩ from by unfold Addr.add;simp]
    have hg:(w.drew.alloc (.cells (bytesRow s (grownCap w s.size 0 e)) e ((bytesRow s (grownCap w s.size 0 e)).size,(bytesRow s (grownCap w s.size 0 e)).size+1))).heap[w.heap.size]? =some (.cells (bytesRow s (grownCap w s.size 0 e)) e ((bytesRow s (grownCap w s.size 0 e)).size,(bytesRow s (grownCap w s.size 0 e)).size+1)):=by
     show (w.heap.push _)[w.heap.size]? =_
     simp
    rw[cell_of_row _ w.heap.size _ _ e _ hg]
    exact Oq s _ i hb
theorem YP {kk:IntKind} {i:Int} (ox:bM n x=true) (oy:bM n y=true) (hx:ev f x=.string s) (hy:ev f y=.int kk i) (hi:0≤i∧i<(s.size:Int)) (hu:P.underlying T=some .string)
  (h:K (cq f d (.int .u8 (tv s i))) w):SO P n ops ⟨some d,.index T x y,ty,ps,af,none⟩ f w K:=
 ixS ox oy hx hy hi hu fun c hc=>by rw[←afr hc];exact h
theorem aje {i j:Int} (ox:bM n x=true) (oy:bM n y=true) (hx:ev f x=.int .u8 i) (hy:ev f y=.int .u8 j) (hi:0≤i-j∧i-j≤255) (h:K (cq f d (.int .u8 (i-j))) w):SO P n ops ⟨some d,.binOp .sub T x y T2,ty,ps,af,none⟩ f w K:=
 bin ox oy hx hy (by simp[binOp,Op.intArith,(w8 hi.1 hi.2).1]) h
theorem IB (b:bw):IntKind.i64.wrap (b.toNat:Int)=b.toInt:=by
 have:=b.isLt
 unfold IntKind.wrap
 rw[arM]
 simp[IntKind.bits,IntKind.signed]
 split<;>split<;>omega
theorem cvT {e:TypeDesc} {b:bw} (ox:bM n x=true) (hx:ev f x=aj b) (h1:P.underlying T=some e) (h2:P.underlying T2=some (.int .i64)) (h:K (cq f d (.int .i64 b.toInt)) w):
  SO P n ops ⟨some d,.convert T T2 x,ty,ps,af,none⟩ f w K:=
 cv ox hx h1 h2 (by rw[IB];exact h)
end
end Go.Ew
namespace Go.Ew
variable {s:aY} {vs:List aY} {m:List (aY×Int)}
structure Sm (cs:aY):Prop where
 two:2≤cs.size
 low:cs.size<4294967281
 asc:∀(j:Nat) b,cs.data.toList[j]? =some b→b.toNat<128
def trimB (s cs:aY):aY:=⟨(Go.Lib.trimS s.data.toList cs.data.toList).toArray⟩
def CQ (s cs:aY):aY:=⟨(Go.Lib.trimLeftS s.data.toList cs.data.toList).toArray⟩
abbrev sO:aY:=⟨#[97,98,99,100,101,102,103,104,105,106,107,108,109,110,111,112,113,114,115,116,117,118,119,120,121,122]⟩
abbrev qt:aY:=⟨#[48,49,50,51,52,53,54,55,56,57]⟩
theorem OU:Sm sO:=⟨by decide,by decide,fun j b h=>by
 have:∀b∈sO.data.toList,b.toNat<128:=by decide
 exact this b (dO h)⟩
theorem Io:Sm qt:=⟨by decide,by decide,fun j b h=>by
 have:∀b∈qt.data.toList,b.toNat<128:=by decide
 exact this b (dO h)⟩
theorem dropWhile_nil {α:Type} {p:α→Bool}:∀{l:List α},l.dropWhile p=[]↔l.all p=true
 |[]=>by simp
 |a::l=>by
  rw[List.dropWhile_cons,List.all_cons]
  cases h:p a
  ·simp
  ·simp only[aq0,aqc];exact dropWhile_nil
theorem SE {l cs:List UInt8}:Go.Lib.trimS l cs=[]↔l.all (cs.contains ·)=true:=by
 unfold Go.Lib.trimS Go.Lib.trimLeftS Go.Lib.trimRightS
 rw[dropWhile_nil]
 constructor
 ·intro h
  have h1:(l.reverse.dropWhile (cs.contains ·)).all (cs.contains ·)=true:=by rw[←ar7];exact h
  have h2:l.reverse.dropWhile (cs.contains ·)=[]:=by
   cases e:l.reverse.dropWhile (cs.contains ·) with
   |nil=>rfl
   |cons a t=>
    rw[e,List.all_cons,eP] at h1
    have:=List.head?_dropWhile_not (cs.contains ·) l.reverse
    rw[e] at this
    simp only[List.head?_cons] at this
    rw[h1.1] at this;cases this
  have:=dropWhile_nil.1 h2
  rwa [ar7] at this
 ·intro h
  rw[ar7]
  have:l.reverse.dropWhile (cs.contains ·)=[]:=dropWhile_nil.2<|by rw[ar7];exact h
  rw[this];rfl
theorem Jr {cs:aY}:trimB s cs=⟨#[]⟩↔s.data.toList.all (cs.data.toList.contains ·)=true:=by
 rw[←SE]
 unfold trimB
 constructor
 ·intro h
  have:=apj (fun x:aY=>x.data.toList) h
  simpa using this
 ·intro h;rw[h]
theorem ES (s cs:aY):(CQ s cs).size≤s.size:=by
 show (Go.Lib.trimLeftS s.data.toList cs.data.toList).toArray.size≤s.data.size
 rw[aqT,←ap9]
 exact(List.dropWhile_sublist _).length_le
theorem OM (c:UInt8):sO.data.toList.contains c=wO c:=by
 have:∀n:Fin 256,sO.data.toList.contains (UInt8.ofNat n.1)=wO (UInt8.ofNat n.1):=by decide +kernel
 have:=this ⟨c.toNat,c.toNat_lt⟩
 simpa using this
theorem F2:mF s=(bif !decide (s=⟨#[]⟩) then (bif decide ((s.size:Int)≤8) then decide (trimB s sO=⟨#[]⟩) else false) else false):=by
 have h1:decide (trimB s sO=⟨#[]⟩)=s.data.toList.all wO:=by
  rw[apF,apl,Jr]
  rw[show (fun x=>sO.data.toList.contains x)=wO from funext OM]
 have h2:(!decide (s=⟨#[]⟩))=decide (1≤s.size):=by
  rw[apF]
  simp only[aqo,apA,apl]
  constructor
  ·intro h
   rcases aso s.size with h0|h0
   ·exact absurd (by cases s with|mk a=>exact apj ByteArray.mk (aq6 h0)) h
   ·exact h0
  ·rintro h rfl
   exact absurd h aw
 have h3:decide ((s.size:Int)≤8)=decide (s.size≤8):=by rw[aqE];omega
 rw[h1,h2,h3]
 unfold mF
 cases s.data.toList.all wO<;>cases decide (1≤s.size)<;>cases decide (s.size≤8)<;>rfl
theorem EV {h:dp}:jG h=(bif decide ((h.flatten.length:Int)≤4096) then !(h.flatten.any (fun (x_:jL)=>!(mF x_.2.1))) else false):=by
 unfold jG
 have h1:(!(h.flatten.any (fun (x_:jL)=>!(mF x_.2.1))))=h.flatten.all AG:=by
  rw[←List.not_all_eq_any_not,Bool.not_not];rfl
 have h2:decide ((h.flatten.length:Int)≤4096)=decide (h.flatten.length≤4096):=by rw[aqE];omega
 rw[h1,h2]
 cases h.flatten.all AG<;>cases decide (h.flatten.length≤4096)<;>rfl
def Cg (vs:List aY) (m:List (aY×Int)):Prop:=∀s,fT m s=if gE vs s<0 then none else some (gE vs s)
theorem WR:Cg [] []:=fun s=>rfl
theorem R2 (vs:List aY) (a s:aY):gE (vs++[a]) s=if gE vs s<0 then (if a=s then (vs.length:Int) else -1) else gE vs s:=by
 unfold gE eM
 rw[asb]
 cases e:vs.findIdx? (Hs s) with
 |some i=>show ((i:Nat):Int)=if ((i:Nat):Int)<0 then _ else ((i:Nat):Int);rw[apr aq]
 |none=>
  simp only[Option.none_or,List.findIdx?_cons,List.findIdx?_nil]
  unfold Hs
  by_cases h:a=s<;>simp[h]
theorem WS (h:Cg vs m) (hs:(fT m s).isSome=true):(fT m s).getD 0=gE vs s∧¬gE vs s<0:=by
 rw[h s] at hs ⊢
 by_cases h0:gE vs s<0
 ·rw[apo h0] at hs;cases hs
 ·rw[apr h0];exact⟨rfl,h0⟩
theorem JQ (h:Cg vs m) (hs:(fT m s).isSome=false):gE vs s<0:=by
 rw[h s] at hs
 by_cases h0:gE vs s<0
 ·exact h0
 ·rw[apr h0] at hs;cases hs
theorem WQ (h:Cg vs m) (hs:(fT m s).isSome=false):Cg (vs++[s]) (lV m s ((vs.length:Nat):Int)):=by
 intro t
 have h0:=JQ h hs
 rw[Xs,R2,h t]
 by_cases e:t=s
 ·subst e
  rw[apo rfl,apo h0,apo rfl,apr aq]
 ·have e2:¬s=t:=fun k=>e k.symm
  rw[apr e]
  by_cases h1:gE vs t<0
  ·simp only[h1,e2,aq0,aqe];rfl
  ·simp only[h1,aqe]
section
variable {h:dp} {i q:Nat} {vs:List aY} {aI:List aO} {m:List (aY×Int)} {x0:List jL} {x1:jL}
theorem PN (h1:vs=(jS i (iN h i) (h.getD i []) q).1) (h2:aI=(jS i (iN h i) (h.getD i []) q).2) (hm:Cg vs m) (aN:h[((i:Nat):Int).toNat]? =some x0) (cO:x0[((q:Nat):Int).toNat]? =some x1) (hs:(fT m x1.2.1).isSome=false):
  vs++[x1.2.1]=(jS i (iN h i) (h.getD i []) (q+1)).1∧aI++[(((i:Nat):Int),((q:Nat):Int),x1.1,((vs.length:Nat):Int),x1.2.2)]=(jS i (iN h i) (h.getD i []) (q+1)).2:=by
 have hf:=JQ hm hs
 subst h1 h2
 rw[fD aN] at *
 exact xW cO hf
theorem PM (h1:vs=(jS i (iN h i) (h.getD i []) q).1) (h2:aI=(jS i (iN h i) (h.getD i []) q).2) (hm:Cg vs m) (aN:h[((i:Nat):Int).toNat]? =some x0) (cO:x0[((q:Nat):Int).toNat]? =some x1) (hs:(fT m x1.2.1).isSome=true):
  vs=(jS i (iN h i) (h.getD i []) (q+1)).1∧aI++[(((i:Nat):Int),((q:Nat):Int),x1.1,(fT m x1.2.1).getD 0,x1.2.2)]=(jS i (iN h i) (h.getD i []) (q+1)).2:=by
 obtain⟨e,hf⟩:=WS hm hs
 rw[e]
 subst h1 h2
 rw[fD aN] at *
 exact xV cO hf
end
theorem UG {α:Type} (h:List (List α)) (j:Nat):((h.take j).flatten).length≤h.flatten.length:=by
 conv=>rhs;rw[←aqz j h]
 rw[List.flatten_append,gj];omega
end Go.Ew
namespace Go.Ew
variable {L:List UInt8}
def jX (s p:aY):Bool:=bif decide ((p.size:Int)≤(s.size:Int)) then decide (s.extract 0 (p.size:Int).toNat=p) else false
def eK (s p:aY):aY:=bif jX s p then s.extract (p.size:Int).toNat s.size else s
abbrev j0:aY:=⟨#[45]⟩
def gD (s:aY) (a:Int):Int:=bif decide (a<0)||decide ((s.size:Int)≤a) then 0 else ((s.extract a.toNat s.size).size:Int)-((CQ (eK (s.extract a.toNat s.size) j0) qt).size:Int)
theorem rF (s p:aY):(eK s p).size≤s.size:=by
 unfold eK
 cases jX s p
 ·exact apn _
 ·exact D0 _ _ _
theorem VZ {s:aY} {a:Int} (h:0≤a∧a≤(s.size:Int)):0≤gD s a∧a+gD s a≤(s.size:Int):=by
 unfold gD
 cases e:(decide (a<0)||decide ((s.size:Int)≤a)) with
 |true=>show (0:Int)≤0∧a+0≤_;omega
 |false=>
  show (0:Int)≤_-_∧a+(_-_)≤_
  have h1:=rF (s.extract a.toNat s.size) j0
  have h2:=ES (eK (s.extract a.toNat s.size) j0) qt
  have h3:=GA (s:=s) (i:=a.toNat) (j:=s.size) aq<|apn _
  omega
def ng (m:Nat):List UInt8→Nat→Option Nat
 |[],n=>some n
 |c::l,n=>if (m-(c.toNat-48))/10<n then none else ng m l (10*n+(c.toNat-48))
def B6 (s:aY):aY:=eK s j0
def lW (s:aY):Bool:=decide (eK s j0=⟨#[]⟩)||(!decide (trimB (eK s j0) qt=⟨#[]⟩)||(decide (tv (eK s j0) 0=48)&&!decide (s=⟨#[48]⟩)))
def pb (s:aY):Nat:=bif jX s j0 then 9223372036854775808 else 9223372036854775807
def gp (s:aY):Int×Int:=bif lW s then (0,2) else match ng (pb s) (B6 s).data.toList 0 with
 |none=>(0,3)
 |some n=>(bif jX s j0 then -((n:Nat):Int) else ((n:Nat):Int),0)
theorem Eo {m:Nat} (h9:9≤m):∀{l:List UInt8} {n k:Nat},(∀c∈l,48≤c.toNat∧c.toNat≤57)→n≤m→ng m l n=some k→k≤m
 |[],n,k,_,hn,h=>by cases h;exact hn
 |c::l,n,k,hl,hn,h=>by
  unfold ng at h
  split at h
  ·cases h
  ·rename_i hc
   have:=hl c<|by simp
   exact Eo h9 (fun x hx=>hl x<|by simp[hx]) aq h
theorem xw {s:aY} (h:trimB s qt=⟨#[]⟩):∀c∈s.data.toList,48≤c.toNat∧c.toNat≤57:=by
 intro c hc
 have h1:=aps.1 (Jr.1 h) c hc
 have:∀n:Fin 256,qt.data.toList.contains (UInt8.ofNat n.1)=true→48≤(UInt8.ofNat n.1).toNat∧(UInt8.ofNat n.1).toNat≤57:=by decide +kernel
 have:=this ⟨c.toNat,c.toNat_lt⟩
 simp only[UInt8.ofNat_toNat] at this
 exact this h1
theorem FY (s:aY):aK (gp s).1∧0≤(gp s).2∧(gp s).2≤3:=by
 unfold gp
 cases hb:lW s with
 |true=>show aK 0∧(0:Int)≤2∧(2:Int)≤3;exact⟨by unfold aK;decide,by decide,by decide⟩
 |false=>
  show aK (Prod.fst (match ng (pb s) (B6 s).data.toList 0 with|none=>_|some n=>_))∧_
  cases e:ng (pb s) (B6 s).data.toList 0 with
  |none=>show aK 0∧(0:Int)≤3∧(3:Int)≤3;exact⟨by unfold aK;decide,by decide,by decide⟩
  |some n=>
   have hd:trimB (B6 s) qt=⟨#[]⟩:=by
    unfold lW at hb
    simp only[aq5,arv,apl] at hb
    exact hb.2.1
   refine⟨?_,by show (0:Int)≤0;decide,by show (0:Int)≤3;decide⟩
   show aK (bif jX s j0 then -((n:Nat):Int) else ((n:Nat):Int))
   have hle:=Eo (m:=pb s) (by unfold pb;cases jX s j0<;>decide) (xw hd) (aqH _) e
   unfold pb at hle
   unfold aK
   cases h:jX s j0<;>rw[h] at hle
   ·have hle:n≤9223372036854775807:=hle
    show -9223372036854775808≤((n:Nat):Int)∧((n:Nat):Int)≤9223372036854775807
    omega
   ·have hle:n≤9223372036854775808:=hle
    show -9223372036854775808≤ -((n:Nat):Int)∧ -((n:Nat):Int)≤9223372036854775807
    omega
section
variable {s dg:aY} {m nv:bw} {x:BitVec 8} {j:Nat}
theorem Jf (h:(pT dg)[((j:Nat):Int).toNat]? =some x):∃c:UInt8,dg.data.toList[j]? =some c∧c.toBitVec=x:=by
 rw[dS] at h
 unfold pT at h
 rw[apx] at h
 exact apN.1 h
theorem U5 (h:trimB dg qt=⟨#[]⟩) (hx:(pT dg)[((j:Nat):Int).toNat]? =some x):48≤x.toNat∧x.toNat≤57:=by
 obtain⟨c,h1,rfl⟩:=Jf hx
 exact xw h c<|dO h1
theorem Qb (h:48≤x.toNat∧x.toNat≤57):(BitVec.ofInt 64 (((x.toNat:Nat):Int)-48)).toNat=x.toNat-48:=by
 rw[arb]
 show (((x.toNat:Int)-48)%18446744073709551616).toNat=_
 omega
theorem Qc (h:48≤x.toNat∧x.toNat≤57) (hm:9≤m.toNat):((m-BitVec.ofInt 64 (((x.toNat:Nat):Int)-48))/10#64).toNat=(m.toNat-(x.toNat-48))/10:=by
 rw[BitVec.toNat_udiv,BitVec.toNat_sub,Qb h]
 have:=m.isLt
 show (2^64-(x.toNat-48)+m.toNat)%2^64/10=_
 congr 1
 omega
theorem aaO (h:48≤x.toNat∧x.toNat≤57) (hm:9≤m.toNat) (hx:∃c:UInt8,L[j]? =some c∧c.toBitVec=x) (hs:ng m.toNat L 0=ng m.toNat (L.drop j) nv.toNat) (hc:decide (((m-BitVec.ofInt 64 (((x.toNat:Nat):Int)-48))/10#64).toNat<nv.toNat)=true):ng m.toNat L 0=none:=by
 obtain⟨c,h1,rfl⟩:=hx
 rw[apl,Qc h hm] at hc
 rw[hs,aqi (dZ.1 h1).1,(dZ.1 h1).2]
 unfold ng
 exact apo hc
theorem WG (h:48≤x.toNat∧x.toNat≤57) (hm:9≤m.toNat) (hx:∃c:UInt8,L[j]? =some c∧c.toBitVec=x) (hs:ng m.toNat L 0=ng m.toNat (L.drop j) nv.toNat) (hc:decide (((m-BitVec.ofInt 64 (((x.toNat:Nat):Int)-48))/10#64).toNat<nv.toNat)=false):ng m.toNat L 0=ng m.toNat (L.drop (j+1)) (10#64*nv+BitVec.ofInt 64 (((x.toNat:Nat):Int)-48)).toNat:=by
 obtain⟨c,h1,rfl⟩:=hx
 rw[apA,Qc h hm] at hc
 have e:(10#64*nv+BitVec.ofInt 64 (((c.toBitVec.toNat:Nat):Int)-48)).toNat=10*nv.toNat+(c.toBitVec.toNat-48):=by
  rw[BitVec.toNat_add,BitVec.toNat_mul,Qb h]
  have:=m.isLt
  show (10*nv.toNat%2^64+(c.toBitVec.toNat-48))%2^64=_
  omega
 rw[hs,aqi (dZ.1 h1).1,(dZ.1 h1).2,e]
 conv=>lhs;unfold ng
 exact apr hc
theorem Py (hs:ng m.toNat L 0=ng m.toNat (L.drop j) nv.toNat) (hj:L.length≤j):ng m.toNat L 0=some nv.toNat:=by
 rw[hs,List.drop_of_length_le hj];rfl
theorem aaQ (s:aY):9≤pb s:=by unfold pb;cases jX s j0<;>decide
theorem Qr (h:lW s=false):trimB (eK s j0) qt=⟨#[]⟩:=by
 unfold lW at h
 simp only[aq5,arv,apl] at h
 exact h.2.1
theorem aby (h:¬eK s j0=⟨#[]⟩):(0:Int)<((eK s j0).size:Int):=by
 rcases aso (eK s j0).size with h0|h0
 ·exfalso
  refine h ?_
  cases e:eK s j0 with
  |mk a=>rw[e] at h0;exact apj ByteArray.mk (aq6 h0)
 ·omega
theorem FZ (h:lW s=true):gp s=(0,2):=by unfold gp;rw[h];rfl
theorem WK (h:lW s=false) (hv:ng (pb s) (B6 s).data.toList 0=none):gp s=(0,3):=by unfold gp;rw[h,hv];rfl
theorem WJ (h:lW s=false) (hp:jX s j0=true) (hv:ng (pb s) (B6 s).data.toList 0=some nv.toNat):gp s=((-nv).toInt,0):=by
 have hr:=Eo (m:=pb s) (by unfold pb;cases jX s j0<;>decide) (xw (by
  unfold lW at h
  simp only[aq5,arv,apl] at h
  exact h.2.1)) (aqH _) hv
 unfold pb at hr
 rw[hp] at hr
 have hr:nv.toNat≤9223372036854775808:=hr
 unfold gp
 rw[h,hv,hp]
 show (-((nv.toNat:Nat):Int),(0:Int))=_
 congr 1
 rw[arM,BitVec.toNat_neg]
 have:=nv.isLt
 by_cases h0:nv.toNat=0
 ·simp[h0]
 ·rw[arC aq]
  split<;>omega
theorem WI (h:lW s=false) (hp:jX s j0=false) (hv:ng (pb s) (B6 s).data.toList 0=some nv.toNat):gp s=(nv.toInt,0):=by
 have hr:=Eo (m:=pb s) (by unfold pb;cases jX s j0<;>decide) (xw (by
  unfold lW at h
  simp only[aq5,arv,apl] at h
  exact h.2.1)) (aqH _) hv
 unfold pb at hr
 rw[hp] at hr
 have hr:nv.toNat≤9223372036854775807:=hr
 unfold gp
 rw[h,hv,hp]
 show (((nv.toNat:Nat):Int),(0:Int))=_
 congr 1
 rw[arM]
 split<;>omega
end
def cH (s:aY) (a e b:Int):Bool:=bif decide (e=0) then (bif decide (a<(s.size:Int)) then decide (tv s a=b) else false) else false
def eT (s:aY) (a e b:Int):Int:=bif cH s a e b then a+1 else a
def cu (e x:Int):Int:=bif decide (e=0) then x else e
def BF (s:aY) (a e b:Int):Int×Int:=bif cH s a e b then (a+1,e) else (a,cu e 2)
def MA (s:aY):Nat→Int→Int
 |0,a=>a
 |k+1,a=>bif (bif decide (a<(s.size:Int)) then (bif decide (97≤tv s a) then decide (tv s a≤122) else false) else false) then MA s k (a+1) else a
def zN (s:aY) (a e:Int) (j:Nat):Int:=bif decide (e=0) then MA s (8-j) (a+((j:Nat):Int)) else a+((j:Nat):Int)
def K_ (s:aY) (a e:Int):Int×Int×aY:=(zN s a e 0,(bif decide (zN s a e 0=a) then cu e 2 else e),s.extract a.toNat (zN s a e 0).toNat)
def Mx (s:aY) (a e:Int):Int×Int×Int:=bif !decide (e=0) then (a,e,0) else bif !decide ((gp (s.extract a.toNat (a+gD s a).toNat)).2=0) then (a,cu e (gp (s.extract a.toNat (a+gD s a).toNat)).2,0) else (a+gD s a,e,(gp (s.extract a.toNat (a+gD s a).toNat)).1)
def JK (s:aY) (a on e:Int):Int:=bif (bif decide (on=4096) then (bif cH s a e 119 then true else cH s a e 114) else false) then cu e 3 else e
def JJ (s:aY) (a e:Int):Int×Int:=bif cH s a e 119 then (eT s a e 119,e) else BF s (eT s a e 119) e 114
def AF (s:aY) (a on e:Int):Int×Int×jL:=
 let e1:=JK s a on e
 let m1:=JJ s a e1
 let m2:=BF s m1.1 m1.2 58
 let nm:=K_ s m2.1 m2.2
 let m3:=BF s nm.1 nm.2.1 61
 let nb:=Mx s m3.1 m3.2
 (nb.1,nb.2.1,cH s a e1 119,nm.2.2,nb.2.2)
def BA (s:aY):Nat→Int→Int→Int→List jL→Int×Int×Int×List jL
 |0,a,on,e,l=>(a,on,e,l)
 |k+1,a,on,e,l=>bif cH s a e 32 then BA s k (AF s (eT s a e 32) on e).1 (on+1) (AF s (eT s a e 32) on e).2.1 (l++[(AF s (eT s a e 32) on e).2.2]) else (a,on,e,l)
def zh (s:aY) (a on e:Int):Int×Int×Int×List jL:=
 bif cH s a e 10 then (eT s a e 10,on,e,[]) else
  let o:=AF s (eT s a e 10) on e
  let L:=BA s (s.size+1) o.1 (on+1) o.2.1 [o.2.2]
  let m:=BF s (eT s L.1 L.2.2.1 32) L.2.2.1 10
  (m.1,L.2.1,m.2,L.2.2.2)
def pX (s:aY):Nat→Int→Int→Int→dp→Int×Int×Int×dp
 |0,a,on,e,h=>(a,on,e,h)
 |k+1,a,on,e,h=>bif (bif decide (e=0) then decide (a<(s.size:Int)) else false) then pX s k (zh s a on e).1 (zh s a on e).2.1 (zh s a on e).2.2.1 (h++[(zh s a on e).2.2.2]) else (a,on,e,h)
def kM (s:aY):dp×Int×Int:=
 bif !decide ((pX s (s.size+1) 0 0 0 []).2.2.1=0) then ([],(pX s (s.size+1) 0 0 0 []).1,(pX s (s.size+1) 0 0 0 []).2.2.1) else ((pX s (s.size+1) 0 0 0 []).2.2.2,0,0)
section
variable {s:aY} {a e b x:Int} {j:Nat}
theorem IK (h:cH s a e b=true):e=0∧a<(s.size:Int)∧tv s a=b:=by
 unfold cH at h
 cases h1:decide (e=0)<;>rw[h1] at h
 ·cases h
 ·cases h2:decide (a<(s.size:Int))<;>rw[h2] at h
  ·cases h
  ·exact⟨ap5 h1,ap5 h2,ap5 h⟩
theorem cx (h:0≤a∧a≤(s.size:Int)):a≤eT s a e b∧eT s a e b≤(s.size:Int)∧eT s a e b≤a+1:=by
 unfold eT
 cases h1:cH s a e b
 ·show a≤a∧a≤_∧a≤a+1;omega
 ·have:=IK h1
  show a≤a+1∧a+1≤_∧a+1≤a+1;omega
theorem lF (h:0≤e∧e≤3) (hx:0≤x∧x≤3):0≤cu e x∧cu e x≤3:=by
 unfold cu
 cases decide (e=0)
 ·exact h
 ·exact hx
theorem Am {p:Int} (hp:p=a+((j:Nat):Int)) (h:(bif decide (e=0) then (bif decide (p-a<8) then (bif decide (p<(s.size:Int)) then (bif decide (97≤tv s p) then decide (tv s p≤122) else false) else false) else false) else false)=false):zN s a e j=p:=by
 subst hp
 unfold zN
 cases h1:decide (e=0)
 ·rfl
 ·rw[h1] at h
  show MA s (8-j) _=_
  have h:(bif decide (a+((j:Nat):Int)-a<8) then _ else false)=false:=h
  cases h2:decide (a+((j:Nat):Int)-a<8)
  ·have:8-j=0:=by have:=aqZ h2;omega
   rw[this];rfl
  ·rw[h2] at h
   obtain⟨k,hk⟩:∃k,8-j=k+1:=⟨8-j-1,by have:=ap5 h2;omega⟩
   rw[hk]
   show (bif _ then _ else _)=_
   have h:(bif decide (a+((j:Nat):Int)<(s.size:Int)) then (bif decide (97≤tv s (a+((j:Nat):Int))) then decide (tv s (a+((j:Nat):Int))≤122) else false) else false)=false:=h
   rw[h];rfl
theorem Z9 {p:Int} (hp:p=a+((j:Nat):Int)) (h0:decide (e=0)=true) (h1:decide (p-a<8)=true) (h2:decide (p<(s.size:Int))=true) (h3:decide (97≤tv s p)=true) (h4:decide (tv s p≤122)=true):zN s a e j=zN s a e (j+1):=by
 subst hp
 unfold zN
 rw[h0]
 obtain⟨k,hk⟩:∃k,8-j=k+1:=⟨8-j-1,by have:=ap5 h1;omega⟩
 rw[hk,show 8-(j+1)=k from by omega]
 show MA s (k+1) _=MA s k _
 conv=>lhs;unfold MA
 rw[h2,h3,h4]
 show MA s k _=_
 congr 1
 push_cast
 omega
theorem WN (h:(!cH s a e b)=false):e=0→e=0∧eT s a e b=a+1:=fun h0=>⟨h0,by unfold eT;rw[show cH s a e b=true by simpa using h];rfl⟩
theorem P7 (h:cu e 2=0):False:=by
 unfold cu at h
 cases h1:decide (e=0)<;>rw[h1] at h
 ·exact aqZ h1 h
 ·exact absurd (show (2:Int)=0 from h) aw
theorem Xz (hx:¬x=0) (h:cu e x=0):False:=by
 unfold cu at h
 cases h1:decide (e=0)<;>rw[h1] at h
 ·exact aqZ h1 h
 ·exact hx h
section
variable {k:Nat} {p n a2 e2:Int} {l:List jL} {o:jL} {Z:Int×Int×Int×List jL} {h:dp}
theorem WB (hs:Z=BA s k p n e l) (hk:1≤k) (h:cH s p e 32=true) (ho:AF s (eT s p e 32) n e=(a2,e2,o)):Z=BA s (k-1) a2 (n+1) e2 (l++[o]):=by
 obtain⟨q,rfl⟩:∃q,k=q+1:=⟨k-1,by omega⟩
 rw[hs]
 conv=>lhs;unfold BA
 rw[h,ho];rfl
theorem WA (hs:Z=BA s k p n e l) (h:cH s p e 32=false):Z=(p,n,e,l):=by
 rw[hs]
 cases k with
 |zero=>rfl
 |succ k=>unfold BA;rw[h];rfl
theorem Rf {n2:Int} {Y:Int×Int×Int×dp} (hs:Y=pX s k p n e h) (hk:1≤k) (h1:decide (e=0)=true) (h2:decide (p<(s.size:Int))=true) (ho:zh s p n e=(a2,n2,e2,l)):Y=pX s (k-1) a2 n2 e2 (h++[l]):=by
 obtain⟨q,rfl⟩:∃q,k=q+1:=⟨k-1,by omega⟩
 rw[hs]
 conv=>lhs;unfold pX
 rw[h1,h2,ho];rfl
theorem Hl {Y:Int×Int×Int×dp} (hs:Y=pX s k p n e h) (hc:(bif decide (e=0) then decide (p<(s.size:Int)) else false)=false):Y=(p,n,e,h):=by
 rw[hs]
 cases k with
 |zero=>rfl
 |succ k=>unfold pX;rw[hc];rfl
end
end
end Go.Ew
namespace Go.Ew
def lC (h:dp) (s p:Nat):Nat:=((h.take s).flatten).length+p
def nW (h:dp) (s p:Nat) (o:jL):Prop:=∃l,h[s]? =some l∧l[p]? =some o
theorem nW.lt {h:dp} {s p:Nat} {o:jL} (a:nW h s p o):s<h.length:=by
 obtain⟨l,h1,h2⟩:=a
 exact(dZ.1 h1).1
theorem UM {vs:List aY} {s:aY} (h:¬gE vs s<0):∃v:Nat,gE vs s=((v:Nat):Int)∧vs[v]? =some s:=by
 unfold gE eM at *
 cases e:vs.findIdx? (Hs s) with
 |none=>rw[e] at h;exact absurd aw h
 |some i=>
  obtain⟨h1,h2,_⟩:=apK.1 e
  unfold Hs at h2
  rw[apl] at h2
  exact⟨i,J,by rw[eB h1,h2]⟩
theorem Xx {vs:List aY} {s:aY} (h:gE vs s<0):s∉vs:=by
 have:=uU (p:=Hs s) (r:=vs)
 unfold gE at h
 rw[apv aq] at this
 intro hm
 have h2:=aq9.1 this.symm s hm
 unfold Hs at h2
 simp at h2
theorem abS {vs:List aY} (s:aY) (hn:vs.Nodup):∃(V:List aY) (v:Nat),Jh vs s=vs++V∧(vs++V).Nodup∧Mw vs s=((v:Nat):Int)∧(vs++V)[v]? =some s:=by
 unfold Jh Mw
 by_cases h:gE vs s<0
 ·rw[apo h,apo h]
  refine⟨[s],vs.length,J,?_,J,by simp⟩
  rw[aq7]
  refine⟨hn,by simp,fun a ha b hb e=>Xx h ?_⟩
  simp at hb
  rw[←hb,←e];exact ha
 ·rw[apr h,apr h]
  obtain⟨v,h1,h2⟩:=UM h
  exact⟨[],v,by simp,by simpa using hn,h1,by simpa using h2⟩
theorem Jt (i:Nat) (st:zM) (ops:List jL) (hn:st.1.Nodup):∀k,k≤ops.length→∃(V:List aY) (L:List aO),jS i st ops k=(st.1++V,st.2++L)∧(st.1++V).Nodup∧L.length=k∧
  ∀p op,p<k→ops[p]? =some op→∃v:Nat,L[p]? =some (((i:Nat):Int),((p:Nat):Int),op.1,((v:Nat):Int),op.2.2)∧(st.1++V)[v]? =some op.2.1
 |0,_=>⟨[],[],by rw[Bi];simp,by simpa using hn,rfl,fun p op h=>absurd h (aq2 _)⟩
 |k+1,hk=>by
  obtain⟨V,L,h1,h2,h3,h4⟩:=Jt i st ops hn k aq
  have hx:ops[((k:Nat):Int).toNat]? =some ops[k]:=by rw[dS];exact eB aq
  obtain⟨V2,v,e1,e2,e3,e4⟩:=abS ops[k].2.1 h2
  refine⟨V++V2,L++[(((i:Nat):Int),((k:Nat):Int),ops[k].1,((v:Nat):Int),ops[k].2.2)],?_,by rw[←apY];exact e2,by simp[h3],fun p op hp hop=>?_⟩
  ·rw[xT hx,h1]
   unfold u9
   simp only
   rw[e1,e3,apY,apY]
  ·by_cases hpk:p<k
   ·obtain⟨u,h5,h6⟩:=h4 p op hpk hop
    refine⟨u,by rw[pt aq];exact h5,?_⟩
    rw[←apY,pt (dZ.1 h6).1];exact h6
   ·obtain rfl:p=k:=by omega
    rw[eB aq] at hop
    obtain rfl:=apm hop
    exact⟨v,by rw[oM aq,h3];simp,by rw[←apY];exact e4⟩
theorem Ca (h:dp):∀j,j≤h.length→(iN h j).1.Nodup∧∀s p op,s<j→nW h s p op→∃v:Nat,(iN h j).2[lC h s p]? =some (((s:Nat):Int),((p:Nat):Int),op.1,((v:Nat):Int),op.2.2)∧(iN h j).1[v]? =some op.2.1
 |0,_=>⟨by simp[iN],fun s p op hs=>absurd hs (aq2 _)⟩
 |j+1,hj=>by
  obtain⟨h1,h2⟩:=Ca h j aq
  have hx:h[((j:Nat):Int).toNat]? =some h[j]:=by rw[dS];exact eB aq
  have hl:=(B_ h j aq).1
  obtain⟨V,L,e1,e2,e3,e4⟩:=Jt j (iN h j) h[j] h1 h[j].length (apn _)
  rw[zI hx]
  unfold L4
  rw[e1]
  refine⟨e2,fun s p op hs ho=>?_⟩
  by_cases hsj:s<j
  ·obtain⟨v,h3,h4⟩:=h2 s p op hsj ho
   exact⟨v,by rw[pt (dZ.1 h3).1];exact h3,by rw[pt (dZ.1 h4).1];exact h4⟩
  ·obtain rfl:s=j:=by omega
   obtain⟨l,k1,k2⟩:=ho
   rw[eB aq] at k1
   obtain rfl:=apm k1
   obtain⟨v,h3,h4⟩:=e4 p op (dZ.1 k2).1 k2
   refine⟨v,?_,h4⟩
   unfold lC
   rw[←hl,oM aq,show (iN h s).2.length+p-(iN h s).2.length=p by omega]
   exact h3
theorem na {h:dp} {s p:Nat} {op:jL} (ho:nW h s p op):∃v:Nat,(eY h)[lC h s p]? =some (((s:Nat):Int),((p:Nat):Int),op.1,((v:Nat):Int),op.2.2)∧(zA h)[v]? =some op.2.1:=
 (Ca h h.length (apn _)).2 s p op ho.lt ho
theorem OP (h:dp):(zA h).Nodup:=(Ca h h.length (apn _)).1
theorem Tj (l:List jL) (t:dp) (s p:Nat):lC (l::t) (s+1) p=l.length+lC t s p:=by
 unfold lC;rw[List.take_succ_cons,aqU,gj];omega
theorem O7:∀(h:dp) {i:Nat},i<h.flatten.length→∃s p op,nW h s p op∧i=lC h s p
 |[],i,hi=>by simp at hi
 |l::t,i,hi=>by
  by_cases hl:i<l.length
  ·exact⟨0,i,l[i],⟨l,J,eB hl⟩,by unfold lC;simp⟩
  ·rw[aqU,gj] at hi
   obtain⟨s,p,op,⟨l',h1,h2⟩,h3⟩:=O7 t (i:=i-l.length) aq
   exact⟨s+1,p,op,⟨l',h1,h2⟩,by rw[Tj];omega⟩
section
variable {h:dp} {s p s' p':Nat} {op wN:jL}
theorem acW (ho:nW h s p op):lC h s p<(eY h).length:=by
 obtain⟨v,h1,_⟩:=na ho
 exact(dZ.1 h1).1
theorem SJ {i:Nat} (hi:i<(eY h).length):∃s p op,nW h s p op∧i=lC h s p:=O7 h (by rwa [zB] at hi)
theorem Pa (ho:nW h s p op):j' (eY h) (lC h s p)=((s:Nat):Int)∧kP (eY h) (lC h s p)=((p:Nat):Int):=by
 obtain⟨v,h1,_⟩:=na ho
 unfold j' kP
 rw[gX,h1]
 exact⟨J,J⟩
theorem afJ (ho:nW h s p op) (vL:nW h s' p' wN):CA (eY h) (lC h s p) (lC h s' p')=true↔s=s'∧p<p':=by
 unfold CA
 rw[eP,eP,apl,apl,apl,(Pa ho).1,(Pa vL).1]
 constructor
 ·rintro⟨⟨h1,h2⟩,h3⟩
  obtain rfl:s=s':=by omega
  unfold lC at h1
  exact⟨J,by omega⟩
 ·rintro⟨rfl,h1⟩
  exact⟨⟨by unfold lC;omega,acW vL⟩,J⟩
theorem BE {v v':Nat} {a b:aY} (h1:(zA h)[v]? =some a) (h2:(zA h)[v']? =some b):v=v'↔a=b:=by
 constructor
 ·rintro rfl;rw[h1] at h2;exact apm h2
 ·rintro rfl
  have l1:=(dZ.1 h1).1
  have l2:=(dZ.1 h2).1
  exact(List.getElem?_inj l1<|OP h).1 (h1.trans h2.symm)
theorem Su (ho:nW h s p op) (vL:nW h s' p' wN):gR (eY h) (ml (eY h) ((lC h s' p':Nat):Int)) ((lC h s p:Nat):Int)=false↔op.1=true∧op.2.1=wN.2.1:=by
 obtain⟨v,h1,h2⟩:=na ho
 obtain⟨v',h3,h4⟩:=na vL
 rw[Lw aq (by rw[dS];exact h1)]
 unfold ml
 rw[dS,h3]
 simp only[aqC,arB,aq5,arv,apl]
 rw[←BE h2 h4]
 exact and_congr Iff.rfl aq
end
section
variable {h:dp} {s p s' p':Nat} {op wN:jL}
theorem Nu (ho:nW h s p op) (hw:op.1=true):(fR (eY h))[lC h s p]? =some (-3):=by
 obtain⟨v,h1,h2⟩:=na ho
 unfold fR
 rw[apx,h1]
 show some (si _ _)=_
 rw[←HK (x:=(((s:Nat):Int),((p:Nat):Int),op.1,((v:Nat):Int),op.2.2)) hw]
theorem abj (ho:nW h s p op) (hw:op.1=false) (h0:op.2.2=0):(fR (eY h))[lC h s p]? =some (-1):=by
 obtain⟨v,h1,h2⟩:=na ho
 unfold fR
 rw[apx,h1]
 show some (si _ _)=_
 rw[←HN (x:=(((s:Nat):Int),((p:Nat):Int),op.1,((v:Nat):Int),op.2.2)) hw h0]
theorem ae9 (hc:(dC (eY h)).2.2=0) (ho:nW h s p op) (hw:op.1=false) (h0:op.2.2≠0) (vL:nW h s' p' wN) (E6:wN.1=true) (hn:wN.2.1=op.2.1) (hv:wN.2.2=op.2.2):(fR (eY h))[lC h s p]? =some ((lC h s' p':Nat):Int):=by
 obtain⟨v,h1,h2⟩:=na ho
 obtain⟨v',h3,h4⟩:=na vL
 rw[hn] at h4
 obtain rfl:=(BE h2 h4).2 rfl
 have hg:=(NH hc (j:=lC h s' p') (by rw[dS];exact h3) E6).2
 simp only at hg
 rw[hv] at hg
 unfold fR
 rw[apx,h1]
 show some (si _ _)=_
 rw[←HL (x:=(((s:Nat):Int),((p:Nat):Int),op.1,((v:Nat):Int),op.2.2)) hw h0 (by rw[apl];simp only;rw[hg];omega)]
 simp only
 rw[hg]
 congr 1
 omega
theorem abk (ho:nW h s p op) (hw:op.1=false) (h0:op.2.2≠0) (hm:∀s' p' wN,nW h s' p' wN→wN.1=true→wN.2.1=op.2.1→wN.2.2=op.2.2→False):(fR (eY h))[lC h s p]? =some (-2):=by
 obtain⟨v,h1,h2⟩:=na ho
 unfold fR
 rw[apx,h1]
 show some (si _ _)=_
 rw[←HM (x:=(((s:Nat):Int),((p:Nat):Int),op.1,((v:Nat):Int),op.2.2)) hw h0 ?_]
 rw[apA]
 intro vN
 simp only at vN
 unfold gG eM at vN
 cases e:(eY h).findIdx? (lH ((v:Nat):Int) op.2.2) with
 |none=>rw[e] at vN;exact absurd vN aw
 |some i=>
  obtain⟨k1,k2,_⟩:=apK.1 e
  obtain⟨s',p',wN,vL,rfl⟩:=SJ k1
  obtain⟨v',h3,h4⟩:=na vL
  rw[eB k1] at h3
  rw[apm h3] at k2
  unfold lH at k2
  simp only[eP,apl] at k2
  obtain⟨⟨k3,k4⟩,k5⟩:=k2
  exact hm s' p' wN vL k3 ((BE h4 h2).1 aq) k5
end
end Go.Ew
namespace Go.Ew
theorem TH {h:dp} (ho:fS h=true):jG h=true∧(dC (eY h)).2.2=0∧me h=eY h∧mg h=fR (eY h):=by
 have h1:=ho
 unfold fS at h1
 rw[eP,apl] at h1
 obtain⟨hr,hc⟩:=h1
 rw[(tP hr).2.1] at hc
 exact⟨hr,hc,by rw[(xC ho).2.1,(tP hr).2.1],by rw[(xC ho).2.2,(tP hr).2.1]⟩
section
variable {h:dp} {s n:Nat} {l:List jL} {o:jL}
end
section
variable {h g:dp} {σ σ':Nat→Nat} {ρ:aY→aY}
end
def xo (I:List aO) (v:Int):Nat→Int
 |0=> -1
 |r+1=>if gR I v ((r:Nat):Int)=false then ((r:Nat):Int) else xo I v r
theorem va (I:List aO) (v:Int):∀r,(xo I v r= -1∧∀a,a<r→gR I v ((a:Nat):Int)=true)∨∃a,a<r∧xo I v r=((a:Nat):Int)∧gR I v ((a:Nat):Int)=false∧∀b,b<r→gR I v ((b:Nat):Int)=false→b≤a
 |0=>.inl ⟨rfl,fun a h=>absurd h (aq2 _)⟩
 |r+1=>by
  unfold xo
  by_cases hw:gR I v ((r:Nat):Int)=false
  ·rw[apo hw]
   exact .inr ⟨r,by omega,J,hw,fun b hb _=>by omega⟩
  ·rw[apr hw]
   have hw:gR I v ((r:Nat):Int)=true:=by simpa using hw
   rcases va I v r with ⟨h1,h2⟩|⟨a,h1,h2,h3,h4⟩
   ·refine .inl ⟨h1,fun a ha=>?_⟩
    by_cases e:a=r
    ·rw[e];exact hw
    ·exact h2 a aq
   ·refine .inr ⟨a,by omega,h2,h3,fun b hb hbw=>?_⟩
    by_cases e:b=r
    ·rw[e,hw] at hbw;cases hbw
    ·exact h4 b aq hbw
def Yg (I:List aO) (U:aE):Prop:=∀r,r<I.length→fk I ((r:Nat):Int)=false→U[r]? =some (xo I (ml I ((r:Nat):Int)) r)
theorem TA {l:List jL} {s p:Nat} {o:jL}:nW [l] s p o↔s=0∧l[p]? =some o:=by
 unfold nW
 constructor
 ·rintro⟨l',h1,h2⟩
  cases s with
  |zero=>simp at h1;subst h1;exact⟨rfl,h2⟩
  |succ s=>simp at h1
 ·rintro⟨rfl,h⟩;exact⟨l,rfl,h⟩
theorem one_pos (l:List jL) (p:Nat):lC [l] 0 p=p:=by unfold lC;simp
theorem ID {h:dp} {s p:Nat} {o:jL} (ho:nW h s p o):fk (eY h) ((lC h s p:Nat):Int)=o.1:=by
 obtain⟨v,h1,_⟩:=na ho
 unfold fk;rw[dS,h1];rfl
theorem Tz {l:List jL} (hc:(dC (eY [l])).2.2=0) {lv:Int} (HA:lv=1∨lv=2∨lv=3):iU (eY [l]) (fR (eY [l])) lv=none↔Yg (eY [l]) (fR (eY [l])):=by
 have hlen:(eY [l]).length=l.length:=by rw[zB];simp
 have sp:∀{r:Nat} (h:r<l.length),nW [l] 0 r (l[r]'h):=fun h=>TA.2 ⟨J,eB h⟩
 have ps:=one_pos l
 constructor
 ·intro hf
  rw[sB (vV _) Gz] at hf
  have yw:∀k,k=1∨k=2∨k=3∨k=4→¬GV (eY [l]) (fR (eY [l])) k:=by
   intro k hk
   refine hf k ?_
   rcases HA with rfl|rfl|rfl<;>rcases hk with rfl|rfl|rfl|rfl<;>decide
  intro r hr hw
  rw[hlen] at hr
  have ho:=sp hr
  have E6:=ID ho
  rw[ps] at E6
  rw[E6] at hw
  have co:∀a b,a<b→b<l.length→pC (eY [l]) (fR (eY [l])) a b=true:=by
   intro a b Fa hb
   refine ud ?_
   unfold HZ
   rw[apw]
   refine .inl ?_
   have:=(afJ (sp<|show a<l.length by omega)<|sp hb).2 ⟨J,Fa⟩
   rwa [ps,ps] at this
  have lw:=va (eY [l]) (ml (eY [l]) ((r:Nat):Int)) r
  by_cases h0:(l[r]).2.2=0
  ·have e:=abj ho hw h0
   rw[ps] at e
   rcases lw with ⟨h1,_⟩|⟨a,h1,h2,h3,h4⟩
   ·rw[e,h1]
   ·exact absurd (.inr (.inr (.inl ⟨J,r,a,by omega,by omega,e,h3,co a r h1 hr⟩)))<|yw 3 aq
  ·by_cases hm:∃j,∃hj:j<l.length,(l[j]).1=true∧(l[j]).2.1=(l[r]).2.1∧(l[j]).2.2=(l[r]).2.2
   ·obtain⟨j,hj,m1,m2,m3⟩:=hm
    have e:=ae9 hc ho hw h0 (sp hj) m1 m2 m3
    rw[ps,ps] at e
    have hwj:gR (eY [l]) (ml (eY [l]) ((r:Nat):Int)) ((j:Nat):Int)=false:=by
     have:=(Su (sp hj) ho).2 ⟨m1,m2⟩
     rwa [ps,ps] at this
    have hjr:j≠r:=by rintro rfl;rw[m1] at hw;cases hw
    by_cases eH:r<j
    ·refine absurd (.inr (.inl ⟨J,r,by omega,?_⟩))<|yw 2 aq
     refine yK (b:=j) aq (co r j eH hj)<|ud ?_
     unfold HZ JC
     rw[apw,apl]
     exact .inr ((vf (vV _) aq).2 e)
    ·rcases lw with ⟨h1,h2⟩|⟨a,h1,h2,h3,h4⟩
     ·have:=h2 j aq
      rw[hwj] at this;cases this
     ·have hle:=h4 j aq hwj
      by_cases ea:a=j
      ·rw[e,h2,ea]
      ·exact absurd (.inr (.inr (.inr (.inl ⟨J,r,a,j,by omega,by omega,by omega,e,ea,h3,co a r h1 hr,co j a aq aq⟩))))<|yw 4 aq
   ·refine absurd (.inl ⟨J,r,?_⟩)<|yw 1 aq
    have:=abk ho hw h0 fun s' p' wN a b c d=>?_
    ·rwa [ps] at this
    ·obtain⟨rfl,a2⟩:=TA.1 a
     obtain⟨a3,a4⟩:=dZ.1 a2
     exact hm ⟨p',a3,by rw[a4];exact⟨b,c,d⟩⟩
 ·intro hL
  refine UL (vV _) Gz (t:=id) ⟨fun _ _ _ _ e=>e,fun a b ha hb e=>?_,fun r e=>?_,fun r b hr hb e=>?_,fun r a b hr ha hb e hw eH gI=>?_,fun r a hr ha e hw eH=>?_⟩
  ·unfold CA at e
   simp only[eP,apl] at e
   exact e.1.1
  ·have hr:r<(eY [l]).length:=by have:=(dZ.1 e).1;rwa [vV] at this
   cases hq:fk (eY [l]) ((r:Nat):Int) with
   |true=>
    have ho:=sp<|hlen▸hr
    have h1:=ID ho
    rw[ps,hq] at h1
    have h2:=Nu ho h1.symm
    rw[ps,e] at h2;cases h2
   |false=>
    rw[hL r hr hq] at e
    rcases va (eY [l]) (ml (eY [l]) ((r:Nat):Int)) r with ⟨h1,_⟩|⟨a,_,h1,_⟩<;>rw[h1] at e<;>have:=apm e<;>omega
  all_goals
   have hq:fk (eY [l]) ((r:Nat):Int)=false:=by
    cases hq:fk (eY [l]) ((r:Nat):Int) with
    |false=>rfl
    |true=>
     have ho:=sp<|hlen▸hr
     have h1:=ID ho
     rw[ps,hq] at h1
     have h2:=Nu ho h1.symm
     rw[ps,e] at h2
     have:=apm h2
     omega
   rw[hL r hr hq] at e
   have e:=apm e
   rcases va (eY [l]) (ml (eY [l]) ((r:Nat):Int)) r with ⟨h1,h2⟩|⟨c,h1,h2,h3,h4⟩
  ·omega
  ·obtain rfl:c=b:=by omega
   refine⟨h1,?_⟩
   have ho:=sp<|hlen▸hr
   have Kb:=sp<|show c<l.length by omega
   have:=Su Kb ho
   rw[ps,ps] at this
   have hn:=(this.1 h3).2
   obtain⟨v,k1,k2⟩:=na ho
   obtain⟨v',k3,k4⟩:=na Kb
   rw[ps] at k1 k3
   unfold ml
   rw[dS,dS,k1,k3]
   show ((v':Nat):Int)=((v:Nat):Int)
   rw[(BE k4 k2).2 hn]
  ·omega
  ·obtain rfl:c=b:=by omega
   have:=h4 a eH hw
   simp only[id]
   omega
  ·have:=h2 a eH
   rw[hw] at this;cases this
  ·omega
end Go.Ew
namespace Go.Ew
def tc (lv:Int):Bool:=decide (0<(((eb lv).length:Nat):Int))
def pz (h:dp) (lv:Int):Int:=bif decide (lG h=0) then (bif tc lv then (dC (cX h)).2.2 else 1) else 1
def mQ (h:dp) (lv:Int):Int×Int:=bif decide (lG h=0) then (bif tc lv then ((dC (cX h)).1,(dC (cX h)).2.1) else (0,0)) else (0,0)
def tU (h:dp) (lv:Int):Int:=bif decide (pz h lv=0) then lv else 0
noncomputable def pA (h:dp) (lv:Int):Bool:=bif decide (pz h lv=0) then !decide (fh (cX h) (gQ (cX h)) lv=0) else false
noncomputable def gW (h:dp) (lv:Int):yP:=bif decide (pz h lv=0) then (iU (cX h) (gQ (cX h)) lv).getD (0,0,0,0,0) else (0,0,0,0,0)
section
variable {h:dp} {lv:Int}
theorem YM (hl:tc lv=true):lv=1∨lv=2∨lv=3:=by
 by_cases h1:lv=1
 ·exact .inl h1
 by_cases h2:lv=2
 ·exact .inr (.inl h2)
 by_cases h3:lv=3
 ·exact .inr (.inr h3)
 unfold tc eb at hl
 rw[apv h1,apv h2,apv h3] at hl
 cases hl
theorem agu (hl:lv=1∨lv=2∨lv=3):tc lv=true:=by rcases hl with rfl|rfl|rfl<;>rfl
theorem Y1 (he:lG h=0) (hl:tc lv=true) (hc:(dC (cX h)).2.2=0):pz h lv=0∧mQ h lv=(0,0)∧tU h lv=lv∧pA h lv=(!decide (fh (cX h) (gQ (cX h)) lv=0))∧gW h lv=(iU (cX h) (gQ (cX h)) lv).getD (0,0,0,0,0):=by
 have e1:pz h lv=0:=by unfold pz;rw[apt he,hl];exact hc
 refine⟨e1,?_,?_,?_,?_⟩
 ·unfold mQ;rw[apt he,hl]
  show ((dC (cX h)).1,(dC (cX h)).2.1)=_
  rw[(Qh hc).1,(Qh hc).2]
 ·unfold tU;rw[e1];rfl
 ·unfold pA;rw[e1];rfl
 ·unfold gW;rw[e1];rfl
theorem Rt {e:Int} (he:pz h lv=e) (h0:¬e=0):tU h lv=0∧pA h lv=false∧gW h lv=(0,0,0,0,0):=by
 subst he
 unfold tU pA gW
 rw[apv h0]
 exact⟨J,J,J⟩
theorem T6 (hx:decide (lG h=0)=false∨tc lv=false):pz h lv=1∧mQ h lv=(0,0):=by
 unfold pz mQ
 rcases hx with hx|hx<;>rw[hx]
 ·exact⟨J,J⟩
 ·cases decide (lG h=0)<;>exact⟨rfl,rfl⟩
theorem adL (he:lG h=0) (hl:tc lv=true):pz h lv=(dC (cX h)).2.2∧mQ h lv=((dC (cX h)).1,(dC (cX h)).2.1):=by
 unfold pz mQ;rw[apt he,hl];exact⟨rfl,rfl⟩
theorem Ns (hc:(dC (cX h)).2.2=0):∀x∈gQ (cX h),x<(((cX h).length:Nat):Int):=by rw[I2 hc];exact Gz
theorem ab4 {k r a b o:Int} (hw:qO (iU (cX h) (gQ (cX h)) lv) k r a b o) (hc:fh (cX h) (gQ (cX h)) lv=0):(iU (cX h) (gQ (cX h)) lv).getD (0,0,0,0,0)=(k,r,a,b,o):=by
 obtain⟨y,hy⟩:=apL.1 (Qf hc)
 rw[hy,hw.2 y hy];rfl
theorem ab2 (hc:¬fh (cX h) (gQ (cX h)) lv=0):(iU (cX h) (gQ (cX h)) lv).getD (0,0,0,0,0)=(0,0,0,0,0):=by rw[I_ hc];rfl
theorem M4 (ho:fS h=true) (hl:lv=1∨lv=2∨lv=3):pz h lv=0∧mQ h lv=(0,0)∧tU h lv=lv∧pA h lv=(iU (me h) (mg h) lv).isNone∧gW h lv=(iU (me h) (mg h) lv).getD (0,0,0,0,0):=by
 have hy:=xC ho
 unfold fS at ho
 rw[eP,apl] at ho
 obtain⟨h1,h2,h3,h4,h5⟩:=Y1 (lv:=lv) (tP ho.1).2.2 (agu hl) ho.2
 refine⟨h1,h2,h3,?_,?_⟩
 ·rw[h4,hy.2.1,hy.2.2,I2 ho.2]
  unfold fh
  cases iU (cX h) (fR (cX h)) lv<;>rfl
 ·rw[h5,hy.2.1,hy.2.2,I2 ho.2]
end
theorem XN {α0 α1 α2 α3 α4 α5 α6 α7 α8 α9 abV β:Type} (f:α0→α1→α2→α3→α4→α5→α6→α7→α8→α9→abV→β) {x0 y0:α0} {x1 y1:α1} {x2 y2:α2} {x3 y3:α3} {x4 y4:α4} {x5 y5:α5} {x6 y6:α6} {x7 y7:α7} {x8 y8:α8} {x9 y9:α9} {x10 y10:abV} (h0:x0=y0) (h1:x1=y1) (h2:x2=y2) (h3:x3=y3) (h4:x4=y4) (h5:x5=y5) (h6:x6=y6) (h7:x7=y7) (h8:x8=y8) (h9:x9=y9) (h10:x10=y10):f x0 x1 x2 x3 x4 x5 x6 x7 x8 x9 x10=f y0 y1 y2 y3 y4 y5 y6 y7 y8 y9 y10:=by
 subst h0;subst h1;subst h2;subst h3;subst h4;subst h5;subst h6;subst h7;subst h8;subst h9;subst h10;rfl
def EO (s:aY) (lv:Int):Bool:=bif tc lv then decide ((kM s).2.2=0) else false
def vm (s:aY) (lv:Int):Int:=bif tc lv then (bif decide ((kM s).2.2=0) then pz (kM s).1 lv else (kM s).2.2) else 1
def As (s:aY) (lv:Int):Int:=bif tc lv then (bif decide ((kM s).2.2=0) then 0 else (kM s).2.1) else 0
def tF (s:aY) (lv:Int):Int×Int:=bif EO s lv then mQ (kM s).1 lv else (0,0)
def Ar (s:aY) (lv:Int):Int:=bif EO s lv then tU (kM s).1 lv else 0
noncomputable def rM (s:aY) (lv:Int):Bool:=bif EO s lv then pA (kM s).1 lv else false
noncomputable def kL (s:aY) (lv:Int):yP:=bif EO s lv then gW (kM s).1 lv else (0,0,0,0,0)
section
variable {s:aY} {lv a e:Int} {h:dp}
theorem agd (hl:tc lv=false):vm s lv=1∧As s lv=0∧tF s lv=(0,0)∧Ar s lv=0∧rM s lv=false∧kL s lv=(0,0,0,0,0):=by
 have hr:EO s lv=false:=by unfold EO;rw[hl];rfl
 refine⟨?_,?_,?_,?_,?_,?_⟩
 ·unfold vm;rw[hl];rfl
 ·unfold As;rw[hl];rfl
 ·unfold tF;rw[hr];rfl
 ·unfold Ar;rw[hr];rfl
 ·unfold rM;rw[hr];rfl
 ·unfold kL;rw[hr];rfl
theorem aca (hl:tc lv=true) (ht:kM s=(h,a,e)) (he:¬e=0):vm s lv=e∧As s lv=a∧tF s lv=(0,0)∧Ar s lv=0∧rM s lv=false∧kL s lv=(0,0,0,0,0):=by
 have hd:decide ((kM s).2.2=0)=false:=by rw[ht];exact apv he
 have hr:EO s lv=false:=by unfold EO;rw[hl,hd];rfl
 refine⟨?_,?_,?_,?_,?_,?_⟩
 ·unfold vm;rw[hl,hd,ht];rfl
 ·unfold As;rw[hl,hd,ht];rfl
 ·unfold tF;rw[hr];rfl
 ·unfold Ar;rw[hr];rfl
 ·unfold rM;rw[hr];rfl
 ·unfold kL;rw[hr];rfl
theorem QH (hl:tc lv=true) (ht:kM s=(h,a,e)) (he:e=0):vm s lv=pz h lv∧As s lv=0∧tF s lv=mQ h lv∧Ar s lv=tU h lv∧rM s lv=pA h lv∧kL s lv=gW h lv:=by
 have hd:decide ((kM s).2.2=0)=true:=by rw[ht];exact apt he
 have hr:EO s lv=true:=by unfold EO;rw[hl,hd];rfl
 refine⟨?_,?_,?_,?_,?_,?_⟩
 ·unfold vm;rw[hl,hd,ht];rfl
 ·unfold As;rw[hl,hd];rfl
 ·unfold tF;rw[hr,ht];rfl
 ·unfold Ar;rw[hr,ht];rfl
 ·unfold rM;rw[hr,ht];rfl
 ·unfold kL;rw[hr,ht];rfl
end
end Go.Ew
namespace Go.Ew
set_option maxRecDepth 100000
abbrev KD:aY:=⟨#[119,58,120,61,49,32,114,58,120,61,50,10,119,58,120,61,50,32,114,58,120,61,49,10]⟩
def ZT:dp:=[[(true,⟨#[120]⟩,1),(false,⟨#[120]⟩,2)],[(true,⟨#[120]⟩,2),(false,⟨#[120]⟩,1)]]
def k0:List aO:=[(0,0,true,0,1),(0,1,false,0,2),(1,0,true,0,2),(1,1,false,0,1)]
def nC:aE:=[-3,2, -3,0]
theorem Jg:kM KD=(ZT,0,0):=by decide +kernel
theorem Vt:fS ZT=true:=by decide +kernel
theorem afG:me ZT=k0:=by decide +kernel
theorem afH:mg ZT=nC:=by decide +kernel
theorem Im:∀x∈nC,x<((k0.length:Nat):Int):=by decide
def zH (o:Int) (a b:Nat):Bool:=(decide (o=1)&&((a,b)==(0,1)||(a,b)==(2,1)||(a,b)==(0,2)))||(decide (o=3)&&((a,b)==(2,3)||(a,b)==(0,3)||(a,b)==(2,0)))
theorem afD:∀r:Nat,¬nC[r]? =some (-2):=by
 intro r h
 have:(-2:Int)∈nC:=dO h
 exact absurd this aw
theorem Vu:∀r:Nat,¬nC[r]? =some (-1):=by
 intro r h
 have:(-1:Int)∈nC:=dO h
 exact absurd this aw
theorem afC:∀i,i<4→pC k0 nC i i=false:=by decide +kernel
theorem ue {p:Nat→Bool} (h:(List.range 4).all p=true) {i:Nat} (hi:i<4):p i=true:=aps.1 h i (apq.2 hi)
def PS (a b:Bool):Bool:=!a||b
theorem imp {a b:Bool} (h:PS a b=true) (ha:a=true):b=true:=by unfold PS at h;rw[ha] at h;simpa using h
theorem ahB:((List.range 4).all fun r=>(List.range 4).all fun a=>(List.range 4).all fun b=>PS (decide (nC[r]? =some ((b:Nat):Int))&&(decide (a≠b)&&(!(gR k0 (ml k0 ((r:Nat):Int)) ((a:Nat):Int))&&pC k0 nC a r))) (!(pC k0 nC b a)))=true:=by decide +kernel
theorem afB:∀r,r<4→∀a,a<4→∀b,b<4→nC[r]? =some ((b:Nat):Int)→a≠b→gR k0 (ml k0 ((r:Nat):Int)) ((a:Nat):Int)=false→pC k0 nC a r=true→pC k0 nC b a=false:=by
 intro r hr a ha b hb h1 h2 h3 h4
 have:=imp (ue (ue (ue ahB hr) ha) hb)<|by rw[apt h1,apt h2,h3,h4];rfl
 simpa using this
theorem ahA:((List.range 4).all fun o=>(List.range 4).all fun a=>(List.range 4).all fun b=>PS (pC k0 nC a b&&(decide (((a:Nat):Int)∈bR ((k0.length:Nat):Int) (cA k0 nC) ((o:Nat):Int))&&decide (((b:Nat):Int)∈bR ((k0.length:Nat):Int) (cA k0 nC) ((o:Nat):Int)))) (zH ((o:Nat):Int) a b))=true:=by decide +kernel
theorem abM:∀o,o<4→∀a,a<4→∀b,b<4→pC k0 nC a b=true→((a:Nat):Int)∈bR ((k0.length:Nat):Int) (cA k0 nC) ((o:Nat):Int)→((b:Nat):Int)∈bR ((k0.length:Nat):Int) (cA k0 nC) ((o:Nat):Int)→zH ((o:Nat):Int) a b=true:=by
 intro o ho a ha b hb h1 h2 h3
 exact imp (ue (ue (ue ahA ho) ha) hb)<|by rw[h1,apt h2,apt h3];rfl
theorem ahy:((List.range 4).all fun o=>(List.range 4).all fun a=>(List.range 4).all fun b=>(List.range 4).all fun c=>PS (zH ((o:Nat):Int) a b&&zH ((o:Nat):Int) b c) (zH ((o:Nat):Int) a c))=true:=by decide +kernel
theorem X8:∀o,o<4→∀a,a<4→∀b,b<4→∀c,c<4→zH ((o:Nat):Int) a b=true→zH ((o:Nat):Int) b c=true→zH ((o:Nat):Int) a c=true:=by
 intro o ho a ha b hb c hc h1 h2
 exact imp (ue (ue (ue (ue ahy ho) ha) hb) hc)<|by rw[h1,h2];rfl
theorem ahz:((List.range 4).all fun o=>(List.range 4).all fun a=>(List.range 4).all fun b=>(List.range 4).all fun r=>PS (decide (((r:Nat):Int)∈l3 k0 ((o:Nat):Int))&&(decide (nC[r]? =some ((b:Nat):Int))&&(decide (a≠b)&&(!(gR k0 (ml k0 ((b:Nat):Int)) ((a:Nat):Int))&&zH ((o:Nat):Int) a r)))) (zH ((o:Nat):Int) a b))=true:=by decide +kernel
theorem abL:∀o,o<4→∀a,a<4→∀b,b<4→∀r,r<4→((r:Nat):Int)∈l3 k0 ((o:Nat):Int)→nC[r]? =some ((b:Nat):Int)→a≠b→gR k0 (ml k0 ((b:Nat):Int)) ((a:Nat):Int)=false→zH ((o:Nat):Int) a r=true→zH ((o:Nat):Int) a b=true:=by
 intro o ho a ha b hb r hr h1 h2 h3 h4 h5
 exact imp (ue (ue (ue (ue ahz ho) ha) hb) hr)<|by rw[apt h1,apt h2,apt h3,h4,h5];rfl
theorem afE:∀o,o<4→∀i,i<4→zH ((o:Nat):Int) i i=false:=by decide +kernel
theorem afA:∀o i,o<4→i<4→¬Ck k0 nC ((o:Nat):Int) i i=true:=by
 intro o i ho hi h
 have:=ql.1 h (fun a b=>zH ((o:Nat):Int) a b=true) ⟨fun a b ha hb=>abM o ho a ha b hb,fun a b c ha hb hc=>X8 o ho a ha b hb c hc,fun a b r hr k=>by
  have hb:=Im _<|dO k.fr
  have hb:b<4:=by have:k0.length=4:=rfl;omega
  exact abL o ho a k.a1 b hb r k.r1 hr k.fr k.ne k.wr k.ah⟩
 rw[afE o ho i hi] at this
 cases this
theorem ZS:iU k0 nC 3=none:=by
 rw[sB rfl Im]
 intro k hk
 unfold GV
 rintro(⟨h0,r,hr⟩|⟨h0,i,hi,h⟩|⟨h0,r,a,hr,ha,h1,h2,h3⟩|⟨h0,r,a,b,hr,ha,hb,h1,h2,h3,h4,h5⟩|⟨h0,i,hi,h⟩|⟨h0,o,r,a,ho,hr,ha,h1,h2,h3,h4⟩|⟨h0,o,i,ho,hi,h⟩)
 ·exact afD r hr
 ·rw[afC i hi] at h;cases h
 ·exact Vu r h1
 ·rw[afB r hr a ha b hb h1 h2 h3 h4] at h5;cases h5
 ·subst h0;exact absurd hk aw
 ·exact Vu r h2
 ·exact afA o i ho hi h
theorem afF:∃y,iU k0 nC 2=some y∧y.1=5:=by
 have h5:(ko k0 nC 5).isSome=true:=by
  rw[IS rfl Im aq]
  refine .inr (.inr (.inr (.inr (.inl ⟨J,0,by decide,?_⟩))))
  have e1:Kw k0 nC 0 2=true:=by
   unfold Kw
   rw[apw,@decide_eq_true_iff _ (Classical.propDecidable _)]
   exact .inr ⟨1,by decide,by decide,J,by decide,by decide +kernel,by decide +kernel⟩
  have e2:Kw k0 nC 2 0=true:=by
   unfold Kw
   rw[apw,@decide_eq_true_iff _ (Classical.propDecidable _)]
   exact .inr ⟨3,by decide,by decide,J,by decide,by decide +kernel,by decide +kernel⟩
  exact yK (b:=2) aw (ud e1)<|ud e2
 have hn:∀k,k=1∨k=2∨k=3∨k=4→ko k0 nC k=none:=by
  intro k hk
  have:¬(ko k0 nC k).isSome=true:=by
   rw[IS rfl Im aq]
   have:=(sB (I:=k0) (U:=nC) (lv:=3) J Im).1 ZS k
   refine this ?_
   rcases hk with rfl|rfl|rfl|rfl<;>decide
  cases e:ko k0 nC k with
  |none=>rfl
  |some x=>rw[e] at this;exact absurd rfl this
 obtain⟨y,hy⟩:=apL.1 h5
 refine⟨y,?_,JH hy⟩
 unfold iU
 rw[show eb 2=[1,2,3,4,5] from rfl]
 simp only[List.findSome?_cons,hn 1 aq,hn 2 aq,hn 3 aq,hn 4 aq,hy]
theorem Vv:(kM KD).2.2=0→(kM KD).1.flatten.length≤64:=by rw[Jg];decide
theorem GP:vm KD 3=0∧rM KD 3=true:=by
 obtain⟨h1,_,_,_,h2,_⟩:=QH (lv:=3) rfl Jg rfl
 obtain⟨k1,_,_,k2,_⟩:=M4 (lv:=3) Vt aq
 rw[h1,h2,k1,k2,afG,afH,ZS]
 exact⟨J,J⟩
theorem Aj:vm KD 2=0∧rM KD 2=false∧(kL KD 2).1=5:=by
 obtain⟨h1,_,_,_,h2,h3⟩:=QH (lv:=2) rfl Jg rfl
 obtain⟨k1,_,_,k2,k3⟩:=M4 (lv:=2) Vt aq
 obtain⟨y,e1,e2⟩:=afF
 rw[h1,h2,h3,k1,k2,k3,afG,afH,e1]
 exact⟨J,J,e2⟩
end Go.Ew
namespace Go.Ew
def AY (h:dp) (m:Int):List aY:=bif jf h m then tQ h else []
def rR (h:dp) (m:Int):List aO:=bif jf h m then me h else []
def rS (h:dp) (m:Int):aE:=bif jf h m then mg h else []
theorem aho {h:dp} {m:Int} (hk:(jf h m&&fS h)=true):rR h m=me h∧rS h m=mg h∧fS h=true∧(h.flatten.length:Int)≤m:=by
 rw[eP] at hk
 unfold rR rS
 rw[hk.1]
 exact⟨J,J,hk.2,(Ju.1 hk.1).2.1⟩
section
variable {h:dp}
theorem aa9 (ho:fS h=true) {lv:Int} (hl:lv=1∨lv=2∨lv=3):pA h lv=true↔iU (me h) (mg h) lv=none:=by
 rw[(M4 ho hl).2.2.2.1,Option.isNone_iff_eq_none]
end
end Go.Ew
namespace Go.Ew
section
variable {h:dp} {lv:Int}
end
end Go.Ew
