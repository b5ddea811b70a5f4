/- Plain words and laws: hulls, as the program and the reference make them (law 4). -/
import Derived.Test.YtgjakhpjmapelaaGreatDoorVwnB
import Derived.Test.YtgjakhpjmapelaaGreatDoorVwnA
import Derived.Laws.IdiomStrings
import Derived.Shelf.SlSortCmp.WholeK
import Derived.Shelf.SlSortCmp.NoneTotal
import Derived.Sort.LotA
import Derived.Lib.SlTrimSet
set_option linter.unusedVariables false
set_option linter.unusedSimpArgs false
set_option linter.unusedSectionVars false
namespace Go.Ew
variable {n:Int} {q k:Nat} {x:Row}
theorem Uo {rs xs:Rows} (hs:xs=cE n.toNat (wM (fW rs) q)) (hq:q≤n.toNat) (nC:n.toNat≤q):xs=ff n rs:=by
 obtain rfl:q=n.toNat:=by omega
 exact hs
section
variable {n:Int} {rs:Rows} (h:bJ n rs=true)
include h
theorem Od:rs=cE n.toNat (wM (fW rs) 0):=Cx h
theorem pw {i:Nat} (hx:rs[i]? =some x):x=ib n.toNat (fW rs i):=by
 have h1:=Cx h
 have h2:(cE n.toNat (fW rs))[i]? =some x:=by rw[←h1];exact hx
 exact(mV h2).2
theorem Sr {i:Nat} {j:Int} (hx:rs[i]? =some x) (hj:(cY x)[q]? =some j):0≤j∧j<n∧j<((rs.length:Nat):Int):=by
 rw[pw h hx,yI] at hj
 obtain⟨k,hk, -,rfl⟩:=wO.1 (dz hj)
 have:=(bQ h).1
 omega
end
def AK (p:hQ) (i j k a b:Nat):Bool:=if a<k then BM p i j a b else p a b
section
variable {n:Int} {rs xs:Rows} {i j:Int} (h:bJ n rs=true)
theorem HS (hq:kE n [i,j]=false):iu n i j=0∧ie n rs i j=[]∧lG n i j=1:=by
 refine⟨(oG (rs:=rs) hq).1,?_,(oG (rs:=rs) hq).2.2⟩
 unfold ie;rw[an8 (by rw[hq];decide)]
theorem abf (hq:kE n [i,j]=true) (hb:eI n rs i j=true):ie n rs i j=rs:=by unfold ie;rw[an4 hq,an4 hb]
include h
theorem XA:rs=cE n.toNat (AK (fW rs) i.toNat j.toNat 0):=by
 rw[show cE n.toNat (AK (fW rs) i.toNat j.toNat 0)=cE n.toNat (fW rs) from dH fun a b _ _=>by unfold AK;simp]
 exact Cx h
theorem UZ (hs:xs=cE n.toNat (AK (fW rs) i.toNat j.toNat k)) (hx:xs[q]? =some x):x.length=words n:=by
 subst hs
 have:=(bQ h).2.2.2.1
 rw[(mV hx).2,jF,aoC this]
theorem UY {k:Nat} {x xj:Row} (hq:kE n [i,j]=true) (hs:xs=cE n.toNat (AK (fW rs) i.toNat j.toNat k)) (hx:xs[((k:Nat):Int).toNat]? =some x) (hj:rs[j.toNat]? =some xj)
  (hc:((k:Nat):Int)=i∨∃z,rs[((k:Nat):Int).toNat]? =some z∧fk z i=true):xs.set ((k:Nat):Int).toNat (jK x (ei xj j))=cE n.toNat (AK (fW rs) i.toNat j.toNat (k+1)):=by
 have hr:=jo.1 hq
 have hn:((n.toNat:Nat):Int)=n:=by omega
 subst hs
 obtain⟨hk,hx⟩:=mV hx
 rw[dq] at hk ⊢
 rw[dq] at hx
 rw[hx,pw h hj,uV hr.2.1 aj,It,xz]
 have Au:((decide (k=i.toNat))||fW rs k i.toNat)=true:=by
  rcases hc with hc|⟨z,hz,hb⟩
  ·simp[show k=i.toNat from by omega]
  ·rw[dq] at hz
   rw[pw h hz,iZ] at hb
   simp only[ez] at hb
   rw[hb.2];simp
 refine dH fun a b ha hb=>?_
 unfold AK
 by_cases e:a=k
 ·subst e
  rw[an4 rfl,an8 aj,an4 aj]
  unfold BM
  rw[Au,aoY]
  cases fW rs a b<;>cases fW rs j.toNat b<;>simp
 ·rw[an8 e]
  by_cases e2:a<k
  ·rw[an4 e2,an4 aj]
  ·rw[an8 e2,an8 aj]
theorem ag3 {z:Row} (hq:kE n [i,j]=true) (hs:xs=cE n.toNat (AK (fW rs) i.toNat j.toNat k)) (gB:¬((k:Nat):Int)=i) (hz:rs[((k:Nat):Int).toNat]? =some z) (hb:fk z i=false):
  xs=cE n.toNat (AK (fW rs) i.toNat j.toNat (k+1)):=by
 have hr:=jo.1 hq
 rw[hs]
 refine dH fun a b ha vm=>?_
 unfold AK
 by_cases e2:a<k
 ·rw[an4 e2,an4 aj]
 ·by_cases e:a=k
  ·subst e
   rw[an8 e2,an4 aj]
   unfold BM
   rw[pw h hz,iZ,dq] at hb
   have wb:fW rs a i.toNat=false:=by
    have h1:decide (0≤i)=true:=an6 hr.1.1
    have h2:decide (i<((n.toNat:Nat):Int))=true:=an6 aj
    rw[h1,h2] at hb
    simpa using hb
   rw[wb,an' (show ¬a=i.toNat from by omega)];simp
  ·rw[an8 e2,an8 aj]
theorem ae' (hq:kE n [i,j]=true) (hb:eI n rs i j=false) (hs:xs=cE n.toNat (AK (fW rs) i.toNat j.toNat k)) (hk:n.toNat≤k):xs=ie n rs i j:=by
 unfold ie
 rw[an4 hq,an8 (by rw[hb];decide),hs]
 exact dH fun a b ha _=>by unfold AK;rw[an4 aj]
end
def Om (p:hQ) (l:aA) (a b:Nat):Bool:=p a b&&(decide (((a:Nat):Int)∈l)&&decide (((b:Nat):Int)∈l))
def gl (n:Int) (rs:Rows) (l:aA):Rows:=cE n.toNat (Om (fW rs) l)
def py (n:Nat) (l:aA):Row:=ib n fun b=>decide (((b:Nat):Int)∈l)
theorem V8 (h:0≤n) (l:aA):eh n=py n.toNat (l.take 0):=by
 have:=CR n.toNat
 rw[aoC h] at this
 rw[this]
 exact kL fun k _=>by simp
theorem aam {l:aA} {x:Int} {mk:Row} (hs:mk=py n.toNat (l.take q)) (hx:l[((q:Nat):Int).toNat]? =some x) (h:x<n):ei mk x=py n.toNat (l.take (q+1)):=by
 subst hs
 rw[nO hx]
 by_cases h0:0≤x
 ·unfold py
  rw[uV h0 aj]
  refine kL fun k _=>?_
  rw[aoj]
  simp only[aoc,an2,aot,aoh,are,aqz]
  exact or_congr Iff.rfl ⟨fun e=>by omega,fun e=>by omega⟩
 ·rw[←ZZ aj]
  refine kL fun k _=>?_
  rw[aoj]
  simp only[an2,aot,aoh,are,aqz]
  exact⟨.inl,fun e=>e.elim id fun e=>by omega⟩
theorem acx {l:aA} {x:Int} {mk:Row} (hs:mk=py n.toNat (l.take q)) (hx:l[((q:Nat):Int).toNat]? =some x) (h:n≤x):mk=py n.toNat (l.take (q+1)):=by
 rw[hs,nO hx]
 refine kL fun k hk=>?_
 rw[aoj]
 simp only[an2,aot,aoh,are,aqz]
 exact⟨.inl,fun e=>e.elim id fun e=>by omega⟩
theorem Js (h:0≤n) (l:aA):(py n.toNat l).length=words n:=by unfold py;rw[jF,aoC h]
def mI (x m:Row) (k:Nat):Row:=(List.range x.length).map fun t=>if t<k then x.getD t 0#64 &&& m.getD t 0#64 else 0#64
theorem sU (x m:Row) (k:Nat):(mI x m k).length=x.length:=by unfold mI;simp
theorem RB (x m:Row):List.replicate x.length 0#64=mI x m 0:=by
 unfold mI
 apply apE
 ·simp
 ·intro i h1 h2;simp
theorem RC {m:Row} {u v:bp} (hu:x[((k:Nat):Int).toNat]? =some u) (hv:m[((k:Nat):Int).toNat]? =some v):(mI x m k).set ((k:Nat):Int).toNat (u &&& v)=mI x m (k+1):=by
 have e1:=wQ hu
 have e2:=wQ hv
 rw[dq]
 apply apE
 ·rw[an1,sU,sU]
 ·intro i h1 h2
  rw[aqP]
  simp only[mI,List.getElem_map,aqC]
  by_cases e:k=i
  ·subst e;rw[an4 rfl,an4 aj,e1,e2]
  ·rw[an8 e]
   by_cases h3:i<k
   ·rw[an4 h3,an4 aj]
   ·rw[an8 h3,an8 aj]
theorem UU {n:Nat} {p q:Nat→Bool} (h:(ib n p).length≤k):mI (ib n p) (ib n q) k=ib n fun b=>p b&&q b:=by
 refine zZ (by rw[sU,jF]) fun b=>?_
 have h1:∀r:Row,fk r ((b:Nat):Int)=(r.getD (b/64) 0#64).getLsbD (b%64):=by intro r;unfold fk;simp
 have e1:=iZ n p ((b:Nat):Int)
 have e2:=iZ n q ((b:Nat):Int)
 rw[h1] at e1 e2 ⊢
 by_cases hb:b/64<(ib n p).length
 ·have:(mI (ib n p) (ib n q) k).getD (b/64) 0#64=(ib n p).getD (b/64) 0#64 &&& (ib n q).getD (b/64) 0#64:=by
   unfold mI
   rw[il,aoa,aoL hb]
   show (if b/64<k then _ else _)=_
   rw[an4 aj]
  rw[this,aqc,e1,e2]
  by_cases TI:b<n
  ·simp[TI]
  ·simp[TI]
 ·have TI:¬b<n:=by
   intro TI
   apply hb
   rw[jF,qB];omega
  have:(mI (ib n p) (ib n q) k).getD (b/64) 0#64=0#64:=by
   rw[il,aof (by rw[sU];omega)];rfl
  rw[this];simp[TI]
def wX (p:hQ) (l:aA) (k a b:Nat):Bool:=if a<k then Om p l a b else false
section
variable {n:Int} {rs xs:Rows} {l:aA} {mk:Row} {k:Nat} (h:bJ n rs=true)
include h
theorem Vf:List.replicate n.toNat (eh n)=cE n.toNat (wX (fW rs) l 0):=by
 have h0:=kX h
 have:=yG n.toNat
 unfold vN at this
 rw[aoC h0] at this
 rw[this]
 exact dH fun a b _ _=>by unfold wX;simp
theorem ZI (hs:xs=cE n.toNat (wX (fW rs) l k)) (hm:mk=py n.toNat l) (hk:k<n.toNat) (hb:fk mk ((k:Nat):Int)=false):xs=cE n.toNat (wX (fW rs) l (k+1)):=by
 rw[hs]
 refine dH fun a b ha vm=>?_
 unfold wX
 by_cases e2:a<k
 ·rw[an4 e2,an4 aj]
 ·by_cases e:a=k
  ·subst e
   rw[an8 e2,an4 aj]
   rw[hm] at hb
   unfold py at hb
   rw[iZ] at hb
   have YH:decide (((a:Nat):Int)∈l)=false:=by
    have h2:decide (((a:Nat):Int)<((n.toNat:Nat):Int))=true:=an6 aj
    rw[h2] at hb
    simpa using hb
   unfold Om
   rw[YH];simp
  ·rw[an8 e2,an8 aj]
theorem afy (hs:xs=cE n.toNat (wX (fW rs) l k)) (hx:rs[((k:Nat):Int).toNat]? =some x):xs=xs.set k (mI x mk 0):=by
 have qo:rs[k]? =some x:=hx
 have hk:k<n.toNat:=by have:=(dJ.1 qo).1;have:=(bQ h).1;omega
 have h0:=kX h
 have e:mI x mk 0=eh n:=by
  rw[←RB]
  unfold eh
  rw[nP h qo]
 rw[e]
 apply aoz
 intro a
 rw[apa]
 split
 ·rename_i e2;subst e2
  rw[an4 (by rw[hs,mj];exact hk),hs,sj hk]
  congr 1
  have:=CR n.toNat
  rw[aoC h0] at this
  rw[this]
  exact kL fun b _=>by unfold wX;simp
 ·rfl
theorem K9 {r:Row} {ys:Rows} (hs:xs=cE n.toNat (wX (fW rs) l k)) (hy:ys=xs.set k (mI x mk q)) (hx:rs[((k:Nat):Int).toNat]? =some x) (hr:ys[((k:Nat):Int).toNat]? =some r):r=mI x mk q:=by
 have qo:rs[k]? =some x:=hx
 have hk:k<n.toNat:=by have:=(dJ.1 qo).1;have:=(bQ h).1;omega
 rw[hy,dq,aol (by rw[hs,mj];exact hk)] at hr
 exact(an5 hr).symm
theorem ZH {q:Nat} {x r:Row} {ys:Rows} {u v:bp} (hs:xs=cE n.toNat (wX (fW rs) l k)) (hy:ys=xs.set k (mI x mk q)) (hx:rs[((k:Nat):Int).toNat]? =some x) (hr:ys[((k:Nat):Int).toNat]? =some r)
  (hu:x[((q:Nat):Int).toNat]? =some u) (hv:mk[((q:Nat):Int).toNat]? =some v):ys.set ((k:Nat):Int).toNat (r.set ((q:Nat):Int).toNat (u &&& v))=xs.set k (mI x mk (q+1)):=by
 rw[K9 h hs hy hx hr,hy,RC hu hv,dq,List.set_set]
theorem ZJ {ys:Rows} (hs:xs=cE n.toNat (wX (fW rs) l k)) (hy:ys=xs.set k (mI x mk q)) (hx:rs[((k:Nat):Int).toNat]? =some x) (hm:mk=py n.toNat l) (hb:fk mk ((k:Nat):Int)=true) (hq:x.length≤q):ys=cE n.toNat (wX (fW rs) l (k+1)):=by
 have qo:rs[k]? =some x:=hx
 have hk:k<n.toNat:=by have:=(dJ.1 qo).1;have:=(bQ h).1;omega
 rw[hy,hm,hs,pw h qo]
 unfold py
 rw[UU (by rw[pw h qo] at hq;exact hq),xz]
 rw[hm] at hb
 unfold py at hb
 rw[iZ] at hb
 simp only[ez] at hb
 refine dH fun a b ha vm=>?_
 unfold wX
 by_cases e:a=k
 ·subst e
  rw[an4 rfl,an4 aj]
  unfold Om
  have:decide (((a:Nat):Int)∈l)=true:=by simpa using hb.2
  rw[this,aoY]
 ·rw[an8 e]
  by_cases e2:a<k
  ·rw[an4 e2,an4 aj]
  ·rw[an8 e2,an8 aj]
theorem abp (hs:xs=cE n.toNat (wX (fW rs) l k)) (hk:n.toNat≤k):xs=gl n rs l:=by
 rw[hs]
 exact dH fun a b ha _=>by unfold wX;rw[an4 aj]
end
theorem Ce {rs:Rows} (h:bJ n rs=true) (l:aA):bJ n (gl n rs l)=true:=by
 obtain⟨m,p,rfl,hm,rfl⟩:=mh h
 unfold gl;rw[dq];exact lH hm
end Go.Ew
namespace Go.Ew
structure Rch (n:Nat) (p:hQ) (i:Nat) (sn:List Bool) (td:aA) (at_:Int) (j:Nat):Prop where
 len:sn.length=n
 snd:∀k,sn.getD k false=true→TC n p i k
 tdo:∀t∈td,∃k,t=((k:Nat):Int)∧k<n∧(k=i∨sn.getD k false=true)
 don:∀x,x<n→(x=i∨sn.getD x false=true)→((x:Nat):Int)∈td∨(((x:Nat):Int)=at_∧∀y,y<j→p x y=true→sn.getD y false=true)∨∀y,y<n→p x y=true→sn.getD y false=true
section
variable {n:Nat} {p:hQ} {i j:Nat} {sn:List Bool} {td:aA} {at_:Int}
end
theorem Ow {td:aA} (h:¬(0:Int)<((td.length:Nat):Int)):td=[]:=apu aj
section
variable {n:Int} {rs:Rows} {i a j:Nat} {sn:List Bool} {td:aA} {x:Int} (rt:bJ n rs=true) (e:x=((a:Nat):Int)) (h:Rch n.toNat (fW rs) i sn td x j) (TJ:a<n.toNat) (hj:j<n.toNat)
include rt e h TJ hj
end
section
variable {k:Int} {l:List (BitVec 8×BitVec 8)} {z:BitVec 8×BitVec 8} (hk:0<k) (h4:k≤4096)
include hk h4
end
end Go.Ew
namespace Go.Ew
section
variable {n:Int} {rs:Rows} (h:bJ n rs=true)
include h
end
end Go.Ew
namespace Go.Ew
variable {n o:Int} {rs:Rows} {x:Row}
def eU (n:Int) (rs:Rows) (o:Int):aA:=if 0≤o∧o<n then vY n.toNat (fun a=>fW rs a o.toNat) else []
def bN (n:Int) (rs:Rows) (o:Int):aA:=if 0≤o∧o<n then vY n.toNat (fun a=>fW rs a o.toNat||decide (a=o.toNat)) else []
theorem LN (h:¬(0≤o∧o<n)):eU n rs o=[]:=by unfold eU;rw[an8 h]
theorem K8 (h:¬(0≤o∧o<n)):bN n rs o=[]:=by unfold bN;rw[an8 h]
theorem Ek (h:bJ n rs=true) (h0:0≤o∧o<n) (hx:(gJ n rs)[o.toNat]? =some x):x=ib n.toNat fun a=>fW rs a o.toNat:=by
 obtain⟨m,p,rfl,hm,rfl⟩:=mh h
 rw[I7] at hx
 obtain⟨h1,rfl⟩:=mV hx
 rw[dq]
 exact kL fun a ha=>(jG ha h1).symm
theorem SG (h:bJ n rs=true) (h0:0≤o∧o<n) (hx:(gJ n rs)[o.toNat]? =some x):cY x=eU n rs o:=by
 rw[Ek h h0 hx,yI];unfold eU;rw[an4 h0]
theorem RR (h:bJ n rs=true) (h0:0≤o∧o<n) (hx:(gJ n rs)[o.toNat]? =some x):cY (ei x o)=bN n rs o:=by
 rw[Ek h h0 hx,uV h0.1 aj,yI];unfold bN;rw[an4 h0]
theorem wZ (h:bJ n rs=true) {i:Nat} (hx:(gJ n rs)[i]? =some x):x.length≤64:=(bQ (Gw h)).2.2.2.2 _ (dz hx)
theorem u2 (h:bJ n rs=true) (o:Int):(eU n rs o).length≤4096:=by
 have h4:=(bQ h).2.2.1
 unfold eU;split
 ·have:=O6 n.toNat (fun a=>fW rs a o.toNat);omega
 ·simp
theorem uT (h:bJ n rs=true) (o:Int):(bN n rs o).length≤4096:=by
 have h4:=(bQ h).2.2.1
 unfold bN;split
 ·have:=O6 n.toNat (fun a=>fW rs a o.toNat||decide (a=o.toNat));omega
 ·simp
section
variable {n:Int} {rs:Rows} (h:bJ n rs=true) {k:Int} (hk:0≤k∧k<n)
include h hk
end
end Go.Ew
namespace Go.Ew
def aV (p:Int→Bool) (xs:aA):aA:=xs.filter fun x=>!p x
def DF (p:Int→Bool) (xs ys:aA) (q:Int) (k:Nat):Prop:=ys.length=xs.length∧ys.take q.toNat=aV p (xs.take k)∧ys.drop k=xs.drop k
section
variable {p:Int→Bool} {xs ys:aA} {q x:Int} {k:Nat}
theorem aaV (h:eF p xs= -1):xs=aV p xs:=by
 have h1:=uB (p:=p) (r:=xs)
 rw[h,an' aj] at h1
 unfold aV
 refine(aqZ.2 fun x hx=>?_).symm
 have:=apN.1 h1.symm x hx
 simpa using this
theorem W5 (h:¬eF p xs= -1):0≤eF p xs∧(eF p xs).toNat<xs.length∧DF p xs xs (eF p xs) ((eF p xs).toNat+1):=by
 unfold eF at h ⊢
 cases hf:xs.findIdx? p with
 |none=>rw[hf] at h;exact absurd rfl h
 |some i=>
  rw[hf] at h
  obtain⟨h1,h2,h3⟩:=aom.1 hf
  refine⟨by show (0:Int)≤((i:Nat):Int);omega,h1,J,?_,J⟩
  show xs.take i=aV p (xs.take (i+1))
  unfold aV
  rw[aoy,dW h1,apx]
  have e1:(xs.take i).filter (fun x=>!p x)=xs.take i:=by
   refine aqZ.2 fun y hy=>?_
   obtain⟨j,hj⟩:=aok.1 hy
   have xF:=(dJ.1 hj).1
   rw[ic] at xF
   have h4:=h3 j aj
   rw[apf aj,dW aj] at hj
   rw[←an5 hj]
   simpa using h4
  rw[e1]
  simp[h2]
theorem Rv (h:DF p xs ys q k) (hx:ys[k]? =some x):xs[k]? =some x:=by
 have h1:=h.2.2
 have:(ys.drop k)[0]? =some x:=by rw[aoG];exact hx
 rw[h1,aoG] at this
 exact this
theorem PD (hx:xs[k]? =some x):aV p (xs.take (k+1))=aV p (xs.take k)++(if p x=true then [] else [x]):=by
 unfold aV
 rw[aoy,hx,apx]
 cases hp:p x<;>simp[hp]
theorem M5 (h:DF p xs ys q k):ys.drop (k+1)=xs.drop (k+1):=by
 have h1:=h.2.2
 rw[←ao0,←ao0,h1]
theorem aaX (h:DF p xs ys q k) (hx:ys[k]? =some x) (hp:p x=true):DF p xs ys q (k+1):=
 ⟨h.1,by rw[PD (Rv h hx),an4 hp,aps];exact h.2.1,M5 h⟩
theorem aaW (h:DF p xs ys q k) (hx:ys[k]? =some x) (hp:p x=false) (h0:0≤q) (hq:q<((k:Nat):Int)):DF p xs (ys.set q.toNat x) (q+1) (k+1):=by
 have hk:=(dJ.1 hx).1
 refine⟨by rw[an1];exact h.1,?_,?_⟩
 ·rw[PD (Rv h hx),an8 (by rw[hp];decide),←h.2.1,show (q+1).toNat=q.toNat+1 from by omega,aoy,List.take_set_of_le (an3 _),aol aj]
  rfl
 ·rw[List.drop_set_of_lt aj]
  exact M5 h
theorem aeL (h:DF p xs ys q k) (hk:xs.length≤k) (h0:0≤q) (hq:q.toNat≤ys.length) (m:Nat):(ys.take q.toNat++(List.replicate m (0:Int)++[])).take q.toNat=aV p xs:=by
 rw[aqV (by rw[ic];omega),h.2.1,an_ hk]
end
def iP (aE:List aN) (v i:Int):Bool:=decide (i<0)||(match aE[i.toNat]? with
 |none=>true
 |some x=>!x.2.2.1||!decide (x.2.2.2.1=v))
def fO (aE:List aN) (i:Int):Bool:=((aE[i.toNat]?).map (fun x=>x.2.2.1)).getD false
section
variable {aE:List aN} {v i:Int} {x:aN}
theorem ZF (h:i<0):iP aE v i=true:=by unfold iP;rw[an6 h];rfl
theorem ZE (h:((aE.length:Nat):Int)≤i):iP aE v i=true:=by
 unfold iP
 rw[aof aj];simp
theorem K6 (h0:¬i<0) (hx:aE[i.toNat]? =some x):iP aE v i=(!x.2.2.1||!decide (x.2.2.2.1=v)):=by
 unfold iP
 rw[an' h0,hx];rfl
theorem abo (hx:aE[i.toNat]? =some x):fO aE i=x.2.2.1:=by unfold fO;rw[hx];rfl
theorem Jm (o:ik aE) {t:Int} {q:Nat} {x:Int} (hx:(cz aE t)[q]? =some x):0≤x∧x<((aE.length:Nat):Int):=by
 by_cases h:0≤t∧t<(aE.length:Int)
 ·have:=aaa o h.1 h.2 hx
  omega
 ·rw[←FA h] at hx;simp at hx
end
end Go.Ew
namespace Go.Ew
abbrev cN:=Int×Int×Int×Int×Int
def qC (U:List aN) (i:Int):Int:=((U[i.toNat]?).map (fun x=>x.2.2.2.1)).getD 0
section
variable {U:List aN} {fo:aA}
end
end Go.Ew
namespace Go.Ew
section
variable {U:List aN} {fo:aA} {pre:List cN} {pl:List Bool} {kd fr to sa sb:Int}
end
end Go.Ew
namespace Go.Ew
variable {h:cR} {U:List aN} {fo:aA} {j n:Nat} {w:Int}
def fe (h:cR):Bool:=iM h&&decide ((da (cS h)).2.2=0)
def tl (h:cR):List bh:=if fe h then mu h else []
def lP (h:cR):List aN:=if fe h then cS h else []
def lQ (h:cR):aA:=if fe h then gD (cS h) else []
theorem Aj (hq:fe h=false):tl h=[]∧lP h=[]∧lQ h=[]:=by unfold tl lP lQ;simp[hq]
theorem wK (hq:fe h=true):tl h=mu h∧lP h=cS h∧lQ h=gD (cS h):=by unfold tl lP lQ;simp[hq]
theorem aah {h:cR} (he:¬lD h=0):fe h=false:=by
 unfold fe
 cases hr:iM h with
 |false=>rfl
 |true=>exact absurd (rX hr).2.2 he
theorem afT {h:cR} (he:lD h=0):iM h=true:=by
 cases hr:iM h with
 |true=>rfl
 |false=>rw[(xr hr).2.2] at he;cases he
theorem aag (he:¬(da (cS h)).2.2=0):fe h=false:=by unfold fe;rw[an' he];simp
theorem acn (he:lD h=0) (hc:(da (cS h)).2.2=0):fe h=true:=by unfold fe;rw[afT he,an6 hc];rfl
theorem F9 {aE:List aN}:∀x∈gD aE,x<((aE.length:Nat):Int):=by
 intro x hx
 unfold gD at hx
 obtain⟨y,hy,rfl⟩:=aoE.1 hx
 have:=(NZ (aE:=aE) (x:=y) J).2.2.2.1
 exact this
def LJ (fo:aA) (a b:Nat):Bool:=decide (fo.getD b (-1)=((a:Nat):Int))
def oI (U:List aN) (fo:aA):Rows:=cE U.length (LJ fo)
def uw (n:Nat) (fo:aA) (j:Nat):Rows:=cE n fun a b=>decide (b<j)&&LJ fo a b
theorem Z7 (n:Nat) (fo:aA):vN ((n:Nat):Int)=uw n fo 0:=by
 rw[yG];exact dH fun a b _ _=>by simp
theorem aca (hl:fo.length=U.length) (hj:fo.length≤j):uw U.length fo j=oI U fo:=
 dH fun a b _ hb=>by rw[an6 (show b<j by omega)];rfl
theorem afN (hw:fo[((j:Nat):Int).toNat]? =some w) (h:w<0):uw n fo j=uw n fo (j+1):=by
 refine dH fun a b ha hb=>?_
 by_cases e:b=j
 ·subst e
  rw[dq] at hw
  unfold LJ
  rw[il,hw,an' (show ¬(some w).getD (-1)=((a:Nat):Int) by simp;omega)];simp
 ·have:decide (b<j)=decide (b<j+1):=by rw[apk];omega
  rw[this]
theorem afO (h0:0≤w) (hw:w<((n:Nat):Int)) (hj:j<n):kE ((n:Nat):Int) [w,((j:Nat):Int)]=true:=jo.2 aj
theorem ab_ (hw:fo[((j:Nat):Int).toNat]? =some w) (h0:0≤w) (h1:w<((n:Nat):Int)) (hj:j<n):rB (uw n fo j) (w,((j:Nat):Int))=uw n fo (j+1):=by
 unfold uw
 rw[Cr (afO h0 h1 hj)]
 refine dH fun a b ha hb=>?_
 rw[dq] at hw ⊢
 by_cases e:b=j
 ·subst e
  rw[an' (ap_ b),an6 (apv b),an6 rfl]
  unfold LJ
  rw[il,hw]
  show (false&&_||decide (a=w.toNat)&&true)=(true&&decide (w=((a:Nat):Int)))
  rw[aq3,apZ,aq_,aoY,apk]
  omega
 ·rw[an' e,aq4,apy]
  have:decide (b<j)=decide (b<j+1):=by rw[apk];omega
  rw[this]
theorem ab' {xs:Rows} {x:Row} (hs:xs=uw n fo j) (hw:fo[((j:Nat):Int).toNat]? =some w) (h0:0≤w) (h1:w<((n:Nat):Int)) (hj:j<n) (hx:xs[w.toNat]? =some x):xs.set w.toNat (ei x ((j:Nat):Int))=uw n fo (j+1):=by
 rw[Ik hx,hs];exact ab_ hw h0 h1 hj
theorem Vz (n:Nat) (fo:aA) (j:Nat):(uw n fo j).length=n:=mj _ _
theorem Z9 (U:List aN) (fo:aA):(oI U fo).length=U.length:=mj _ _
theorem Z8 (h:n≤4096) (fo:aA) (j:Nat):(((uw n fo j).length:Nat):Int)=((n:Nat):Int)∧∀x∈uw n fo j,x.length≤1000000000:=⟨by rw[Vz],Bi h⟩
theorem GX (h:n≤4096) (P:hQ):(((cE n P).length:Nat):Int)=((n:Nat):Int)∧∀x∈cE n P,x.length≤1000000000:=⟨by rw[mj],Bi h⟩
def M3 (U:List aN) (fo:aA) (a b:Nat):Bool:=DB U a b||LJ fo a b
def ky (U:List aN) (fo:aA):Rows:=cE U.length (M3 U fo)
theorem Za (U:List aN) (fo:aA):tj ((U.length:Nat):Int) ((U.length:Nat):Int)=((U.length:Nat):Int)∧mi ((U.length:Nat):Int) (oK U) ((U.length:Nat):Int) (oI U fo)=ky U fo:=by
 refine⟨(Ad (ar:=oK U) (br:=oI U fo) J).1,?_⟩
 rw[(Ad rfl).2.1,dq]
 exact SR _ _
def pO (U:List aN) (fo:aA):hQ:=cl U.length (M3 U fo)
def ct (U:List aN) (fo:aA):Rows:=cE U.length (pO U fo)
theorem Xa (U:List aN) (fo:aA):ff ((U.length:Nat):Int) (ky U fo)=ct U fo:=ES
theorem MY (fo:aA) (h:U.length≤4096):bJ ((U.length:Nat):Int) (ky U fo)=true:=lH h
theorem pD (fo:aA) (h:U.length≤4096):bJ ((U.length:Nat):Int) (ct U fo)=true:=lH h
end Go.Ew
namespace Go.Ew
def dS (lv:Int):aA:=bif decide (lv=1) then [1,2,3,4] else bif decide (lv=2) then [1,2,3,4]++[5] else bif decide (lv=3) then [1,2,3,4]++[6,7] else []
section
variable (U:List aN) (fo:aA)
def lj (o:Int):aA:=aV (fO U) (cz U o)
end
section
variable {U:List aN} {fo:aA}
end
end Go.Ew
namespace Go.Ew
section
variable (U:List aN) (fo:aA)
end
section
variable {U:List aN} {fo:aA}
end
end Go.Ew
namespace Go.Ew
section
variable {U:List aN} {fo:aA} {l:List cN}
theorem jy {α:Type} {xs:List α} {j:Nat} {x z:α} (h:xs[((j:Nat):Int).toNat]? =some x):xs.getD j z=x:=by
 rw[dq] at h
 rw[il,h];rfl
end

section
variable {α:Type} {l:List α} {p:α→Bool} {q:Nat→Bool} {j n:Nat} {x:α}
end
section
variable {l:List cN} {j:Nat} {s:cN} {ys:List Bool} {x:Bool}
end
section
variable {U:List aN} {fo:aA} {l:List cN}
end
end Go.Ew
namespace Go.Ew
def fG (a b:Int):Int:=bif decide (a<b) then -1 else bif decide (b<a) then 1 else 0
def CN:aA→Int
 |[]=>0
 |x::r=>if x=0 then CN r else x
abbrev eu:=Int×Int×Int
def xU (x y:eu):Int:=CN [fG x.1 y.1,fG x.2.1 y.2.1,fG x.2.2 y.2.2]
theorem OT:∀{l:aA} {j:Nat} {x:Int},(∀y∈l.take j,y=0)→l[j]? =some x→¬x=0→CN l=x
 |[],j,x,_,h,_=>by simp at h
 |a::l,0,x,_,h,hx=>by
  simp only[aoe,aod] at h
  subst h
  exact an8 hx
 |a::l,j+1,x,hs,h,hx=>by
  simp only[aon] at h
  show (if a=0 then CN l else a)=x
  rw[an4 (hs a (by simp)),OT (fun y hy=>hs y (by simp[hy])) h hx]
theorem LU:∀{l:aA},(∀y∈l,y=0)→CN l=0
 |[],_=>rfl
 |a::l,h=>by
  show (if a=0 then CN l else a)=0
  rw[an4 (h a (by simp)),LU (fun y hy=>h y (by simp[hy]))]
theorem Zz {l:aA} {j:Nat} {x:Int} (hs:∀y∈l.take j,y=0) (hx:l[((j:Nat):Int).toNat]? =some x) (h:x=0):∀y∈l.take (j+1),y=0:=by
 rw[dq] at hx
 intro y hy
 rw[aoy,hx] at hy
 rcases aot.1 hy with hy|hy
 ·exact hs y hy
 ·simp at hy;rw[hy];exact h
theorem Gf (a b:Int):aK (fG a b):=by
 unfold fG aK
 cases decide (a<b)<;>cases decide (b<a)<;>simp
end Go.Ew
namespace Go.Ew
open Go.RowKit
def pC (a:Option Addr) (c lo:Nat):Option Addr:=if c=lo then a else a.map (·.add (lo*3))
theorem zF {α:Type} [GT α] {M:bY} {w:aG}:∀(k:Nat) {xs:List α} {cs:List Value},bz M w cs xs→bz M w (cs.take (k*GT.size α)) (xs.take k)∧bz M w (cs.drop (k*GT.size α)) (xs.drop k)
 |0,xs,cs,h=>⟨by rw[aqA,ap5,ap5];rfl,by simpa using h⟩
 |k+1,[],cs,h=>by
  rw[show cs=[] from h]
  exact⟨by simp[bz],by simp[bz]⟩
 |k+1,x::xs,cs,h=>by
  obtain⟨c1,c2,rfl,h2,h3⟩:=h
  obtain⟨i1,i2⟩:=zF k h3
  have e:=GT.len h2
  have e1:(k+1)*GT.size α=c1.length+k*GT.size α:=by rw[aoT,e];omega
  refine⟨⟨c1,c2.take (k*GT.size α),?_,h2,i1⟩,?_⟩
  ·rw[e1,List.take_length_add_append]
  ·rw[e1,List.drop_length_add_append];exact i2
theorem afx (n:Nat):(Builtin.zeroCells #[Value.int .i64 0,Value.int .i64 0,Value.int .i64 0] n).toList=List.replicate (n*3) (Value.int .i64 0):=by
 unfold Builtin.zeroCells
 apply aoz
 intro i
 simp only[Array.toList_map,aoa,Array.toList_range,apO]
 by_cases h:i<n*3
 ·rw[aoL (by simpa using h),an4 h]
  have:i%3=0∨i%3=1∨i%3=2:=by omega
  rcases this with h|h|h<;>simp[h]
 ·rw[aof (by simpa using h),an8 h];rfl
theorem Wn:aK 0:=by unfold aK;omega
theorem IQ {M:bY} {w:aG}:∀n,bz M w (List.replicate (n*3) (Value.int .i64 0)) (List.replicate n ((0,0,0):eu))
 |0=>rfl
 |n+1=>⟨[.int .i64 0,.int .i64 0,.int .i64 0],List.replicate (n*3) (.int .i64 0),by rw[show (n+1)*3=n*3+1+1+1 by omega,aoW,aoW,aoW];rfl,⟨[_],[_,_],rfl,⟨rfl,Wn⟩,[_],[_],rfl,⟨rfl,Wn⟩,rfl,Wn⟩,IQ n⟩
section
variable {P:Program} {n:Nat} {ops:Array Oper} {f:aO} {w:aG} {K:aO→aG→Prop} {x y:Operand} {d:Nat} {ty T e:TypeId} {ps:String} {af:Array Edge} {v u:Value} {M M0:bY} {w0:aG} {l:List Item} {bytes:Nat} {z:Value} {B:Nat} {kk:IntKind} {agg:Bool} {xs ys:List eu} {a:Option Addr} {k c:Nat}
theorem wz (hO:(own B e (.slice a k c) xs).holds M w):k=xs.length∧xs.length≤c:=by
 obtain⟨cs,h1,h2⟩:=hO
 rcases h1.2 with ⟨h3,h4⟩|⟨g,cap,cur,h3,h4,h5,h6,h7⟩
 ·cases h3;omega
 ·cases h3;exact⟨rfl,h6⟩
theorem Vs {lo:Int} {rl:Operand} (hO:(own B e (.slice a k c) xs).holds M w) (ox:bD n x=true) (ol:bD n rl=true) (hx:ev f x=.slice a k c) (hl:ev f rl=.int kk lo) (hb:0≤lo∧lo≤xs.length) (hu:P.underlying T=some (.slice e)) (F:ep P e 3 agg bytes z)
  (h:K (cg f d (.slice (pC a c lo.toNat) (k-lo.toNat) (c-lo.toNat))) w):
  SO P n ops ⟨some d,.slice T x (some rl) none none,ty,ps,af,none⟩ f w K:=by
 obtain⟨hk,hc⟩:=wz hO
 refine SO.value (v:=.slice (pC a c lo.toNat) (k-lo.toNat) (c-lo.toNat)) (w':=w) ?_ h
 have vj:P.underlying T=some (.slice (P.elem T)):=by rw[hu];simp[Program.elem,hu]
 have uE:P.elem T=e:=by simp[Program.elem,hu]
 simp[execOp,aJ ox,aJ ol,hx,hl,Instr.sliceAt,gp hu]
 have:=run_slice_l (P:=P) (w:=w) T a k c vj kk lo hb.1 aj
 rw[uE,F.iK] at this
 simp[this,sliced,pC]
theorem afK {hi:Int} {pd:Operand} (hO:(own B e (.slice a k c) xs).holds M w) (ox:bD n x=true) (oh:bD n pd=true) (hx:ev f x=.slice a k c) (hh:ev f pd=.int kk hi) (hb:0≤hi∧hi≤xs.length) (hu:P.underlying T=some (.slice e)) (F:ep P e 3 agg bytes z)
  (h:K (cg f d (.slice (pC a c 0) hi.toNat c)) w):
  SO P n ops ⟨some d,.slice T x none (some pd) none,ty,ps,af,none⟩ f w K:=by
 obtain⟨hk,hc⟩:=wz hO
 refine SO.value (v:=.slice (pC a c 0) hi.toNat c) (w':=w) ?_ h
 have vj:P.underlying T=some (.slice (P.elem T)):=by rw[hu];simp[Program.elem,hu]
 have uE:P.elem T=e:=by simp[Program.elem,hu]
 simp[execOp,aJ ox,aJ oh,hx,hh,Instr.sliceAt,gp hu]
 have:=run_slice_h (P:=P) (w:=w) T a k c vj kk hi hb.1 aj
 rw[uE,F.iK] at this
 simp[this,sliced,pC]
theorem Sd {hi:Int} {pd:Operand} (H:HI M0 w0 w l) (i:Nat) (oQ:l[i]? =some (own B e (.slice a k c) xs)) (ox:bD n x=true) (oh:bD n pd=true) (hx:ev f x=.slice a k c) (hh:ev f pd=.int kk hi) (hb:0≤hi∧hi≤xs.length) (hu:P.underlying T=some (.slice e)) (F:ep P e 3 agg bytes z)
  (h:HI M0 w0 w (l.set i (own B e (.slice a (xs.take hi.toNat).length c) (xs.take hi.toNat)))→K (cg f d (.slice a (xs.take hi.toNat).length c)) w):
  SO P n ops ⟨some d,.slice T x none (some pd) none,ty,ps,af,none⟩ f w K:=by
 have hO:=H.at_ i oQ
 have jL:=(dJ.1 oQ).1
 have hlen:(xs.take hi.toNat).length=hi.toNat:=by simp;omega
 have FY:pC a c 0=a:=by
  unfold pC
  split
  ·rfl
  ·obtain⟨cs,h1,h2⟩:=hO
   rcases h1.2 with ⟨h3,h4⟩|⟨g,cap,cur,h3,h4⟩
   ·cases h3;rfl
   ·cases h3
    show some (Addr.add _ (0*3))=_
    rw[Gn]
 refine afK hO ox oh hx hh hb hu F ?_
 rw[FY]
 rw[hlen] at h
 refine h ?_
 refine H.weaken ?_ ?_
 ·apply aoz
  intro j
  rw[aoa,aoa]
  by_cases hj:i=j
  ·subst hj;rw[aol jL,oQ];cases a<;>rfl
  ·rw[aoD hj]
 ·intro j it nA hj rq M Tw
  by_cases qt:i=j
  ·subst qt
   rw[aol jL] at rq
   rw[oQ] at hj
   cases hj;cases rq
   obtain⟨cs,h1,h2⟩:=Tw
   have rN:=bz.length h2
   have Ap:GT.size eu=3:=rfl
   have q:=(zF hi.toNat h2).1
   rw[Ap] at q rN
   refine⟨cs.take (hi.toNat*3),⟨by rw[hlen,Ap,ic];omega,?_⟩,q⟩
   rcases h1.2 with ⟨h3,h4⟩|⟨g,cap,cur,h3,h4,h5,h6,h7,h8,h9⟩
   ·cases h3
    refine .inl ⟨by rw[show hi.toNat=0 from by omega],by rw[hlen];omega⟩
   ·cases h3
    refine .inr ⟨g,c,cur,by rw[hlen],h4,h5,by omega,h7,h8,?_⟩
    rw[Ap] at h9
    rw[←h9,hlen,Ap,apz]
    congr 1
    omega
  ·rw[aoD qt,hj] at rq;cases rq;exact Tw
theorem clE (H:HI M0 w0 w l) (i:Nat) (hi:l[i]? =some (own B e (.slice a k c) xs)) (hB:B=w0.heap.size) (ox:bD n x=true) {q:Nat} (hx:ev f x=.slice (pC a c q) (k-q) (c-q))
  (hu:P.underlying T=some (.slice e)) (F:ep P e 3 agg bytes (.agg #[.int .i64 0,.int .i64 0,.int .i64 0])) (hq:q≤xs.length)
  (h:∀w',HI M0 w0 w' (l.set i (own B e (.slice a k c) (xs.take q++List.replicate (xs.length-q) (0,0,0))))→K f w'):
  SO P n ops ⟨none,.call {callee:=.builtin .clear,args:=#[x],argTypes:=#[T]},ty,ps,af,none⟩ f w K:=by
 subst hB
 have hO:=H.at_ i hi
 have jL:=(dJ.1 hi).1
 obtain⟨hk,hc⟩:=wz hO
 obtain⟨cs,h1,h2⟩:=hO
 have Ap:GT.size eu=3:=rfl
 by_cases nC:q=xs.length
 ·have hz:k-q=0:=by omega
  refine SO.value (d:=none) (v:=.tuple #[]) (w':=w) ?_<|h w ?_
  ·have Aq:(Builtin.clear_ #[T] ty #[.slice (pC a c q) 0 (c-q)]).run P w=.ok (.tuple #[]) w:=by
    cases hca:pC a c q<;>simp[Builtin.clear_,run_underlying hu]
   rw[hz] at hx
   simp[execOp,resolve,invoke,builtin,aJ ox,hx,Aq]
  ·have e9:xs.take q++List.replicate (xs.length-q) (0,0,0)=xs:=by rw[nC];simp
   rw[e9]
   have:l.set i (own w0.heap.size e (.slice a k c) xs)=l:=by
    apply aoz
    intro j
    by_cases hj:i=j
    ·subst hj;rw[aol jL,hi]
    ·rw[aoD hj]
   rw[this];exact H
 ·rcases h1.2 with ⟨h0,h3⟩|⟨g',c1,cur,h0,h3,h4,h5,h6,h7,h8⟩
  ·omega
  ·cases h0
   have pI:cur.size=c*3:=by rw[h7,Ap]
   have TH:pC (some ⟨g',0,none⟩) c q=some ⟨g',q*3,none⟩:=by unfold pC;rw[an8 aj];show some (Addr.add _<|q*3)=_;rw[Gn]
   rw[TH] at hx
   have rN:=bz.length h2
   rw[Ap] at rN h8
   have hz:bz (MS M0 l) w (List.replicate ((xs.length-q)*3) (Value.int .i64 0)) (List.replicate (xs.length-q) ((0,0,0):eu)):=IQ _
   have oP:=run_storeCells_at P g' (q*3) e (List.replicate ((xs.length-q)*3)<|Value.int .i64 0) 0 cur w h4 (by rw[oz];omega)<|bz.Bd hz
   refine SO.value (d:=none) (v:=.tuple #[]) (w':=w.setRow g' (cur.toList.take (q*3)++List.replicate ((xs.length-q)*3) (Value.int .i64 0)++cur.toList.drop (q*3+(List.replicate ((xs.length-q)*3)<|Value.int .i64 0).length)).toArray) ?_<|h _ ?_
   ·obtain⟨m,hm⟩:∃m,xs.length-q=m+1:=⟨xs.length-q-1,by omega⟩
    have Aq:(Builtin.clear_ #[T] ty #[.slice (some ⟨g',q*3,none⟩) (xs.length-q) (c-q)]).run P w=.ok (.tuple #[]) (w.setRow g' (cur.toList.take (q*3)++List.replicate ((xs.length-q)*3) (Value.int .i64 0)++cur.toList.drop (q*3+(List.replicate ((xs.length-q)*3) (Value.int .i64 0)).length)).toArray):=by
     have rO:(Builtin.zeroCells (Value.agg #[.int .i64 0,.int .i64 0,.int .i64 0]).cells (xs.length-q)).toList=List.replicate ((xs.length-q)*3) (Value.int .i64 0):=afx _
     rw[aoH] at oP
     rw[hm] at oP rO ⊢
     simp[Builtin.clear_,run_underlying hu,F.um,rO,oP]
    simp[execOp,resolve,invoke,builtin,aJ ox,hx,Aq]
   ·have Ys:(List.replicate ((xs.length-q)*3) (Value.int .i64 0)).length=(xs.length-q)*3:=oz
    have Hg:(xs.take q++List.replicate (xs.length-q) ((0,0,0):eu)).length=xs.length:=by simp;omega
    have adK:cur.toList.length=c*3:=by simpa using pI
    refine H.uk i hi J J J (by simp) (an3 _) (fun q' hq' gB=>setRow_other w g' q' _<|fun e=>gB<|by rw[e];rfl) ?_ ?_
    ·intro b hb
     refine⟨?_,.inl hb⟩
     rw[size_setRow]
     exact(H.jl _ (dz hi) b hb).2
    ·have qN:Up (MS M0 l) w (MS M0 (l.set i (own w0.heap.size e (Value.slice (some ⟨g',0,none⟩) xs.length c) (xs.take q++List.replicate (xs.length-q) (0,0,0))))) (w.setRow g' (cur.toList.take (q*3)++List.replicate ((xs.length-q)*3) (Value.int .i64 0)++cur.toList.drop (q*3+(List.replicate ((xs.length-q)*3) (Value.int .i64 0)).length)).toArray):=by
      refine⟨by simp,fun b hb hM=>⟨setRow_other w g' b _ (fun e=>hM<|.inr ⟨_,dz hi,by rw[e];rfl⟩),?_⟩⟩
      rintro(Dd|⟨it,hit,ml⟩)
      ·exact hM<|.inl Dd
      ·rcases aoR hit with hit|rfl
       ·exact hM<|.inr ⟨it,hit,ml⟩
       ·exact hM<|.inr ⟨_,dz hi,ml⟩
     have qc:=(zF q h2).1
     rw[Ap] at qc
     refine⟨cs.take (q*3)++List.replicate ((xs.length-q)*3) (Value.int .i64 0),⟨by rw[Hg,Ap,fJ,ic,Ys];omega,.inr ⟨g',c,_,by rw[Hg],h3,setRow_heap w g' cur _ e _ h4,by omega,h6,?_,?_⟩⟩,?_⟩
     ·simp only[apC,fJ,ic,aog,Ap,Ys]
      omega
     ·rw[Hg]
      show (cur.toList.take (q*3)++List.replicate ((xs.length-q)*3) (Value.int .i64 0)++cur.toList.drop (q*3+(List.replicate ((xs.length-q)*3) (Value.int .i64 0)).length)).take (xs.length*3)=_
      rw[apt (by rw[fJ,ic,Ys];omega),an_ (by rw[fJ,ic,Ys];omega),←h8,apz,ao7 aj]
     ·exact bz.append (bz.lift qN qc)<|IQ _
end
end Go.Ew
namespace Go.Ew
open Go.RowKit
section
variable {P:Program} {n:Nat} {ops:Array Oper} {f:aO} {w:aG} {K:aO→aG→Prop} {x y:Operand} {d:Nat} {ty T e:TypeId} {ps:String} {af:Array Edge} {v u:Value} {M M0:bY} {w0:aG} {l:List Item} {bytes:Nat} {z:Value} {B:Nat} {kk:IntKind} {agg:Bool} {xs ys:List eu} {a:Option Addr} {k c:Nat}
theorem Ul {q:Nat} {i:Int} (hO:(own B e (.slice a k c) xs).holds M w0) (hi:0≤i∧i<((k-q:Nat):Int)):
  ∃g,a=some ⟨g,0,none⟩∧pC a c q=some ⟨g,q*3,none⟩∧q+i.toNat<xs.length∧∀xv,xs[q+i.toNat]? =some xv→gP M w0 ⟨g,q*3+i.toNat*3,none⟩ xv:=by
 obtain⟨hk,hc⟩:=wz hO
 have h0:=hO
 obtain⟨cs,h1,h2⟩:=hO
 rcases h1.2 with ⟨h3,h4⟩|⟨g',c1,cur,h3,h4⟩
 ·omega
 ·cases h3
  refine⟨g',J,?_,by omega,fun xv hx=>?_⟩
  ·unfold pC;rw[an8 aj];show some (Addr.add _ (q*3))=_;rw[Gn]
  ·have:=acf h0 J hx
   rwa [show (q+i.toNat)*GT.size eu=q*3+i.toNat*3 from by show (q+i.toNat)*3=_;omega] at this
theorem Sx {K:aO→Prop} {rest:dh} {q:Nat} {i:Int} (hO:(own B e (.slice a k c) xs).holds M w0) (ox:bD n x=true) (oy:bD n y=true) (hx:ev f x=.slice (pC a c q) (k-q) (c-q)) (hy:ev f y=.int kk i) (hi:0≤i∧i<((k-q:Nat):Int)) (hu:P.underlying T=some (.slice e)) (F:ep P e 3 agg bytes z)
  (h:∀ad xv,xs[q+i.toNat]? =some xv→gP M w0 ad xv→PW P n ops w0 K rest (cg f d (.pointer (some ad)))):PW P n ops w0 K (⟨some d,.indexAddr T x y,ty,ps,af,none⟩::rest) f:=by
 obtain⟨g,rfl,FY,ef,hat⟩:=Ul hO hi
 rw[FY] at hx
 have kn:(⟨g,q*3,none⟩:Addr).add (i.toNat*3)=⟨g,q*3+i.toNat*3,none⟩:=by unfold Addr.add;split<;>simp_all
 refine⟨.pointer (some ⟨g,q*3+i.toNat*3,none⟩),fun w hw=>SO.value (v:=.pointer (some ⟨g,q*3+i.toNat*3,none⟩)) (w':=w) ?_ ⟨J,Ext.refl w⟩,h _ xs[q+i.toNat] (dW ef) (hat _<|dW ef)⟩
 have hb:0≤i∧i<((k-q:Nat):Int):=hi
 simp[execOp,aJ ox,aJ oy,hx,hy,Instr.indexAt,asIntOf,gp hu,hb,F.iK,kn]
theorem aiJ {q:Nat} {i:Int} (hO:(own B e (.slice a k c) xs).holds M w) (ox:bD n x=true) (oy:bD n y=true) (hx:ev f x=.slice (pC a c q) (k-q) (c-q)) (hy:ev f y=.int kk i) (hi:0≤i∧i<((k-q:Nat):Int)) (hu:P.underlying T=some (.slice e)) (F:ep P e 3 agg bytes z)
  (h:∀ad xv,xs[q+i.toNat]? =some xv→gP M w ad xv→K (cg f d (.pointer (some ad))) w):SO P n ops ⟨some d,.indexAddr T x y,ty,ps,af,none⟩ f w K:=by
 obtain⟨g,rfl,FY,ef,hat⟩:=Ul hO hi
 rw[FY] at hx
 have kn:(⟨g,q*3,none⟩:Addr).add (i.toNat*3)=⟨g,q*3+i.toNat*3,none⟩:=by unfold Addr.add;split<;>simp_all
 refine SO.value (v:=.pointer (some ⟨g,q*3+i.toNat*3,none⟩)) (w':=w) ?_<|h _ xs[q+i.toNat] (dW ef)<|hat _<|dW ef
 have hb:0≤i∧i<((k-q:Nat):Int):=hi
 simp[execOp,aJ ox,aJ oy,hx,hy,Instr.indexAt,asIntOf,gp hu,hb,F.iK,kn]
end
end Go.Ew
namespace Go.Ew
open Go.RowKit
def gU (s:bh):List (BitVec 8):=s.data.toList.map fun b=>b.toBitVec
def sT (s:bh) (i:Int):Int:=((s[i.toNat]?).map fun c=>((c.toNat:Nat):Int)).getD 0
theorem aeS {s:bh} {i:Int} {c:UInt8} (h:s[i.toNat]? =some c):sT s i=((c.toNat:Nat):Int):=by unfold sT;rw[h];rfl
theorem F_ {s:bh} {i j:Nat} (h:i≤j) (h2:j≤s.size):(s.extract i j).size=j-i:=by rw[ByteArray.size_extract];omega
theorem Dk (s:bh) (i j:Nat):(s.extract i j).size≤s.size:=by rw[ByteArray.size_extract];omega
theorem ns (s:bh):(gU s).length=s.size:=by unfold gU;rw[aoo,aoM];rfl
section
variable {P:Program} {n:Nat} {ops:Array Oper} {f:aO} {w:aG} {K:aO→aG→Prop} {x y:Operand} {d:Nat} {ty T T2 e:TypeId} {ps:String} {af:Array Edge} {M M0:bY} {w0:aG} {l:List Item} {B:Nat} {a:Option Addr} {k c:Nat} {s:bh} {lo hi:Int} {rl pd:Operand}
theorem Qi (ox:bD n x=true) (ol:bD n rl=true) (oh:bD n pd=true) (hx:ev f x=.string s) (hl:ev f rl=.int .i64 lo) (hh:ev f pd=.int .i64 hi) (hb:0≤lo∧lo≤hi∧hi≤(s.size:Int)) (hu:P.underlying T=some .string) (h:K (cg f d (.string (s.extract lo.toNat hi.toNat))) w):
  SO P n ops ⟨some d,.slice T x (some rl) (some pd) none,ty,ps,af,none⟩ f w K:=by
 refine SO.value (v:=.string (s.extract lo.toNat hi.toNat)) (w':=w) ?_ h
 simp[execOp,aJ ox,aJ ol,aJ oh,hx,hl,hh,Instr.sliceAt,gp hu,run_slice_string (P:=P) w T s .i64 .i64 lo hi hu hb.1 hb.2.1 hb.2.2]
theorem Vr (ox:bD n x=true) (ol:bD n rl=true) (hx:ev f x=.string s) (hl:ev f rl=.int .i64 lo) (hb:0≤lo∧lo≤(s.size:Int)) (hu:P.underlying T=some .string) (h:K (cg f d (.string (s.extract lo.toNat s.size))) w):
  SO P n ops ⟨some d,.slice T x (some rl) none none,ty,ps,af,none⟩ f w K:=by
 refine SO.value (v:=.string (s.extract lo.toNat s.size)) (w':=w) ?_ h
 simp[execOp,aJ ox,aJ ol,hx,hl,Instr.sliceAt,gp hu,run_slice_string_l (P:=P) w T s hu .i64 lo hb.1 hb.2]
theorem aiw (ox:bD n x=true) (oh:bD n pd=true) (hx:ev f x=.string s) (hh:ev f pd=.int .i64 hi) (hb:0≤hi∧hi≤(s.size:Int)) (hu:P.underlying T=some .string) (h:K (cg f d (.string (s.extract 0 hi.toNat))) w):
  SO P n ops ⟨some d,.slice T x none (some pd) none,ty,ps,af,none⟩ f w K:=by
 refine SO.value (v:=.string (s.extract 0 hi.toNat)) (w':=w) ?_ h
 simp[execOp,aJ ox,aJ oh,hx,hh,Instr.sliceAt,gp hu,run_slice_string_h (P:=P) w T s hu .i64 hi hb.1 hb.2]
theorem Ep (s:bh) (cap i:Nat) {b:BitVec 8} (h:(gU s)[i]? =some b):(bytesRow s cap)[i]? =some (U8 b):=by
 have hi:=(dJ.1 h).1
 rw[ns] at hi
 unfold gU at h
 rw[aoa,aph] at h
 unfold bytesRow
 have t':i<s.data.size:=hi
 rw[ap0 (by simpa using t'),Array.getElem?_map]
 rw[Array.getElem?_eq_getElem t'] at h ⊢
 simp only[aoV,aod] at h ⊢
 rw[←h]
 rfl
theorem akd (H:HI M0 w0 w l) (ox:bD n x=true) (hx:ev f x=.string s) (pI:s.size≤maxLen) (hs:P.underlying T=some .string) (hd:P.underlying T2=some (.slice e)) (he:P.underlying e=some (.int .u8))
  (h:∀a c w',Ext w w'→HI M0 w0 w' (tq (.slice a (gU s).length c) (gU s)::l)→K (cg f d (.slice a (gU s).length c)) w'):
  SO P n ops ⟨some d,.convert T T2 x,ty,ps,af,none⟩ f w K:=by
 have hr:=run_bytes_of_string (P:=P) w T T2 e s hs hd he
 have hX:Ext w (w.drew.alloc (.cells (bytesRow s (grownCap w s.size 0 e)) e ((bytesRow s (grownCap w s.size 0 e)).size,(bytesRow s (grownCap w s.size 0 e)).size+1))):=(Ext.drew w).trans (Ext.alloc _ _)
 have hk:K (cg f d (.slice (some ⟨w.heap.size,0,none⟩) (gU s).length (grownCap w s.size 0 e))) _:=h _ _ _ hX<|(H.ext hX).put rfl (RV.list.2 ⟨_,_,_,J,J,by rw[ns];exact grownCap_ge w s.size 0 e,grownCap_le_maxLen w s.size 0 e pI,.inr ⟨_,J,fun i b hb=>?_⟩⟩)
 ·refine SO.value (v:=.slice (some ⟨w.heap.size,0,none⟩) s.size (grownCap w s.size 0 e)) ?_<|by rw[ns] at hk;exact hk
  simp[execOp,aJ ox,hx,hr]
 ·have kn:(⟨w.heap.size,0,none⟩:Addr).add (i*GT.size (BitVec 8))=⟨w.heap.size,i,none⟩:=by show Addr.add _ (i*1)=_;rw[Gn,aqd]
  rw[kn]
  refine⟨[U8 b],J,fun hM=>?_,fun j v hj=>?_⟩
  ·exact absurd (H.mb _ hM)<|ap_ _
  ·cases j with
   |succ j=>simp at hj
   |zero=>
    simp only[aoe,aod] at hj
    subst hj
    rw[show ((⟨w.heap.size,i,none⟩:Addr).add 0)=⟨w.heap.size,i,none⟩ from by unfold Addr.add;simp]
    have hg:(w.drew.alloc (.cells (bytesRow s (grownCap w s.size 0 e)) e ((bytesRow s (grownCap w s.size 0 e)).size,(bytesRow s (grownCap w s.size 0 e)).size+1))).heap[w.heap.size]? =some (.cells (bytesRow s (grownCap w s.size 0 e)) e ((bytesRow s (grownCap w s.size 0 e)).size,(bytesRow s (grownCap w s.size 0 e)).size+1)):=by
     show (w.heap.push _)[w.heap.size]? =_
     simp
    rw[cell_of_row _ w.heap.size _ _ e _ hg]
    exact Ep s _ i hb
theorem Ye {kk:IntKind} {i:Int} (ox:bD n x=true) (oy:bD n y=true) (hx:ev f x=.string s) (hy:ev f y=.int kk i) (hi:0≤i∧i<(s.size:Int)) (hu:P.underlying T=some .string)
  (h:K (cg f d (.int .u8 (sT s i))) w):SO P n ops ⟨some d,.index T x y,ty,ps,af,none⟩ f w K:=
 ixS ox oy hx hy hi hu fun c hc=>by rw[←aeS hc];exact h
theorem abD {i j:Int} (ox:bD n x=true) (oy:bD n y=true) (hx:ev f x=.int .u8 i) (hy:ev f y=.int .u8 j) (hi:0≤i-j∧i-j≤255) (h:K (cg f d (.int .u8 (i-j))) w):SO P n ops ⟨some d,.binOp .sub T x y T2,ty,ps,af,none⟩ f w K:=
 bin ox oy hx hy (by simp[binOp,Op.intArith,(w8 hi.1 hi.2).1]) h
theorem Ib (b:bp):IntKind.i64.wrap (b.toNat:Int)=b.toInt:=by
 have:=b.isLt
 unfold IntKind.wrap
 rw[aqs]
 simp[IntKind.bits,IntKind.signed]
 split<;>split<;>omega
theorem cvT {e:TypeDesc} {b:bp} (ox:bD n x=true) (hx:ev f x=ag b) (h1:P.underlying T=some e) (h2:P.underlying T2=some (.int .i64)) (h:K (cg f d (.int .i64 b.toInt)) w):
  SO P n ops ⟨some d,.convert T T2 x,ty,ps,af,none⟩ f w K:=
 cv ox hx h1 h2 (by rw[Ib];exact h)
end
end Go.Ew
namespace Go.Ew
open Go.RowKit
def EZ (e:TypeId) (g:Nat) (xs:List (BitVec 8)):Item:=⟨some g,fun _ w=>∃cur lo hi,w.heap[g]? =some (.cells cur e (lo,hi))∧xs.length≤lo∧∀(i:Nat) (b:BitVec 8),xs[i]? =some b→cur[i]? =some (U8 b),fun {M M' w w'} h u hb=>by
 obtain⟨cur,lo,hi,h1,h2,h3⟩:=h
 exact⟨cur,lo,hi,(hb g rfl).trans h1,h2,h3⟩⟩
def kB (xs:List (BitVec 8)):bh:=strOfNums (xs.map fun b=>((b.toNat:Nat):Int))
theorem Ja (xs:List (BitVec 8)):(kB xs).size=xs.length:=by unfold kB;rw[strOfNums_size,aoo]
section
variable {P:Program} {n:Nat} {ops:Array Oper} {f:aO} {w:aG} {K:aO→aG→Prop} {x y:Operand} {d:Nat} {ty T T2 e:TypeId} {ps:String} {af:Array Edge} {M M0:bY} {w0:aG} {l:List Item} {B:Nat} {a:Option Addr} {k c g j bytes:Nat} {s:bh} {i t:Int} {agg:Bool} {z:Value} {xs:List (BitVec 8)} {kk:IntKind}
theorem Kw (s:bh) (cap:Nat):s.size≤(bytesRow s cap).size:=by
 unfold bytesRow
 rw[aqL,Array.size_map]
 exact Nat.le_add_right _ _
theorem agR (H:HI M0 w0 w l) (ox:bD n x=true) (hx:ev f x=.string s) (hs:P.underlying T=some .string) (hd:P.underlying T2=some (.slice e)) (he:P.underlying e=some (.int .u8))
  (h:∀g c w',Ext w w'→HI M0 w0 w' (EZ e g (gU s)::l)→K (cg f d (.slice (some ⟨g,0,none⟩) (gU s).length c)) w'):
  SO P n ops ⟨some d,.convert T T2 x,ty,ps,af,none⟩ f w K:=by
 have hr:=run_bytes_of_string (P:=P) w T T2 e s hs hd he
 have hX:Ext w (w.drew.alloc (.cells (bytesRow s (grownCap w s.size 0 e)) e ((bytesRow s (grownCap w s.size 0 e)).size,(bytesRow s (grownCap w s.size 0 e)).size+1))):=(Ext.drew w).trans (Ext.alloc _ _)
 have hg:(w.drew.alloc (.cells (bytesRow s (grownCap w s.size 0 e)) e ((bytesRow s (grownCap w s.size 0 e)).size,(bytesRow s (grownCap w s.size 0 e)).size+1))).heap[w.heap.size]? =some (.cells (bytesRow s (grownCap w s.size 0 e)) e ((bytesRow s (grownCap w s.size 0 e)).size,(bytesRow s (grownCap w s.size 0 e)).size+1)):=by
  show (w.heap.push _)[w.heap.size]? =_
  simp
 have hk:=h w.heap.size (grownCap w s.size 0 e) _ hX<|H.new hX w.heap.size J (an3 _) (aor.1 hg).1 ⟨_,_,_,hg,by rw[ns];exact Kw s _,fun i b hb=>Ep s _ i hb⟩
 refine SO.value (v:=.slice (some ⟨w.heap.size,0,none⟩) s.size (grownCap w s.size 0 e)) ?_<|by rw[ns] at hk;exact hk
 simp[execOp,aJ ox,hx,hr]
theorem iaY (hO:(EZ e g xs).holds M w) (ox:bD n x=true) (oy:bD n y=true) (hx:ev f x=.slice (some ⟨g,0,none⟩) k c) (hy:ev f y=.int kk i) (hi:0≤i∧i<(xs.length:Int)) (hk:k=xs.length) (hu:P.underlying T=some (.slice e)) (F:ep P e 1 agg bytes z)
  (h:∀xv,xs[i.toNat]? =some xv→gP M w ⟨g,i.toNat,none⟩ xv→K (cg f d (.pointer (some ⟨g,i.toNat,none⟩))) w):SO P n ops ⟨some d,.indexAddr T x y,ty,ps,af,none⟩ f w K:=by
 obtain⟨cur,lo,hh,h1,h2,h3⟩:=hO
 have ef:i.toNat<xs.length:=by omega
 have kn:(⟨g,0,none⟩:Addr).add i.toNat=⟨g,i.toNat,none⟩:=by unfold Addr.add;split<;>simp_all
 refine SO.value (v:=.pointer (some ⟨g,i.toNat,none⟩)) ?_<|h xs[i.toNat] (dW ef) ?_
 ·have hb:0≤i∧i<(k:Int):=by omega
  simp[execOp,aJ ox,aJ oy,hx,hy,Instr.indexAt,asIntOf,gp hu,hb,F.iK,kn]
 ·refine⟨[U8 xs[i.toNat]],J,fun j v hj=>?_⟩
  cases j with
  |succ j=>simp at hj
  |zero=>
   simp only[aoe,aod] at hj
   subst hj
   rw[show ((⟨g,i.toNat,none⟩:Addr).add 0)=⟨g,i.toNat,none⟩ from by unfold Addr.add;simp]
   rw[cell_of_row _ g _ _ e _ h1]
   exact h3 _ _<|dW ef
theorem Kp {cur:Array Value} {lo hi o:Nat} {v:Value} (hg:w.heap[g]? =some (.cells cur T (lo,hi))) (ho:o<lo) (hl:o<cur.size) (h1:v.oneCell'=true):
  (storeCells ⟨g,o,none⟩ [v] 0).run P w=.ok () (w.setRow g (cur.setIfInBounds o v)):=by
 have kn:(⟨g,o,none⟩:Addr).add 0=⟨g,o,none⟩:=by unfold Addr.add;simp
 have rZ:w.cell? ⟨g,o,none⟩=some cur[o]:=by simp[World.cell?,hg,hl]
 have aja:w.frozen? ⟨g,o,none⟩=false:=by
  simp only[World.frozen?,hg,aqj,aob]
  left;omega
 have oP:(store ((⟨g,o,none⟩:Addr).add 0) v).run P w=.ok () (w.setRow g (cur.setIfInBounds o v)):=by
  rw[kn,run_store P w _ v _ h1,rZ]
  simp[aja,setCell_eq_setRow w g o cur T (lo,hi) v hg]
 simp only[storeCells,Sem.run_bind,oP,Result.andThen_ok]
 rfl
theorem stY {dd:Option Nat} (H:HI M0 w0 w l) (q:Nat) (hq:l[q]? =some (EZ e g xs)) (hj:j<xs.length) (F:ep P T 1 agg bytes z) (ox:bD n x=true) (oy:bD n y=true)
  (hx:ev f x=.pointer (some ⟨g,j,none⟩)) (hy:ev f y=.int .u8 t) (ht:0≤t∧t≤255)
  (h:∀w',HI M0 w0 w' (l.set q (EZ e g (xs.set j (BitVec.ofInt 8 t))))→K (cW f dd undef) w'):SO P n ops ⟨dd,.store T x y,ty,ps,af,none⟩ f w K:=by
 obtain⟨cur,lo,hi,h1,h2,h3⟩:=H.at_ q hq
 have hc:j<cur.size:=by
  have:=h3 j xs[j]<|dW hj
  exact(aor.1 this).1
 have hU:(Value.int .u8 t)=U8 (BitVec.ofInt 8 t):=by show _=Value.int .u8 _;rw[(w8 ht.1 ht.2).2]
 have oP:(storeCells ⟨g,j,none⟩ [Value.int .u8 t] 0).run P w=.ok () (w.setRow g (cur.setIfInBounds j (Value.int .u8 t))):=by
  have:=Kp (P:=P) (w:=w) (g:=g) (T:=e) (cur:=cur) (lo:=lo) (hi:=hi) (o:=j) (v:=Value.int .u8 t) h1 aj hc J
  exact this
 refine SO.skip (w':=w.setRow g (cur.setIfInBounds j<|Value.int .u8 t)) ?_ (h _ ?_)
 ·have hsv:(storeVar T ⟨g,j,none⟩ (Value.int .u8 t)).run P w=.ok () (w.setRow g (cur.setIfInBounds j (Value.int .u8 t))):=by
   simp only[storeVar,Sem.run_bind,F.iK,Result.andThen_ok,Value.cells]
   simpa using oP
  simp[execOp,aJ ox,aJ oy,hx,hy,Instr.storeAt,Instr.sureAddr,hsv]
 ·refine H.uk q hq J J J (by simp) (an3 _) (fun c hc gB=>setRow_other w g c _<|fun e=>gB<|by rw[e];rfl) (fun b hb=>?_) ?_
  ·refine⟨?_,.inl hb⟩
   rw[size_setRow]
   exact(H.jl _ (dz hq) b hb).2
  ·refine⟨_,lo,hi,setRow_heap w g cur _ e _ h1,by rw[an1];exact h2,fun i b hb=>?_⟩
   rw[Array.getElem?_setIfInBounds]
   rw[apa] at hb
   by_cases e:j=i
   ·subst e
    rw[an4 rfl,an4 hj] at hb
    rw[an4 rfl,an4 hc,hU,an5 hb]
   ·rw[an8 e] at hb ⊢
    exact h3 i b hb
theorem akc (hO:(EZ e g xs).holds M w) (ox:bD n x=true) (hx:ev f x=.slice (some ⟨g,0,none⟩) k c) (hk:k=xs.length) (hs:P.underlying T=some (.slice e)) (he:P.underlying e=some (.int .u8)) (hd:P.underlying T2=some .string)
  (h:K (cg f d (.string (kB xs))) w):SO P n ops ⟨some d,.convert T T2 x,ty,ps,af,none⟩ f w K:=by
 obtain⟨cur,lo,hh,h1,h2,h3⟩:=hO
 have km:=run_convert_bytes_arg (P:=P) w T e hs he g 0 k c (xs.map fun b=>((b.toNat:Nat):Int)) (by rw[aoo,hk]) (by
  intro i hi
  have ef:i<xs.length:=by omega
  rw[aoJ,cell_of_row w g _ cur e _ h1,h3 i xs[i] (dW ef)]
  simp[List.getD,dW ef]) T2 hd
 refine SO.value (v:=.string (kB xs)) (w':=w) ?_ h
 simp only[execOp,aJ ox,hx]
 simp[km]
 rfl
theorem Zl {s:Int} (ox:bD n x=true) (oy:bD n y=true) (hx:ev f x=.int .u8 s) (hy:ev f y=.int .u8 t) (hi:0≤s+t∧s+t≤255) (h:K (cg f d (.int .u8 (s+t))) w):SO P n ops ⟨some d,.binOp .add T x y T2,ty,ps,af,none⟩ f w K:=
 bin ox oy hx hy (by simp[binOp,Op.intArith,(w8 hi.1 hi.2).1]) h
end
end Go.Ew
namespace Go.Ew
variable {p:Nat→Bool} {j:Nat}
def du (U:List aN) (n:Int) (rs:Rows) (r:Int):aA:=aV (iP U (qC U r)) (eU n rs r)
section
variable (U:List aN) (fo:aA) (n:Int) (rs:Rows)
def vz (r:Nat):Bool:=decide (fo.getD r 0= -1)&&decide (0<(((du U n rs ((r:Nat):Int)).length:Nat):Int))
def AD:Option Nat:=(List.range fo.length).find? (vz U fo n rs)
end
theorem D_ {n:Nat} (hs:∀q,q<j→p q=false) (hj:j<n) (h:p j=true):(List.range n).find? p=some j:=by
 rw[List.find?_range_eq_some]
 refine⟨h,an7.2 hj,fun q hq=>?_⟩
 rw[hs q hq];rfl
theorem Bx {n:Nat} (hs:∀q,q<j→p q=false) (hj:n≤j):(List.range n).find? p=none:=by
 rw[apw]
 intro q hq
 rw[hs q (aox (an7.1 hq) hj)];decide
theorem su (hs:∀q,q<j→p q=false) (h:p j=false):∀q,q<j+1→p q=false:=by
 intro q hq
 by_cases e:q=j
 ·rw[e];exact h
 ·exact hs q aj
theorem MC {l:aA} {x:Int} (h:l[(0:Int).toNat]? =some x):l.headD 0=x:=by
 cases l with
 |nil=>simp at h
 |cons a l=>simp at h;exact h
def zH (n:Int) (rs:Rows) (a k:Int):Bool:=!decide (k=a)&&eI n rs a k
section
variable (U:List aN) (fo:aA) (n:Int) (rs:Rows)
def zI (r:Nat):Option Int:=(du U n rs ((r:Nat):Int)).find? (zH n rs (fo.getD r 0))
def vU (r:Nat):Bool:=!decide (fo.getD r 0<0)&&(zI U fo n rs r).isSome
def Gj:Option Nat:=(List.range fo.length).find? (vU U fo n rs)
end
theorem O7 {α:Type} {l:List α} {p:α→Bool} {x:α} (hs:∀y∈l.take j,p y=false) (hx:l[((j:Nat):Int).toNat]? =some x) (h:p x=false):∀y∈l.take (j+1),p y=false:=by
 rw[dq] at hx
 intro y hy
 rw[aoy,hx] at hy
 rcases aot.1 hy with hy|hy
 ·exact hs y hy
 ·simp at hy;rw[hy];exact h
theorem acG {α:Type} {p:α→Bool}:∀{l:List α} {j:Nat} {x:α},(∀y∈l.take j,p y=false)→l[((j:Nat):Int).toNat]? =some x→p x=true→l.find? p=some x:=by
 intro l j x hs hx h
 rw[dq] at hx
 have hj:=(dJ.1 hx).1
 have e:l=l.take j++x::l.drop (j+1):=by
  rw[←(dJ.1 hx).2,aqM,ao2]
 rw[e,List.find?_append,apw.2 (fun y hy=>by rw[hs y hy];decide),List.find?_cons_of_pos h];rfl
theorem aau {α:Type} {l:List α} {p:α→Bool} (hs:∀y∈l.take j,p y=false) (hj:l.length≤j):l.find? p=none:=by
 rw[an_ hj] at hs
 exact apw.2 fun y hy=>by rw[hs y hy];decide
theorem ae0 {U:List aN} {fo:aA} {n:Int} {rs:Rows} {j q:Nat} {a x:Int} (hs:∀q,q<j→vU U fo n rs q=false) (hj:j<fo.length) (aM:fo[((j:Nat):Int).toNat]? =some a) (h0:decide (a<0)=false)
  (gM:∀y∈(du U n rs (j:Int)).take q,zH n rs a y=false) (cQ:(du U n rs (j:Int))[((q:Nat):Int).toNat]? =some x) (h1:decide (x=a)=false) (h2:eI n rs a x=true):
  Gj U fo n rs=some j∧zI U fo n rs j=some x∧fo.getD j 0=a:=by
 have hq:zH n rs a x=true:=by unfold zH;rw[h1,h2];rfl
 have hk:zI U fo n rs j=some x:=by unfold zI;rw[jy aM];exact acG gM cQ hq
 refine⟨D_ hs hj ?_,hk,jy aM⟩
 unfold vU
 rw[jy aM,h0,hk];rfl
theorem aeZ {U:List aN} {fo:aA} {n:Int} {rs:Rows} {a:Int} (hs:∀q,q<j→vU U fo n rs q=false) (aM:fo[((j:Nat):Int).toNat]? =some a) (h0:decide (a<0)=true):∀q,q<j+1→vU U fo n rs q=false:=
 su hs (by unfold vU;rw[jy aM,h0];rfl)
theorem Xt {U:List aN} {fo:aA} {n:Int} {rs:Rows} {j q:Nat} {a:Int} (hs:∀q,q<j→vU U fo n rs q=false) (aM:fo[((j:Nat):Int).toNat]? =some a)
  (gM:∀y∈(du U n rs (j:Int)).take q,zH n rs a y=false) (hq:(du U n rs (j:Int)).length≤q):∀q,q<j+1→vU U fo n rs q=false:=
 su hs (by unfold vU zI;rw[jy aM,aau gM hq];simp)
theorem RD {n:Int} {rs:Rows} (h:bJ n rs=true) (U:List aN) (r:Int):(du U n rs r).length≤4096:=by
 unfold du aV
 exact Nat.le_trans (ao3 _ _)<|u2 h r
end Go.Ew
namespace Go.Ew
open Go.RowKit Go.Sort Go.Proofs
variable {w:aG} {g:Nat}
section
variable {β:Type} [Inhabited β] {enc:β→List Value} {k:Nat}
theorem T0 (hk:∀x,(enc x).length=k) (hp:0<k):∀(xs:List β) (t:Nat),t<xs.length*k→(xs.flatMap enc)[t]! =(enc xs[t/k]!)[t%k]!
 |[],t,h=>by simp at h
 |x::xs,t,h=>by
  rw[apD]
  by_cases ht:t<k
  ·rw[aqk ht,apS ht,List.getElem!_cons_zero,apr,apr,oB (by rw[hk];exact ht)]
  ·have h2:t-k<xs.length*k:=by rw[iS,aoT] at h;omega
   have e1:t/k=(t-k)/k+1:=by rw[show t=(t-k)+k by omega,Nat.add_div_right _ hp];simp
   have e2:t%k=(t-k)%k:=by rw[show t=(t-k)+k by omega,Nat.add_mod_right];simp
   have ih:=T0 hk hp xs (t-k) h2
   rw[e1,e2,List.getElem!_cons_succ,←ih,apr,apr,nH (by rw[hk];omega),hk]
theorem Di (hk:∀x,(enc x).length=k):∀xs:List β,(xs.flatMap enc).length=xs.length*k
 |[]=>by simp
 |x::xs=>by rw[apD,fJ,Di hk xs,hk,iS,aoT];omega
theorem Hv (hk:∀x,(enc x).length=k) (hp:0<k) (d:Array β):flatK enc k d=(d.toList.flatMap enc).toArray:=by
 apply Array.ext
 ·simp[Di hk]
 ·intro t h1 h2
  have h3:t<d.size*k:=by simpa using h1
  have e1:=get_flatK enc k d t h3
  have e2:=T0 hk hp d.toList t<|by simpa using h3
  rw[ara (flatK enc k d) t h1] at e1
  rw[ara (d.toList.flatMap enc) t (by simpa using h2)] at e2
  have e3:d.toList[t/k]! =d[t/k]!:=by
   rw[apr,aph,Array.getElem!_eq_getD,Array.getD_eq_getD_getElem?]
  rw[e1,List.getElem_toArray,e2,e3]
end
variable {α β:Type} [GT α] [Inhabited β] {val:β→α} {enc:β→List Value}
theorem HL (h:∀M w cs x,GT.rep M w cs x↔∃b,cs=enc b∧val b=x) {M:bY} {w:aG}:∀{xs:List α} {cs:List Value},bz M w cs xs→∃bs:List β,bs.map val=xs∧cs=bs.flatMap enc
 |[],cs,hc=>⟨[],rfl,hc⟩
 |x::xs,cs,⟨c1,c2,e,h1,h2⟩=>by
  obtain⟨bs,e1,e2⟩:=HL h h2
  obtain⟨b,e3,e4⟩:=(h _ _ _ _).1 h1
  exact⟨b::bs,by simp[e1,e4],by rw[e,e2,e3];rfl⟩
theorem HG (h:∀M w cs x,GT.rep M w cs x↔∃b,cs=enc b∧val b=x) {M:bY} {w:aG}:∀bs:List β,bz M w (bs.flatMap enc) (bs.map val)
 |[]=>rfl
 |b::bs=>⟨enc b,bs.flatMap enc,rfl,(h _ _ _ _).2 ⟨b,rfl,rfl⟩,HG h bs⟩
theorem Ku {f:Array Value→Array Value} {cur:Array Value} {e:TypeId} {z:Nat×Nat} (h:w.heap[g]? =some (.cells cur e z)):(mapBlock w g f).heap[g]? =some (.cells (f cur) e z):=by
 simp[mapBlock,Array.getElem?_modify,h,onCells]
theorem Iv {c:Nat} {f:Array Value→Array Value} (h:c≠g):(mapBlock w g f).heap[c]? =w.heap[c]?:=by
 simp[mapBlock,Array.getElem?_modify,Ne.symm h]
theorem R5 {M0:bY} {w0:aG} {l:List Item} {i:Nat} {e:TypeId} {cap:Nat} {xs:List α} (h:∀M w cs x,GT.rep M w cs x↔∃b,cs=enc b∧val b=x) (H:HI M0 w0 w l) (hi:l[i]? =some (own w0.heap.size e (.slice (some ⟨g,0,none⟩) xs.length cap) xs)):
  ∃bs:List β,bs.map val=xs∧HoldsK enc (GT.size α) w g 0 bs.toArray∧g<w.heap.size∧
   ∀(ds:List β) n os,ds.length=bs.length→HI M0 w0 (sortWorldK enc (GT.size α) w g 0 n ds.toArray os) (l.set i (own w0.heap.size e (.slice (some ⟨g,0,none⟩) xs.length cap) (ds.map val))):=by
 have hk:∀x:β,(enc x).length=GT.size α:=fun x=>GT.len<|(h (fun _=>True) w (enc x)<|val x).2 ⟨x,J,J⟩
 have hp:0<GT.size α:=GT.pos
 have Bt:=dz hi
 obtain⟨cs,⟨hl,ho⟩,hc⟩:=H.all _ Bt
 obtain⟨bs,rfl,rfl⟩:=HL h hc
 have hblk:=H.jl _ Bt g J
 rcases ho with ⟨ho, -⟩|⟨g',anr,cur,ho,h1,h2,h3,h4,h5,h6⟩
 ·cases ho
 cases ho
 have hlen:(bs.flatMap enc).length=bs.length*GT.size α:=Di hk bs
 have pI:bs.length*GT.size α≤cur.size:=by rw[h5];exact ao6 _ (by simpa using h3)
 refine⟨bs,J,?_,hblk.2,?_⟩
 ·intro j hj
  rw[Hv hk hp] at hj ⊢
  have rq:j<bs.length*GT.size α:=by simpa [hlen] using hj
  have xG:j<cur.size:=by omega
  have e1:(bs.flatMap enc)[j]? =some cur[j]:=by
   rw[←h6,aov,an4 (by simpa using rq)];simp[xG]
  constructor
  ·simp only[World.cell?,h2,aoJ,Option.isSome_none]
   rw[ara _ j (by simpa [hlen] using rq)]
   have e2:(bs.flatMap enc)[j]'aj=cur[j]:=an5<|(dW _).symm.trans e1
   simp[e2,xG]
  ·simp[World.frozen?,h2]
 ·intro ds n os TE
  have hW:(sortWorldK enc (GT.size α) w g 0 n ds.toArray os).heap=(mapBlock (Go.Sort.ahead w n) g (putCells id 0 (ds.flatMap enc).toArray)).heap++os:=by
   simp only[sortWorldK,putRowK,putRow,grow,Hv hk hp]
  have hms:(mapBlock (Go.Sort.ahead w n) g (putCells id 0 (ds.flatMap enc).toArray)).heap.size=w.heap.size:=by simp[mapBlock,Go.Sort.ahead]
  have uC:∀c,c<w.heap.size→(sortWorldK enc (GT.size α) w g 0 n ds.toArray os).heap[c]? =(mapBlock (Go.Sort.ahead w n) g (putCells id 0 (ds.flatMap enc).toArray)).heap[c]?:=by
   intro c hc
   rw[hW,ap0 aj]
  refine H.uk i hi J J J (by rw[hW,aqL];omega) (by simp[sortWorldK,putRowK,putRow,grow,mapBlock,Go.Sort.ahead]) (fun c hcw gB=>?_) (fun b hb=>?_) ?_
  ·rw[uC c hcw]
   exact Iv (w:=Go.Sort.ahead w n) fun e=>gB (by rw[e];rfl)
  ·cases hb
   exact⟨by rw[hW,aqL];exact aox hblk.2 aj,.inl rfl⟩
  ·refine⟨ds.flatMap enc,⟨?_,.inr ⟨g,cap,putCells id 0 (ds.flatMap enc).toArray cur,by simp[TE],h1,?_,by simpa [TE] using h3,h4,by simpa [putCells] using h5,?_⟩⟩,HG h ds⟩
   ·rw[Di hk,aoo]
   ·rw[uC g hblk.2]
    exact Ku (w:=Go.Sort.ahead w n) h2
   ·apply aoz
    intro j
    have la:(ds.flatMap enc).length=ds.length*GT.size α:=Di hk ds
    rw[aov,aoo]
    split
    ·rename_i hj
     have xG:j<cur.size:=by rw[TE] at hj;omega
     have hjf:j<(ds.flatMap enc).length:=by omega
     clear hW hms uC
     generalize ds.flatMap enc=F at hjf ⊢
     simp[putCells,xG,hjf]
    ·rw[aof aj]
theorem Ext.grow {w w':aG} (h:Ext w w'):∃q os',w'=Go.Sort.grow (w.drewN q) os':=by
 refine⟨w'.drawn-w.drawn,w'.heap.extract w.heap.size w'.heap.size,?_⟩
 have hh:w'.heap=w.heap++w'.heap.extract w.heap.size w'.heap.size:=by
  apply Array.ext_getElem?
  intro c
  by_cases hc:c<w.heap.size
  ·rw[ap0 hc,h.block c hc]
  ·rw[Array.getElem?_append_right aj,Array.getElem?_extract]
   split
   ·congr 1;omega
   ·exact Array.getElem?_eq_none aj
 have hd:=h.drawn
 obtain⟨h1,h2,h3,h4⟩:_∧_∧_∧_:=⟨h.os,h.tape,h.output,hh⟩
 cases w';cases w
 simp only[Go.Sort.grow,World.drewN] at *
 subst h1 h2 h3
 congr 1
 omega
end Go.Ew
namespace Go.Ew
open Go.RowKit Go.Sort Go.Proofs
def Cb:Type:={x:eu //aK x.1∧aK x.2.1∧aK x.2.2}
instance :Inhabited Cb:=⟨⟨(0,0,0),by simp[aK],by simp[aK],by simp[aK]⟩⟩
def Rt (x:Cb):List Value:=[.int .i64 x.1.1,.int .i64 x.1.2.1,.int .i64 x.1.2.2]
def ltE (x y:eu):Bool:=decide (xU x y<0)
theorem IP (a b:Int):(fG a b<0↔a<b)∧(fG a b=0↔a=b):=by
 unfold fG;constructor<;>cases h:decide (a<b)<;>cases k:decide (b<a)<;>simp at h k ⊢<;>omega
theorem PG (x y:eu):xU x y<0↔x.1<y.1∨x.1=y.1∧(x.2.1<y.2.1∨x.2.1=y.2.1∧x.2.2<y.2.2):=by
 have h1:=IP x.1 y.1
 have h2:=IP x.2.1 y.2.1
 have h3:=IP x.2.2 y.2.2
 simp only[xU,CN]
 repeat' split
 all_goals omega
theorem W1 (M:bY) (w:aG) (cs:List Value) (x:eu):GT.rep M w cs x↔∃b:Cb,cs=Rt b∧b.1=x:=by
 obtain⟨a,b,c⟩:=x
 constructor
 ·rintro⟨c1,c2,rfl,⟨rfl,h1⟩,d1,d2,rfl,⟨rfl,h2⟩,rfl,h3⟩
  exact⟨⟨(a,b,c),h1,h2,h3⟩,J,J⟩
 ·rintro⟨⟨⟨a',b',c'⟩,h1,h2,h3⟩,rfl,e⟩
  cases e
  exact⟨[_],[_,_],J,⟨J,h1⟩,[_],[_],J,⟨J,h2⟩,J,h3⟩
theorem abB:SWO (ltOf fun x y:Cb=>xU x.1 y.1):=by
 refine⟨fun x=>?_,fun x y z=>?_,fun x y z=>?_⟩<;>simp only[ltOf,an2,aob,PG]<;>omega
theorem aiu (x y:Cb) (h:(ltOf fun x y:Cb=>xU x.1 y.1) x y=false) (k:(ltOf fun x y:Cb=>xU x.1 y.1) y x=false):x=y:=by
 simp only[ltOf,aob,PG] at h k
 obtain⟨⟨a,b,c⟩,hx⟩:=x
 obtain⟨⟨a',b',c'⟩,hy⟩:=y
 have e:((a,b,c):eu)=(a',b',c'):=by
  simp only[aoI]
  simp only at h k
  omega
 exact Subtype.ext e
def wx (l:List eu):List eu:=l.mergeSort fun x y=>!ltE y x
theorem R8:wx []=[]:=by unfold wx;simp
theorem R9 (bs:List Cb):wx (bs.map fun b=>b.1)=(bs.mergeSort fun x y=>!(ltOf fun x y:Cb=>xU x.1 y.1) y x).map fun b=>b.1:=by
 refine(List.map_mergeSort fun a _ b _=>?_).symm
 rfl
end Go.Ew
namespace Go.Ew
structure XI (U:List aN) (fo:aA) (n:Int) (rs:Rows) (e:eu):Prop where
 r0:0≤e.2.2
 r1:e.2.2<((fo.length:Nat):Int)
 fr:fo[e.2.2.toNat]? =some e.2.1
 w0:0≤e.2.1
 ne:e.1≠e.2.1
 ah:e.1∈aV (iP U (qC U e.2.1)) (eU n rs e.2.2)
def DQ (U:List aN) (fo:aA) (n:Int) (rs:Rows) (es:List eu):Prop:=es.length≤4096*fo.length∧∀e,e∈es↔XI U fo n rs e
section
variable (U:List aN) (fo:aA) (n:Int) (rs:Rows)
def B8 (w r:Int) (l:aA):List eu:=(l.filter fun x=>!decide (x=w)).map fun x=>(x,w,r)
def Dp (r:Nat):List eu:=if fo.getD r (-1)<0 then [] else B8 (fo.getD r (-1)) ((r:Nat):Int) (aV (iP U (qC U (fo.getD r (-1)))) (eU n rs ((r:Nat):Int)))
def uL (j:Nat):List eu:=(List.range j).flatMap (Dp U fo n rs)
def cJ:List eu:=wx (uL U fo n rs fo.length)
end
section
variable {U:List aN} {fo:aA} {n:Int} {rs:Rows} {j q:Nat} {w x v:Int} {es Pu:List eu}
theorem Dm:uL U fo n rs (j+1)=uL U fo n rs j++Dp U fo n rs j:=by
 unfold uL;rw[apq,apP];simp
theorem Ud (hw:fo[((j:Nat):Int).toNat]? =some w):fo.getD j (-1)=w:=by
 rw[dq] at hw;rw[il,hw];rfl
theorem aeG (h:es=uL U fo n rs j) (hw:fo[((j:Nat):Int).toNat]? =some w) (h0:w<0):es=uL U fo n rs (j+1):=by
 rw[Dm,Dp,Ud hw,an4 h0,aps];exact h
theorem aaS (hv:v=qC U w) (h:es=uL U fo n rs j) (h2:Pu=es++B8 w ((j:Nat):Int) ((aV (iP U v) (eU n rs ((j:Nat):Int))).take q)) (hw:fo[((j:Nat):Int).toNat]? =some w) (h0:¬w<0) (hq:(aV (iP U v) (eU n rs ((j:Nat):Int))).length≤q):Pu=uL U fo n rs (j+1):=by
 rw[Dm,Dp,Ud hw,an8 h0,h2,an_ hq,h,hv]
theorem W2 {l:aA} {r:Int} (h:Pu=es++B8 w r (l.take q)) (hx:l[((q:Nat):Int).toNat]? =some x) (he:x=w):Pu=es++B8 w r (l.take (q+1)):=by
 rw[dq] at hx
 rw[h,aoy,hx];unfold B8;simp[he]
theorem aaR {l:aA} {r:Int} (h:Pu=es++B8 w r (l.take q)) (hx:l[((q:Nat):Int).toNat]? =some x) (he:¬x=w):Pu++[(x,w,r)]=es++B8 w r (l.take (q+1)):=by
 rw[dq] at hx
 rw[h,aoy,hx];unfold B8;simp[he]
theorem MZ (hr:bJ n rs=true):(uL U fo n rs j).length≤4096*j:=by
 induction j with
 |zero=>simp[uL]
 |succ j ih=>
  rw[Dm,fJ]
  have:(Dp U fo n rs j).length≤4096:=by
   unfold Dp
   split
   ·simp
   ·unfold B8 aV
    rw[aoo]
    exact Nat.le_trans (ao3 _ _)<|Nat.le_trans (ao3 _ _)<|u2 hr _
  omega
theorem JW:(uL U fo n rs fo.length).length=(cJ U fo n rs).length:=by unfold cJ wx;rw[List.length_mergeSort]
theorem qW (hr:bJ n rs=true):DQ U fo n rs (cJ U fo n rs):=by
 refine⟨by rw[←JW];exact MZ hr,fun e=>?_⟩
 unfold cJ wx
 rw[List.mem_mergeSort]
 unfold uL
 rw[arf]
 constructor
 ·rintro⟨r,hr,h⟩
  have hr:=an7.1 hr
  unfold Dp at h
  split at h
  ·cases h
  ·rename_i h0
   unfold B8 at h
   rw[aoE] at h
   obtain⟨x,hx,rfl⟩:=h
   rw[aoi] at hx
   refine⟨by simp only;omega,by simp only;omega,?_,by simp only;omega,by simpa using hx.2,hx.1⟩
   simp only[dq]
   rw[il,dW hr];rfl
 ·intro h
  obtain⟨a,b,r⟩:=e
  obtain⟨r0,r1,fr,w0,ne,ah⟩:=h
  simp only at r0 r1 fr w0 ne ah
  refine⟨r.toNat,an7.2 aj,?_⟩
  have e1:fo.getD r.toNat (-1)=b:=by rw[il,fr];rfl
  have e2:((r.toNat:Nat):Int)=r:=by omega
  unfold Dp B8
  rw[e1,e2,an8 aj,aoE]
  exact⟨a,aoi.2 ⟨ah,by simpa using ne⟩,J⟩
end
end Go.Ew
namespace Go.Ew
open Go.RowKit
section
variable {κ ν:Type} [DecidableEq κ]
def fM:List (κ×ν)→κ→Option ν
 |[],_=>none
 |x::xs,k=>if k=x.1 then some x.2 else fM xs k
def lO:List (κ×ν)→κ→ν→List (κ×ν)
 |[],k,v=>[(k,v)]
 |x::xs,k,v=>if k=x.1 then (k,v)::xs else x::lO xs k v
def n3:List (κ×Value)→κ→Nat→Option (Nat×Value)
 |[],_,_=>none
 |x::xs,k,i=>if k=x.1 then some (i,x.2) else n3 xs k (i+1)
def mJ (ek:κ→Value) (es:List MapEntry) (m:List (κ×Value)):Prop:=es.map (fun e=>(e.key,e.val))=m.map fun x=>(ek x.1,x.2)
def mC (ev:ν→Value) (m:List (κ×ν)):List (κ×Value):=m.map fun x=>(x.1,ev x.2)
theorem JT (ev:ν→Value):∀(m:List (κ×ν)) (k:κ) (i:Nat),(n3 (mC ev m) k i).map (·.2)=(fM m k).map ev
 |[],_,_=>rfl
 |x::xs,k,i=>by
  simp only[mC,aoq]
  unfold n3 fM
  by_cases h:k=x.1
  ·simp[h]
  ·rw[an8 h,an8 h];exact JT ev xs k (i+1)
theorem HB (ek:κ→Value) (ev:ν→Value):∀(m:List (κ×ν)) (es:List MapEntry) (k:κ) (i j:Nat) (v:Value),mJ ek es (mC ev m)→n3 (mC ev m) k i=some (j,v)→
  ∃q e,j=i+q∧es[q]? =some e∧e.key=ek k∧∀(u:ν),mJ ek (es.modify q fun e=>{e with key:=ek k,val:=ev u}) (mC ev (lO m k u))
 |[],_,_,_,_,_,_,h=>by cases h
 |x::xs,es,k,i,j,v,hr,h=>by
  match es,hr with
  |[],hr=>simp[mJ,mC] at hr
  |e::es,hr=>
   simp only[mJ,mC,aoq,ao9,aoI] at hr
   obtain⟨⟨h1,h2⟩,h3⟩:=hr
   simp only[mC,aoq] at h
   unfold n3 at h
   split at h
   ·rename_i hk
    simp only[aod,aoI] at h
    refine⟨0,e,h.1.symm,J,by rw[h1,hk],fun u=>?_⟩
    unfold lO
    rw[an4 hk]
    simp[mJ,mC] at h3 ⊢
    exact h3
   ·rename_i hk
    obtain⟨q,e',JC,nC,EE,ED⟩:=HB ek ev xs es k (i+1) j v h3 h
    refine⟨q+1,e',by omega,by simpa using nC,EE,fun u=>?_⟩
    have:=ED u
    unfold lO
    rw[an8 hk]
    simp only[mJ,mC,List.modify_succ_cons,aoq,ao9,aoI]
    exact⟨⟨h1,h2⟩,this⟩
theorem HC (ek:κ→Value) (ev:ν→Value):∀(m:List (κ×ν)) (es:List MapEntry) (k:κ) (i:Nat),mJ ek es (mC ev m)→n3 (mC ev m) k i=none→∀(c:Nat) (u:ν),mJ ek (es++[⟨ek k,ev u,c⟩]) (mC ev (lO m k u))
 |[],es,k,_,hr,_,c,u=>by
  have:es=[]:=by simpa [mJ,mC] using hr
  subst this;simp[mJ,mC,lO]
 |x::xs,es,k,i,hr,h,c,u=>by
  match es,hr with
  |[],hr=>simp[mJ,mC] at hr
  |e::es,hr=>
   simp only[mJ,mC,aoq,ao9,aoI] at hr
   obtain⟨⟨h1,h2⟩,h3⟩:=hr
   simp only[mC,aoq] at h
   unfold n3 at h
   split at h
   ·cases h
   ·rename_i hk
    have:=HC ek ev xs es k (i+1) h3 h c u
    unfold lO
    rw[an8 hk]
    simp only[mJ,mC,aqp,aoq,ao9,aoI]
    exact⟨⟨h1,h2⟩,this⟩
theorem WT (m:List (κ×ν)) (k k':κ) (v:ν):fM (lO m k v) k'=if k'=k then some v else fM m k':=by
 induction m with
 |nil=>simp[lO,fM]
 |cons x xs ih=>
  unfold lO
  by_cases h:k=x.1
  ·subst h
   simp only[apG,fM]
   by_cases h':k'=x.1<;>simp[h']
  ·rw[an8 h]
   simp only[fM,ih]
   by_cases h':k'=x.1
   ·rw[an4 h',an4 h',an8 (by rw[h'];exact fun e=>h e.symm)]
   ·rw[an8 h',an8 h']
theorem aaJ {m:List (κ×ν)} {iv:ν→Prop} (h:∀x∈m,iv x.2) {k:κ} {v:ν} (hv:fM m k=some v):iv v:=by
 induction m with
 |nil=>cases hv
 |cons x xs ih=>
  unfold fM at hv
  split at hv
  ·cases hv;exact h x (by simp)
  ·exact ih (fun y hy=>h y<|by simp[hy]) hv
theorem OM {m:List (κ×ν)} {iv:ν→Prop} (h:∀x∈m,iv x.2) (k:κ) {v:ν} (hv:iv v):∀x∈lO m k v,iv x.2:=by
 induction m with
 |nil=>intro x hx;simp[lO] at hx;subst hx;exact hv
 |cons y ys ih=>
  intro x hx
  unfold lO at hx
  split at hx
  ·rcases aoh.1 hx with rfl|hx
   ·exact hv
   ·exact h x<|by simp[hx]
  ·rcases aoh.1 hx with rfl|hx
   ·exact h x<|by simp
   ·exact ih (fun z hz=>h z<|by simp[hz]) x hx
def CT (ek:κ→Value) (ev:ν→Value) (iv:ν→Prop) (b:Nat) (m:List (κ×ν)):Item:=
 ⟨some b,fun _ w=>∃es clock,w.heap[b]? =some (.map es clock)∧mJ ek es.toList (mC ev m)∧∀x∈m,iv x.2,fun h _ hb=>by
  obtain⟨es,c,h1,h2⟩:=h
  exact⟨es,c,(hb b rfl).trans h1,h2⟩⟩
end
structure RL (P:Program) (kt:TypeId) {κ:Type} [DecidableEq κ] (ek:κ→Value):Prop where
 B_:∀e a w,(Instr.checkKey e 10000 kt (ek a)).run P w=.ok () w
 find:∀(k:κ) (w:aG) (m:List (κ×Value)) (es:List MapEntry),mJ ek es m→(Instr.findKey kt (ek k) es).run P w=.ok (n3 m k 0) w
 stays:∀k w,(Instr.keyThatStays (ek k) (ek k)).run P w=.ok (ek k) w
structure HX (P:Program) (T:TypeId) {κ ν:Type} [DecidableEq κ] (ek:κ→Value) (ev:ν→Value) (z:ν):Prop where
 h:∃kt et,P.underlying T=some (.map kt et)∧RL P kt ek∧∀w,(zeroValue et).run P w=.ok (ev z) w
abbrev tn (b:Nat) (m:List (bh×Int)):Item:=CT (fun s=>Value.string s) (fun v=>Value.int .i64 v) aK b m
abbrev bU (b:Nat) (m:List ((Int×Int)×Bool)):Item:=CT K2 Value.bool (fun _=>True) b m
section
variable {P:Program}
theorem Ns {kt:TypeId} (F:DH P kt) (k:Int×Int) (w:aG):∀(m:List ((Int×Int)×Value)) (es:List MapEntry) (i:Nat),mJ K2 es m→(Instr.findAsking kt (K2 k) es i).run P w=.ok (n3 m k i) w
 |[],es,i,h=>by
  have:es=[]:=by simpa [mJ] using h
  subst this;simp[Instr.findAsking,n3]
 |x::xs,es,i,h=>by
  match es,h with
  |e::es,h=>
   simp only[mJ,aoq,ao9,aoI] at h
   obtain⟨⟨h1,h2⟩,h3⟩:=h
   have ih:=Ns F k w xs es (i+1) h3
   by_cases hk:k=x.1
   ·simp[Instr.findAsking,n3,h1,h2,F.eq,hk]
   ·simp[Instr.findAsking,n3,h1,h2,F.eq,hk,ih]
  |[],h=>simp[mJ] at h
theorem Wi {kt:TypeId} (F:DH P kt):RL P kt K2 where
 B_:=F.B_
 find k w m es h:=by
  obtain⟨d,hd⟩:=F.u
  cases es with
  |nil=>
   have:m=[]:=by simpa [mJ] using h.symm
   subst this
   simp[Instr.findKey,run_underlying hd,Result.andThen,Instr.findNow,n3]
  |cons e es=>
   have h0:Instr.findNow d (K2 k) (e::es) 0=none:=EP d _ e es 0
   simp[Instr.findKey,run_underlying hd,Result.andThen,h0,Ns F k w m _ 0 h]
 stays k w:=by simp[Instr.keyThatStays,Instr.sameBits]
theorem Xw (s t:bh):(s==t)=decide (s=t):=by
 rw[aoj]
 rcases s with ⟨a⟩
 rcases t with ⟨b⟩
 show (a==b)=true↔_
 simp
theorem O0 (k:bh):∀(m:List (bh×Value)) (es:List MapEntry) (i:Nat),mJ (fun s=>Value.string s) es m→Instr.findNow .string (.string k) es i=some (n3 m k i)
 |[],es,i,h=>by
  have:es=[]:=by simpa [mJ] using h
  subst this;rfl
 |x::xs,es,i,h=>by
  match es,h with
  |e::es,h=>
   simp only[mJ,aoq,ao9,aoI] at h
   obtain⟨⟨h1,h2⟩,h3⟩:=h
   have ih:=O0 k xs es (i+1) h3
   unfold Instr.findNow n3
   rw[h1,h2]
   by_cases hk:k=x.1
   ·simp[Instr.sameNow,Xw,hk]
   ·simp[Instr.sameNow,Xw,hk,ih]
  |[],h=>simp[mJ] at h
theorem Wj {kt:TypeId} (hd:P.underlying kt=some .string):RL P kt (fun s=>Value.string s) where
 B_ e a w:=by
  rw[show (10000:Nat)=9999+1 from rfl]
  generalize 9999=q
  simp[Instr.checkKey,run_underlying hd,Result.andThen]
 find k w m es h:=by simp[Instr.findKey,run_underlying hd,Result.andThen,O0 k m es 0 h]
 stays k w:=by simp[Instr.keyThatStays,Instr.sameBits,Xw]
theorem X' {T kt et:TypeId} {κ ν:Type} [DecidableEq κ] {ek:κ→Value} {ev:ν→Value} {z:ν} {v:Value} {k b:Nat} {a:Bool} (h:P.underlying T=some (.map kt et)) (K:RL P kt ek) (F:ep P et k a b v) (hv:v=ev z):HX P T ek ev z:=⟨kt,et,h,K,hv▸F.um⟩
variable {κ ν:Type} [DecidableEq κ] {ek:κ→Value} {ev:ν→Value} {z:ν} {iv:ν→Prop}
variable {n:Nat} {ops:Array Oper} {f:aO} {w:aG} {K:aO→aG→Prop} {x y c:Operand} {d:Nat} {ty T:TypeId} {ps:String} {af:Array Edge} {M0:bY} {w0:aG} {l:List Item} {m:List (κ×ν)} {b:Nat}
theorem mmG (H:HI M0 w0 w l) (h:∀b w',Ext w w'→HI M0 w0 w' (CT ek ev iv b []::l)→K (cg f d (.map (some b))) w'):SO P n ops ⟨some d,.makeMap T none,ty,ps,af,none⟩ f w K:=
 SO.value (v:=.map (some w.heap.size)) (w':=w.alloc (.map #[] 0)) (by simp[execOp,run_makeMap]) (h _ _ (Ext.alloc w _)
  (H.new (Ext.alloc w _) w.heap.size rfl (an3 _) (by simp) ⟨#[],0,heap_alloc_new w _,rfl,fun _ h=>(by cases h)⟩))
theorem acA {k:κ} {Un:Bool} (F:HX P T ek ev z) (hz:iv z) (H:HI M0 w0 w l) (i:Nat) (hi:l[i]? =some (CT ek ev iv b m)) (ox:bD n x=true) (oy:bD n y=true) (hx:Go.Ew.ev f x=.map (some b)) (hy:Go.Ew.ev f y=ek k)
  (h:iv ((fM m k).getD z)→K (cg f d (if Un then .tuple #[ev ((fM m k).getD z),.bool (fM m k).isSome] else ev ((fM m k).getD z))) w):SO P n ops ⟨some d,.lookup T x y Un,ty,ps,af,none⟩ f w K:=by
 obtain⟨kt,et,h1,h2,h3⟩:=F.h
 obtain⟨es,clock,g1,g2,g3⟩:=H.at_ i hi
 have hI:iv ((fM m k).getD z):=by
  cases hg:fM m k with
  |none=>exact hz
  |some v=>exact aaJ g3 hg
 refine SO.value (v:=if Un then .tuple #[ev ((fM m k).getD z),.bool (fM m k).isSome] else ev ((fM m k).getD z)) (w':=w) ?_<|h hI
 have hf:=JT ev m k 0
 have hr:=h2.find k w (mC ev m) es.toList g2
 simp only[execOp,aJ ox,aJ oy,hx,hy,Instr.lookup,Sem.run_bind,run_underlying h1,get_map g1,h2.B_,hr,Result.andThen_ok,Sem.run_pure]
 cases hq:n3 (mC ev m) k 0 with
 |none=>
  have hg:fM m k=none:=by rw[hq] at hf;simpa using hf.symm
  simp[hq,hg,h3 w]
 |some p=>
  obtain⟨j,v⟩:=p
  rw[hq] at hf
  cases hg:fM m k with
  |none=>rw[hg] at hf;cases hf
  |some u=>
   rw[hg] at hf
   simp only[aoV,aod] at hf
   subst hf
   simp
theorem acw {dd:Option Nat} {k:κ} {v:ν} (F:HX P T ek ev z) (H:HI M0 w0 w l) (i:Nat) (hi:l[i]? =some (CT ek ev iv b m)) (ox:bD n x=true) (oy:bD n y=true) (oc:bD n c=true) (hx:Go.Ew.ev f x=.map (some b)) (hy:Go.Ew.ev f y=ek k) (hc:Go.Ew.ev f c=ev v) (hv:iv v)
  (h:∀w',HI M0 w0 w' (l.set i (CT ek ev iv b (lO m k v)))→K (cW f dd undef) w'):SO P n ops ⟨dd,.mapUpdate T x y c,ty,ps,af,none⟩ f w K:=by
 obtain⟨kt,et,h1,h2,h3⟩:=F.h
 obtain⟨es,clock,g1,g2,g3⟩:=H.at_ i hi
 have hr:=h2.find k w (mC ev m) es.toList g2
 have ef:b<w.heap.size:=(aor.1 g1).1
 have fin:∀(o:Obj),(∀M w',w'.heap[b]? =some o→(CT ek ev iv b (lO m k v)).holds M w')→
   HI M0 w0 {w with heap:=w.heap.setIfInBounds b o} (l.set i (CT ek ev iv b (lO m k v))):=by
  intro o ho
  refine H.uk i hi J J J (by simp) (an3 _) (fun q hq gB=>?_) (fun q hq=>?_)<|ho _ _ (A0 g1).1
  ·exact(A0 g1).2 q fun e=>gB (by rw[e];rfl)
  ·cases hq
   exact⟨by simpa using ef,.inl rfl⟩
 cases hq:n3 (mC ev m) k 0 with
 |none=>
  refine SO.skip (w':={w with heap:=w.heap.setIfInBounds b (.map (es.push ⟨ek k,ev v,clock⟩) (clock+1))}) ?_ (h _<|fin _ ?_)
  ·simp[execOp,aJ ox,aJ oy,aJ oc,hx,hy,hc,Instr.mapUpdate,run_underlying h1,get_map g1,h2.B_,hr,hq,DX _ g1]
  ·intro M w' hw
   exact⟨_,_,hw,by rw[Array.toList_push];exact HC ek ev m es.toList k 0 g2 hq clock v,OM g3 k hv⟩
 |some p=>
  obtain⟨j,u⟩:=p
  obtain⟨q,e,JC,nC,EE,ED⟩:=HB ek ev m es.toList k 0 j u g2 hq
  obtain rfl:j=q:=by omega
  have he:es[j]? =some e:=by simpa using nC
  have hsb:(Instr.keyThatStays e.key (ek k)).run P w=.ok (ek k) w:=by rw[EE];exact h2.stays k w
  refine SO.skip (w':={w with heap:=w.heap.setIfInBounds b (.map (es.modify j fun e=>{e with key:=ek k,val:=ev v}) clock)}) ?_ (h _<|fin _ ?_)
  ·simp[execOp,aJ ox,aJ oy,aJ oc,hx,hy,hc,Instr.mapUpdate,run_underlying h1,get_map g1,h2.B_,hr,hq,he,hsb,DX _ g1]
  ·intro M w' hw
   exact⟨_,_,hw,by rw[Array.toList_modify];exact ED v,OM g3 k hv⟩
end
section
variable {P:Program} {n:Nat} {ops:Array Oper} {f:aO} {w:aG} {K:aO→aG→Prop} {x y c:Operand} {d:Nat} {dd:Option Nat} {ty T:TypeId} {ps:String} {af:Array Edge} {M0:bY} {w0:aG} {l:List Item} {b:Nat}
abbrev RH (P:Program) (T:TypeId):Prop:=HX P T K2 Value.bool false
abbrev RG (P:Program) (T:TypeId):Prop:=HX P T (fun s=>Value.string s) (fun v=>Value.int .i64 v) (0:Int)
theorem mmP (H:HI M0 w0 w l) (h:∀b w',Ext w w'→HI M0 w0 w' (bU b []::l)→K (cg f d (.map (some b))) w'):SO P n ops ⟨some d,.makeMap T none,ty,ps,af,none⟩ f w K:=mmG H h
theorem mmS (H:HI M0 w0 w l) (h:∀b w',Ext w w'→HI M0 w0 w' (tn b []::l)→K (cg f d (.map (some b))) w'):SO P n ops ⟨some d,.makeMap T none,ty,ps,af,none⟩ f w K:=mmG H h
theorem aiG {m:List ((Int×Int)×Bool)} {k:Int×Int} (F:RH P T) (H:HI M0 w0 w l) (i:Nat) (hi:l[i]? =some (bU b m)) (ox:bD n x=true) (oy:bD n y=true) (hx:Go.Ew.ev f x=.map (some b)) (hy:Go.Ew.ev f y=K2 k)
  (h:K (cg f d (.bool ((fM m k).getD false))) w):SO P n ops ⟨some d,.lookup T x y false,ty,ps,af,none⟩ f w K:=acA (Un:=false) F trivial H i hi ox oy hx hy fun _=>h
theorem aiF {m:List (bh×Int)} {k:bh} (F:RG P T) (H:HI M0 w0 w l) (i:Nat) (hi:l[i]? =some (tn b m)) (ox:bD n x=true) (oy:bD n y=true) (hx:Go.Ew.ev f x=.map (some b)) (hy:Go.Ew.ev f y=.string k)
  (h:aK ((fM m k).getD 0)→K (cg f d (.tuple #[.int .i64 ((fM m k).getD 0),.bool (fM m k).isSome])) w):SO P n ops ⟨some d,.lookup T x y true,ty,ps,af,none⟩ f w K:=acA (Un:=true) F (by unfold aK;omega) H i hi ox oy hx hy h
theorem aiE {m:List ((Int×Int)×Bool)} {k:Int×Int} {v:Bool} (F:RH P T) (H:HI M0 w0 w l) (i:Nat) (hi:l[i]? =some (bU b m)) (ox:bD n x=true) (oy:bD n y=true) (oc:bD n c=true) (hx:Go.Ew.ev f x=.map (some b)) (hy:Go.Ew.ev f y=K2 k) (hc:Go.Ew.ev f c=.bool v)
  (h:∀w',HI M0 w0 w' (l.set i (bU b (lO m k v)))→K (cW f dd undef) w'):SO P n ops ⟨dd,.mapUpdate T x y c,ty,ps,af,none⟩ f w K:=acw F H i hi ox oy oc hx hy hc trivial h
theorem aiD {m:List (bh×Int)} {k:bh} {v:Int} (F:RG P T) (H:HI M0 w0 w l) (i:Nat) (hi:l[i]? =some (tn b m)) (ox:bD n x=true) (oy:bD n y=true) (oc:bD n c=true) (hx:Go.Ew.ev f x=.map (some b)) (hy:Go.Ew.ev f y=.string k) (hc:Go.Ew.ev f c=.int .i64 v) (hv:aK v)
  (h:∀w',HI M0 w0 w' (l.set i (tn b (lO m k v)))→K (cW f dd undef) w'):SO P n ops ⟨dd,.mapUpdate T x y c,ty,ps,af,none⟩ f w K:=acw F H i hi ox oy oc hx hy hc hv h
end
end Go.Ew
namespace Go.Ew
section
variable {α σ:Type} (st:σ→α→Bool×σ)
def gk:σ→List α→List α×σ
 |s,[]=>([],s)
 |s,x::l=>if (st s x).1 then gk (st s x).2 l else (x::(gk (st s x).2 l).1,(gk (st s x).2 l).2)
theorem Oc (s:σ) (l r:List α):gk st s (l++r)=((gk st s l).1++(gk st (gk st s l).2 r).1,(gk st (gk st s l).2 r).2):=by
 induction l generalizing s with
 |nil=>simp[gk]
 |cons x l ih=>
  rw[aqp,gk,gk]
  split
  ·exact ih _
  ·rw[ih];rfl
theorem W7 (s:σ) (x:α):gk st s [x]=if (st s x).1 then ([],(st s x).2) else ([x],(st s x).2):=by simp[gk]
theorem W8 (s:σ) (l:List α):(gk st s l).1.length≤l.length:=by
 induction l generalizing s with
 |nil=>simp[gk]
 |cons x l ih=>
  rw[gk]
  split
  ·exact Nat.le_trans (ih _)<|arh _
  ·simp only[iS];exact Nat.succ_le_succ (ih _)
theorem W6 (s:σ) (l:List α):∀x∈(gk st s l).1,x∈l∧∃s',(st s' x).1=false:=by
 induction l generalizing s with
 |nil=>intro x h;cases h
 |cons y l ih=>
  intro x h
  rw[gk] at h
  split at h
  ·obtain⟨h1,h2⟩:=ih _ x h;exact⟨aow _ h1,h2⟩
  ·rename_i hy
   rcases aoh.1 h with rfl|h
   ·exact⟨by simp,s,by simpa using hy⟩
   ·obtain⟨h1,h2⟩:=ih _ x h;exact⟨aow _ h1,h2⟩
def NI (s:σ) (xs:List α) (ix:Int) (s':σ):Prop:=(ix= -1∧gk st s xs=(xs,s'))∨∃j:Nat,ix=((j:Nat):Int)∧j<xs.length∧gk st s (xs.take (j+1))=(xs.take j,s')
variable {st} {s s':σ} {xs ys:List α} {x:α} {j k:Nat} {q:Int}
theorem WV:gk st s (xs.take 0)=(xs.take 0,s):=by simp[gk]
theorem D7 (hx:xs[k]? =some x):gk st s (xs.take (k+1))=if (st (gk st s (xs.take k)).2 x).1 then ((gk st s (xs.take k)).1,(st (gk st s (xs.take k)).2 x).2) else ((gk st s (xs.take k)).1++[x],(st (gk st s (xs.take k)).2 x).2):=by
 rw[aoy,hx,Oc,show (some x).toList=[x] from rfl,W7]
 split<;>simp
theorem aaK (h:gk st s (xs.take j)=(xs.take j,s')) (hx:xs[((j:Nat):Int).toNat]? =some x) (hp:(st s' x).1=false):gk st s (xs.take (j+1))=(xs.take (j+1),(st s' x).2):=by
 rw[dq] at hx
 rw[D7 hx,h]
 show (if (st s' x).1=true then _ else _)=_
 rw[an8 (by rw[hp];decide),aoy,hx];rfl
theorem aex (h:gk st s (xs.take j)=(xs.take j,s')) (hj:j<xs.length) (hx:xs[((j:Nat):Int).toNat]? =some x) (hp:(st s' x).1=true):NI st s xs ((j:Nat):Int) (st s' x).2:=by
 rw[dq] at hx
 refine .inr ⟨j,J,hj,?_⟩
 rw[D7 hx,h]
 show (if (st s' x).1=true then _ else _)=_
 rw[an4 hp]
theorem aey (h:gk st s (xs.take j)=(xs.take j,s')) (hj:xs.length≤j):NI st s xs (-1) s':=by
 rw[an_ hj] at h;exact .inl ⟨rfl,h⟩
def DS (st:σ→α→Bool×σ) (s:σ) (xs ys:List α) (q:Int) (k:Nat) (s':σ):Prop:=0≤q∧q<((k:Nat):Int)∧ys.length=xs.length∧gk st s (xs.take k)=(ys.take q.toNat,s')∧ys.drop k=xs.drop k
theorem PA (h:NI st s xs q s') (hq:q= -1):gk st s xs=(xs,s'):=by
 rcases h with ⟨_,h⟩|⟨j,h,_⟩
 ·exact h
 ·omega
theorem W3 (h:NI st s xs q s') (hq:¬q= -1):q.toNat<xs.length∧DS st s xs xs q (q.toNat+1) s':=by
 rcases h with ⟨h,_⟩|⟨j,rfl,h1,h2⟩
 ·omega
 ·refine⟨by omega,by omega,by omega,J,?_,J⟩
  rw[dq];exact h2
theorem Zb (h:DS st s xs ys q k s') (hx:ys[k]? =some x):xs[k]? =some x:=by
 have:=an0 (fun l=>l[0]?) h.2.2.2.2
 simp only[aoG,aoH] at this
 rw[←this];exact hx
theorem aaU (h:DS st s xs ys q k s') (hx:ys[((k:Nat):Int).toNat]? =some x) (hp:(st s' x).1=true):DS st s xs ys q (k+1) (st s' x).2:=by
 rw[dq] at hx
 have qo:=Zb h hx
 obtain⟨h0,h1,h2,h3,h4⟩:=h
 refine⟨h0,by omega,h2,?_,?_⟩
 ·rw[D7 qo,h3]
  show (if (st s' x).1=true then _ else _)=_
  rw[an4 hp]
 ·rw[←ao0,h4,ao0]
theorem aaT (h:DS st s xs ys q k s') (hx:ys[((k:Nat):Int).toNat]? =some x) (hp:(st s' x).1=false):DS st s xs (ys.set q.toNat x) (q+1) (k+1) (st s' x).2:=by
 rw[dq] at hx
 have qo:=Zb h hx
 have hk:=(dJ.1 hx).1
 obtain⟨h0,h1,h2,h3,h4⟩:=h
 refine⟨by omega,by omega,by rw[an1];exact h2,?_,?_⟩
 ·rw[D7 qo,h3]
  show (if (st s' x).1=true then _ else _)=_
  rw[an8 (by rw[hp];decide),show (q+1).toNat=q.toNat+1 from by omega,aoy,List.take_set_of_le (an3 _),aol aj]
  rfl
 ·rw[List.drop_set_of_lt aj,←ao0,h4,ao0]
theorem Ui (h:DS st s xs ys q k s') (hk:xs.length≤k) (Av:k≤xs.length) (r:List α):(ys.take q.toNat++r).take q.toNat=(gk st s xs).1∧s'=(gk st s xs).2:=by
 obtain⟨h0,h1,h2,h3,h4⟩:=h
 rw[an_ hk] at h3
 rw[h3]
 exact⟨by rw[apt (by simp;omega),apz,Nat.min_self],J⟩
end
def eY (n:Int) (rs:Rows) (kp:aA) (met:List ((Int×Int)×Bool)) (e:eu):Bool×List ((Int×Int)×Bool):=
 bif (fM met (e.1,e.2.1)).getD false||(eI n rs e.1 e.2.1||!(kp.any fun z_=>decide (e.2.2=z_))) then (true,met) else (false,lO met (e.1,e.2.1) true)
def gG (n:Int) (rs:Rows) (kp:aA) (es:List eu):List eu:=(gk (eY n rs kp) [] es).1
theorem Df {n:Int} {rs:Rows} {kp:aA} {es:List eu} {e:eu} (h:e∈gG n rs kp es):e∈es∧eI n rs e.1 e.2.1=false∧e.2.2∈kp:=by
 obtain⟨h1,s',h2⟩:=W6 _ _ _ e h
 refine⟨h1,?_⟩
 unfold eY at h2
 cases ha:(fM s' (e.1,e.2.1)).getD false<;>cases hb:eI n rs e.1 e.2.1<;>cases hc:(kp.any fun z_=>decide (e.2.2=z_))<;>simp[ha,hb,hc] at h2
 obtain⟨z,hz,hz2⟩:=aoB.1 hc
 exact⟨J,by rw[show e.2.2=z by simpa using hz2];exact hz⟩
theorem TV {n:Int} {rs:Rows} {kp:aA} {es:List eu} (h:gG n rs kp es=[]) {e:eu} (he:e∈es) (hk:e.2.2∈kp):eI n rs e.1 e.2.1=true:=by
 have key:∀es:List eu,(gk (eY n rs kp) [] es).1=[]→∀e∈es,e.2.2∈kp→eI n rs e.1 e.2.1=true:=by
  intro es
  induction es with
  |nil=>intro _ e h;cases h
  |cons x l ih=>
   intro h e he hk
   rw[gk] at h
   split at h
   ·rename_i hx
    have hs:(eY n rs kp [] x).2=[]:=by
     unfold eY at hx ⊢
     cases hb:eI n rs x.1 x.2.1<;>cases hc:(kp.any fun z_=>decide (x.2.2=z_))<;>simp[fM,hb,hc] at hx ⊢
    rw[hs] at h
    rcases aoh.1 he with rfl|he
    ·unfold eY at hx
     have hc:(kp.any fun z_=>decide (e.2.2=z_))=true:=aoB.2 ⟨_,hk,by simp⟩
     cases hb:eI n rs e.1 e.2.1<;>simp[fM,hb,hc] at hx
     rfl
    ·exact ih h e he hk
   ·cases h
 exact key es h e he hk
theorem TW (n:Int) (rs:Rows) (kp:aA) (es:List eu):(gG n rs kp es).length≤es.length:=W8 _ _ _
end Go.Ew
namespace Go.Ew
variable {n o:Int} {rs:Rows} {l:List eu} {p:hQ} {a b q:Nat} {U:List aN} {fo:aA}
def l_ (n:Int) (rs:Rows) (l:List eu):Rows:=l.foldl (fun m e=>ie n m e.1 e.2.1) rs
def TrP (n:Nat) (p:hQ):Prop:=∀i j k,i<n→j<n→k<n→p i j=true→p j k=true→p i k=true
def Uf (es:List eu) (a b:Nat):Bool:=es.any fun e=>decide (e.1=((a:Nat):Int))&&decide (e.2.1=((b:Nat):Int))
def oC (n:Nat) (es:List eu):Prop:=∀e∈es,kE ((n:Nat):Int) [e.1,e.2.1]=true
theorem Ry (n:Nat) (p:hQ):TrP n (cl n p):=fun i j k _ hj _ h1 h2=>xV hj h1 h2
theorem BI {e:eu}:l_ n rs (l++[e])=ie n (l_ n rs l) e.1 e.2.1:=by unfold l_;rw[ap1];rfl
theorem aeP {n:Nat} {q:hQ} (ha:a<n) (hb:b<n):cl n (fun x y=>cl n p x y||q x y) a b=cl n (fun x y=>p x y||q x y) a b:=by
 rw[aoj,pP ha hb,pP ha hb]
 constructor
 ·intro h
  refine h.least (fun x y hx hy h=>?_) fun x y z _ _ _=>TC.trans
  rcases aoc _ _▸h with h|h
  ·exact((pP hx hy).1 h).mono fun _ _ _ _ h=>by simp[h]
  ·exact .one hx hy (by simp[h])
 ·intro h
  refine h.mono fun x y hx hy h=>?_
  rcases aoc _ _▸h with h|h
  ·simp[vA h]
  ·simp[h]
theorem Nw {n:Nat} {p:hQ} (h:TrP n p):∀{es:List eu},oC n es→l_ ((n:Nat):Int) (cE n p) es=cE n (cl n fun a b=>p a b||Uf es a b):=by
 have key:∀(k:Nat) (es:List eu),es.length=k→oC n es→l_ ((n:Nat):Int) (cE n p) es=cE n (cl n fun a b=>p a b||Uf es a b):=by
  intro k
  induction k with
  |zero=>
   intro es hl _
   rw[ao5.1 hl]
   refine dH fun a b ha hb=>?_
   rw[aoj,pP ha hb]
   constructor
   ·intro h;exact .one ha hb (by simp[h])
   ·intro k
    refine k.least (R:=fun x y=>p x y=true) (fun x y _ _ h=>by simpa [Uf] using h) fun x y z hx hy hz=>h x y z hx hy hz
  |succ k ih=>
   intro es hl B0
   obtain⟨l,e,rfl⟩:∃l e,es=l++[e]:=⟨es.dropLast,es.getLast (by intro h;rw[h] at hl;simp at hl),(List.dropLast_concat_getLast _).symm⟩
   have hi:=B0 e<|by simp
   have hr:=jo.1 hi
   rw[BI,ih l (by simpa using hl) (fun x hx=>B0 x (by simp[hx])),RE hi (Ry n _)]
   refine dH fun a b ha hb=>?_
   rw[aeP ha hb]
   refine Gg (fun x y _ _=>?_) ha hb
   rw[Bool.or_assoc]
   congr 1
   unfold Uf
   rw[List.any_append]
   congr 1
   simp only[List.any_cons,List.any_nil,apy]
   rw[aoj]
   simp only[ez,an2]
   omega
 intro es B0
 exact key _ es J B0
theorem zK {n:Nat} {rs:Rows} {es:List eu} (h:bJ ((n:Nat):Int) rs=true) (B0:oC n es):bJ ((n:Nat):Int) (l_ ((n:Nat):Int) rs es)=true:=by
 have key:∀(k:Nat) (es:List eu),es.length=k→oC n es→bJ ((n:Nat):Int) (l_ ((n:Nat):Int) rs es)=true:=by
  intro k
  induction k with
  |zero=>intro es hl _;rw[ao5.1 hl];exact h
  |succ k ih=>
   intro es hl B0
   obtain⟨l,e,rfl⟩:∃l e,es=l++[e]:=⟨es.dropLast,es.getLast (by intro h;rw[h] at hl;simp at hl),(List.dropLast_concat_getLast _).symm⟩
   rw[BI]
   have:=Oi (i:=e.1) (j:=e.2.1)<|ih l (by simpa using hl)<|fun x hx=>B0 x<|by simp[hx]
   unfold iu at this
   rwa [an4 (B0 e (by simp))] at this
 exact key _ es J B0
def M6 (n:Nat) (p:hQ):Nat:=(List.range (n*n)).countP fun k=>p (k/n) (k%n)
theorem aa4 (n:Nat) (p:hQ):M6 n p≤n*n:=by
 unfold M6;exact Nat.le_trans List.countP_le_length (by simp)
theorem JX {α:Type} {p q:α→Bool}:∀{l:List α},(∀x∈l,p x=true→q x=true)→(∃x∈l,p x=false∧q x=true)→l.countP p<l.countP q
 |[],_,h=>by obtain⟨x,hx,_⟩:=h;cases hx
 |a::l,h,⟨x,hx,h1,h2⟩=>by
  have hm:l.countP p≤l.countP q:=List.countP_mono_left fun y hy=>h y (by simp[hy])
  rw[List.countP_cons,List.countP_cons]
  rcases aoh.1 hx with rfl|hx
  ·rw[h1,h2];simp;omega
  ·have ih:=JX (l:=l) (fun y hy=>h y<|by simp[hy]) ⟨x,hx,h1,h2⟩
   have:=h a<|by simp
   cases hp:p a<;>cases hq:q a<;>simp_all<;>omega
theorem aa3 {n:Nat} {q:hQ} (h:∀a b,a<n→b<n→p a b=true→q a b=true) (ha:a<n) (hb:b<n) (h1:p a b=false) (h2:q a b=true):M6 n p<M6 n q:=by
 have hn:0<n:=by omega
 refine JX (fun k hk hp=>h _ _ ?_ (aqS _ hn) hp) ⟨a*n+b,?_,?_,?_⟩
 ·exact(Nat.div_lt_iff_lt_mul hn).2 (an7.1 hk)
 ·rw[an7]
  calc a*n+b<a*n+n:=by omega
   _=(a+1)*n:=by rw[aoT,Nat.one_mul]
   _≤n*n:=ao6 _ ha
 ·rw[show (a*n+b)/n=a by rw[aqB,Nat.mul_add_div hn,aqk hb,aoH],show (a*n+b)%n=b by rw[aqB,Nat.mul_add_mod,apS hb]];exact h1
 ·rw[show (a*n+b)/n=a by rw[aqB,Nat.mul_add_div hn,aqk hb,aoH],show (a*n+b)%n=b by rw[aqB,Nat.mul_add_mod,apS hb]];exact h2
structure NJ (U:List aN) (fo:aA) (p:Nat→bY) (a b r:Nat):Prop where
 a1:a<U.length
 r1:r<U.length
 fr:fo[r]? =some ((b:Nat):Int)
 ne:a≠b
 wr:iP U (qC U ((b:Nat):Int)) ((a:Nat):Int)=false
 ah:p a r
theorem Bz (eB:fo.length=U.length) {e:eu} (h:XI U fo ((U.length:Nat):Int) (cE U.length p) e):∃a b r:Nat,e=(((a:Nat):Int),((b:Nat):Int),((r:Nat):Int))∧NJ U fo (fun x y=>p x y=true) a b r:=by
 obtain⟨a,b,r⟩:=e
 obtain⟨r0,r1,fr,w0,ne,ah⟩:=h
 simp only at r0 r1 fr w0 ne ah
 unfold aV at ah
 rw[aoi] at ah
 obtain⟨ah,wr⟩:=ah
 unfold eU at ah
 rw[an4 aj,wO,dq] at ah
 obtain⟨k,hk,hp,rfl⟩:=ah
 refine⟨k,b.toNat,r.toNat,by rw[show ((b.toNat:Nat):Int)=b by omega,show ((r.toNat:Nat):Int)=r by omega],hk,by omega,by rw[fr];congr 1;omega,fun e=>ne aj,?_,?_⟩
 ·rw[show ((b.toNat:Nat):Int)=b by omega];simpa using wr
 ·rw[jG hk aj] at hp;exact hp
theorem Pw (eB:fo.length=U.length) {r:Nat} (h:NJ U fo (fun x y=>p x y=true) a b r):XI U fo ((U.length:Nat):Int) (cE U.length p) (((a:Nat):Int),((b:Nat):Int),((r:Nat):Int)):=by
 obtain⟨a1,r1,fr,ne,wr,ah⟩:=h
 refine⟨by simp only;omega,by simp only;omega,by simpa using fr,by simp only;omega,by simp only;omega,?_⟩
 simp only
 unfold aV
 rw[aoi]
 refine⟨?_,by rw[wr];rfl⟩
 unfold eU
 rw[an4 aj,wO,dq]
 exact⟨a,a1,by rw[dq,jG a1 r1];exact ah,J⟩
theorem Eb {es:List eu} (eB:fo.length=U.length) (fL:∀x∈fo,x<((U.length:Nat):Int)) (h:DQ U fo ((U.length:Nat):Int) (cE U.length p) es):oC U.length es:=by
 intro e he
 obtain⟨a,b,r,rfl,k⟩:=Bz eB ((h.2 e).1 he)
 have:=fL _<|dz k.fr
 have:=k.a1
 exact jo.2<|by simp only;omega
structure P2 (U:List aN) (fo:aA) (o:Int) (R:Nat→bY):Prop where
 base:∀a b,a<U.length→b<U.length→pO U fo a b=true→((a:Nat):Int)∈bN ((U.length:Nat):Int) (ct U fo) o→((b:Nat):Int)∈bN ((U.length:Nat):Int) (ct U fo) o→R a b
 trans:∀a b c,a<U.length→b<U.length→c<U.length→R a b→R b c→R a c
 Qn:∀a b r,((r:Nat):Int)∈lj U o→NJ U fo R a b r→R a b
noncomputable def BR (U:List aN) (fo:aA) (o:Int) (a b:Nat):Bool:=@decide (∀R,P2 U fo o R→R a b) (Classical.propDecidable _)
noncomputable def cX (U:List aN) (fo:aA) (o:Int):Rows:=cE U.length (BR U fo o)
theorem pU:BR U fo o a b=true↔∀R,P2 U fo o R→R a b:=by unfold BR;exact @decide_eq_true_iff _ (Classical.propDecidable _)
theorem abG (U:List aN) (fo:aA) (o:Int):P2 U fo o (fun a b=>BR U fo o a b=true) where
 base a b ha hb hc h1 h2:=pU.2 fun R hR=>hR.base a b ha hb hc h1 h2
 trans a b c ha hb hc h1 h2:=pU.2 fun R hR=>hR.trans a b c ha hb hc (pU.1 h1 R hR) (pU.1 h2 R hR)
 Qn a b r hr h:=pU.2 fun R hR=>hR.Qn a b r hr ⟨h.a1,h.r1,h.fr,h.ne,h.wr,pU.1 h.ah R hR⟩
structure SnQ (U:List aN) (fo:aA) (o:Int) (p:hQ):Prop where
 tr:TrP U.length p
 base:∀a b,a<U.length→b<U.length→pO U fo a b=true→((a:Nat):Int)∈bN ((U.length:Nat):Int) (ct U fo) o→((b:Nat):Int)∈bN ((U.length:Nat):Int) (ct U fo) o→p a b=true
 le:∀R,P2 U fo o R→∀a b,a<U.length→b<U.length→p a b=true→R a b
def Kg (U:List aN) (fo:aA) (o:Int) (n:Int) (rs:Rows):Prop:=n=((U.length:Nat):Int)∧∃p,rs=cE U.length p∧SnQ U fo o p
def IN (U:List aN) (rs:Rows):Nat:=M6 U.length (fW rs)
section
variable {U:List aN} {fo:aA} {o n:Int} {rs:Rows} {es:List eu}
theorem Vn (U:List aN) (fo:aA) (o:Int):Kg U fo o ((U.length:Nat):Int) (gl ((U.length:Nat):Int) (ct U fo) (bN ((U.length:Nat):Int) (ct U fo) o)):=by
 have hm:∀a b,a<U.length→b<U.length→(Om (fW (ct U fo)) (bN ((U.length:Nat):Int) (ct U fo) o) a b=true↔pO U fo a b=true∧((a:Nat):Int)∈bN ((U.length:Nat):Int) (ct U fo) o∧((b:Nat):Int)∈bN ((U.length:Nat):Int) (ct U fo) o):=by
  intro a b ha hb
  unfold Om
  rw[show fW (ct U fo) a b=pO U fo a b from jG ha hb]
  simp only[ez,an2]
 refine⟨J,_,by unfold gl;rw[dq],?_,?_,?_⟩
 ·intro i j k hi hj hk h1 h2
  obtain⟨a1,a2,a3⟩:=(hm i j hi hj).1 h1
  obtain⟨b1,b2,b3⟩:=(hm j k hj hk).1 h2
  exact(hm i k hi hk).2 ⟨xV hj a1 b1,a2,b3⟩
 ·intro a b ha hb h1 h2 h3
  exact(hm a b ha hb).2 ⟨h1,h2,h3⟩
 ·intro R hR a b ha hb h
  obtain⟨h1,h2,h3⟩:=(hm a b ha hb).1 h
  exact hR.base a b ha hb h1 h2 h3
theorem Lm (h:Kg U fo o n rs) (hn:U.length≤4096):bJ n rs=true:=by
 obtain⟨rfl,p,rfl,_⟩:=h;exact lH hn
theorem XW (h:Kg U fo o n rs) (eB:fo.length=U.length) (fL:∀x∈fo,x<((U.length:Nat):Int)) (he:DQ U fo n rs es) {kp:aA}:oC U.length (gG n rs kp es):=by
 obtain⟨rfl,p,rfl,_⟩:=h
 exact fun e hm=>Eb eB fL he e (Df hm).1
theorem ZW (h:Kg U fo o n rs) (eB:fo.length=U.length) (fL:∀x∈fo,x<((U.length:Nat):Int)) (he:DQ U fo n rs es):
  Kg U fo o n (l_ n rs (gG n rs (lj U o) es))∧(gG n rs (lj U o) es≠[]→IN U rs<IN U (l_ n rs (gG n rs (lj U o) es))):=by
 have sJ:=XW h eB fL he (kp:=lj U o)
 obtain⟨rfl,p,rfl,q⟩:=h
 rw[Nw q.tr sJ]
 refine⟨⟨J,_,J,Ry _ _,?_,?_⟩,?_⟩
 ·intro a b ha hb h1 h2 h3
  exact vA<|by simp[q.base a b ha hb h1 h2 h3]
 ·intro R hR a b ha hb h
  refine((pP ha hb).1 h).least (fun x y hx hy hp=>?_) fun x y z hx hy hz=>hR.trans x y z hx hy hz
  rcases aoc _ _▸hp with hp|hp
  ·exact q.le R hR x y hx hy hp
  ·obtain⟨e,TB,yQ⟩:=aoB.1 hp
   obtain⟨m1,m2,m3⟩:=Df TB
   obtain⟨a',b',r',rfl,k⟩:=Bz eB ((he.2 e).1 m1)
   simp only[ez,an2] at yQ
   obtain⟨e1,e2⟩:=yQ
   obtain rfl:a'=x:=by omega
   obtain rfl:b'=y:=by omega
   exact hR.Qn a' b' r' m3 ⟨k.a1,k.r1,k.fr,k.ne,k.wr,q.le R hR a' r' k.a1 k.r1 k.ah⟩
 ·intro gB
  obtain⟨e,TB⟩:=List.exists_mem_of_ne_nil _ gB
  obtain⟨m1,m2,m3⟩:=Df TB
  have hi:=sJ e TB
  obtain⟨a',b',r',rfl,k⟩:=Bz eB ((he.2 e).1 m1)
  have hr:=jo.1 hi
  simp only at hr m2
  have hb:b'<U.length:=by omega
  rw[uI k.a1 hb] at m2
  unfold IN
  refine aa3 (a:=a') (b:=b') (fun a b ha hb h=>?_) k.a1 hb ?_ ?_
  ·rw[jG ha hb] at h ⊢
   exact vA<|by simp[h]
  ·rw[jG k.a1 hb];exact m2
  ·rw[jG k.a1 hb]
   refine vA ?_
   rw[aoc]
   exact .inr (aoB.2 ⟨_,TB,by simp⟩)
theorem abF (h:Kg U fo o n rs) (eB:fo.length=U.length) (fL:∀x∈fo,x<((U.length:Nat):Int)) (he:DQ U fo n rs es) (hz:gG n rs (lj U o) es=[]):rs=cX U fo o:=by
 obtain⟨rfl,p,rfl,q⟩:=h
 have hR:P2 U fo o (fun a b=>p a b=true):=by
  refine⟨q.base,q.tr,fun a b r hr k=>?_⟩
  have hb:=fL _<|dz k.fr
  have hh:=TV hz ((he.2 _).2 (Pw eB k)) hr
  simp only at hh
  rw[uI k.a1 aj] at hh
  exact hh
 refine dH fun a b ha hb=>?_
 rw[aoj,pU]
 exact⟨fun h R hR=>q.le R hR a b ha hb h,fun h=>h _ hR⟩
theorem Lo (rs:Rows) (U:List aN):IN U rs≤U.length*U.length:=aa4 _ _
end
theorem Bp (h:ik U) (hn:U.length≤64) (ho:0≤o∧o<((U.length:Nat):Int)):(aV (fO U) (cz U o)).length≤64:=by
 unfold aV
 refine Nat.le_trans (ao3 _ _) ?_
 unfold cz
 rw[an4 ho,aoo,apM]
 have h1:=SI h ho.1 ho.2
 unfold cz at h1
 rw[an4 ho,aoo,apM] at h1
 have h2:=(ik.back h o.toNat aj).1
 omega
theorem BJ {n2:Int} {m2:Rows} {x:eu} (h:n2=n∧m2=l_ n rs (l.take q)) (hx:l[((q:Nat):Int).toNat]? =some x) (hi:kE n [x.1,x.2.1]=true):
  iu n2 x.1 x.2.1=n∧ie n2 m2 x.1 x.2.1=l_ n rs (l.take (q+1)):=by
 obtain⟨rfl,rfl⟩:=h
 rw[dq] at hx
 refine⟨by unfold iu;rw[an4 hi],?_⟩
 rw[aoy,hx,show (some x).toList=[x] from rfl,BI]
theorem abE {n2:Int} {m2:Rows} (h:Kg U fo o n rs) (hn:U.length≤4096) (he:oC U.length l) (h2:n2=n∧m2=l_ n rs (l.take q)):bJ n2 m2=true:=by
 obtain⟨rfl,rfl⟩:=h2
 have hr:=Lm h hn
 rw[h.1] at hr ⊢
 exact zK hr fun e TD=>he e (apl TD)
theorem Ln {x:eu} (h:n=((U.length:Nat):Int)) (he:oC U.length l) (hx:l[((q:Nat):Int).toNat]? =some x):kE n [x.1,x.2.1]=true:=by
 rw[h];exact he x (dz hx)
end Go.Ew
namespace Go.Ew
variable {r N:Int} {j:Nat} {R:Rows}
abbrev yb:=Int×Int×Int×Int×Int
structure U3 (k r a b o:Int):Prop where
 k:aK k
 r:aK r
 a:aK a
 b:aK b
 o:aK o
def qw (x:Option yb) (k r a b o:Int):Prop:=U3 k r a b o∧∀y,x=some y→y=(k,r,a,b,o)
theorem ui {x:Option yb} {k a b o:Int} (h:x=none) (i:U3 k r a b o):qw x k r a b o:=⟨i,fun y hy=>by rw[h] at hy;cases hy⟩
theorem zQ {x:Option yb} {k a b o:Int} (h:x=some (k,r,a,b,o)) (i:U3 k r a b o):qw x k r a b o:=⟨i,fun y hy=>by rw[h] at hy;exact(an5 hy).symm⟩
section
variable (U:List aN) (fo:aA)
def pt (kd:Int):Option yb:=if 0≤eF (fun z_=>decide ((-2)=z_)) fo then some (kd,eF (fun z_=>decide ((-2)=z_)) fo, -1, -1, -1) else none
def kj (n:Int) (rs:Rows) (kd:Int):Option yb:=(cP n rs).map fun i=>(kd, -1, -1, -1,((i:Nat):Int))
def qh (n:Int) (rs:Rows) (kd:Int):Option yb:=(AD U fo n rs).map fun r=>(kd,((r:Nat):Int),(du U n rs ((r:Nat):Int)).headD 0, -1, -1)
def qi (n:Int) (rs:Rows) (kd:Int):Option yb:=(Gj U fo n rs).map fun r=>(kd,((r:Nat):Int),fo.getD r 0,(zI U fo n rs r).getD 0, -1)
noncomputable def EW (a b:Nat):Bool:=pO U fo a b||@decide (∃r,NJ U fo (fun x y=>pO U fo x y=true) a b r) (Classical.propDecidable _)
noncomputable def AF:Rows:=cE U.length (cl U.length (EW U fo))
def Cq (n:Int) (rs:Rows) (r:Int):Bool:=decide (fo.getD r.toNat 0= -1)&&decide (0<(((du U n rs r).length:Nat):Int))
def En (n:Int) (rs:Rows) (o:Int):Option Int:=(lj U o).find? (Cq U fo n rs)
noncomputable def Je (o:Nat):Bool:=(En U fo ((U.length:Nat):Int) (cX U fo ((o:Nat):Int)) ((o:Nat):Int)).isSome
noncomputable def Jf:Option Nat:=(List.range U.length).find? (Je U fo)
noncomputable def sA (kd:Int):Option yb:=(Jf U fo).map fun o=>(kd,(En U fo ((U.length:Nat):Int) (cX U fo ((o:Nat):Int)) ((o:Nat):Int)).getD 0,(du U ((U.length:Nat):Int) (cX U fo ((o:Nat):Int)) ((En U fo ((U.length:Nat):Int) (cX U fo ((o:Nat):Int)) ((o:Nat):Int)).getD 0)).headD 0, -1,((o:Nat):Int))
noncomputable def XV (o:Nat):Bool:=(cP ((U.length:Nat):Int) (cX U fo ((o:Nat):Int))).isSome
noncomputable def I8:Option Nat:=(List.range U.length).find? (XV U fo)
noncomputable def sy (kd:Int):Option yb:=(I8 U fo).map fun o=>(kd, -1,(((cP ((U.length:Nat):Int) (cX U fo ((o:Nat):Int))).getD 0:Nat):Int), -1,((o:Nat):Int))
noncomputable def jj (kd:Int):Option yb:=
 if kd=1 then pt fo kd else if kd=2 then kj ((U.length:Nat):Int) (ct U fo) kd else if kd=3 then qh U fo ((U.length:Nat):Int) (ct U fo) kd else if kd=4 then qi U fo ((U.length:Nat):Int) (ct U fo) kd
 else if kd=5 then kj ((U.length:Nat):Int) (AF U fo) kd else if kd=6 then sA U fo kd else sy U fo kd
noncomputable def gL (lv:Int):Option yb:=(dS lv).findSome? (jj U fo)
noncomputable def eT:List (Int×Rows):=(List.range U.length).map fun o=>(((U.length:Nat):Int),cX U fo ((o:Nat):Int))
end
section
variable {U:List aN} {fo:aA}
theorem A2:(eT U fo).length=U.length:=by unfold eT;simp
theorem OF {x:Int×Rows} (h:(eT U fo)[((j:Nat):Int).toNat]? =some x):j<U.length∧x=(((U.length:Nat):Int),cX U fo ((j:Nat):Int)):=by
 rw[dq] at h
 have hl:=(dJ.1 h).1
 rw[A2] at hl
 unfold eT at h
 rw[aoa,aoL hl] at h
 exact⟨hl,(an5 h).symm⟩
theorem Sg (hj:j<U.length):(eT U fo).take j++[(((U.length:Nat):Int),cX U fo ((j:Nat):Int))]=(eT U fo).take (j+1):=by
 have h:(eT U fo)[j]? =some (((U.length:Nat):Int),cX U fo ((j:Nat):Int)):=by unfold eT;rw[aoa,aoL hj];rfl
 rw[aoy,h];rfl
theorem agS {es:List eu} (eB:fo.length=U.length) (fL:∀x∈fo,x<((U.length:Nat):Int)) (h:DQ U fo ((U.length:Nat):Int) (ct U fo) es):l_ ((U.length:Nat):Int) (ct U fo) es=AF U fo:=by
 unfold ct at h ⊢
 rw[Nw (p:=pO U fo) (Ry U.length (M3 U fo)) (Eb eB fL h)]
 unfold AF
 refine dH fun a b ha hb=>Gg (fun x y hx hy=>?_) ha hb
 rw[aoj]
 unfold EW Uf
 rw[aoc,aoc,aoB,@decide_eq_true_iff _ (Classical.propDecidable _)]
 refine or_congr Iff.rfl ⟨?_,?_⟩
 ·rintro⟨e,he,h2⟩
  simp only[ez,an2] at h2
  obtain⟨a',b',r',rfl,k⟩:=Bz eB ((h.2 e).1 he)
  obtain rfl:a'=x:=by simp only at h2;omega
  obtain rfl:b'=y:=by simp only at h2;omega
  exact⟨r',k⟩
 ·rintro⟨r,k⟩
  exact⟨_,(h.2 _).2 (Pw eB k),by simp⟩
theorem aaM {α β:Type} {l:List α} {f:α→Option β} {x:α} (hs:∀y∈l.take j,f y=none) (hx:l[((j:Nat):Int).toNat]? =some x) (h:f x=none):∀y∈l.take (j+1),f y=none:=by
 rw[dq] at hx
 intro y hy
 rw[aoy,hx] at hy
 rcases aot.1 hy with hy|hy
 ·exact hs y hy
 ·simp at hy;rw[hy];exact h
theorem aaL {α β:Type} {l:List α} {f:α→Option β} {x:α} {y:β} (hs:∀y∈l.take j,f y=none) (hx:l[((j:Nat):Int).toNat]? =some x) (h:f x=some y):l.findSome? f=some y:=by
 rw[dq] at hx
 have e:l=l.take j++x::l.drop (j+1):=by
  rw[←(dJ.1 hx).2,aqM,ao2]
 rw[e,List.findSome?_append,aqq.2 hs,aqu,h];rfl
theorem aez {α β:Type} {l:List α} {f:α→Option β} (hs:∀y∈l.take j,f y=none) (hj:l.length≤j):l.findSome? f=none:=by
 rw[an_ hj] at hs
 exact aqq.2 hs
theorem Bo {lv x:Int} (h:x∈dS lv):x=1∨x=2∨x=3∨x=4∨x=5∨x=6∨x=7:=by
 unfold dS at h
 cases h1:decide (lv=1)<;>cases h2:decide (lv=2)<;>cases h3:decide (lv=3)<;>simp[h1,h2,h3] at h<;>omega
end
theorem rF:aK (-1):=by unfold aK;omega
theorem FN:aK 0:=by unfold aK;omega
theorem Ix (h:j≤9223372036854775807):aK ((j:Nat):Int):=by unfold aK;omega
theorem On:U3 0 0 0 0 0:=⟨FN,FN,FN,FN,FN⟩
section
variable {U:List aN} {fo:aA} {n kd:Int} {rs:Rows} {j:Nat} {x a:Int}
theorem wiN (h:aK kd):U3 kd (-1) (-1) (-1) (-1):=⟨h,rF,rF,rF,rF⟩
theorem Ov:decide (0≤eF (fun z_=>decide ((-2)=z_)) fo)=(pt fo kd).isSome:=by
 unfold pt;split<;>simp_all
theorem aby (hk:aK kd) (hl:fo.length≤9223372036854775807):qw (pt fo kd) kd (eF (fun z_=>decide ((-2)=z_)) fo) (-1) (-1) (-1):=by
 have h:=wC (p:=fun z_=>decide ((-2)=z_)) (r:=fo)
 refine⟨⟨hk,by unfold aK;omega,rF,rF,rF⟩,fun y hy=>?_⟩
 unfold pt at hy
 split at hy
 ·exact(an5 hy).symm
 ·cases hy
theorem Cw:(cP n rs).isSome=(kj n rs kd).isSome:=by unfold kj;simp
theorem L8 {i:Nat} (h:cP n rs=some i):i<n.toNat:=by
 unfold cP at h;exact an7.1 (aqw h)
theorem Qq (hk:aK kd) (hn:n≤9223372036854775807) (h:(cP n rs).isSome=true):qw (kj n rs kd) kd (-1) (-1) (-1) (((cP n rs).getD 0:Nat):Int):=by
 obtain⟨i,hi⟩:=aos.1 h
 have hl:=L8 hi
 unfold kj
 rw[hi]
 exact zQ J ⟨hk,rF,rF,rF,Ix (by simp only[apR];omega)⟩
theorem Qr (hk:aK kd) (h:(cP n rs).isSome=false):qw (kj n rs kd) kd (-1) (-1) (-1) (-1):=
 ui (by unfold kj;cases e:cP n rs<;>simp_all) (wiN hk)
theorem aeH (h:AD U fo n rs=some j):true=(qh U fo n rs kd).isSome:=by unfold qh;rw[h];rfl
theorem Ue (h:AD U fo n rs=none):qh U fo n rs kd=none:=by unfold qh;rw[h];rfl
theorem agQ (hk:aK kd) (h:AD U fo n rs=some j) (hj:j≤9223372036854775807) (hx:(du U n rs ((j:Nat):Int))[(0:Int).toNat]? =some x) (ix:aK x):qw (qh U fo n rs kd) kd ((j:Nat):Int) x (-1) (-1):=by
 refine zQ ?_ ⟨hk,Ix hj,ix,rF,rF⟩
 unfold qh;rw[h];show some (kd,_,(du U n rs ((j:Nat):Int)).headD 0,_,_)=_
 rw[MC hx]
theorem aeT (h:Gj U fo n rs=some j):true=(qi U fo n rs kd).isSome:=by unfold qi;rw[h];rfl
theorem UA (h:Gj U fo n rs=none):qi U fo n rs kd=none:=by unfold qi;rw[h];rfl
theorem agT (hk:aK kd) (h:Gj U fo n rs=some j) (hb:zI U fo n rs j=some x) (ha:fo.getD j 0=a) (hj:j≤9223372036854775807) (ia:aK a) (ix:aK x):qw (qi U fo n rs kd) kd ((j:Nat):Int) a x (-1):=by
 refine zQ ?_ ⟨hk,Ix hj,ia,ix,rF⟩
 unfold qi;rw[h];show some (kd,_,fo.getD j 0,(zI U fo n rs j).getD 0,_)=_
 rw[hb,ha];rfl
end
theorem Nv {U:List aN} {n:Int} {rs:Rows} {k:Nat} {x:Int} (h:bJ n rs=true) (hx:(du U n rs r)[k]? =some x):aK x:=by
 have hm:=dz hx
 unfold du aV at hm
 have hm:=(aoi.1 hm).1
 unfold eU at hm
 split at hm
 ·obtain⟨k,hk,_,rfl⟩:=wO.1 hm
  have:=(bQ h).2.2.1
  unfold aK;omega
 ·cases hm
section
variable {U:List aN} {fo:aA} {cn n2 kd:Int} {cr m2:Rows} {es:List eu} {q:Nat}
theorem Zf (eB:fo.length=U.length) (fL:∀x∈fo,x<((U.length:Nat):Int)) (oA:cn=((U.length:Nat):Int)) (pJ:cr=ct U fo) (h:DQ U fo cn cr es):oC U.length es:=by
 subst oA pJ;exact Eb eB fL h
theorem Us (hn:U.length≤4096) (oA:cn=((U.length:Nat):Int)) (pJ:cr=ct U fo) (he:oC U.length es) (h2:n2=cn∧m2=l_ cn cr (es.take q)):bJ n2 m2=true:=by
 obtain⟨rfl,rfl⟩:=h2
 subst oA pJ
 exact zK (pD fo hn) fun e TD=>he e (apl TD)
theorem aeR (eB:fo.length=U.length) (fL:∀x∈fo,x<((U.length:Nat):Int)) (oA:cn=((U.length:Nat):Int)) (pJ:cr=ct U fo) (h:DQ U fo cn cr es) (h2:n2=cn∧m2=l_ cn cr (es.take q)) (hq:es.length≤q):n2=((U.length:Nat):Int)∧m2=AF U fo:=by
 obtain⟨rfl,rfl⟩:=h2
 subst oA pJ
 rw[an_ hq]
 exact⟨J,agS eB fL h⟩
theorem OI (h:n2=N∧m2=R):(cP n2 m2).isSome=(kj N R kd).isSome:=by obtain⟨rfl,rfl⟩:=h;exact Cw
theorem ab8 (h:n2=N∧m2=R) (hk:aK kd) (hn:N≤9223372036854775807) (h1:(cP n2 m2).isSome=true):qw (kj N R kd) kd (-1) (-1) (-1) (((cP n2 m2).getD 0:Nat):Int):=by obtain⟨rfl,rfl⟩:=h;exact Qq hk hn h1
theorem ab9 (h:n2=N∧m2=R) (hk:aK kd) (h1:(cP n2 m2).isSome=false):qw (kj N R kd) kd (-1) (-1) (-1) (-1):=by obtain⟨rfl,rfl⟩:=h;exact Qr hk h1
end
end Go.Ew
namespace Go.Ew
section
variable {α:Type} {l:List α} {p:α→Bool} {j:Nat} {x:α}
theorem Y8 (hs:∀y∈l.take j,p y=false) (hx:l[((j:Nat):Int).toNat]? =some x) (h:p x=false):∀y∈l.take (j+1),p y=false:=by
 rw[dq] at hx
 intro y hy
 rw[aoy,hx] at hy
 rcases aot.1 hy with hy|hy
 ·exact hs y hy
 ·simp at hy;rw[hy];exact h
theorem aeB (hs:∀y∈l.take j,p y=false) (hx:l[((j:Nat):Int).toNat]? =some x) (h:p x=true):l.find? p=some x:=by
 rw[dq] at hx
 have e:l=l.take j++x::l.drop (j+1):=by
  rw[←(dJ.1 hx).2,aqM,ao2]
 rw[e,List.find?_append,apw.2 (fun y hy=>by rw[hs y hy];exact aqE),List.find?_cons,h];rfl
theorem aaw {l:aA} {p:Int→Bool} {j:Nat} {x:Int} (h:(aV p l)[((j:Nat):Int).toNat]? =some x):∃q:Nat,l[q]? =some x:=by
 have h1:=dz h
 unfold aV at h1
 exact ap4 (aoi.1 h1).1
theorem aeC (hs:∀y∈l.take j,p y=false) (hj:l.length≤j):l.find? p=none:=by
 rw[an_ hj] at hs
 exact apw.2 fun y hy=>by rw[hs y hy];exact aqE
end
section
variable {U:List aN} {fo:aA} {kd:Int} {j:Nat} {r y x:Int} {X:Int×Rows}
theorem GA (hn:U.length≤64) (hj:j<U.length):bJ ((U.length:Nat):Int) (cX U fo ((j:Nat):Int))=true:=by
 unfold cX;exact lH aj
theorem ZX (h:(lj U ((j:Nat):Int)).find? (Cq U fo ((U.length:Nat):Int) (cX U fo ((j:Nat):Int)))=none):Je U fo j=false:=by
 unfold Je En;rw[h];rfl
theorem abK (h:(lj U ((j:Nat):Int)).find? (Cq U fo ((U.length:Nat):Int) (cX U fo ((j:Nat):Int)))=some r):Je U fo j=true:=by
 unfold Je En;rw[h];rfl
theorem afM (h:Jf U fo=some j):true=(sA U fo kd).isSome:=by unfold sA;rw[h];rfl
theorem XX (h:Jf U fo=none):sA U fo kd=none:=by unfold sA;rw[h];rfl
theorem aiy (hk:aK kd) (h:Jf U fo=some j) (h2:(lj U ((j:Nat):Int)).find? (Cq U fo ((U.length:Nat):Int) (cX U fo ((j:Nat):Int)))=some r) (hj:j≤9223372036854775807) (hr:aK r)
  (hx:(du U ((U.length:Nat):Int) (cX U fo ((j:Nat):Int)) r)[(0:Int).toNat]? =some x) (ix:aK x):qw (sA U fo kd) kd r x (-1) ((j:Nat):Int):=by
 refine zQ ?_ ⟨hk,hr,ix,rF,Ix hj⟩
 unfold sA;rw[h]
 have e:En U fo ((U.length:Nat):Int) (cX U fo ((j:Nat):Int)) ((j:Nat):Int)=some r:=h2
 show some (kd,(En U fo ((U.length:Nat):Int) (cX U fo ((j:Nat):Int)) ((j:Nat):Int)).getD 0,(du U ((U.length:Nat):Int) (cX U fo ((j:Nat):Int)) ((En U fo ((U.length:Nat):Int) (cX U fo ((j:Nat):Int)) ((j:Nat):Int)).getD 0)).headD 0,_,_)=_
 rw[e]
 show some (kd,r,(du U ((U.length:Nat):Int) (cX U fo ((j:Nat):Int)) r).headD 0,_,_)=_
 rw[MC hx]
theorem afC (h:I8 U fo=some j):true=(sy U fo kd).isSome:=by unfold sy;rw[h];rfl
theorem XU (h:I8 U fo=none):sy U fo kd=none:=by unfold sy;rw[h];rfl
theorem ait (hk:aK kd) (h:I8 U fo=some j) (hj:j<U.length) (hn:U.length≤64) (h2:(cP ((U.length:Nat):Int) (cX U fo ((j:Nat):Int))).isSome=true):
  qw (sy U fo kd) kd (-1) (((cP ((U.length:Nat):Int) (cX U fo ((j:Nat):Int))).getD 0:Nat):Int) (-1) ((j:Nat):Int):=by
 obtain⟨i,hi⟩:=aos.1 h2
 have hl:=L8 hi
 refine zQ ?_ ⟨hk,rF,Ix (by rw[hi,apR];omega),rF,Ix aj⟩
 unfold sy;rw[h];rfl
end
section
variable {U:List aN} {fo:aA} {lv x:Int} {j:Nat} {P:Option yb} {k r a b o:Int}
theorem VQ:jj U fo 1=pt fo 1:=by unfold jj;exact an4 rfl
theorem VO:jj U fo 2=kj ((U.length:Nat):Int) (ct U fo) 2:=by unfold jj;rw[an8 au];exact an4 rfl
theorem VN:jj U fo 3=qh U fo ((U.length:Nat):Int) (ct U fo) 3:=by unfold jj;rw[an8 au,an8 au];exact an4 rfl
theorem VM:jj U fo 4=qi U fo ((U.length:Nat):Int) (ct U fo) 4:=by unfold jj;rw[an8 au,an8 au,an8 au];exact an4 rfl
theorem VL:jj U fo 5=kj ((U.length:Nat):Int) (AF U fo) 5:=by unfold jj;rw[an8 au,an8 au,an8 au,an8 au];exact an4 rfl
theorem VK:jj U fo 6=sA U fo 6:=by unfold jj;rw[an8 au,an8 au,an8 au,an8 au,an8 au];exact an4 rfl
theorem VJ:jj U fo 7=sy U fo 7:=by unfold jj;rw[an8 au,an8 au,an8 au,an8 au,an8 au];exact an8 au
theorem A9 (hs:∀y∈(dS lv).take j,jj U fo y=none) (hx:(dS lv)[((j:Nat):Int).toNat]? =some x) (e:jj U fo x=P) (h:P.isSome=false):∀y∈(dS lv).take (j+1),jj U fo y=none:=
 aaM hs hx (by rw[e];cases P<;>simp_all)
theorem nX (hs:∀y∈(dS lv).take j,jj U fo y=none) (hx:(dS lv)[((j:Nat):Int).toNat]? =some x) (e:jj U fo x=P) (h:P.isSome=true):gL U fo lv=P:=by
 obtain⟨y,rfl⟩:=aos.1 h
 exact aaL hs hx e
theorem ON (hs:∀y∈(dS lv).take j,jj U fo y=none) (h:(dS lv).length≤j):gL U fo lv=none:=aez hs h
noncomputable def fc (U:List aN) (fo:aA) (lv:Int):Int:=if (gL U fo lv).isSome=true then 0 else 8
theorem sx (e:gL U fo lv=P) (h:P.isSome=true):0=fc U fo lv:=by unfold fc;rw[an4 (by rw[e];exact h)]
theorem aa2 (e:gL U fo lv=none):8=fc U fo lv:=by unfold fc;rw[an8 (by rw[e];exact aqE)]
theorem wV (e:gL U fo lv=P) (h:qw P k r a b o):qw (gL U fo lv) k r a b o:=by rw[e];exact h
theorem Wh (h:lv=1∨lv=2∨lv=3):dS lv≠[]:=by
 rcases h with rfl|rfl|rfl<;>simp[dS]
theorem S9:(dS lv).length≤6:=by
 unfold dS
 cases h1:decide (lv=1)<;>cases h2:decide (lv=2)<;>cases h3:decide (lv=3)<;>simp
end
end Go.Ew
namespace Go.Ew
variable {n x:Int} {r:Row} {q:Nat} {rs:Rows}
def KE (a b:Row) (j:Nat):Bool:=!decide ((a.getD j 0#64 &&& b.getD j 0#64)=0#64)
def oO (a b:Row):Bool:=(List.range a.length).any (KE a b)
theorem ae9 {p:Nat→Bool} {n j:Nat} (hj:j<n) (h:p j=true):true=(List.range n).any p:=(aoB.2 ⟨j,an7.2 hj,h⟩).symm
theorem abd {p:Nat→Bool} {n j:Nat} (hs:∀q,q<j→p q=false) (hj:n≤j):false=(List.range n).any p:=by
 symm
 rw[apN]
 intro q hq
 rw[hs q (by have:=an7.1 hq;omega)]
 exact aqE
theorem aaB {α:Type} {p:α→Bool} {r:List α} (h:0≤eF p r):eF p r<((r.length:Nat):Int):=by
 unfold eF at h ⊢
 cases e:r.findIdx? p with
 |none=>rw[e] at h;exact absurd h au
 |some i=>
  have:=(aom.1 e).1
  show ((i:Nat):Int)<_
  omega
def BP (n:Int) (r:Row):Prop:=r.length=words n∧∀x∈cY r,0≤x∧x<n
theorem aar:BP n (eh n):=by
 refine⟨by unfold eh;simp,fun x hx=>?_⟩
 have:=u7.1 hx
 rw[FF] at this;cases this
theorem aaq (h:BP n r) (h0:0≤x) (h1:x<n):BP n (ei r x):=by
 refine⟨by rw[←h.1];unfold ei;split<;>simp,fun y hy=>?_⟩
 have:=u7.1 hy
 rw[Da,aoc] at this
 rcases this with h2|h2
 ·exact h.2 y<|u7.2 h2
 ·simp only[ez,an2] at h2
  rw[h2.1];exact⟨h0,h1⟩
theorem aas {x y:bp} (h:BP n r) (hx:r[q]? =some x):BP n (r.set q (x &&& ~~~y)):=by
 refine⟨by rw[an1];exact h.1,fun z hz=>?_⟩
 have h1:=u7.1 hz
 refine h.2 z<|u7.2 ?_
 unfold fk at h1 ⊢
 rw[ez] at h1 ⊢
 refine⟨h1.1,?_⟩
 have h2:=h1.2
 rw[il,apa] at h2
 split at h2
 ·rename_i e
  rw[←e,il,hx]
  split at h2
  ·simp only[apR,aqc,ez] at h2
   exact h2.1
  ·simp at h2
 ·rwa [←il] at h2
theorem acE (h:BP n r) (hx:(cY r)[q]? =some x):0≤x∧x<n:=h.2 x (dz hx)
theorem We (h:BP n r) (h0:0≤x) (h1:x<n):x<64*((r.length:Nat):Int):=by
 rw[h.1];unfold words;omega
def Lf (T:Rows) (lf:Row) (x:Int):Bool:=!(oO (T.getD x.toNat []) lf)
def aeO (lf:Row) (x:Int):Row:=lf.set (x/64).toNat (lf.getD (x/64).toNat 0#64 &&& ~~~((1#64) <<< ((BitVec.ofInt 64 (x%64)).toNat:Int).toNat))
def AW (T:Rows):Nat→Row→aA→aA×Int
 |0,_,os=>(os,0)
 |k+1,lf,os=>if eF (Lf T lf) (cY lf)<0 then ([],7) else AW T k (aeO lf ((cY lf).getD (eF (Lf T lf) (cY lf)).toNat 0)) (os++[(cY lf).getD (eF (Lf T lf) (cY lf)).toNat 0])
def rh (n:Int):aA→Row→Option Row
 |[],lf=>some lf
 |x::r,lf=>if x<0∨n≤x∨fk lf x=true then none else rh n r (ei lf x)
def dB (n:Int) (rs:Rows) (nd:aA):aA×Int:=match rh n nd (eh n) with
 |none=>([],1)
 |some lf=>AW (gJ n rs) nd.length lf []
section
variable {n:Int} {rs T:Rows} {nd os:aA} {lf:Row} {j:Nat} {x:Int} {y:bp}
theorem ZT (h:rh n nd (eh n)=rh n (nd.drop j) lf) (hx:nd[((j:Nat):Int).toNat]? =some x) (h0:0≤x) (h1:x<n) (h2:fk lf x=false):rh n nd (eh n)=rh n (nd.drop (j+1)) (ei lf x):=by
 rw[dq] at hx
 obtain⟨hj,qo⟩:=dJ.1 hx
 rw[h,aoS hj,qo]
 show (if _ then _ else _)=_
 rw[an8 (by rintro(h3|h3|h3);omega;omega;rw[h2] at h3;cases h3)]
theorem Li (h:rh n nd (eh n)=rh n (nd.drop j) lf) (hx:nd[((j:Nat):Int).toNat]? =some x) (h1:x<0∨n≤x∨fk lf x=true):dB n rs nd=([],1):=by
 rw[dq] at hx
 obtain⟨hj,qo⟩:=dJ.1 hx
 rw[aoS hj,qo] at h
 have:rh n nd (eh n)=none:=by
  rw[h];show (if _ then _ else _)=_;rw[an4 h1]
 unfold dB;rw[this]
theorem Vl (h:rh n nd (eh n)=rh n (nd.drop j) lf) (hj:nd.length≤j):dB n rs nd=AW (gJ n rs) (nd.length-([]:aA).length) lf []:=by
 rw[List.drop_of_length_le hj] at h
 unfold dB;rw[h];rfl
theorem afD (h:dB n rs nd=AW (gJ n rs) (nd.length-os.length) lf os) (hl:os.length<nd.length) (hi:eF (Lf (gJ n rs) lf) (cY lf)<0):dB n rs nd=([],7):=by
 rw[h,show nd.length-os.length=(nd.length-os.length-1)+1 from by omega]
 show (if _ then _ else _)=_
 rw[an4 hi]
theorem ZS (h:dB n rs nd=AW (gJ n rs) (nd.length-os.length) lf os) (hl:os.length<nd.length) (hi:¬eF (Lf (gJ n rs) lf) (cY lf)<0) (hx:(cY lf)[(eF (Lf (gJ n rs) lf) (cY lf)).toNat]? =some x) (hy:lf[(x/64).toNat]? =some y):
  dB n rs nd=AW (gJ n rs) (nd.length-(os++[x]).length) (lf.set (x/64).toNat (y &&& ~~~((1#64) <<< ((BitVec.ofInt 64 (x%64)).toNat:Int).toNat))) (os++[x]):=by
 have e1:(cY lf).getD (eF (Lf (gJ n rs) lf) (cY lf)).toNat 0=x:=by rw[il,hx];rfl
 have e2:lf.getD (x/64).toNat 0#64=y:=by rw[il,hy];rfl
 rw[h,show nd.length-os.length=(nd.length-os.length-1)+1 from by omega]
 show (if _ then _ else _)=_
 rw[an8 hi,e1,fJ,iS,gA,show nd.length-(os.length+(0+1))=nd.length-os.length-1 from by omega]
 unfold aeO
 rw[e2]
theorem abz (h:dB n rs nd=AW (gJ n rs) (nd.length-os.length) lf os) (hl:nd.length≤os.length):dB n rs nd=(os,0):=by
 rw[h,show nd.length-os.length=0 from by omega];rfl
theorem Lg:∀(k:Nat) (lf:Row) (os:aA),(AW T k lf os).1.length≤os.length+k
 |0,_,_=>an3 _
 |k+1,lf,os=>by
  show (if _ then _ else _:aA×Int).1.length≤_
  split
  ·exact apn _
  ·refine Nat.le_trans (Lg k _ _) ?_
   rw[fJ,iS,gA];omega
theorem Lh:(dB n rs nd).1.length≤nd.length:=by
 unfold dB
 split
 ·exact apn _
 ·refine Nat.le_trans (Lg _ _ _) ?_
  simp
end
theorem afJ {U:List aN} {fo:aA} {o:Int} (hn:U.length≤64):bJ ((U.length:Nat):Int) (cX U fo o)=true:=by
 unfold cX;exact lH aj
theorem aav {l:aA} {p:Int→Bool}:(aV p l).length≤l.length:=by unfold aV;exact ao3 _ _
theorem uS (h:bJ n rs=true) (o:Int) (p:Int→Bool):(aV p (bN n rs o)).length≤4096:=Nat.le_trans aav (uT h o)
theorem R2 (h:bJ n rs=true) (o:Int) (p:Int→Bool):(dB n rs (aV p (bN n rs o))).1.length≤4096:=Nat.le_trans Lh (uS h o p)
theorem IS {U:List aN} {mn n2:Int} {m2:Rows} {es:List eu} (BY:mn=((U.length:Nat):Int)) (h:bJ mn rs=true) (he:oC U.length es) (h2:n2=mn∧m2=l_ mn rs (es.take q)):bJ n2 m2=true:=by
 obtain⟨rfl,rfl⟩:=h2
 subst BY
 exact zK h fun e TD=>he e (apl TD)
theorem Sp:bJ 0 []=true:=by decide
end Go.Ew
namespace Go.Ew
variable {x y w:List Nat} {a b:Nat}
def pF (n:Nat) (p:hQ):Nat→Nat→Nat→List Nat→Prop
 |0,a,b,w=>a=b∧w=[a]
 |L+1,a,b,w=>∃k v,k<n∧p a k=true∧pF n p L k b v∧w=a::v
def Jw:List Nat→List Nat→Prop
 |a::x,b::y=>a<b∨(a=b∧Jw x y)
 |_,_=>False
def slt (x y:List Nat):Prop:=x.length<y.length∨(x.length=y.length∧Jw x y)
def sle (x y:List Nat):Prop:=x=y∨slt x y
section
variable {n:Nat} {p:hQ}
theorem GZ:∀x,¬Jw x x
 |[],h=>h
 |a::x,h=>by
  rcases h with h|⟨-,h⟩
  ·exact ap_ _ h
  ·exact GZ x h
theorem Jv:∀{x y z:List Nat},Jw x y→Jw y z→Jw x z
 |a::x,b::y,c::z,h,k=>by
  rcases h with h|⟨rfl,h⟩
  ·rcases k with k|⟨rfl,k⟩
   ·exact .inl (ard h k)
   ·exact .inl h
  ·rcases k with k|⟨rfl,k⟩
   ·exact .inl k
   ·exact .inr ⟨J,Jv h k⟩
 |[],_,_,h,_=>h.elim
 |_::_,[],_,h,_=>h.elim
 |_::_,_::_,[],_,k=>k.elim
theorem Bm:∀{x y:List Nat} {a b:Nat},x.length=y.length→(Jw x y∨(x=y∧a<b))→Jw (x++[a]) (y++[b])
 |[],[],a,b,_,h=>by
  rcases h with h|⟨-,h⟩
  ·exact h.elim
  ·exact .inl h
 |c::x,d::y,a,b,hl,h=>by
  have Ph:x.length=y.length:=by simpa using hl
  rcases h with (h|⟨rfl,h⟩)|⟨h,k⟩
  ·exact .inl h
  ·exact .inr ⟨J,Bm Ph (.inl h)⟩
  ·cases h;exact .inr ⟨rfl,Bm Ph (.inr ⟨rfl,k⟩)⟩
theorem Qh (x:List Nat):¬slt x x:=by
 rintro(h|⟨-,h⟩)
 ·exact ap_ _ h
 ·exact GZ x h
theorem Jc {z:List Nat} (h:slt x y) (k:slt y z):slt x z:=by
 rcases h with h|⟨h1,h2⟩<;>rcases k with k|⟨k1,k2⟩
 ·exact .inl aj
 ·exact .inl aj
 ·exact .inl aj
 ·exact .inr ⟨by omega,Jv h2 k2⟩
theorem Co {z:List Nat} (h:sle x y) (k:sle y z):sle x z:=by
 rcases h with rfl|h
 ·exact k
 ·rcases k with rfl|k
  ·exact .inr h
  ·exact .inr (Jc h k)
theorem Lr (h:sle x y) (k:sle y x):x=y:=by
 rcases h with rfl|h
 ·rfl
 ·rcases k with rfl|k
  ·rfl
  ·exact absurd (Jc h k)<|Qh _
theorem Lp (a b:Nat) (h:slt x y):slt (x++[a]) (y++[b]):=by
 rcases h with h|⟨h1,h2⟩
 ·exact .inl (by simp;omega)
 ·exact .inr ⟨by simp;omega,Bm h1 (.inl h2)⟩
theorem Vo (h:a<b):slt (x++[a]) (x++[b]):=.inr ⟨by simp,Bm rfl (.inr ⟨rfl,h⟩)⟩
theorem Lq (a:Nat) (h:sle x y):sle (x++[a]) (y++[a]):=by
 rcases h with rfl|h
 ·exact .inl rfl
 ·exact .inr (Lp a a h)
theorem Oz (h:sle x y):x.length≤y.length:=by
 rcases h with rfl|h|⟨h, -⟩<;>omega
theorem Vq (a:Nat) (h:sle x y):sle (a::x) (a::y):=by
 rcases h with rfl|h|⟨h1,h2⟩
 ·exact .inl rfl
 ·exact .inr (.inl (by simp;omega))
 ·exact .inr (.inr ⟨by simp;omega,.inr ⟨J,h2⟩⟩)
theorem lq:∀{L a b:Nat} {w:List Nat},pF n p L a b w→w.length=L+1
 |0,a,b,w,h=>by rw[h.2];rfl
 |L+1,a,b,w,h=>by
  obtain⟨k,v,_,_,h,rfl⟩:=h
  rw[iS,lq h]
theorem AS:∀{L a b:Nat} {w:List Nat},pF n p L a b w→w[0]? =some a
 |0,a,b,w,h=>by rw[h.2];rfl
 |L+1,a,b,w,h=>by
  obtain⟨k,v,_,_,h,rfl⟩:=h
  rfl
theorem wW:∀{L a b:Nat} {w:List Nat},pF n p L a b w→w[L]? =some b
 |0,a,b,w,h=>by rw[h.2,h.1];rfl
 |L+1,a,b,w,h=>by
  obtain⟨k,v,_,_,h,rfl⟩:=h
  have:=wW h
  simpa using this
theorem Fh:∀{L a b c:Nat} {w:List Nat},pF n p L a b w→c<n→p b c=true→pF n p (L+1) a c (w++[c])
 |0,a,b,c,w,h,hc,hp=>by
  obtain⟨rfl,rfl⟩:=h
  exact⟨c,[c],hc,hp,⟨J,J⟩,J⟩
 |L+1,a,b,c,w,h,hc,hp=>by
  obtain⟨k,v,h1,h2,h,rfl⟩:=h
  exact⟨k,v++[c],h1,h2,Fh h hc hp,J⟩
theorem sY:∀{L a c:Nat} {w:List Nat},pF n p (L+1) a c w→∃b v,pF n p L a b v∧p b c=true∧c<n∧w=v++[c]
 |0,a,c,w,h=>by
  obtain⟨k,v,h1,h2,⟨rfl,rfl⟩,rfl⟩:=h
  exact⟨a,[a],⟨J,J⟩,h2,h1,J⟩
 |L+1,a,c,w,h=>by
  obtain⟨k,v,h1,h2,h,rfl⟩:=h
  obtain⟨b,u,h3,h4,h5,rfl⟩:=sY h
  exact⟨b,a::u,⟨k,u,h1,h2,h3,J⟩,h4,h5,J⟩
theorem DR {L a b:Nat} {w:List Nat} (h:pF n p L a b w) (ha:a<n):∀x∈w,x<n:=by
 induction L generalizing a w with
 |zero=>obtain⟨rfl,rfl⟩:=h;simpa using ha
 |succ L ih=>
  obtain⟨k,v,h1,h2,h,rfl⟩:=h
  intro x hx
  rcases aoh.1 hx with rfl|hx
  ·exact ha
  ·exact ih h h1 x hx
theorem Cd:∀{L a b t:Nat} {w:List Nat} {x:Nat},pF n p L a b w→w[t]? =some x→(∃u,pF n p t a x u)∧∃v,pF n p (L-t) x b v
 |L,a,b,0,w,x,h,hx=>by
  rw[AS h] at hx;cases hx
  exact⟨⟨[a],J,J⟩,w,h⟩
 |0,a,b,t+1,w,x,h,hx=>by obtain⟨rfl,rfl⟩:=h;simp at hx
 |L+1,a,b,t+1,w,x,h,hx=>by
  obtain⟨k,v,h1,h2,h,rfl⟩:=h
  obtain⟨⟨u,hu⟩,v',hv⟩:=Cd h (by simpa using hx)
  exact⟨⟨a::u,k,u,h1,h2,hu,J⟩,v',by rwa [show L+1-(t+1)=L-t from by omega]⟩
theorem K7:∀{L M a b c:Nat} {u v:List Nat},pF n p L a b u→pF n p M b c v→∃w,pF n p (L+M) a c w
 |0,M,a,b,c,u,v,h,k=>by obtain⟨rfl,rfl⟩:=h;exact⟨v,by rwa [aoJ]⟩
 |L+1,M,a,b,c,u,v,h,k=>by
  obtain⟨x,u',h1,h2,h,rfl⟩:=h
  obtain⟨w,hw⟩:=K7 h k
  exact⟨a::w,by rw[show L+1+M=(L+M)+1 from by omega];exact⟨x,w,h1,h2,hw,J⟩⟩
def fo {α:Type} (f:Nat→Option α):Nat→Option α
 |0=>none
 |k+1=>match fo f k with
  |some x=>some x
  |none=>f k
theorem D9 {α:Type} {f:Nat→Option α} {x:α}:∀{n:Nat},fo f n=some x→∃k,k<n∧f k=some x∧∀j,j<k→f j=none
 |k+1,h=>by
  unfold fo at h
  have oR:∀m,fo f m=none→∀j,j<m→f j=none:=by
   intro m
   induction m with
   |zero=>intro _ j hj;omega
   |succ m ih=>
    intro hm j hj
    unfold fo at hm
    cases h1:fo f m with
    |some y=>rw[h1] at hm;cases hm
    |none=>
     rw[h1] at hm
     rcases apI.1 hj with hj|rfl
     ·exact ih h1 j hj
     ·exact hm
  cases h1:fo f k with
  |some y=>
   rw[h1] at h;cases h
   obtain⟨j,h2,h3,h4⟩:=D9 h1
   exact⟨j,by omega,h3,h4⟩
  |none=>rw[h1] at h;exact⟨k,by omega,h,oR k h1⟩
theorem IG {α:Type} {f:Nat→Option α}:∀{n:Nat},fo f n=none→∀j,j<n→f j=none
 |m+1,hm,j,hj=>by
  unfold fo at hm
  cases h1:fo f m with
  |some y=>rw[h1] at hm;cases hm
  |none=>
   rw[h1] at hm
   rcases apI.1 hj with hj|rfl
   ·exact IG h1 j hj
   ·exact hm
theorem agO {α:Type} {f:Nat→Option α} {x:α} {n k:Nat} (hk:k<n) (h:f k=some x) (hj:∀j,j<k→f j=none):fo f n=some x:=by
 cases h1:fo f n with
 |none=>rw[IG h1 k hk] at h;cases h
 |some y=>
  obtain⟨m,_,h3,h4⟩:=D9 h1
  rcases aqJ m k with hm|rfl|hm
  ·rw[hj m hm] at h3;cases h3
  ·rw[h3] at h;rw[h]
  ·rw[h4 k hm] at h;cases h
def wl (n:Nat) (p:hQ):Nat→Nat→Nat→Option (List Nat)
 |0,a,b=>if a=b then some [a] else none
 |L+1,a,b=>fo (fun k=>if p a k=true then (wl n p L k b).map (a::·) else none) n
theorem DT:∀{L a b:Nat},wl n p L a b=none→∀w,¬pF n p L a b w
 |0,a,b,h,w,hw=>by obtain⟨rfl,rfl⟩:=hw;unfold wl at h;simp at h
 |L+1,a,b,h,w,hw=>by
  obtain⟨k,v,h1,h2,h3,rfl⟩:=hw
  have h4:=IG h k h1
  rw[an4 h2,Option.map_eq_none_iff] at h4
  exact DT h4 v h3
theorem zR:∀{L a b:Nat} {w:List Nat},wl n p L a b=some w→pF n p L a b w∧∀v,pF n p L a b v→sle w v
 |0,a,b,w,h=>by
  unfold wl at h
  split at h
  ·rename_i e;cases h;exact⟨⟨e,rfl⟩,fun v hv=>.inl hv.2.symm⟩
  ·cases h
 |L+1,a,b,w,h=>by
  obtain⟨k,h1,h2,h3⟩:=D9 h
  have hp:p a k=true:=by
   cases hp:p a k with
   |true=>rfl
   |false=>rw[hp] at h2;simp at h2
  rw[an4 hp,aop] at h2
  obtain⟨u,h2,rfl⟩:=h2
  obtain⟨h4,h5⟩:=zR h2
  refine⟨⟨k,u,h1,hp,h4,J⟩,?_⟩
  rintro v ⟨m,v,k1,k2,k3,rfl⟩
  rcases aqJ m k with hm|rfl|hm
  ·have:=h3 m hm
   rw[an4 k2,Option.map_eq_none_iff] at this
   exact absurd k3<|DT this v
  ·exact Vq a<|h5 v k3
  ·refine .inr (.inr ⟨by simp[lq h4,lq k3],.inr ⟨J,?_⟩⟩)
   have e1:=AS h4;have e2:=AS k3
   cases u with
   |nil=>simp at e1
   |cons x u=>
    cases v with
    |nil=>simp at e2
    |cons y v=>
     simp at e1 e2
     subst e1;subst e2
     exact .inl hm
def E1 (n:Nat) (p:hQ) (a b:Nat):Option (List Nat):=fo (fun L=>wl n p (L+1) a b) n
def I4 (n:Nat) (p:hQ) (a b:Nat) (w:List Nat):Prop:=(∃L,pF n p (L+1) a b w)∧∀L v,pF n p (L+1) a b v→sle w v
theorem L0:∀{n:Nat} {l:List Nat},l.Nodup→(∀x∈l,x<n)→l.length≤n
 |0,l,_,h=>by
  cases l with
  |nil=>simp
  |cons x l=>exact absurd (h x aoO) aj
 |n+1,l,hd,h=>by
  have h1:(l.filter (fun x=>decide (x≠n))).length≤n:=L0 (aqD List.filter_sublist hd) fun x hx=>by
   have:=aoi.1 hx
   have h2:=h x this.1
   have h3:=aoN this.2
   omega
  have h2:∀l:List Nat,l.Nodup→l.length≤(l.filter (fun x=>decide (x≠n))).length+1:=by
   intro l
   induction l with
   |nil=>simp
   |cons a l ih=>
    intro hd
    have hd:=ao8.1 hd
    by_cases ha:a=n
    ·subst ha
     have hf:l.filter (fun x=>decide (x≠a))=l:=aqZ.2<|fun x hx=>an6<|fun (e:x=a)=>hd.1<|by rw[←e];exact hx
     rw[List.filter_cons_of_neg (by simp),hf]
     simp
    ·rw[List.filter_cons_of_pos (by simpa using ha)]
     have:=ih hd.2
     simp only[iS];omega
  have:=h2 l hd
  omega
theorem Xu (h:I4 n p a b w) {s t x:Nat} (oP:s<t) (hs:w[s]? =some x) (ht:w[t]? =some x):s=0∧t+1=w.length:=by
 obtain⟨⟨L,hw⟩,hl⟩:=h
 have hlen:=lq hw
 have Pf:t<w.length:=(dJ.1 ht).1
 obtain⟨⟨u,hu⟩, -⟩:=Cd hw hs
 obtain⟨-,v,hv⟩:=Cd hw ht
 obtain⟨y,hy⟩:=K7 hu hv
 refine aoK fun hc=>?_
 have C3:∃M,s+(L+1-t)=M+1:=⟨s+(L+1-t)-1,by omega⟩
 obtain⟨M,hM⟩:=C3
 rw[hM] at hy
 have h1:=Oz<|hl _ _ hy
 have h2:=lq hy
 omega
theorem Gk (h:I4 n p a b w) (ha:a<n):w.length≤n+1:=by
 have h0:=h
 obtain⟨⟨L,hw⟩,hl⟩:=h
 have hlen:=lq hw
 have hm:=DR hw ha
 have hd:w.dropLast.Nodup:=by
  rw[List.nodup_iff_pairwise_ne,List.pairwise_iff_getElem]
  intro i j hi hj JL e
  rw[List.length_dropLast] at hi hj
  rw[List.getElem_dropLast,List.getElem_dropLast] at e
  have:=Xu h0 JL (dW aj)<|by rw[e];exact dW aj
  omega
 have:=L0 hd fun x hx=>hm x (List.dropLast_subset _ hx)
 rw[List.length_dropLast] at this
 omega
theorem Xv {a b:Nat} {w:List Nat} (h:I4 n p a b w) (ha:a<n):E1 n p a b=some w:=by
 have hlen:=Gk h ha
 have h0:=h
 obtain⟨⟨L,hw⟩,hl⟩:=h
 have hwl:=lq hw
 have afZ:wl n p (L+1) a b=some w:=by
  cases h1:wl n p (L+1) a b with
  |none=>exact absurd hw (DT h1 w)
  |some v=>
   obtain⟨h2,h3⟩:=zR h1
   rw[Lr (h3 _ hw) (hl _ _ h2)]
 refine agO (k:=L) aj afZ fun j hj=>?_
 cases h1:wl n p (j+1) a b with
 |none=>rfl
 |some v=>
  have h2:=Oz<|hl _ _ (zR h1).1
  have h3:=lq (zR h1).1
  omega
theorem Gi (h:E1 n p a b=some w):I4 n p a b w:=by
 obtain⟨L,h1,h2,h3⟩:=D9 h
 obtain⟨h4,h5⟩:=zR h2
 refine⟨⟨L,h4⟩,fun M v hv=>?_⟩
 rcases aqJ M L with hm|rfl|hm
 ·exact absurd hv<|DT (h3 M hm) v
 ·exact h5 v hv
 ·exact .inr (.inl (by rw[lq h4,lq hv];omega))
theorem aeY {a b:Nat} (h:∀L w,¬pF n p (L+1) a b w):E1 n p a b=none:=by
 cases h1:E1 n p a b with
 |none=>rfl
 |some w=>obtain⟨⟨L,h2⟩,_⟩:=Gi h1;exact absurd h2 (h L w)
end
end Go.Ew
namespace Go.Ew
variable {x:Int} {t a k:Nat} {w u:List Nat}
structure Bk (bs:aA) (i j:Int) (w:aA):Prop where
 head:w[0]? =some i
 last:w[w.length-1]? =some j
 len:2≤w.length
 Ka:∀t x y,w[t]? =some x→w[t+1]? =some y→bs[y.toNat]? =some x
 ne:∀t,1≤t→t+1<w.length→w[t]?≠some i
 rng:∀x∈w,0≤x∧x<(bs.length:Int)
theorem agU {bs:aA} {i j:Int} {w v:aA} (h:Bk bs i j w) (k:Bk bs i j v):w=v:=by
 have key:∀s,s<w.length→s<v.length→w[w.length-1-s]? =v[v.length-1-s]?:=by
  intro s
  induction s with
  |zero=>intro _ _;rw[aqR,aqR,h.last,k.last]
  |succ s ih=>
   intro h1 h2
   have e:=ih aj aj
   have a1:w[w.length-1-(s+1)]? =some w[w.length-1-(s+1)]:=dW aj
   have a2:v[v.length-1-(s+1)]? =some v[v.length-1-(s+1)]:=dW aj
   have b1:w[w.length-1-s]? =some w[w.length-1-s]:=dW aj
   have b2:v[v.length-1-s]? =some v[v.length-1-s]:=dW aj
   have c1:=h.Ka _ _ _ a1<|by rw[show w.length-1-(s+1)+1=w.length-1-s from by omega];exact b1
   have c2:=k.Ka _ _ _ a2<|by rw[show v.length-1-(s+1)+1=v.length-1-s from by omega];exact b2
   rw[b1,b2] at e
   rw[an5 e,c2] at c1
   rw[a1,a2,c1]
 have hl:w.length=v.length:=by
  refine aoK fun gB=>?_
  have l1:=h.len;have l2:=k.len
  rcases Nat.lt_or_gt_of_ne gB with hc|hc
  ·have:=key (w.length-1) aj aj
   rw[aoZ,h.head] at this
   exact k.ne _ aj aj this.symm
  ·have:=key (v.length-1) aj aj
   rw[aoZ,k.head] at this
   exact h.ne _ aj aj this
 apply aoz
 intro s
 by_cases hs:s<w.length
 ·have:=key (w.length-1-s) aj aj
  rwa [show w.length-1-(w.length-1-s)=s from by omega,show v.length-1-(w.length-1-s)=s from by omega] at this
 ·rw[aof aj,aof aj]
open Classical in
noncomputable def vB (bs:aA) (i j:Int):aA:=if h:∃w,Bk bs i j w then Classical.choose h else []
theorem aeW {bs:aA} {i j:Int} {w:aA} (h:Bk bs i j w):vB bs i j=w:=by
 have hh:∃w,Bk bs i j w:=⟨w,h⟩
 unfold vB
 rw[dif_pos hh]
 exact agU (Classical.choose_spec hh) h
section
variable {bs:aA} {i j:Int} {w:aA} (h:Bk bs i j w)
include h
theorem Xl (hx:bs[j.toNat]? =some x):w[w.length-1-1]? =some x:=by
 have l1:=h.len
 have a1:w[w.length-1-1]? =some w[w.length-1-1]:=dW aj
 have:=h.Ka _ _ _ a1<|by rw[show w.length-1-1+1=w.length-1 from by omega];exact h.last
 rw[hx] at this
 rw[a1,an5 this]
theorem aa6:[j]=(w.drop (w.length-1)).reverse:=by
 have l1:=h.len
 have h2:=h.last
 rw[dW aj] at h2
 rw[aoS aj,show w.length-1+1=w.length from by omega,List.drop_length,an5 h2];rfl
theorem PO {l:aA} (ht:1≤t) (Pf:t<w.length) (hx:w[t-1]? =some x) (hl:l=(w.drop t).reverse):l++[x]=(w.drop (t-1)).reverse:=by
 have h1:t-1<w.length:=by omega
 rw[dW h1] at hx
 rw[aoS h1,show t-1+1=t from by omega,List.reverse_cons,←hl,an5 hx]
theorem aa5 (ht:1≤t) (Pf:t<w.length) (hx:w[t-1]? =some x) (e:x=i):t=1:=by
 refine aoK fun gB=>?_
 exact h.ne (t-1) aj aj<|by rw[hx,e]
theorem aeV {l:aA} (ht:1≤t) (Pf:t<w.length) (hx:w[t-1]? =some x) (e:x=i) (hl:l=(w.drop t).reverse):(l++[x]).reverse=w:=by
 have h1:=aa5 h ht Pf hx e
 rw[PO h ht Pf hx hl,List.reverse_reverse,h1];rfl
theorem Zg (ht:1≤t) (hx:w[t-1]? =some x) (e:¬x=i):1≤t-1:=by
 refine aoK fun gB=>?_
 rw[show t-1=0 from by omega,h.head] at hx
 exact e (an5 hx).symm
theorem aa7 {y:Int} (ht:1≤t) (Pf:t<w.length) (hx:w[t-1]? =some x) (e:¬x=i) (hy:bs[x.toNat]? =some y):w[t-1-1]? =some y:=by
 have h1:=Zg h ht hx e
 have a1:w[t-1-1]? =some w[t-1-1]:=dW aj
 have:=h.Ka _ _ _ a1<|by rw[show t-1-1+1=t-1 from by omega];exact hx
 rw[hy] at this
 rw[a1,an5 this]
theorem UC (hx:w[t]? =some x):0≤x∧x<(bs.length:Int):=h.rng x (dz hx)
end
def pv (n:Nat) (p:hQ) (a:Nat):List Nat:=(List.range n).filter (p a)
def j' (w:List Nat) (k:Nat):Prop:=w.getLast?=some k
def Dn (n:Nat) (p:hQ) (E:List (List Nat)) (c t:Nat) (u:List Nat) (k:Nat):Prop:=
 ∃a,j' u a∧k∈pv n p a∧((∃s,s<c∧E[s]? =some u)∨(E[c]? =some u∧k∈(pv n p a).take t))
structure Tr (n:Nat) (p:hQ) (i:Nat) (bs:aA) (w:List Nat):Prop where
 wk:∃L b,pF n p L i b w
 Ka:∀s x y,w[s]? =some x→w[s+1]? =some y→bs[y]? =some ((x:Nat):Int)
 ne:∀s x,1≤s→w[s]? =some x→x≠i
structure vH (n:Nat) (p:hQ) (i j:Nat) (bs:aA) (E:List (List Nat)) (c t:Nat):Prop where
 len:bs.length=n
 hd:E[0]? =some [i]
 Ze:c≤E.length
 inc:∀(s u:Nat) (a b:List Nat),s<u→E[s]? =some a→E[u]? =some b→slt a b
 tr:∀w∈E,Tr n p i bs w
 dn:∀w∈E,w=[i]∨∃u k,w=u++[k]∧Dn n p E c t u k
 al:∀u k,Dn n p E c t u k→k≠j∧(k≠i→∃w∈E,j' w k∧sle w (u++[k]))
 PN:∀k v,bs[k]? =some v→v≠ -1→k≠j∧(k≠i→∃w∈E,j' w k)
section
variable {n:Nat} {p:hQ} {i j:Nat} {bs:aA} {E:List (List Nat)} {c t:Nat}
theorem uy:k∈pv n p a↔k<n∧p a k=true:=by unfold pv;simp[aoi]
theorem ZU {s u x y:Nat} (hsu:s<u) (hx:(pv n p a)[s]? =some x) (hy:(pv n p a)[u]? =some y):x<y:=by
 have h0:(pv n p a).Pairwise (·<·):=List.Pairwise.filter _ List.pairwise_lt_range
 have h1:=(dJ.1 hx);have h2:=(dJ.1 hy)
 have:=(List.pairwise_iff_getElem.1 h0) s u h1.1 h2.1 hsu
 rw[h1.2,h2.2] at this;exact this
theorem G7 (u:List Nat) (k:Nat):j' (u++[k]) k:=by unfold j';simp
theorem yL {L b:Nat} (h:pF n p L a b w):j' w b:=by
 unfold j'
 rw[List.getLast?_eq_getElem?,lq h]
 exact wW h
theorem sH {b:Nat} (h:j' w a) (k:j' w b):a=b:=by unfold j' at h k;rw[h] at k;exact an5 k
theorem UE (hi:i<n):vH n p i j (List.replicate n (-1)) [[i]] 0 0 where
 len:=by simp
 hd:=rfl
 Ze:=by simp
 inc:=by
  intro s u a b hsu ha hb
  have h2:=(dJ.1 hb).1
  simp at h2;omega
 tr:=by
  intro w hw
  rw[apj.1 hw]
  refine⟨⟨0,i,J,J⟩,?_,?_⟩
  ·intro s x y _ hy;simp at hy
  ·intro s x hs hx
   have h2:=(dJ.1 hx).1
   simp at h2;omega
 dn:=by intro w hw;exact .inl (apj.1 hw)
 al:=by
  rintro u k ⟨a,_,_,⟨s,hs,_⟩|⟨_,hk⟩⟩
  ·omega
  ·simp at hk
 PN:=by
  intro k v hk hv
  have h2:=dJ.1 hk
  obtain⟨h3,h4⟩:=h2
  simp at h4
  exact absurd h4.symm hv
theorem Xp (h:vH n p i j bs E c t) (hu:E[c]? =some u) (ha:j' u a) (ht:(pv n p a).length≤t):vH n p i j bs E (c+1) 0:=by
 have hD:∀v k,Dn n p E (c+1) 0 v k↔Dn n p E c t v k:=by
  intro v k
  constructor
  ·rintro⟨b,h1,h2,⟨s,hs,h3⟩|⟨_,h3⟩⟩
   ·rcases apI.1 hs with hs|rfl
    ·exact⟨b,h1,h2,.inl ⟨s,hs,h3⟩⟩
    ·rw[hu] at h3;cases h3
     obtain rfl:=sH ha h1
     exact⟨a,h1,h2,.inr ⟨hu,by rwa [an_ ht]⟩⟩
   ·simp at h3
  ·rintro⟨b,h1,h2,⟨s,hs,h3⟩|⟨h3,_⟩⟩
   ·exact⟨b,h1,h2,.inl ⟨s,by omega,h3⟩⟩
   ·exact⟨b,h1,h2,.inl ⟨c,by omega,h3⟩⟩
 refine⟨h.len,h.hd,(dJ.1 hu).1,h.inc,h.tr,?_,?_,h.PN⟩
 ·intro w hw
  rcases h.dn w hw with e|⟨v,k,e,hd⟩
  ·exact .inl e
  ·exact .inr ⟨v,k,e,(hD v k).2 hd⟩
 ·intro v k hd
  exact h.al v k<|(hD v k).1 hd
theorem UF {u w:List Nat} {a k:Nat} (h:vH n p i j bs E c t) (hu:E[c]? =some u) (ha:j' u a) (hk:(pv n p a)[t]? =some k) (hw:w∈E):slt w (u++[k]):=by
 have hul:0<u.length:=by
  cases u with
  |nil=>unfold j' at ha;simp at ha
  |cons x u=>simp
 rcases h.dn w hw with rfl|⟨v,m,rfl,b,h1,h2,⟨s,hs,h3⟩|⟨h3,h4⟩⟩
 ·exact .inl (by simp;omega)
 ·exact Lp _ _<|h.inc s c v u hs h3 hu
 ·rw[hu] at h3;cases h3
  obtain rfl:=sH ha h1
  obtain⟨s,hs⟩:=aok.1 h4
  have oP:s<t:=by
   have:=(dJ.1 hs).1
   rw[ic] at this;omega
  rw[aov,an4 oP] at hs
  exact Vo<|ZU oP hs hk
theorem IK {v:List Nat} {m:Nat} (hu:E[c]? =some u) (ha:j' u a) (hk:(pv n p a)[t]? =some k) (h:Dn n p E c (t+1) v m):Dn n p E c t v m∨(v=u∧m=k):=by
 obtain⟨b,h1,h2,h3|⟨h3,h4⟩⟩:=h
 ·exact .inl ⟨b,h1,h2,.inl h3⟩
 ·rw[hu] at h3;cases h3
  obtain rfl:=sH ha h1
  rw[aoy,hk] at h4
  rcases aot.1 h4 with h4|h4
  ·exact .inl ⟨a,h1,h2,.inr ⟨hu,h4⟩⟩
  ·exact .inr ⟨J,by simpa using h4⟩
theorem Ru {m:Nat} (h:Dn n p E c t u m):Dn n p E c (t+1) u m:=by
 obtain⟨b,h1,h2,h3|⟨h3,h4⟩⟩:=h
 ·exact⟨b,h1,h2,.inl h3⟩
 ·exact⟨b,h1,h2,.inr ⟨h3,by
   obtain⟨s,hs⟩:=aok.1 h4
   have oP:s<t:=by
    have:=(dJ.1 hs).1
    rw[ic] at this;omega
   rw[aov,an4 oP] at hs
   exact aok.2 ⟨s,by rw[aov,an4 aj];exact hs⟩⟩⟩
theorem Xm {v:Int} (h:vH n p i j bs E c t) (hu:E[c]? =some u) (ha:j' u a) (hk:(pv n p a)[t]? =some k) (hv:bs[k]? =some v) (kT:v≠ -1):vH n p i j bs E c (t+1):=by
 refine⟨h.len,h.hd,h.Ze,h.inc,h.tr,?_,?_,h.PN⟩
 ·intro w hw
  rcases h.dn w hw with e|⟨v,m,e,hd⟩
  ·exact .inl e
  ·exact .inr ⟨v,m,e,Ru hd⟩
 ·intro v' m hd
  rcases IK hu ha hk hd with hd|⟨rfl,rfl⟩
  ·exact h.al v' m hd
  ·obtain⟨h1,h2⟩:=h.PN m v hv kT
   refine⟨h1,fun hi=>?_⟩
   obtain⟨w,hw,hwl⟩:=h2 hi
   exact⟨w,hw,hwl,.inr (UF h hu ha hk hw)⟩
theorem Gy (h:Tr n p i bs w) (hk:bs[k]? =some (-1)):Tr n p i (bs.set k x) w:=by
 refine⟨h.wk,?_,h.ne⟩
 intro s a b ha hb
 have h1:=h.Ka s a b ha hb
 rw[apa]
 split
 ·rename_i e;subst e
  rw[hk] at h1
  have:=an5 h1
  omega
 ·exact h1
theorem agW (h:vH n p i j bs E c t) (JL:i≠j) (hu:E[c]? =some u) (ha:j' u a) (hk:(pv n p a)[t]? =some i) (hv:bs[i]? =some (-1)):vH n p i j (bs.set i ((a:Nat):Int)) E c (t+1):=by
 refine⟨by rw[an1];exact h.len,h.hd,h.Ze,h.inc,fun w hw=>Gy (h.tr w hw) hv,?_,?_,?_⟩
 ·intro w hw
  rcases h.dn w hw with e|⟨v,m,e,hd⟩
  ·exact .inl e
  ·exact .inr ⟨v,m,e,Ru hd⟩
 ·intro v m hd
  rcases IK hu ha hk hd with hd|⟨rfl,rfl⟩
  ·exact h.al v m hd
  ·exact⟨JL,fun hi=>absurd rfl hi⟩
 ·intro m v hm kT
  by_cases e:m=i
  ·exact⟨by rw[e];exact JL,fun hi=>absurd e hi⟩
  ·rw[aoD aj] at hm
   exact h.PN m v hm kT
theorem ZQ (h:Tr n p i bs u) (ha:j' u a) (hk:k∈pv n p a) (hv:bs[k]? =some (-1)) (Au:k≠i):Tr n p i (bs.set k ((a:Nat):Int)) (u++[k]):=by
 obtain⟨L,b,hw⟩:=h.wk
 obtain rfl:=sH ha (yL hw)
 obtain⟨fK,Av⟩:=uy.1 hk
 have hlen:=lq hw
 have h2:=Gy (x:=((a:Nat):Int)) h hv
 refine⟨⟨L+1,k,Fh hw fK Av⟩,?_,?_⟩
 ·intro s x y hx hy
  have hs:s+1<(u++[k]).length:=(dJ.1 hy).1
  rw[fJ,apX] at hs
  rw[oB aj] at hx
  by_cases gM:s+1<u.length
  ·rw[oB gM] at hy
   exact h2.Ka s x y hx hy
  ·rw[nH aj,show s+1-u.length=0 from by omega] at hy
   simp at hy;subst hy
   rw[show s=L from by omega,wW hw] at hx
   cases hx
   rw[aol (by have:=(dJ.1 hv).1;omega)]
 ·intro s x hs hx
  by_cases gM:s<u.length
  ·rw[oB gM] at hx
   exact h.ne s x hs hx
  ·rw[nH aj] at hx
   have:=(dJ.1 hx).1
   simp at this
   rw[show s-u.length=0 from by omega] at hx
   simp at hx;rw[←hx];exact Au
theorem Xn (h:vH n p i j bs E c t) (hu:E[c]? =some u) (ha:j' u a) (hk:(pv n p a)[t]? =some k) (hv:bs[k]? =some (-1)) (Au:k≠i) (Pj:k≠j):
  vH n p i j (bs.set k ((a:Nat):Int)) (E++[u++[k]]) c (t+1):=by
 have rN:c<E.length:=(dJ.1 hu).1
 have hE:∀s v,s≤c→((E++[u++[k]])[s]? =some v↔E[s]? =some v):=fun s v hs=>by rw[oB aj]
 have hD:∀v m tt,Dn n p (E++[u++[k]]) c tt v m↔Dn n p E c tt v m:=by
  intro v m tt
  constructor
  ·rintro⟨b,h1,h2,⟨s,hs,h3⟩|⟨h3,h4⟩⟩
   ·exact⟨b,h1,h2,.inl ⟨s,hs,(hE s v aj).1 h3⟩⟩
   ·exact⟨b,h1,h2,.inr ⟨(hE c v aj).1 h3,h4⟩⟩
  ·rintro⟨b,h1,h2,⟨s,hs,h3⟩|⟨h3,h4⟩⟩
   ·exact⟨b,h1,h2,.inl ⟨s,hs,(hE s v aj).2 h3⟩⟩
   ·exact⟨b,h1,h2,.inr ⟨(hE c v aj).2 h3,h4⟩⟩
 have JJ:k∈pv n p a:=dz hk
 refine⟨by rw[an1];exact h.len,by rw[oB aj];exact h.hd,by rw[fJ];omega,?_,?_,?_,?_,?_⟩
 ·intro s m x y hsm hx hy
  by_cases hm:m<E.length
  ·rw[oB aj] at hx
   rw[oB hm] at hy
   exact h.inc s m x y hsm hx hy
  ·have h1:=(dJ.1 hy).1
   rw[fJ,apX] at h1
   rw[nH aj,show m-E.length=0 from by omega] at hy
   simp at hy;subst hy
   rw[oB aj] at hx
   exact UF h hu ha hk<|dz hx
 ·intro w hw
  rcases aot.1 hw with hw|hw
  ·exact Gy (h.tr w hw) hv
  ·rw[apj.1 hw]
   exact ZQ (h.tr u<|dz hu) ha JJ hv Au
 ·intro w hw
  rcases aot.1 hw with hw|hw
  ·rcases h.dn w hw with e|⟨v,m,e,hd⟩
   ·exact .inl e
   ·exact .inr ⟨v,m,e,(hD _ _ _).2 (Ru hd)⟩
  ·refine .inr ⟨u,k,apj.1 hw,(hD _ _ _).2 ⟨a,ha,JJ,.inr ⟨hu,?_⟩⟩⟩
   exact aok.2 ⟨t,by rw[aov,an4 aj];exact hk⟩
 ·intro v m hd
  rcases IK hu ha hk ((hD _ _ _).1 hd) with hd|⟨rfl,rfl⟩
  ·obtain⟨h1,h2⟩:=h.al v m hd
   refine⟨h1,fun hi=>?_⟩
   obtain⟨w,hw,Tc⟩:=h2 hi
   exact⟨w,apm _ hw,Tc⟩
  ·exact⟨Pj,fun _=>⟨v++[m],ape _ (apj.2 J),G7 _ _,.inl rfl⟩⟩
 ·intro m v hm kT
  by_cases e:m=k
  ·subst e
   exact⟨Pj,fun _=>⟨u++[m],ape _ (apj.2 J),G7 _ _⟩⟩
  ·rw[aoD aj] at hm
   obtain⟨h1,h2⟩:=h.PN m v hm kT
   refine⟨h1,fun hi=>?_⟩
   obtain⟨w,hw,Tc⟩:=h2 hi
   exact⟨w,apm _ hw,Tc⟩
theorem Nf {u:List Nat} (h:vH n p i j bs E c t) (hu:E[c]? =some u):∀L b w,pF n p L i b w→sle u w∨∃s v,s<c∧E[s]? =some v∧j' v b∧sle v w
 |0,b,w,hw=>by
  obtain⟨rfl,rfl⟩:=hw
  rcases aq6 c with rfl|hc
  ·rw[h.hd] at hu;cases hu
   exact .inl (.inl rfl)
  ·exact .inr ⟨0,[i],hc,h.hd,J,.inl rfl⟩
 |L+1,b,w,hw=>by
  obtain⟨d,x,h1,h2,h3,rfl⟩:=sY hw
  have ef:slt x (x++[b]):=.inl (by simp)
  rcases Nf h hu L d x h1 with h4|⟨s,v,hs,hv,Td,hvx⟩
  ·exact .inl (Co h4<|.inr ef)
  ·obtain⟨h5,h6⟩:=h.al v b ⟨d,Td,uy.2 ⟨h3,h2⟩,.inl ⟨s,hs,hv⟩⟩
   by_cases xI:b=i
   ·subst xI
    exact .inr ⟨0,[b],by omega,h.hd,J,.inr (.inl (by simp[lq h1]))⟩
   ·obtain⟨y,hy,An,hyv⟩:=h6 xI
    have Yi:sle y (x++[b]):=Co hyv<|Lq b hvx
    obtain⟨m,hm⟩:=aok.1 hy
    rcases aqJ m c with hmc|rfl|hmc
    ·exact .inr ⟨m,y,hmc,hm,An,Yi⟩
    ·rw[hu] at hm;cases hm
     exact .inl Yi
    ·exact .inl (Co (.inr (h.inc c m u y hmc hu hm)) Yi)
theorem UG (h:vH n p i j bs E c t) (hu:E[c]? =some u) (ha:j' u a) (hk:(pv n p a)[t]? =some j):I4 n p i j (u++[j]):=by
 obtain⟨L,b,hw⟩:=(h.tr u (dz hu)).wk
 obtain rfl:=sH ha (yL hw)
 obtain⟨h1,h2⟩:=uy.1 (dz hk)
 refine⟨⟨L,Fh hw h1 h2⟩,fun M v hv=>?_⟩
 obtain⟨d,x,k1,k2,k3,rfl⟩:=sY hv
 rcases Nf h hu M d x k1 with h4|⟨s,y,hs,hy,An,Yi⟩
 ·exact Lq j h4
 ·exact absurd J (h.al y j ⟨d,An,uy.2 ⟨k3,k2⟩,.inl ⟨s,hs,hy⟩⟩).1
theorem PQ (h:vH n p i j bs E E.length 0):∀L b w,pF n p L i b w→∃v∈E,j' v b
 |0,b,w,hw=>by obtain⟨rfl,rfl⟩:=hw;exact⟨[i],dz h.hd,rfl⟩
 |L+1,b,w,hw=>by
  obtain⟨d,x,h1,h2,h3,rfl⟩:=sY hw
  obtain⟨v,hv,Td⟩:=PQ h L d x h1
  obtain⟨s,hs⟩:=aok.1 hv
  obtain⟨h5,h6⟩:=h.al v b ⟨d,Td,uy.2 ⟨h3,h2⟩,.inl ⟨s,(dJ.1 hs).1,hs⟩⟩
  by_cases xI:b=i
  ·subst xI;exact⟨[b],dz h.hd,rfl⟩
  ·obtain⟨y,hy,An,_⟩:=h6 xI
   exact⟨y,hy,An⟩
theorem Xo (h:vH n p i j bs E E.length 0):E1 n p i j=none:=aeY fun L w hw=>by
 obtain⟨d,x,h1,h2,h3,rfl⟩:=sY hw
 obtain⟨v,hv,Td⟩:=PQ h L d x h1
 obtain⟨s,hs⟩:=aok.1 hv
 exact(h.al v j ⟨d,Td,uy.2 ⟨h3,h2⟩,.inl ⟨s,(dJ.1 hs).1,hs⟩⟩).1 rfl
end
end Go.Ew
namespace Go.Ew
variable {ys:aA} {q m:Nat} {v n:Int} {rs:Rows}
theorem W_ (h:q≤ys.length):(Gc ys q).length=ys.length:=by unfold Gc;simp;omega
theorem Jj {xs zs:aA} (hx:xs.length=1) (hm:1≤m) (hz:zs.length=m):(xs++zs.drop xs.length).length=m∧(xs++zs.drop xs.length).take 1=List.replicate 1 (xs.headD 0):=by
 obtain⟨a,rfl⟩:=List.length_eq_one_iff.1 hx
 exact⟨by simp;omega,by simp⟩
theorem VA (h:ys.take q=List.replicate q v) (hl:ys.length=m) (hq:q<m):(Gc ys q).take (q+min q (ys.length-q))=List.replicate (q+min q (ys.length-q)) v:=by
 unfold Gc
 rw[h,List.take_replicate,←aoA,List.replicate_append_replicate,show min (ys.length-q) q=min q (ys.length-q) from Nat.min_comm _ _]
 exact aqV<|by simp
theorem Z_ (h:ys.take q=List.replicate q v) (hl:ys.length=m) (hq:q≤m) (hm:m≤q):ys=List.replicate m v:=by
 rw[an_ aj] at h
 rw[h,show q=m from by omega]
theorem Ih (h0:0≤n) (h1:n≤4096):(BitVec.ofInt 64 n).toNat=n.toNat:=by
 rw[apV]
 congr 1
 exact Int.emod_eq_of_lt h0<|by show n<18446744073709551616;omega
theorem aal {x y:bp} (h:x=1#64):
  (x >>> 32)*(y >>> 32)+(((x >>> 32)*(y &&& 4294967295#64)+((x &&& 4294967295#64)*(y &&& 4294967295#64)) >>> 32) >>> 32)+(((((x >>> 32)*(y &&& 4294967295#64)+((x &&& 4294967295#64)*(y &&& 4294967295#64)) >>> 32) &&& 4294967295#64)+(x &&& 4294967295#64)*(y >>> 32)) >>> 32)=0#64:=by
 subst h
 have e1:(1#64:bp) &&& 4294967295#64=1#64:=by decide
 have e2:(1#64:bp) >>> 32=0#64:=by decide
 have e3:∀z:bp,1#64*z=z:=fun z=>BitVec.one_mul z
 have e4:∀z:bp,0#64*z=0#64:=fun z=>BitVec.zero_mul
 have e5:(y &&& 4294967295#64) >>> 32=0#64:=by
  apply apg
  rw[ap8,BitVec.toNat_and,ap2]
  have:=Nat.and_lt_two_pow y.toNat<|show (4294967295#64).toNat<2^32 by decide
  rw[aqk this];rfl
 have e6:(y >>> 32) >>> 32=0#64:=by
  apply apg
  rw[ap8,ap8,ap2,ap2]
  have:=y.isLt
  show y.toNat/4294967296/4294967296=0
  omega
 have e7:(0#64:bp) >>> 32=0#64:=by decide
 have e8:(0#64:bp) &&& 4294967295#64=0#64:=by decide
 have e9:∀z:bp,0#64+z=z:=fun z=>BitVec.zero_add z
 rw[e1,e2,e4,e4,e3,e3,e5,e9,e9,e7,e8,e9,e9,e6]
def qL (E:List (List Nat)) (c:Nat):aA:=(E.drop c).map fun w=>((w.getLastD 0:Nat):Int)
def P4 (n:Nat) (p:hQ) (i j:Int) (bs td:aA):Prop:=∃E c,vH n p i.toNat j.toNat bs E c 0∧td=qL E c
def Fa (n:Nat) (p:hQ) (i j:Int) (bs td:aA) (x:Int) (q:Nat):Prop:=
 ∃E c u a,vH n p i.toNat j.toNat bs E c q∧E[c]? =some u∧j' u a∧x=((a:Nat):Int)∧td=qL E (c+1)
section
variable {n:Nat} {p:hQ} {i j:Int} {bs td:aA} {x k v:Int} {q:Nat}
theorem X1 {E:List (List Nat)} {c:Nat} (h:(qL E c)[0]? =some x):∃u,E[c]? =some u∧x=((u.getLastD 0:Nat):Int):=by
 unfold qL at h
 rw[aoa,aoG,aoH,aop] at h
 obtain⟨u,h1,h2⟩:=h
 exact⟨u,h1,h2.symm⟩
theorem O8 {w:List Nat} {a:Nat} (h:j' w a):w.getLastD 0=a:=by
 unfold j' at h
 rw[List.getLastD_eq_getLast?,h];rfl
theorem Ng {c t:Nat} {E:List (List Nat)} {u:List Nat} {i j:Nat} (hi:i<n) (h:vH n p i j bs E c t) (hu:u∈E):∃a,j' u a∧a<n:=by
 obtain⟨L,b,hw⟩:=(h.tr u hu).wk
 exact⟨b,yL hw,DR hw hi b (dz<|wW hw)⟩
theorem UI (h0:0≤i) (h1:i.toNat<n):P4 n p i j (List.replicate n (-1)) [i]:=⟨[[i.toNat]],0,UE h1,by simp[qL,aoC h0]⟩
theorem aeX (hi:i.toNat<n) (h:P4 n p i j bs td) (hx:td[0]? =some x):0≤x∧x.toNat<n:=by
 obtain⟨E,c,hb,rfl⟩:=h
 obtain⟨u,hu,rfl⟩:=X1 hx
 obtain⟨a,ha,TJ⟩:=Ng hi hb (dz hu)
 rw[O8 ha]
 exact⟨by omega,by omega⟩
theorem aa_ (hi:i.toNat<n) (h:P4 n p i j bs td) (hx:td[0]? =some x):Fa n p i j bs (td.drop 1) x 0:=by
 obtain⟨E,c,hb,rfl⟩:=h
 obtain⟨u,hu,rfl⟩:=X1 hx
 obtain⟨a,ha,TJ⟩:=Ng hi hb (dz hu)
 exact⟨E,c,u,a,hb,hu,ha,by rw[O8 ha],by unfold qL;rw[←List.map_drop,ao0]⟩
theorem D1 {x:Int} (hk:(vY n (p x.toNat))[q]? =some k):(pv n p x.toNat)[q]? =some k.toNat∧0≤k∧k.toNat<n:=by
 unfold vY rD at hk
 rw[aoa,aop] at hk
 obtain⟨m,h1,rfl⟩:=hk
 refine⟨by simpa [pv] using h1,by omega,?_⟩
 have:=(uy.1<|show m∈pv n p x.toNat from dz h1).1
 omega
theorem Xq (h:Fa n p i j bs td x q) (hk:(vY n (p x.toNat))[q]? =some k) (hv:bs[k.toNat]? =some v) (kT:¬v= -1):Fa n p i j bs td x (q+1):=by
 obtain⟨E,c,u,a,hb,hu,ha,rfl,ht⟩:=h
 obtain⟨h1,h2,h3⟩:=D1 hk
 rw[dq] at h1
 exact⟨E,c,u,a,Xm hb hu ha h1 hv kT,hu,ha,J,ht⟩
theorem agX (h:Fa n p i j bs td x q) (hk:(vY n (p x.toNat))[q]? =some k) (hv:bs[k.toNat]? =some v) (kT:v= -1) (Pj:¬k=j) (Au:k=i) (hj:0≤j):Fa n p i j (bs.set k.toNat x) td x (q+1):=by
 obtain⟨E,c,u,a,hb,hu,ha,rfl,ht⟩:=h
 obtain⟨h1,h2,h3⟩:=D1 hk
 rw[dq] at h1
 subst Au;subst kT
 exact⟨E,c,u,a,agW hb aj hu ha h1 hv,hu,ha,J,ht⟩
theorem Xr (h:Fa n p i j bs td x q) (hk:(vY n (p x.toNat))[q]? =some k) (hv:bs[k.toNat]? =some v) (kT:v= -1) (Pj:¬k=j) (Au:¬k=i) (hj:0≤j) (hi:0≤i):Fa n p i j (bs.set k.toNat x) (td++[k]) x (q+1):=by
 obtain⟨E,c,u,a,hb,hu,ha,rfl,ht⟩:=h
 obtain⟨h1,h2,h3⟩:=D1 hk
 rw[dq] at h1
 subst kT
 have rN:=(dJ.1 hu).1
 refine⟨E++[u++[k.toNat]],c,u,a,Xn hb hu ha h1 hv aj aj,by rw[oB rN];exact hu,ha,J,?_⟩
 unfold qL at ht ⊢
 rw[aqY aj,api,←ht]
 simp only[aoq,List.map_nil,List.getLastD_concat]
 rw[aoC h2]
theorem Xs (h:Fa n p i j bs td x q) (hq:(vY n (p x.toNat)).length≤q):P4 n p i j bs td:=by
 obtain⟨E,c,u,a,hb,hu,ha,rfl,ht⟩:=h
 refine⟨E,c+1,Xp hb hu ha ?_,ht⟩
 rw[dq] at hq
 unfold vY rD at hq
 rw[aoo] at hq
 exact hq
theorem PS (h:P4 n p i j bs td) (ht:td=[]):E1 n p i.toNat j.toNat=none:=by
 obtain⟨E,c,hb,rfl⟩:=h
 unfold qL at ht
 rw[List.map_eq_nil_iff,List.drop_eq_nil_iff] at ht
 have hc:c=E.length:=Nat.le_antisymm hb.Ze ht
 subst hc
 exact Xo hb
theorem wN {w:List Nat} {t:Nat}:(rD w)[t]? =some x↔∃m,w[t]? =some m∧x=((m:Nat):Int):=by
 unfold rD
 rw[aoa,aop]
 exact⟨fun ⟨m,h1,h2⟩=>⟨m,h1,h2.symm⟩,fun ⟨m,h1,h2⟩=>⟨m,h1,h2.symm⟩⟩
theorem UH (hi:0≤i∧i.toNat<n) (h:Fa n p i j bs td x q) (hk:(vY n (p x.toNat))[q]? =some k) (hv:bs[k.toNat]? =some v) (kT:v= -1) (Pj:k=j) (hj:0≤j):
  ∃w,Bk (bs.set k.toNat x) i j (rD w)∧E1 n p i.toNat j.toNat=some w:=by
 obtain⟨E,c,u,a,hb,hu,ha,rfl,ht⟩:=h
 obtain⟨h1,h2,h3⟩:=D1 hk
 rw[dq] at h1
 subst kT;subst Pj
 have hB:=UG hb hu ha h1
 refine⟨u++[k.toNat],?_,Xv hB hi.2⟩
 have hT:=hb.tr u<|dz hu
 obtain⟨L,b,hw⟩:=hT.wk
 obtain rfl:=sH ha (yL hw)
 have hT2:=Gy (x:=((a:Nat):Int)) hT hv
 have hlen:=lq hw
 have As:=(dJ.1 hv).1
 have Hg:(rD (u++[k.toNat])).length=L+2:=by unfold rD;simp[hlen]
 refine⟨?_,?_,by omega,?_,?_,?_⟩
 ·rw[wN]
  exact⟨i.toNat,by rw[oB aj];exact AS hw,(aoC hi.1).symm⟩
 ·rw[Hg,wN]
  exact⟨k.toNat,by rw[nH aj,show L+2-1-u.length=0 from by omega];rfl,(aoC h2).symm⟩
 ·intro t y z hy hz
  obtain⟨m,hm,rfl⟩:=wN.1 hy
  obtain⟨r,hr,rfl⟩:=wN.1 hz
  rw[dq]
  have hs:t+1<(u++[k.toNat]).length:=(dJ.1 hr).1
  rw[fJ,apX] at hs
  rw[oB aj] at hm
  by_cases gM:t+1<u.length
  ·rw[oB gM] at hr
   exact hT2.Ka t m r hm hr
  ·rw[nH aj,show t+1-u.length=0 from by omega] at hr
   simp only[aoe,aod] at hr;subst hr
   rw[show t=L from by omega,wW hw] at hm
   cases hm
   rw[aol As]
 ·intro t ht1 Tf hc
  rw[Hg] at Tf
  obtain⟨m,hm,e⟩:=wN.1 hc
  rw[oB aj] at hm
  exact hT.ne t m ht1 hm aj
 ·intro z hz
  obtain⟨t,ht⟩:=aok.1 hz
  obtain⟨m,hm,rfl⟩:=wN.1 ht
  obtain⟨L2,Tc⟩:=hB.1
  have:=DR Tc hi.2 m<|dz hm
  rw[an1,hb.len]
  omega
theorem S0 {k:Nat} (hv:bs[k]? =some v) (kT:v= -1) (hx:0≤x):(bs.set k x).count (-1)+1=bs.count (-1):=by
 subst kT
 obtain⟨h1,h2⟩:=dJ.1 hv
 have C3:0<bs.count (-1):=List.count_pos_iff.2<|dz hv
 rw[List.count_set h1,h2]
 have gB:(x==(-1:Int))=false:=by rw[beq_eq_false_iff_ne];omega
 rw[gB]
 simp
 omega
end
theorem zY (h:bJ n rs=true) {x:Nat} {r:Row} (hx:rs[x]? =some r):cY r=vY n.toNat (fW rs x):=by rw[pw h hx,yI]
theorem GS {bs td:aA} {k x:Int} {z:Nat} (hv:bs[k.toNat]? =some v) (kT:v= -1) (hx:0≤x) (hz:bs.count (-1)+td.length≤z):(bs.set k.toNat x).count (-1)+td.length≤z∧(bs.set k.toNat x).count (-1)+(td++[k]).length≤z:=by
 have h:=S0 hv kT hx
 exact⟨by omega,by rw[fJ,apX];omega⟩
def fu (n:Int) (rs:Rows) (i j:Int):Option aA:=if 0≤i∧i<n∧0≤j∧j<n then (E1 n.toNat (fW rs) i.toNat j.toNat).map rD else none
theorem sC {i j:Int} (h:i<0∨n≤i∨j<0∨n≤j):fu n rs i j=none:=by unfold fu;rw[an8 aj]
theorem Aa {i j:Int} (h:0≤i∧i<n∧0≤j∧j<n):fu n rs i j=(E1 n.toNat (fW rs) i.toNat j.toNat).map rD:=by unfold fu;rw[an4 h]
end Go.Ew
namespace Go.Ew
section
variable {n:Nat} {p:hQ} {j k s t q i:Nat} {d:aA} {x y:Int}
variable {a:Nat} {b:Int}
variable {out:aA} {at_:Int}
end
section
variable {n:Int} {rs:Rows} {l:aA} {q:Nat} {x y:Int}
end
end Go.Ew
namespace Go.Ew
section
variable {n:Int} {rs:Rows} {a b c x y:Int} (h:bJ n rs=true) (ha:0≤a∧a<n) (hb:0≤b∧b<n)
include h ha hb
theorem Jl (hs:(fu n rs a b).isSome=true):∃w,(fu n rs a b).getD []=rD w∧I4 n.toNat (fW rs) a.toNat b.toNat w∧a.toNat<n.toNat:=by
 rw[Aa ⟨ha.1,ha.2,hb.1,hb.2⟩] at hs ⊢
 cases hf:E1 n.toNat (fW rs) a.toNat b.toNat with
 |none=>rw[hf] at hs;cases hs
 |some w=>exact⟨w,rfl,Gi hf,by omega⟩
theorem VI (hs:(fu n rs a b).isSome=true):2≤((fu n rs a b).getD []).length∧(((fu n rs a b).getD []).length:Int)≤n+1:=by
 obtain⟨w,e,hB,TJ⟩:=Jl h ha hb hs
 have h2:=Gk hB TJ
 obtain⟨L,hL⟩:=hB.1
 have h1:=lq hL
 rw[e];unfold rD;rw[aoo]
 omega
end
end Go.Ew
namespace Go.Ew
section
variable {n a b:Int} {rs:Rows}
theorem A' (hs:(fu n rs a b).isSome=true):(0≤a∧a<n)∧0≤b∧b<n:=by
 unfold fu at hs
 split at hs
 ·omega
 ·cases hs
theorem VG (h:bJ n rs=true) (hs:(fu n rs a b).isSome=true):2≤((fu n rs a b).getD []).length∧(((fu n rs a b).getD []).length:Int)≤n+1:=VI h (A' hs).1 (A' hs).2 hs
theorem VH (h:bJ n rs=true) (hs:(fu n rs a b).isSome=true) {q:Nat} {x:Int} (hx:((fu n rs a b).getD [])[q]? =some x):0≤x∧x<n:=by
 obtain⟨w,hw,⟨⟨L,hb⟩, -⟩,hn⟩:=Jl h (A' hs).1 (A' hs).2 hs
 rw[hw] at hx
 unfold rD at hx
 rw[aoa] at hx
 cases hq:w[q]? with
 |none=>rw[hq] at hx;cases hx
 |some y=>
  rw[hq] at hx
  have:=DR hb hn y<|dz hq
  have e:((y:Nat):Int)=x:=an5 hx
  omega
end
end Go.Ew
namespace Go.Ew
variable {r a b:Nat} {k:Int}
section
variable (U:List aN) (fo:aA)
def BN (k:Int):Prop:=
 (k=1∧∃r:Nat,fo[r]? =some (-2))∨
 (k=2∧∃i,i<U.length∧pO U fo i i=true)∨
 (k=3∧∃r a,r<U.length∧a<U.length∧fo[r]? =some (-1)∧iP U (qC U ((r:Nat):Int)) ((a:Nat):Int)=false∧pO U fo a r=true)∨
 (k=4∧∃r a b,r<U.length∧a<U.length∧b<U.length∧fo[r]? =some ((b:Nat):Int)∧a≠b∧iP U (qC U ((r:Nat):Int)) ((a:Nat):Int)=false∧pO U fo a r=true∧pO U fo b a=true)∨
 (k=5∧∃i,i<U.length∧cl U.length (EW U fo) i i=true)∨
 (k=6∧∃o r a,o<U.length∧r<U.length∧a<U.length∧((r:Nat):Int)∈lj U ((o:Nat):Int)∧fo[r]? =some (-1)∧iP U (qC U ((r:Nat):Int)) ((a:Nat):Int)=false∧BR U fo ((o:Nat):Int) a r=true)∨
 (k=7∧∃o i,o<U.length∧i<U.length∧BR U fo ((o:Nat):Int) i i=true)
end
section
variable {U:List aN} {fo:aA} {n:Nat} {p:hQ}
theorem nR {α:Type} {l:List α} {q:α→Bool}:(l.find? q).isSome=true↔∃x∈l,q x=true:=by
 rw[List.find?_isSome]
theorem Bj:(cP ((n:Nat):Int) (cE n p)).isSome=true↔∃i,i<n∧p i i=true:=by
 unfold cP
 rw[nR,dq]
 constructor
 ·rintro⟨i,hi,h⟩
  have hi:=an7.1 hi
  rw[uI hi hi] at h
  exact⟨i,hi,h⟩
 ·rintro⟨i,hi,h⟩
  exact⟨i,an7.2 hi,by rw[uI hi hi];exact h⟩
theorem sV (hr:r<n) {z:Int}:z∈du U ((n:Nat):Int) (cE n p) ((r:Nat):Int)↔∃a,a<n∧p a r=true∧iP U (qC U ((r:Nat):Int)) ((a:Nat):Int)=false∧z=((a:Nat):Int):=by
 unfold du aV
 rw[aoi]
 unfold eU
 rw[an4 aj,wO,dq]
 constructor
 ·rintro⟨⟨a,ha,h,rfl⟩,h2⟩
  refine⟨a,by omega,?_,by simpa using h2,J⟩
  rw[dq,jG aj hr] at h
  exact h
 ·rintro⟨a,ha,h,h2,rfl⟩
  refine⟨⟨a,by omega,?_,J⟩,by rw[h2];rfl⟩
  rw[dq,jG ha hr]
  exact h
theorem Am {l:aA}:decide (0<((l.length:Nat):Int))=true↔∃z,z∈l:=by
 rw[an2]
 cases l with
 |nil=>simp
 |cons a l=>simp only[iS];exact⟨fun _=>⟨a,by simp⟩,fun _=>by omega⟩
theorem wE (hl:fo.length=U.length) (hr:r<U.length) {x d:Int}:fo.getD r d=x↔fo[r]? =some x:=by
 rw[il,dW aj]
 simp
theorem Vk:(pt fo k).isSome=true↔∃r:Nat,fo[r]? =some (-2):=by
 rw[←Ov,an2]
 have h:=uB (p:=fun z_:Int=>decide ((-2)=z_)) (r:=fo)
 rw[←an2 (p:=0≤_),h,aoB]
 simp only[an2]
 constructor
 ·rintro⟨x,hx,rfl⟩
  obtain⟨r,hr⟩:=ap4 hx
  exact⟨r,hr⟩
 ·rintro⟨r,hr⟩
  exact⟨_,dz hr,J⟩
theorem wy {n:Nat} {q:Nat→Bool}:((List.range n).find? q).isSome=true↔∃i,i<n∧q i=true:=by
 rw[nR]
 simp only[an7]
theorem Ab (hl:fo.length=U.length) (ef:∀x∈fo,x<((U.length:Nat):Int)) (hk:k=1∨k=2∨k=3∨k=4∨k=5∨k=6∨k=7):(jj U fo k).isSome=true↔BN U fo k:=by
 unfold jj BN
 rcases hk with rfl|rfl|rfl|rfl|rfl|rfl|rfl
 ·simp[Vk]
 ·simp only[Int.reduceEq,apG,aoU,aq5,aq',arb,aqz]
  rw[←Cw]
  exact Bj
 ·simp only[Int.reduceEq,apG,aoU,aq5,aq',arb,aqz]
  unfold qh AD
  rw[aqI,wy,hl]
  constructor
  ·rintro⟨r,hr,h⟩
   unfold vz at h
   rw[ez,an2,wE hl hr] at h
   obtain⟨z,hz⟩:=Am.1 h.2
   unfold ct at hz
   obtain⟨a,ha,h1,h2,_⟩:=(sV hr).1 hz
   exact⟨r,a,hr,ha,h.1,h2,h1⟩
  ·rintro⟨r,a,hr,ha,h1,h2,h3⟩
   refine⟨r,hr,?_⟩
   unfold vz
   rw[ez,an2,wE hl hr]
   exact⟨h1,Am.2 ⟨((a:Nat):Int),(sV hr).2 ⟨a,ha,h3,h2,J⟩⟩⟩
 ·simp only[Int.reduceEq,apG,aoU,aq5,aq',arb,aqz]
  unfold qi Gj
  rw[aqI,wy,hl]
  constructor
  ·rintro⟨r,hr,h⟩
   unfold vU zI at h
   rw[ez,nR] at h
   obtain⟨h0,z,hz,hq⟩:=h
   have h0:¬fo.getD r 0<0:=by simpa using h0
   unfold ct at hz
   obtain⟨a,ha,h1,h2,rfl⟩:=(sV hr).1 hz
   have hb:fo[r]? =some (((fo.getD r 0).toNat:Nat):Int):=by
    rw[←wE hl hr (d:=0)];omega
   have B2:=ef _<|dz hb
   unfold zH at hq
   rw[ez] at hq
   obtain⟨JC,nC⟩:=hq
   have gB:¬((a:Nat):Int)=fo.getD r 0:=by simpa using JC
   have hcc:((((fo.getD r 0).toNat:Nat)):Int)=fo.getD r 0:=by omega
   rw[←hcc] at nC
   unfold ct at nC
   rw[uI aj ha] at nC
   exact⟨r,a,(fo.getD r 0).toNat,hr,ha,by omega,hb,by omega,h2,h1,nC⟩
  ·rintro⟨r,a,b,hr,ha,hb,h1,h2,h3,h4,h5⟩
   refine⟨r,hr,?_⟩
   have h1':=(wE hl hr (d:=0)).2 h1
   unfold vU zI
   rw[ez,nR,h1']
   refine⟨by simp,((a:Nat):Int),(sV hr).2 ⟨a,ha,h4,h3,J⟩,?_⟩
   unfold zH ct
   rw[ez,uI hb ha]
   exact⟨by simp;omega,h5⟩
 ·simp only[Int.reduceEq,apG,aoU,aq5,aq',arb,aqz]
  rw[←Cw]
  exact Bj
 ·simp only[Int.reduceEq,apG,aoU,aq5,aq',arb,aqz]
  unfold sA Jf
  rw[aqI,wy]
  constructor
  ·rintro⟨o,ho,h⟩
   unfold Je En at h
   obtain⟨z,hz,hq⟩:=nR.1 h
   have hz2:z∈cz U ((o:Nat):Int):=by
    unfold lj aV at hz
    exact(aoi.1 hz).1
   unfold Cq at hq
   rw[ez,an2] at hq
   obtain⟨h1,h2⟩:=hq
   have hzn:0≤z∧z<((U.length:Nat):Int):=by
    by_cases hz0:0≤z∧z<((U.length:Nat):Int)
    ·exact hz0
    ·exfalso
     rw[Am] at h2
     obtain⟨y,hy⟩:=h2
     unfold du aV eU at hy
     rw[an8 hz0] at hy
     simp at hy
   obtain⟨r,rfl⟩:∃r:Nat,z=((r:Nat):Int):=⟨z.toNat,by omega⟩
   have hr:r<U.length:=by omega
   rw[dq,wE hl hr] at h1
   obtain⟨y,hy⟩:=Am.1 h2
   unfold cX at hy
   obtain⟨a,ha,h3,h4,_⟩:=(sV hr).1 hy
   exact⟨o,r,a,ho,hr,ha,hz,h1,h4,h3⟩
  ·rintro⟨o,r,a,ho,hr,ha,h1,h2,h3,h4⟩
   refine⟨o,ho,?_⟩
   unfold Je En
   refine nR.2 ⟨((r:Nat):Int),h1,?_⟩
   unfold Cq
   rw[ez,an2,dq,wE hl hr]
   exact⟨h2,Am.2 ⟨((a:Nat):Int),(sV hr).2 ⟨a,ha,h4,h3,J⟩⟩⟩
 ·simp only[Int.reduceEq,apG,aoU,aq5,aq',arb,aqz]
  unfold sy I8
  rw[aqI,wy]
  constructor
  ·rintro⟨o,ho,h⟩
   unfold XV at h
   obtain⟨i,hi,h⟩:=Bj.1 h
   exact⟨o,i,ho,hi,h⟩
  ·rintro⟨o,i,ho,hi,h⟩
   exact⟨o,ho,Bj.2 ⟨i,hi,h⟩⟩
end
structure AQ (iX:List aN) (nF:aA) (U:List aN) (fo:aA) (g:Nat→Nat):Prop where
 lt:∀a,a<iX.length→g a<U.length
 inj:∀a b,a<iX.length→b<iX.length→g a=g b→a=b
 ah:∀a b,a<iX.length→b<iX.length→DB iX a b=true→DB U (g a) (g b)=true
 fr:∀r x,nF[r]? =some x→fo[g r]? =some (if 0≤x then ((g x.toNat:Nat):Int) else x)
 wr:∀a r,a<iX.length→r<iX.length→iP iX (qC iX ((r:Nat):Int)) ((a:Nat):Int)=false→iP U (qC U ((g r:Nat):Int)) ((g a:Nat):Int)=false
 kp:∀o r,o<iX.length→r<iX.length→((r:Nat):Int)∈lj iX ((o:Nat):Int)→((g r:Nat):Int)∈lj U ((g o:Nat):Int)
section
variable {iX U:List aN} {nF fo:aA} {g:Nat→Nat}
theorem AQ.ed (E:AQ iX nF U fo g) (hl:nF.length=iX.length) (la:fo.length=U.length) (ha:a<iX.length) (hb:b<iX.length) (h:M3 iX nF a b=true):M3 U fo (g a) (g b)=true:=by
 unfold M3 at h ⊢
 rw[aoc] at h ⊢
 rcases h with h|h
 ·exact .inl (E.ah a b ha hb h)
 ·refine .inr ?_
  unfold LJ at h ⊢
  rw[an2,wE hl hb] at h
  have:=E.fr b _ h
  rw[an4 aj,dq] at this
  rw[an2,wE la (E.lt b hb)]
  exact this
theorem AQ.co (E:AQ iX nF U fo g) (hl:nF.length=iX.length) (la:fo.length=U.length) (ha:a<iX.length) (hb:b<iX.length) (h:pO iX nF a b=true):pO U fo (g a) (g b)=true:=by
 unfold pO at h
 refine((pP ha hb).1 h).least (R:=fun x y=>pO U fo (g x) (g y)=true) (fun x y hx hy hp=>vA<|E.ed hl la hx hy hp) fun x y z hx hy hz h1 h2=>xV (E.lt y hy) h1 h2
theorem AQ.cf (E:AQ iX nF U fo g) (ef:∀x∈nF,x<((iX.length:Nat):Int)) {p' p:Nat→bY} (hp:∀a b,a<iX.length→b<iX.length→p' a b→p (g a) (g b)) (h:NJ iX nF p' a b r):NJ U fo p (g a) (g b) (g r):=by
 have hb:=ef _<|dz h.fr
 have hf:=E.fr r _ h.fr
 rw[an4 aj,dq] at hf
 exact⟨E.lt a h.a1,E.lt r h.r1,hf,fun e=>h.ne (E.inj a b h.a1 aj e),E.wr a b h.a1 aj h.wr,hp a r h.a1 h.r1 h.ah⟩
theorem Bh {U:List aN} {fo:aA} {o:Nat} (ho:o<U.length) (ha:a<U.length):((a:Nat):Int)∈bN ((U.length:Nat):Int) (ct U fo) ((o:Nat):Int)↔pO U fo a o=true∨a=o:=by
 unfold bN
 rw[an4 aj,wO,dq,dq]
 constructor
 ·rintro⟨k,hk,h,e⟩
  obtain rfl:k=a:=by omega
  rw[aoc,an2] at h
  unfold ct at h
  rw[jG hk ho] at h
  exact h
 ·intro h
  refine⟨a,ha,?_,J⟩
  rw[aoc,an2]
  unfold ct
  rw[jG ha ho]
  exact h
theorem AQ.sn (E:AQ iX nF U fo g) (hl:nF.length=iX.length) (la:fo.length=U.length) (ef:∀x∈nF,x<((iX.length:Nat):Int)) {o:Nat} (ho:o<iX.length) (ha:a<iX.length) (hb:b<iX.length) (h:BR iX nF ((o:Nat):Int) a b=true):BR U fo ((g o:Nat):Int) (g a) (g b)=true:=by
 have hR:=abG U fo ((g o:Nat):Int)
 have key:P2 iX nF ((o:Nat):Int) (fun x y=>x<iX.length→y<iX.length→BR U fo ((g o:Nat):Int) (g x) (g y)=true):=by
  refine⟨fun x y hx hy hc h1 h2 _ _=>?_,fun x y z hx hy hz h1 h2 _ _=>?_,fun x y r hr k hx hy=>?_⟩
  ·rw[Bh ho hx] at h1
   rw[Bh ho hy] at h2
   refine hR.base _ _ (E.lt x hx) (E.lt y hy) (E.co hl la hx hy hc) ((Bh (E.lt o ho)<|E.lt x hx).2 ?_)<|(Bh (E.lt o ho)<|E.lt y hy).2 ?_
   ·exact h1.imp (E.co hl la hx ho)<|an0 g
   ·exact h2.imp (E.co hl la hy ho)<|an0 g
  ·exact hR.trans _ _ _ (E.lt x hx) (E.lt y hy) (E.lt z hz) (h1 hx hy) (h2 hy hz)
  ·exact hR.Qn _ _ (g r) (E.kp o r ho k.r1 hr)<|E.cf ef (p:=fun x y=>BR U fo ((g o:Nat):Int) x y=true) (fun a b ha hb hp=>hp ha hb) k
 exact pU.1 h _ key ha hb
theorem AQ.pat (E:AQ iX nF U fo g) (hl:nF.length=iX.length) (la:fo.length=U.length) (ef:∀x∈nF,x<((iX.length:Nat):Int)) (h:BN iX nF k):BN U fo k:=by
 unfold BN at h ⊢
 rcases h with ⟨h0,r,hr⟩|⟨h0,i,hi,h⟩|⟨h0,r,a,hr,ha,h1,h2,h3⟩|⟨h0,r,a,b,hr,ha,hb,h1,h2,h3,h4,h5⟩|⟨h0,i,hi,h⟩|⟨h0,o,r,a,ho,hr,ha,h1,h2,h3,h4⟩|⟨h0,o,i,ho,hi,h⟩
 ·have:=E.fr r _ hr
  rw[an8 aj] at this
  exact .inl ⟨h0,g r,this⟩
 ·exact .inr (.inl ⟨h0,g i,E.lt i hi,E.co hl la hi hi h⟩)
 ·have:=E.fr r _ h1
  rw[an8 aj] at this
  exact .inr (.inr (.inl ⟨h0,g r,g a,E.lt r hr,E.lt a ha,this,E.wr a r ha hr h2,E.co hl la ha hr h3⟩))
 ·have:=E.fr r _ h1
  rw[an4 aj,dq] at this
  exact .inr (.inr (.inr (.inl ⟨h0,g r,g a,g b,E.lt r hr,E.lt a ha,E.lt b hb,this,fun e=>h2 (E.inj a b ha hb e),E.wr a r ha hr h3,E.co hl la ha hr h4,E.co hl la hb ha h5⟩)))
 ·refine .inr (.inr (.inr (.inr (.inl ⟨h0,g i,E.lt i hi,?_⟩))))
  refine((pP hi hi).1 h).least (R:=fun x y=>cl U.length (EW U fo) (g x) (g y)=true) (fun x y hx hy hp=>vA ?_) fun x y z hx hy hz h1 h2=>xV (E.lt y hy) h1 h2
  unfold EW at hp ⊢
  rw[aoc,@decide_eq_true_iff _ (Classical.propDecidable _)] at hp ⊢
  rcases hp with hp|⟨r,hp⟩
  ·exact .inl (E.co hl la hx hy hp)
  ·exact .inr ⟨g r,E.cf ef (fun a b ha hb h=>E.co hl la ha hb h) hp⟩
 ·have:=E.fr r _ h2
  rw[an8 aj] at this
  exact .inr (.inr (.inr (.inr (.inr (.inl ⟨h0,g o,g r,g a,E.lt o ho,E.lt r hr,E.lt a ha,E.kp o r ho hr h1,this,E.wr a r ha hr h3,E.sn hl la ef ho ha hr h4⟩)))))
 ·exact .inr (.inr (.inr (.inr (.inr (.inr ⟨h0,g o,g i,E.lt o ho,E.lt i hi,E.sn hl la ef ho hi hi h⟩)))))
end
structure DP (U:List aN) (fo:aA) (t:Nat→Nat):Prop where
 inj:∀a b,a<U.length→b<U.length→t a=t b→a=b
 ah:∀a b,a<U.length→b<U.length→DB U a b=true→t a<t b
 thin:∀r:Nat,fo[r]?≠some (-2)
 rf:∀(r b:Nat),r<U.length→b<U.length→fo[r]? =some ((b:Nat):Int)→t b<t r∧qC U ((b:Nat):Int)=qC U ((r:Nat):Int)
 last:∀(r a b:Nat),r<U.length→a<U.length→b<U.length→fo[r]? =some ((b:Nat):Int)→iP U (qC U ((r:Nat):Int)) ((a:Nat):Int)=false→t a<t r→a≠b→t a<t b
 init:∀(r a:Nat),r<U.length→a<U.length→fo[r]? =some (-1)→iP U (qC U ((r:Nat):Int)) ((a:Nat):Int)=false→¬t a<t r
section
variable {U:List aN} {fo:aA} {t:Nat→Nat}
theorem DP.co (E:DP U fo t) (hl:fo.length=U.length) (ha:a<U.length) (hb:b<U.length) (h:pO U fo a b=true):t a<t b:=by
 refine((pP ha hb).1 h).least (R:=fun x y=>t x<t y) (fun x y hx hy hp=>?_) fun x y z _ _ _ h1 h2=>ard h1 h2
 unfold M3 at hp
 rw[aoc] at hp
 rcases hp with hp|hp
 ·exact E.ah x y hx hy hp
 ·unfold LJ at hp
  rw[an2,wE hl hy] at hp
  exact(E.rf y x hy hx hp).1
theorem DP.cf (E:DP U fo t) (ef:∀x∈fo,x<((U.length:Nat):Int)) {p:Nat→bY} (h:NJ U fo p a b r) (hp:p a r→t a<t r):t a<t b:=by
 have hb:=ef _<|dz h.fr
 have hw:=h.wr
 rw[(E.rf r b h.r1 aj h.fr).2] at hw
 exact E.last r a b h.r1 h.a1 aj h.fr hw (hp h.ah) h.ne
theorem DP.sn (E:DP U fo t) (hl:fo.length=U.length) (ef:∀x∈fo,x<((U.length:Nat):Int)) {o:Int} (ha:a<U.length) (hb:b<U.length) (h:BR U fo o a b=true):t a<t b:=by
 refine pU.1 h (fun x y=>t x<t y) ⟨fun x y hx hy hc _ _=>E.co hl hx hy hc,fun x y z _ _ _ h1 h2=>ard h1 h2,fun x y r _ k=>E.cf ef k id⟩
theorem DP.none (E:DP U fo t) (hl:fo.length=U.length) (ef:∀x∈fo,x<((U.length:Nat):Int)):¬BN U fo k:=by
 unfold BN
 rintro(⟨h0,r,hr⟩|⟨h0,i,hi,h⟩|⟨h0,r,a,hr,ha,h1,h2,h3⟩|⟨h0,r,a,b,hr,ha,hb,h1,h2,h3,h4,h5⟩|⟨h0,i,hi,h⟩|⟨h0,o,r,a,ho,hr,ha,h1,h2,h3,h4⟩|⟨h0,o,i,ho,hi,h⟩)
 ·exact E.thin r hr
 ·exact ap_ _<|E.co hl hi hi h
 ·exact E.init r a hr ha h1 h2<|E.co hl ha hr h3
 ·have:=E.last r a b hr ha hb h1 h3 (E.co hl ha hr h4) h2
  have:=E.co hl hb ha h5
  omega
 ·refine ap_ (t i)<|((pP hi hi).1 h).least (R:=fun x y=>t x<t y) (fun x y hx hy hp=>?_) fun x y z _ _ _ h1 h2=>ard h1 h2
  unfold EW at hp
  rw[aoc,@decide_eq_true_iff _ (Classical.propDecidable _)] at hp
  rcases hp with hp|⟨r,hp⟩
  ·exact E.co hl hx hy hp
  ·exact E.cf ef hp fun h=>E.co hl hp.a1 hp.r1 h
 ·exact E.init r a hr ha h2 h3<|E.sn hl ef ha hr h4
 ·exact ap_ _<|E.sn hl ef hi hi h
end
section
variable {U iX:List aN} {fo nF:aA}
theorem B7 (hl:fo.length=U.length) (ef:∀x∈fo,x<((U.length:Nat):Int)) {lv:Int}:gL U fo lv=none↔∀k∈dS lv,¬BN U fo k:=by
 unfold gL
 rw[aqq]
 refine forall_congr' fun k=>forall_congr' fun hk=>?_
 rw[←Ab hl ef (Bo hk)]
 cases jj U fo k<;>simp
theorem yy {x:yb} (h:jj U fo k=some x):x.1=k:=by
 unfold jj at h
 split at h
 ·unfold pt at h;split at h
  ·cases h;rfl
  ·cases h
 ·split at h
  ·unfold kj at h;obtain⟨_,_,rfl⟩:=aop.1 h;rfl
  ·split at h
   ·unfold qh at h;obtain⟨_,_,rfl⟩:=aop.1 h;rfl
   ·split at h
    ·unfold qi at h;obtain⟨_,_,rfl⟩:=aop.1 h;rfl
    ·split at h
     ·unfold kj at h;obtain⟨_,_,rfl⟩:=aop.1 h;rfl
     ·split at h
      ·unfold sA at h;obtain⟨_,_,rfl⟩:=aop.1 h;rfl
      ·unfold sy at h;obtain⟨_,_,rfl⟩:=aop.1 h;rfl
theorem G8:∀{l:aA},(∀k∈l,(jj U fo k).isSome=(jj iX nF k).isSome)→(l.findSome? (jj U fo)).map (·.1)=(l.findSome? (jj iX nF)).map (·.1)
 |[],_=>rfl
 |k::l,h=>by
  have h1:=h k<|by simp
  rw[aqu,aqu]
  cases e1:jj U fo k with
  |none=>
   cases e2:jj iX nF k with
   |none=>exact G8 fun q hq=>h q (by simp[hq])
   |some y=>rw[e1,e2] at h1;cases h1
  |some x=>
   cases e2:jj iX nF k with
   |none=>rw[e1,e2] at h1;cases h1
   |some y=>
    show some x.1=some y.1
    rw[yy e1,yy e2]
theorem T5 (hl:fo.length=U.length) (ef:∀x∈fo,x<((U.length:Nat):Int)) (Ph:nF.length=iX.length) (ads:∀x∈nF,x<((iX.length:Nat):Int)) {g g':Nat→Nat} (E:AQ iX nF U fo g) (E':AQ U fo iX nF g') {lv:Int}:(gL U fo lv).map (·.1)=(gL iX nF lv).map (·.1):=by
 unfold gL
 refine G8 fun k hk=>?_
 rw[aoj,Ab hl ef (Bo hk),Ab Ph ads (Bo hk)]
 exact⟨E'.pat hl Ph ef,E.pat Ph hl ads⟩
end
end Go.Ew
namespace Go.Ew
variable {U:List aN} {fo:aA} {lv:Int}
section
variable {xs ys:List eu} {q k:Nat} {x:eu} {z:eu}
theorem aa1 (h:ys.length=xs.length) (hq:q≤ys.length):((ys.take q++List.replicate (ys.length-q) z).take ((q:Nat):Int).toNat).length≤xs.length:=by
 simp only[dq,ic,fJ,oz];omega
theorem aa0 (h:∀x∈ys,x∈xs) (hq:q≤ys.length):∀x∈(ys.take q++List.replicate (ys.length-q) z).take ((q:Nat):Int).toNat,x∈xs:=by
 rw[dq,apt (by rw[ic];omega),an_ (by rw[ic];omega)]
 exact fun x hx=>h x<|apl hx
theorem aaZ (h:ys.length=xs.length∧∀x∈ys,x∈xs) {i:Nat} (hx:ys[i]? =some x):(ys.set k x).length=xs.length∧∀y∈ys.set k x,y∈xs:=by
 refine⟨by rw[an1];exact h.1,fun y hy=>?_⟩
 rcases aoR hy with hy|rfl
 ·exact h.2 y hy
 ·exact h.2 _<|dz hx
end
theorem Uc {n:Int} {rs:Rows} (hn:n=((U.length:Nat):Int)) (hr:bJ n rs=true) (eB:fo.length=U.length) (fL:∀x∈fo,x<((U.length:Nat):Int)):oC U.length (cJ U fo n rs):=by
 subst hn
 have h:=qW (U:=U) (fo:=fo) hr
 obtain⟨m,p,e,hm,rfl⟩:=mh hr
 obtain rfl:m=U.length:=by omega
 exact Eb eB fL h
theorem IM (h:¬fc U fo lv=0):gL U fo lv=none:=by
 unfold fc at h
 split at h
 ·exact absurd J h
 ·cases e:gL U fo lv<;>simp_all
theorem PF (h:fc U fo lv=0):(gL U fo lv).isSome=true:=by
 unfold fc at h
 split at h
 ·assumption
 ·cases h
theorem aaO {k r a b o:Int} (h:qw (gL U fo lv) k r a b o) (hc:fc U fo lv=0) (hk:k=6∨k=7):0≤o∧o<((U.length:Nat):Int):=by
 obtain⟨y,hy⟩:=aos.1 (PF hc)
 have e:=h.2 y hy
 subst e
 unfold gL at hy
 obtain⟨q,hq,hp⟩:=List.exists_of_findSome?_eq_some hy
 have e:=yy hp
 simp only at e
 subst e
 rcases hk with rfl|rfl
 ·have hp:sA U fo 6=some (6,r,a,b,o):=hp
  unfold sA at hp
  obtain⟨o',h1,h2⟩:=aop.1 hp
  simp only[aoI] at h2
  unfold Jf at h1
  have:=an7.1<|aqw h1
  omega
 ·have hp:sy U fo 7=some (7,r,a,b,o):=hp
  unfold sy at hp
  obtain⟨o',h1,h2⟩:=aop.1 hp
  simp only[aoI] at h2
  unfold I8 at h1
  have:=an7.1<|aqw h1
  omega
end Go.Ew
namespace Go.Ew
variable {s:bh} {vs:List bh} {m:List (bh×Int)}
structure RM (cs:bh):Prop where
 two:2≤cs.size
 low:cs.size<4294967281
 asc:∀(j:Nat) b,cs.data.toList[j]? =some b→b.toNat<128
def trimB (s cs:bh):bh:=⟨(Go.Lib.trimS s.data.toList cs.data.toList).toArray⟩
def Ck (s cs:bh):bh:=⟨(Go.Lib.trimLeftS s.data.toList cs.data.toList).toArray⟩
abbrev sl:bh:=⟨#[97,98,99,100,101,102,103,104,105,106,107,108,109,110,111,112,113,114,115,116,117,118,119,120,121,122]⟩
abbrev p9:bh:=⟨#[48,49,50,51,52,53,54,55,56,57]⟩
theorem Oh:RM sl:=⟨by decide,by decide,fun j b h=>by
 have:∀b∈sl.data.toList,b.toNat<128:=by decide
 exact this b (dz h)⟩
theorem HR:RM p9:=⟨by decide,by decide,fun j b h=>by
 have:∀b∈p9.data.toList,b.toNat<128:=by decide
 exact this b (dz h)⟩
theorem dropWhile_nil {α:Type} {p:α→Bool}:∀{l:List α},l.dropWhile p=[]↔l.all p=true
 |[]=>by simp
 |a::l=>by
  rw[List.dropWhile_cons,List.all_cons]
  cases h:p a
  ·simp
  ·simp only[apG,aoY];exact dropWhile_nil
theorem RZ {l cs:List UInt8}:Go.Lib.trimS l cs=[]↔l.all (cs.contains ·)=true:=by
 unfold Go.Lib.trimS Go.Lib.trimLeftS Go.Lib.trimRightS
 rw[dropWhile_nil]
 constructor
 ·intro h
  have h1:(l.reverse.dropWhile (cs.contains ·)).all (cs.contains ·)=true:=by rw[←aqQ];exact h
  have h2:l.reverse.dropWhile (cs.contains ·)=[]:=by
   cases e:l.reverse.dropWhile (cs.contains ·) with
   |nil=>rfl
   |cons a t=>
    rw[e,List.all_cons,ez] at h1
    have:=List.head?_dropWhile_not (cs.contains ·) l.reverse
    rw[e] at this
    simp only[List.head?_cons] at this
    rw[h1.1] at this;cases this
  have:=dropWhile_nil.1 h2
  rwa [aqQ] at this
 ·intro h
  rw[aqQ]
  have:l.reverse.dropWhile (cs.contains ·)=[]:=dropWhile_nil.2<|by rw[aqQ];exact h
  rw[this];rfl
theorem I9 {cs:bh}:trimB s cs=⟨#[]⟩↔s.data.toList.all (cs.data.toList.contains ·)=true:=by
 rw[←RZ]
 unfold trimB
 constructor
 ·intro h
  have:=an0 (fun x:bh=>x.data.toList) h
  simpa using this
 ·intro h;rw[h]
theorem Em (s cs:bh):(Ck s cs).size≤s.size:=by
 show (Go.Lib.trimLeftS s.data.toList cs.data.toList).toArray.size≤s.data.size
 rw[apC,←aoM]
 exact(List.dropWhile_sublist _).length_le
theorem N8 (c:UInt8):sl.data.toList.contains c=tS c:=by
 have:∀n:Fin 256,sl.data.toList.contains (UInt8.ofNat n.1)=tS (UInt8.ofNat n.1):=by decide +kernel
 have:=this ⟨c.toNat,c.toNat_lt⟩
 simpa using this
theorem FH:gT s=(bif !decide (s=⟨#[]⟩) then (bif decide ((s.size:Int)≤8) then decide (trimB s sl=⟨#[]⟩) else false) else false):=by
 have h1:decide (trimB s sl=⟨#[]⟩)=s.data.toList.all tS:=by
  rw[aoj,an2,I9]
  rw[show (fun x=>sl.data.toList.contains x)=tS from funext N8]
 have h2:(!decide (s=⟨#[]⟩))=decide (1≤s.size):=by
  rw[aoj]
  simp only[ao4,aob,an2]
  constructor
  ·intro h
   rcases aq6 s.size with h0|h0
   ·exact absurd (by cases s with|mk a=>exact an0 ByteArray.mk (apK h0)) h
   ·exact h0
  ·rintro h rfl
   exact absurd h au
 have h3:decide ((s.size:Int)≤8)=decide (s.size≤8):=by rw[apk];omega
 rw[h1,h2,h3]
 unfold gT
 cases s.data.toList.all tS<;>cases decide (1≤s.size)<;>cases decide (s.size≤8)<;>rfl
theorem Er {h:cR}:iM h=(bif decide ((h.flatten.length:Int)≤4096) then !(h.flatten.any (fun (x_:jw)=>!(gT x_.2.1))) else false):=by
 unfold iM
 have h1:(!(h.flatten.any (fun (x_:jw)=>!(gT x_.2.1))))=h.flatten.all Ag:=by
  rw[←List.not_all_eq_any_not,Bool.not_not];rfl
 have h2:decide ((h.flatten.length:Int)≤4096)=decide (h.flatten.length≤4096):=by rw[apk];omega
 rw[h1,h2]
 cases h.flatten.all Ag<;>cases decide (h.flatten.length≤4096)<;>rfl
def BO (vs:List bh) (m:List (bh×Int)):Prop:=∀s,fM m s=if gE vs s<0 then none else some (gE vs s)
theorem Wa:BO [] []:=fun s=>rfl
theorem Rq (vs:List bh) (a s:bh):gE (vs++[a]) s=if gE vs s<0 then (if a=s then (vs.length:Int) else -1) else gE vs s:=by
 unfold gE eF
 rw[aqW]
 cases e:vs.findIdx? (G_ s) with
 |some i=>show ((i:Nat):Int)=if ((i:Nat):Int)<0 then _ else ((i:Nat):Int);rw[an8 aj]
 |none=>
  simp only[Option.none_or,List.findIdx?_cons,List.findIdx?_nil]
  unfold G_
  by_cases h:a=s<;>simp[h]
theorem Wb (h:BO vs m) (hs:(fM m s).isSome=true):(fM m s).getD 0=gE vs s∧¬gE vs s<0:=by
 rw[h s] at hs ⊢
 by_cases h0:gE vs s<0
 ·rw[an4 h0] at hs;cases hs
 ·rw[an8 h0];exact⟨rfl,h0⟩
theorem Jt (h:BO vs m) (hs:(fM m s).isSome=false):gE vs s<0:=by
 rw[h s] at hs
 by_cases h0:gE vs s<0
 ·exact h0
 ·rw[an8 h0] at hs;cases hs
theorem V9 (h:BO vs m) (hs:(fM m s).isSome=false):BO (vs++[s]) (lO m s ((vs.length:Nat):Int)):=by
 intro t
 have h0:=Jt h hs
 rw[WT,Rq,h t]
 by_cases e:t=s
 ·subst e
  rw[an4 rfl,an4 h0,an4 rfl,an8 aj]
 ·have e2:¬s=t:=fun k=>e k.symm
  rw[an8 e]
  by_cases h1:gE vs t<0
  ·simp only[h1,e2,apG,aoU];rfl
  ·simp only[h1,aoU]
section
variable {h:cR} {i q:Nat} {vs:List bh} {aE:List aN} {m:List (bh×Int)} {x0:List jw} {x1:jw}
theorem Pb (h1:vs=(jJ i (iD h i) (h.getD i []) q).1) (h2:aE=(jJ i (iD h i) (h.getD i []) q).2) (hm:BO vs m) (aM:h[((i:Nat):Int).toNat]? =some x0) (cQ:x0[((q:Nat):Int).toNat]? =some x1) (hs:(fM m x1.2.1).isSome=false):
  vs++[x1.2.1]=(jJ i (iD h i) (h.getD i []) (q+1)).1∧aE++[(((i:Nat):Int),((q:Nat):Int),x1.1,((vs.length:Nat):Int),x1.2.2)]=(jJ i (iD h i) (h.getD i []) (q+1)).2:=by
 have hf:=Jt hm hs
 subst h1 h2
 rw[fy aM] at *
 exact xg cQ hf
theorem Pa (h1:vs=(jJ i (iD h i) (h.getD i []) q).1) (h2:aE=(jJ i (iD h i) (h.getD i []) q).2) (hm:BO vs m) (aM:h[((i:Nat):Int).toNat]? =some x0) (cQ:x0[((q:Nat):Int).toNat]? =some x1) (hs:(fM m x1.2.1).isSome=true):
  vs=(jJ i (iD h i) (h.getD i []) (q+1)).1∧aE++[(((i:Nat):Int),((q:Nat):Int),x1.1,(fM m x1.2.1).getD 0,x1.2.2)]=(jJ i (iD h i) (h.getD i []) (q+1)).2:=by
 obtain⟨e,hf⟩:=Wb hm hs
 rw[e]
 subst h1 h2
 rw[fy aM] at *
 exact xf cQ hf
end
theorem T1 {α:Type} (h:List (List α)) (j:Nat):((h.take j).flatten).length≤h.flatten.length:=by
 conv=>rhs;rw[←ao2 j h]
 rw[aqt,fJ];omega
end Go.Ew
namespace Go.Ew
variable {L:List UInt8}
def jP (s p:bh):Bool:=bif decide ((p.size:Int)≤(s.size:Int)) then decide (s.extract 0 (p.size:Int).toNat=p) else false
def eG (s p:bh):bh:=bif jP s p then s.extract (p.size:Int).toNat s.size else s
abbrev jS:bh:=⟨#[45]⟩
def gC (s:bh) (a:Int):Int:=bif decide (a<0)||decide ((s.size:Int)≤a) then 0 else ((s.extract a.toNat s.size).size:Int)-((Ck (eG (s.extract a.toNat s.size) jS) p9).size:Int)
theorem re (s p:bh):(eG s p).size≤s.size:=by
 unfold eG
 cases jP s p
 ·exact an3 _
 ·exact Dk _ _ _
theorem Vm {s:bh} {a:Int} (h:0≤a∧a≤(s.size:Int)):0≤gC s a∧a+gC s a≤(s.size:Int):=by
 unfold gC
 cases e:(decide (a<0)||decide ((s.size:Int)≤a)) with
 |true=>show (0:Int)≤0∧a+0≤_;omega
 |false=>
  show (0:Int)≤_-_∧a+(_-_)≤_
  have h1:=re (s.extract a.toNat s.size) jS
  have h2:=Em (eG (s.extract a.toNat s.size) jS) p9
  have h3:=F_ (s:=s) (i:=a.toNat) (j:=s.size) aj<|an3 _
  omega
def mX (m:Nat):List UInt8→Nat→Option Nat
 |[],n=>some n
 |c::l,n=>if (m-(c.toNat-48))/10<n then none else mX m l (10*n+(c.toNat-48))
def BB (s:bh):bh:=eG s jS
def lR (s:bh):Bool:=decide (eG s jS=⟨#[]⟩)||(!decide (trimB (eG s jS) p9=⟨#[]⟩)||(decide (sT (eG s jS) 0=48)&&!decide (s=⟨#[48]⟩)))
def oM (s:bh):Nat:=bif jP s jS then 9223372036854775808 else 9223372036854775807
def gj (s:bh):Int×Int:=bif lR s then (0,2) else match mX (oM s) (BB s).data.toList 0 with
 |none=>(0,3)
 |some n=>(bif jP s jS then -((n:Nat):Int) else ((n:Nat):Int),0)
theorem DU {m:Nat} (h9:9≤m):∀{l:List UInt8} {n k:Nat},(∀c∈l,48≤c.toNat∧c.toNat≤57)→n≤m→mX m l n=some k→k≤m
 |[],n,k,_,hn,h=>by cases h;exact hn
 |c::l,n,k,hl,hn,h=>by
  unfold mX at h
  split at h
  ·cases h
  ·rename_i hc
   have:=hl c<|by simp
   exact DU h9 (fun x hx=>hl x<|by simp[hx]) aj h
theorem wF {s:bh} (h:trimB s p9=⟨#[]⟩):∀c∈s.data.toList,48≤c.toNat∧c.toNat≤57:=by
 intro c hc
 have h1:=an9.1 (I9.1 h) c hc
 have:∀n:Fin 256,p9.data.toList.contains (UInt8.ofNat n.1)=true→48≤(UInt8.ofNat n.1).toNat∧(UInt8.ofNat n.1).toNat≤57:=by decide +kernel
 have:=this ⟨c.toNat,c.toNat_lt⟩
 simp only[UInt8.ofNat_toNat] at this
 exact this h1
theorem FD (s:bh):aK (gj s).1∧0≤(gj s).2∧(gj s).2≤3:=by
 unfold gj
 cases hb:lR s with
 |true=>show aK 0∧(0:Int)≤2∧(2:Int)≤3;exact⟨by unfold aK;decide,by decide,by decide⟩
 |false=>
  show aK (Prod.fst (match mX (oM s) (BB s).data.toList 0 with|none=>_|some n=>_))∧_
  cases e:mX (oM s) (BB s).data.toList 0 with
  |none=>show aK 0∧(0:Int)≤3∧(3:Int)≤3;exact⟨by unfold aK;decide,by decide,by decide⟩
  |some n=>
   have hd:trimB (BB s) p9=⟨#[]⟩:=by
    unfold lR at hb
    simp only[apA,aqb,an2] at hb
    exact hb.2.1
   refine⟨?_,by show (0:Int)≤0;decide,by show (0:Int)≤3;decide⟩
   show aK (bif jP s jS then -((n:Nat):Int) else ((n:Nat):Int))
   have hle:=DU (m:=oM s) (by unfold oM;cases jP s jS<;>decide) (wF hd) (apn _) e
   unfold oM at hle
   unfold aK
   cases h:jP s jS<;>rw[h] at hle
   ·have hle:n≤9223372036854775807:=hle
    show -9223372036854775808≤((n:Nat):Int)∧((n:Nat):Int)≤9223372036854775807
    omega
   ·have hle:n≤9223372036854775808:=hle
    show -9223372036854775808≤ -((n:Nat):Int)∧ -((n:Nat):Int)≤9223372036854775807
    omega
section
variable {s dg:bh} {m nv:bp} {x:BitVec 8} {j:Nat}
theorem IV (h:(gU dg)[((j:Nat):Int).toNat]? =some x):∃c:UInt8,dg.data.toList[j]? =some c∧c.toBitVec=x:=by
 rw[dq] at h
 unfold gU at h
 rw[aoa] at h
 exact aop.1 h
theorem Uk (h:trimB dg p9=⟨#[]⟩) (hx:(gU dg)[((j:Nat):Int).toNat]? =some x):48≤x.toNat∧x.toNat≤57:=by
 obtain⟨c,h1,rfl⟩:=IV hx
 exact wF h c<|dz h1
theorem PB (h:48≤x.toNat∧x.toNat≤57):(BitVec.ofInt 64 (((x.toNat:Nat):Int)-48)).toNat=x.toNat-48:=by
 rw[apV]
 show (((x.toNat:Int)-48)%18446744073709551616).toNat=_
 omega
theorem PC (h:48≤x.toNat∧x.toNat≤57) (hm:9≤m.toNat):((m-BitVec.ofInt 64 (((x.toNat:Nat):Int)-48))/10#64).toNat=(m.toNat-(x.toNat-48))/10:=by
 rw[BitVec.toNat_udiv,BitVec.toNat_sub,PB h]
 have:=m.isLt
 show (2^64-(x.toNat-48)+m.toNat)%2^64/10=_
 congr 1
 omega
theorem aai (h:48≤x.toNat∧x.toNat≤57) (hm:9≤m.toNat) (hx:∃c:UInt8,L[j]? =some c∧c.toBitVec=x) (hs:mX m.toNat L 0=mX m.toNat (L.drop j) nv.toNat) (hc:decide (((m-BitVec.ofInt 64 (((x.toNat:Nat):Int)-48))/10#64).toNat<nv.toNat)=true):mX m.toNat L 0=none:=by
 obtain⟨c,h1,rfl⟩:=hx
 rw[an2,PC h hm] at hc
 rw[hs,aoS (dJ.1 h1).1,(dJ.1 h1).2]
 unfold mX
 exact an4 hc
theorem VY (h:48≤x.toNat∧x.toNat≤57) (hm:9≤m.toNat) (hx:∃c:UInt8,L[j]? =some c∧c.toBitVec=x) (hs:mX m.toNat L 0=mX m.toNat (L.drop j) nv.toNat) (hc:decide (((m-BitVec.ofInt 64 (((x.toNat:Nat):Int)-48))/10#64).toNat<nv.toNat)=false):mX m.toNat L 0=mX m.toNat (L.drop (j+1)) (10#64*nv+BitVec.ofInt 64 (((x.toNat:Nat):Int)-48)).toNat:=by
 obtain⟨c,h1,rfl⟩:=hx
 rw[aob,PC h hm] at hc
 have e:(10#64*nv+BitVec.ofInt 64 (((c.toBitVec.toNat:Nat):Int)-48)).toNat=10*nv.toNat+(c.toBitVec.toNat-48):=by
  rw[BitVec.toNat_add,BitVec.toNat_mul,PB h]
  have:=m.isLt
  show (10*nv.toNat%2^64+(c.toBitVec.toNat-48))%2^64=_
  omega
 rw[hs,aoS (dJ.1 h1).1,(dJ.1 h1).2,e]
 conv=>lhs;unfold mX
 exact an8 hc
theorem OZ (hs:mX m.toNat L 0=mX m.toNat (L.drop j) nv.toNat) (hj:L.length≤j):mX m.toNat L 0=some nv.toNat:=by
 rw[hs,List.drop_of_length_le hj];rfl
theorem aak (s:bh):9≤oM s:=by unfold oM;cases jP s jS<;>decide
theorem PU (h:lR s=false):trimB (eG s jS) p9=⟨#[]⟩:=by
 unfold lR at h
 simp only[apA,aqb,an2] at h
 exact h.2.1
theorem aaY (h:¬eG s jS=⟨#[]⟩):(0:Int)<((eG s jS).size:Int):=by
 rcases aq6 (eG s jS).size with h0|h0
 ·exfalso
  refine h ?_
  cases e:eG s jS with
  |mk a=>rw[e] at h0;exact an0 ByteArray.mk (apK h0)
 ·omega
theorem FE (h:lR s=true):gj s=(0,2):=by unfold gj;rw[h];rfl
theorem V4 (h:lR s=false) (hv:mX (oM s) (BB s).data.toList 0=none):gj s=(0,3):=by unfold gj;rw[h,hv];rfl
theorem V3 (h:lR s=false) (hp:jP s jS=true) (hv:mX (oM s) (BB s).data.toList 0=some nv.toNat):gj s=((-nv).toInt,0):=by
 have hr:=DU (m:=oM s) (by unfold oM;cases jP s jS<;>decide) (wF (by
  unfold lR at h
  simp only[apA,aqb,an2] at h
  exact h.2.1)) (apn _) hv
 unfold oM at hr
 rw[hp] at hr
 have hr:nv.toNat≤9223372036854775808:=hr
 unfold gj
 rw[h,hv,hp]
 show (-((nv.toNat:Nat):Int),(0:Int))=_
 congr 1
 rw[aqs,BitVec.toNat_neg]
 have:=nv.isLt
 by_cases h0:nv.toNat=0
 ·simp[h0]
 ·rw[apS aj]
  split<;>omega
theorem V1 (h:lR s=false) (hp:jP s jS=false) (hv:mX (oM s) (BB s).data.toList 0=some nv.toNat):gj s=(nv.toInt,0):=by
 have hr:=DU (m:=oM s) (by unfold oM;cases jP s jS<;>decide) (wF (by
  unfold lR at h
  simp only[apA,aqb,an2] at h
  exact h.2.1)) (apn _) hv
 unfold oM at hr
 rw[hp] at hr
 have hr:nv.toNat≤9223372036854775807:=hr
 unfold gj
 rw[h,hv,hp]
 show (((nv.toNat:Nat):Int),(0:Int))=_
 congr 1
 rw[aqs]
 split<;>omega
end
def cD (s:bh) (a e b:Int):Bool:=bif decide (e=0) then (bif decide (a<(s.size:Int)) then decide (sT s a=b) else false) else false
def eO (s:bh) (a e b:Int):Int:=bif cD s a e b then a+1 else a
def cp (e x:Int):Int:=bif decide (e=0) then x else e
def Bg (s:bh) (a e b:Int):Int×Int:=bif cD s a e b then (a+1,e) else (a,cp e 2)
def L1 (s:bh):Nat→Int→Int
 |0,a=>a
 |k+1,a=>bif (bif decide (a<(s.size:Int)) then (bif decide (97≤sT s a) then decide (sT s a≤122) else false) else false) then L1 s k (a+1) else a
def zN (s:bh) (a e:Int) (j:Nat):Int:=bif decide (e=0) then L1 s (8-j) (a+((j:Nat):Int)) else a+((j:Nat):Int)
def KC (s:bh) (a e:Int):Int×Int×bh:=(zN s a e 0,(bif decide (zN s a e 0=a) then cp e 2 else e),s.extract a.toNat (zN s a e 0).toNat)
def LY (s:bh) (a e:Int):Int×Int×Int:=bif !decide (e=0) then (a,e,0) else bif !decide ((gj (s.extract a.toNat (a+gC s a).toNat)).2=0) then (a,cp e (gj (s.extract a.toNat (a+gC s a).toNat)).2,0) else (a+gC s a,e,(gj (s.extract a.toNat (a+gC s a).toNat)).1)
def Jo (s:bh) (a on e:Int):Int:=bif (bif decide (on=4096) then (bif cD s a e 119 then true else cD s a e 114) else false) then cp e 3 else e
def Jn (s:bh) (a e:Int):Int×Int:=bif cD s a e 119 then (eO s a e 119,e) else Bg s (eO s a e 119) e 114
def Af (s:bh) (a on e:Int):Int×Int×jw:=
 let e1:=Jo s a on e
 let m1:=Jn s a e1
 let m2:=Bg s m1.1 m1.2 58
 let nm:=KC s m2.1 m2.2
 let m3:=Bg s nm.1 nm.2.1 61
 let nb:=LY s m3.1 m3.2
 (nb.1,nb.2.1,cD s a e1 119,nm.2.2,nb.2.2)
def Bc (s:bh):Nat→Int→Int→Int→List jw→Int×Int×Int×List jw
 |0,a,on,e,l=>(a,on,e,l)
 |k+1,a,on,e,l=>bif cD s a e 32 then Bc s k (Af s (eO s a e 32) on e).1 (on+1) (Af s (eO s a e 32) on e).2.1 (l++[(Af s (eO s a e 32) on e).2.2]) else (a,on,e,l)
def yJ (s:bh) (a on e:Int):Int×Int×Int×List jw:=
 bif cD s a e 10 then (eO s a e 10,on,e,[]) else
  let o:=Af s (eO s a e 10) on e
  let L:=Bc s (s.size+1) o.1 (on+1) o.2.1 [o.2.2]
  let m:=Bg s (eO s L.1 L.2.2.1 32) L.2.2.1 10
  (m.1,L.2.1,m.2,L.2.2.2)
def pH (s:bh):Nat→Int→Int→Int→cR→Int×Int×Int×cR
 |0,a,on,e,h=>(a,on,e,h)
 |k+1,a,on,e,h=>bif (bif decide (e=0) then decide (a<(s.size:Int)) else false) then pH s k (yJ s a on e).1 (yJ s a on e).2.1 (yJ s a on e).2.2.1 (h++[(yJ s a on e).2.2.2]) else (a,on,e,h)
def kJ (s:bh):cR×Int×Int:=
 bif !decide ((pH s (s.size+1) 0 0 0 []).2.2.1=0) then ([],(pH s (s.size+1) 0 0 0 []).1,(pH s (s.size+1) 0 0 0 []).2.2.1) else ((pH s (s.size+1) 0 0 0 []).2.2.2,0,0)
section
variable {s:bh} {a e b x:Int} {j:Nat}
theorem Im (h:cD s a e b=true):e=0∧a<(s.size:Int)∧sT s a=b:=by
 unfold cD at h
 cases h1:decide (e=0)<;>rw[h1] at h
 ·cases h
 ·cases h2:decide (a<(s.size:Int))<;>rw[h2] at h
  ·cases h
  ·exact⟨aoN h1,aoN h2,aoN h⟩
theorem cq (h:0≤a∧a≤(s.size:Int)):a≤eO s a e b∧eO s a e b≤(s.size:Int)∧eO s a e b≤a+1:=by
 unfold eO
 cases h1:cD s a e b
 ·show a≤a∧a≤_∧a≤a+1;omega
 ·have:=Im h1
  show a≤a+1∧a+1≤_∧a+1≤a+1;omega
theorem lz (h:0≤e∧e≤3) (hx:0≤x∧x≤3):0≤cp e x∧cp e x≤3:=by
 unfold cp
 cases decide (e=0)
 ·exact h
 ·exact hx
theorem zM {p:Int} (hp:p=a+((j:Nat):Int)) (h:(bif decide (e=0) then (bif decide (p-a<8) then (bif decide (p<(s.size:Int)) then (bif decide (97≤sT s p) then decide (sT s p≤122) else false) else false) else false) else false)=false):zN s a e j=p:=by
 subst hp
 unfold zN
 cases h1:decide (e=0)
 ·rfl
 ·rw[h1] at h
  show L1 s (8-j) _=_
  have h:(bif decide (a+((j:Nat):Int)-a<8) then _ else false)=false:=h
  cases h2:decide (a+((j:Nat):Int)-a<8)
  ·have:8-j=0:=by have:=apF h2;omega
   rw[this];rfl
  ·rw[h2] at h
   obtain⟨k,hk⟩:∃k,8-j=k+1:=⟨8-j-1,by have:=aoN h2;omega⟩
   rw[hk]
   show (bif _ then _ else _)=_
   have h:(bif decide (a+((j:Nat):Int)<(s.size:Int)) then (bif decide (97≤sT s (a+((j:Nat):Int))) then decide (sT s (a+((j:Nat):Int))≤122) else false) else false)=false:=h
   rw[h];rfl
theorem ZB {p:Int} (hp:p=a+((j:Nat):Int)) (h0:decide (e=0)=true) (h1:decide (p-a<8)=true) (h2:decide (p<(s.size:Int))=true) (h3:decide (97≤sT s p)=true) (h4:decide (sT s p≤122)=true):zN s a e j=zN s a e (j+1):=by
 subst hp
 unfold zN
 rw[h0]
 obtain⟨k,hk⟩:∃k,8-j=k+1:=⟨8-j-1,by have:=aoN h1;omega⟩
 rw[hk,show 8-(j+1)=k from by omega]
 show L1 s (k+1) _=L1 s k _
 conv=>lhs;unfold L1
 rw[h2,h3,h4]
 show L1 s k _=_
 congr 1
 push_cast
 omega
theorem V7 (h:(!cD s a e b)=false):e=0→e=0∧eO s a e b=a+1:=fun h0=>⟨h0,by unfold eO;rw[show cD s a e b=true by simpa using h];rfl⟩
theorem Pt (h:cp e 2=0):False:=by
 unfold cp at h
 cases h1:decide (e=0)<;>rw[h1] at h
 ·exact apF h1 h
 ·exact absurd (show (2:Int)=0 from h) au
theorem W0 (hx:¬x=0) (h:cp e x=0):False:=by
 unfold cp at h
 cases h1:decide (e=0)<;>rw[h1] at h
 ·exact apF h1 h
 ·exact hx h
section
variable {k:Nat} {p n a2 e2:Int} {l:List jw} {o:jw} {Z:Int×Int×Int×List jw} {h:cR}
theorem VW (hs:Z=Bc s k p n e l) (hk:1≤k) (h:cD s p e 32=true) (ho:Af s (eO s p e 32) n e=(a2,e2,o)):Z=Bc s (k-1) a2 (n+1) e2 (l++[o]):=by
 obtain⟨q,rfl⟩:∃q,k=q+1:=⟨k-1,by omega⟩
 rw[hs]
 conv=>lhs;unfold Bc
 rw[h,ho];rfl
theorem VV (hs:Z=Bc s k p n e l) (h:cD s p e 32=false):Z=(p,n,e,l):=by
 rw[hs]
 cases k with
 |zero=>rfl
 |succ k=>unfold Bc;rw[h];rfl
theorem QL {n2:Int} {Y:Int×Int×Int×cR} (hs:Y=pH s k p n e h) (hk:1≤k) (h1:decide (e=0)=true) (h2:decide (p<(s.size:Int))=true) (ho:yJ s p n e=(a2,n2,e2,l)):Y=pH s (k-1) a2 n2 e2 (h++[l]):=by
 obtain⟨q,rfl⟩:∃q,k=q+1:=⟨k-1,by omega⟩
 rw[hs]
 conv=>lhs;unfold pH
 rw[h1,h2,ho];rfl
theorem G3 {Y:Int×Int×Int×cR} (hs:Y=pH s k p n e h) (hc:(bif decide (e=0) then decide (p<(s.size:Int)) else false)=false):Y=(p,n,e,h):=by
 rw[hs]
 cases k with
 |zero=>rfl
 |succ k=>unfold pH;rw[hc];rfl
end
end
end Go.Ew
namespace Go.Ew
variable {h:cR} {s p:Nat} {o:jw}
def iC (h:cR) (s p:Nat):Nat:=((h.take s).flatten).length+p
def gV (h:cR) (s p:Nat) (o:jw):Prop:=∃l,h[s]? =some l∧l[p]? =some o
theorem gV.mem (a:gV h s p o):o∈h.flatten:=by
 obtain⟨l,h1,h2⟩:=a
 exact List.mem_flatten.2 ⟨l,dz h1,dz h2⟩
theorem gV.lt (a:gV h s p o):s<h.length:=by
 obtain⟨l,h1,h2⟩:=a
 exact(dJ.1 h1).1
theorem T7 {vs:List bh} {s:bh} (h:¬gE vs s<0):∃v:Nat,gE vs s=((v:Nat):Int)∧vs[v]? =some s:=by
 unfold gE eF at *
 cases e:vs.findIdx? (G_ s) with
 |none=>rw[e] at h;exact absurd au h
 |some i=>
  obtain⟨h1,h2,_⟩:=aom.1 e
  unfold G_ at h2
  rw[an2] at h2
  exact⟨i,J,by rw[dW h1,h2]⟩
theorem WY {vs:List bh} {s:bh} (h:gE vs s<0):s∉vs:=by
 have:=uB (p:=G_ s) (r:=vs)
 unfold gE at h
 rw[an' aj] at this
 intro hm
 have h2:=apN.1 this.symm s hm
 unfold G_ at h2
 simp at h2
theorem abe {vs:List bh} (s:bh) (hn:vs.Nodup):∃(V:List bh) (v:Nat),IX vs s=vs++V∧(vs++V).Nodup∧LX vs s=((v:Nat):Int)∧(vs++V)[v]? =some s:=by
 unfold IX LX
 by_cases h:gE vs s<0
 ·rw[an4 h,an4 h]
  refine⟨[s],vs.length,J,?_,J,by simp⟩
  rw[apL]
  refine⟨hn,by simp,fun a ha b hb e=>WY h ?_⟩
  simp at hb
  rw[←hb,←e];exact ha
 ·rw[an8 h,an8 h]
  obtain⟨v,h1,h2⟩:=T7 h
  exact⟨[],v,by simp,by simpa using hn,h1,by simpa using h2⟩
theorem I_ (i:Nat) (st:zf) (ops:List jw) (hn:st.1.Nodup):∀k,k≤ops.length→∃(V:List bh) (L:List aN),jJ i st ops k=(st.1++V,st.2++L)∧(st.1++V).Nodup∧L.length=k∧
  ∀p op,p<k→ops[p]? =some op→∃v:Nat,L[p]? =some (((i:Nat):Int),((p:Nat):Int),op.1,((v:Nat):Int),op.2.2)∧(st.1++V)[v]? =some op.2.1
 |0,_=>⟨[],[],by rw[AX];simp,by simpa using hn,rfl,fun p op h=>absurd h (apW _)⟩
 |k+1,hk=>by
  obtain⟨V,L,h1,h2,h3,h4⟩:=I_ i st ops hn k aj
  have hx:ops[((k:Nat):Int).toNat]? =some ops[k]:=by rw[dq];exact dW aj
  obtain⟨V2,v,e1,e2,e3,e4⟩:=abe ops[k].2.1 h2
  refine⟨V++V2,L++[(((i:Nat):Int),((k:Nat):Int),ops[k].1,((v:Nat):Int),ops[k].2.2)],?_,by rw[←aoA];exact e2,by simp[h3],fun p op hp Mq=>?_⟩
  ·rw[xb hx,h1]
   unfold uP
   simp only
   rw[e1,e3,aoA,aoA]
  ·by_cases hpk:p<k
   ·obtain⟨u,h5,h6⟩:=h4 p op hpk Mq
    refine⟨u,by rw[oB aj];exact h5,?_⟩
    rw[←aoA,oB (dJ.1 h6).1];exact h6
   ·obtain rfl:p=k:=by omega
    rw[dW aj] at Mq
    obtain rfl:=an5 Mq
    exact⟨v,by rw[nH aj,h3];simp,by rw[←aoA];exact e4⟩
theorem BG (h:cR):∀j,j≤h.length→(iD h j).1.Nodup∧∀s p op,s<j→gV h s p op→∃v:Nat,(iD h j).2[iC h s p]? =some (((s:Nat):Int),((p:Nat):Int),op.1,((v:Nat):Int),op.2.2)∧(iD h j).1[v]? =some op.2.1
 |0,_=>⟨by simp[iD],fun s p op hs=>absurd hs (apW _)⟩
 |j+1,hj=>by
  obtain⟨h1,h2⟩:=BG h j aj
  have hx:h[((j:Nat):Int).toNat]? =some h[j]:=by rw[dq];exact dW aj
  have hl:=(BF h j aj).1
  obtain⟨V,L,e1,e2,e3,e4⟩:=I_ j (iD h j) h[j] h1 h[j].length (an3 _)
  rw[zb hx]
  unfold Lx
  rw[e1]
  refine⟨e2,fun s p op hs ho=>?_⟩
  by_cases hsj:s<j
  ·obtain⟨v,h3,h4⟩:=h2 s p op hsj ho
   exact⟨v,by rw[oB (dJ.1 h3).1];exact h3,by rw[oB (dJ.1 h4).1];exact h4⟩
  ·obtain rfl:s=j:=by omega
   obtain⟨l,k1,k2⟩:=ho
   rw[dW aj] at k1
   obtain rfl:=an5 k1
   obtain⟨v,h3,h4⟩:=e4 p op (dJ.1 k2).1 k2
   refine⟨v,?_,h4⟩
   unfold iC
   rw[←hl,nH aj,show (iD h s).2.length+p-(iD h s).2.length=p by omega]
   exact h3
theorem j0 {op:jw} (ho:gV h s p op):∃v:Nat,(gq h)[iC h s p]? =some (((s:Nat):Int),((p:Nat):Int),op.1,((v:Nat):Int),op.2.2)∧(yW h)[v]? =some op.2.1:=
 (BG h h.length (an3 _)).2 s p op ho.lt ho
theorem Ob (h:cR):(yW h).Nodup:=(BG h h.length (an3 _)).1
theorem SD (l:List jw) (t:cR) (s p:Nat):iC (l::t) (s+1) p=l.length+iC t s p:=by
 unfold iC;rw[List.take_succ_cons,aqf,fJ];omega
theorem Ox:∀(h:cR) {i:Nat},i<h.flatten.length→∃s p op,gV h s p op∧i=iC h s p
 |[],i,hi=>by simp at hi
 |l::t,i,hi=>by
  by_cases hl:i<l.length
  ·exact⟨0,i,l[i],⟨l,J,dW hl⟩,by unfold iC;simp⟩
  ·rw[aqf,fJ] at hi
   obtain⟨s,p,op,⟨l',h1,h2⟩,h3⟩:=Ox t (i:=i-l.length) aj
   exact⟨s+1,p,op,⟨l',h1,h2⟩,by rw[SD];omega⟩
section
variable {h:cR} {s p s' p':Nat} {op jR:jw}
theorem GH (ho:gV h s p op):iC h s p<(gq h).length:=by
 obtain⟨v,h1,_⟩:=j0 ho
 exact(dJ.1 h1).1
theorem D0 (ho:gV h s p op) (jt:gV h s' p' jR) (e:iC h s p=iC h s' p'):s=s'∧p=p':=by
 obtain⟨v,h1,_⟩:=j0 ho
 obtain⟨v',h2,_⟩:=j0 jt
 rw[e,h2] at h1
 have:=an5 h1
 simp only[aoI] at this
 omega
theorem jW {i:Nat} (hi:i<(gq h).length):∃s p op,gV h s p op∧i=iC h s p:=Ox h (by rwa [JV] at hi)
theorem Il (ho:gV h s p op):j2 (gq h) (iC h s p)=((s:Nat):Int)∧kM (gq h) (iC h s p)=((p:Nat):Int):=by
 obtain⟨v,h1,_⟩:=j0 ho
 unfold j2 kM
 rw[il,h1]
 exact⟨J,J⟩
theorem UW (ho:gV h s p op) (jt:gV h s' p' jR):DB (gq h) (iC h s p) (iC h s' p')=true↔s=s'∧p<p':=by
 unfold DB
 rw[ez,ez,an2,an2,an2,(Il ho).1,(Il jt).1]
 constructor
 ·rintro⟨⟨h1,h2⟩,h3⟩
  obtain rfl:s=s':=by omega
  unfold iC at h1
  exact⟨J,by omega⟩
 ·rintro⟨rfl,h1⟩
  exact⟨⟨by unfold iC;omega,GH jt⟩,J⟩
theorem xy {v v':Nat} {a b:bh} (h1:(yW h)[v]? =some a) (h2:(yW h)[v']? =some b):v=v'↔a=b:=by
 constructor
 ·rintro rfl;rw[h1] at h2;exact an5 h2
 ·rintro rfl
  have l1:=(dJ.1 h1).1
  have l2:=(dJ.1 h2).1
  exact(List.getElem?_inj l1<|Ob h).1 (h1.trans h2.symm)
theorem RP (ho:gV h s p op) (jt:gV h s' p' jR):iP (gq h) (qC (gq h) ((iC h s' p':Nat):Int)) ((iC h s p:Nat):Int)=false↔op.1=true∧op.2.1=jR.2.1:=by
 obtain⟨v,h1,h2⟩:=j0 ho
 obtain⟨v',h3,h4⟩:=j0 jt
 rw[K6 aj (by rw[dq];exact h1)]
 unfold qC
 rw[dq,h3]
 simp only[aoV,apR,apA,aqb,an2]
 rw[←xy h2 h4]
 exact and_congr Iff.rfl aj
theorem Mc (ho:gV h s p op) (jt:gV h s' p' jR):((iC h s' p':Nat):Int)∈lj (gq h) ((iC h s p:Nat):Int)↔s'=s∧p'≤p∧jR.1=false:=by
 obtain⟨v',h3,h4⟩:=j0 jt
 have hw:fO (gq h) ((iC h s' p':Nat):Int)=jR.1:=by unfold fO;rw[dq,h3];rfl
 unfold lj aV
 rw[aoi,hw]
 have hl:=GH ho
 unfold cz
 rw[an4 aj,dq,(Il ho).2,aoE]
 constructor
 ·rintro⟨⟨q,hq,e⟩,h5⟩
  have hq:=an7.1 hq
  have h6:iC h s' p'=iC h s q:=by unfold iC at e ⊢;omega
  obtain⟨l,k1,k2⟩:=ho
  have hlp:=(dJ.1 k2).1
  obtain⟨rfl,rfl⟩:=D0 jt ⟨l,k1,dW (by omega:q<l.length)⟩ h6
  exact⟨J,by omega,by simpa using h5⟩
 ·rintro⟨rfl,h5,h6⟩
  exact⟨⟨p',an7.2 aj,by unfold iC;omega⟩,by rw[h6];rfl⟩
end
section
variable {h:cR} {s p s' p':Nat} {op jR:jw}
theorem MR (ho:gV h s p op) (hw:op.1=true):(gD (gq h))[iC h s p]? =some (-3):=by
 obtain⟨v,h1,h2⟩:=j0 ho
 unfold gD
 rw[aoa,h1]
 show some (rP _ _)=_
 rw[←Hq (x:=(((s:Nat):Int),((p:Nat):Int),op.1,((v:Nat):Int),op.2.2)) hw]
theorem Po (ho:gV h s p op) (hw:op.1=false) (h0:op.2.2=0):(gD (gq h))[iC h s p]? =some (-1):=by
 obtain⟨v,h1,h2⟩:=j0 ho
 unfold gD
 rw[aoa,h1]
 show some (rP _ _)=_
 rw[←Ht (x:=(((s:Nat):Int),((p:Nat):Int),op.1,((v:Nat):Int),op.2.2)) hw h0]
theorem TX (hc:(da (gq h)).2.2=0) (ho:gV h s p op) (hw:op.1=false) (h0:op.2.2≠0) (jt:gV h s' p' jR) (yM:jR.1=true) (hn:jR.2.1=op.2.1) (hv:jR.2.2=op.2.2):(gD (gq h))[iC h s p]? =some ((iC h s' p':Nat):Int):=by
 obtain⟨v,h1,h2⟩:=j0 ho
 obtain⟨v',h3,h4⟩:=j0 jt
 rw[hn] at h4
 obtain rfl:=(xy h2 h4).2 rfl
 have hg:=(xW hc (j:=iC h s' p') (by rw[dq];exact h3) yM).2
 simp only at hg
 rw[hv] at hg
 unfold gD
 rw[aoa,h1]
 show some (rP _ _)=_
 rw[←Hr (x:=(((s:Nat):Int),((p:Nat):Int),op.1,((v:Nat):Int),op.2.2)) hw h0 (by rw[an2];simp only;rw[hg];omega)]
 simp only
 rw[hg]
 congr 1
 omega
theorem Pp (ho:gV h s p op) (hw:op.1=false) (h0:op.2.2≠0) (hm:∀s' p' jR,gV h s' p' jR→jR.1=true→jR.2.1=op.2.1→jR.2.2=op.2.2→False):(gD (gq h))[iC h s p]? =some (-2):=by
 obtain⟨v,h1,h2⟩:=j0 ho
 unfold gD
 rw[aoa,h1]
 show some (rP _ _)=_
 rw[←Hs (x:=(((s:Nat):Int),((p:Nat):Int),op.1,((v:Nat):Int),op.2.2)) hw h0 ?_]
 rw[aob]
 intro vi
 simp only at vi
 unfold gv eF at vi
 cases e:(gq h).findIdx? (kS ((v:Nat):Int) op.2.2) with
 |none=>rw[e] at vi;exact absurd vi au
 |some i=>
  obtain⟨k1,k2,_⟩:=aom.1 e
  obtain⟨s',p',jR,jt,rfl⟩:=jW k1
  obtain⟨v',h3,h4⟩:=j0 jt
  rw[dW k1] at h3
  rw[an5 h3] at k2
  unfold kS at k2
  simp only[ez,an2] at k2
  obtain⟨⟨k3,k4⟩,k5⟩:=k2
  exact hm s' p' jR jt k3 ((xy h4 h2).1 aj) k5
end
structure P3 (g h:cR) (σ:Nat→Nat) (ρ:bh→bh):Prop where
 at_:∀s p o,gV g s p o→gV h (σ s) p (o.1,ρ o.2.1,o.2.2)
 inj:∀s s',s<g.length→s'<g.length→σ s=σ s'→s=s'
 nam:∀o o',o∈g.flatten→o'∈g.flatten→ρ o.2.1=ρ o'.2.1→o.2.1=o'.2.1
 wr:∀s p o,gV h s p o→o.1=true→∃s' o',s=σ s'∧gV g s' p o'∧o=(o'.1,ρ o'.2.1,o'.2.2)
theorem P3.emb {g:cR} {σ:Nat→Nat} {ρ:bh→bh} (ae:P3 g h σ ρ) (hg:(da (gq g)).2.2=0) (hh:(da (gq h)).2.2=0):∃f,AQ (gq g) (gD (gq g)) (gq h) (gD (gq h)) f∧∀s p o,gV g s p o→f (iC g s p)=iC h (σ s) p:=by
 have hsp:∀i:Nat,∃j:Nat,∀s p o,gV g s p o→i=iC g s p→j=iC h (σ s) p:=by
  intro i
  by_cases hi:i<(gq g).length
  ·obtain⟨s,p,op,ho,e⟩:=jW hi
   refine⟨iC h (σ s) p,fun s' p' o' jt e'=>?_⟩
   obtain⟨rfl,rfl⟩:=D0 ho jt (e.symm.trans e')
   rfl
  ·exact⟨0,fun s p o ho e=>absurd (e▸GH ho) hi⟩
 obtain⟨f,hf⟩:=Classical.axiomOfChoice hsp
 have hf:∀s p o,gV g s p o→f (iC g s p)=iC h (σ s) p:=fun s p o ho=>hf _ s p o ho J
 refine⟨f,⟨?_,?_,?_,?_,?_,?_⟩,hf⟩
 ·intro a ha
  obtain⟨s,p,op,ho,rfl⟩:=jW ha
  rw[hf s p op ho]
  exact GH<|ae.at_ s p op ho
 ·intro a b ha hb e
  obtain⟨s,p,op,ho,rfl⟩:=jW ha
  obtain⟨s',p',jR,jt,rfl⟩:=jW hb
  rw[hf s p op ho,hf s' p' jR jt] at e
  obtain⟨e1,rfl⟩:=D0 (ae.at_ s p op ho) (ae.at_ s' p' jR jt) e
  obtain rfl:=ae.inj s s' ho.lt jt.lt e1
  rfl
 ·intro a b ha hb e
  obtain⟨s,p,op,ho,rfl⟩:=jW ha
  obtain⟨s',p',jR,jt,rfl⟩:=jW hb
  rw[UW ho jt] at e
  rw[hf s p op ho,hf s' p' jR jt,UW (ae.at_ s p op ho) (ae.at_ s' p' jR jt),e.1]
  exact⟨J,e.2⟩
 ·intro r x hx
  have hr:r<(gq g).length:=by have:=(dJ.1 hx).1;rwa [De] at this
  obtain⟨s,p,op,ho,rfl⟩:=jW hr
  rw[hf s p op ho]
  have hi:=ae.at_ s p op ho
  by_cases hw:op.1=true
  ·rw[MR ho hw] at hx
   cases hx
   rw[MR hi hw];rfl
  have hw:op.1=false:=by simpa using hw
  by_cases h0:op.2.2=0
  ·rw[Po ho hw h0] at hx
   cases hx
   rw[Po hi hw h0];rfl
  by_cases hm:∃s' p' jR,gV g s' p' jR∧jR.1=true∧jR.2.1=op.2.1∧jR.2.2=op.2.2
  ·obtain⟨s',p',jR,jt,yM,hn,hv⟩:=hm
   rw[TX hg ho hw h0 jt yM hn hv] at hx
   cases hx
   have oQ:=ae.at_ s' p' jR jt
   rw[TX hh hi hw h0 oQ yM (by simp only;rw[hn]) hv,an4 aj,dq,hf s' p' jR jt]
  ·rw[Pp ho hw h0 (fun s' p' jR a b c d=>hm ⟨s',p',jR,a,b,c,d⟩)] at hx
   cases hx
   refine Pp hi hw h0 fun s' p' jR a b c d=>?_
   obtain⟨t,o',rfl,e1,rfl⟩:=ae.wr s' p' jR a b
   exact hm ⟨t,p',o',e1,b,ae.nam _ _ e1.mem ho.mem c,d⟩
 ·intro a r ha hr e
  obtain⟨s,p,op,ho,rfl⟩:=jW ha
  obtain⟨s',p',jR,jt,rfl⟩:=jW hr
  rw[RP ho jt] at e
  rw[hf s p op ho,hf s' p' jR jt,RP (ae.at_ s p op ho) (ae.at_ s' p' jR jt)]
  exact⟨e.1,by simp only;rw[e.2]⟩
 ·intro o r ho hr e
  obtain⟨s,p,op,Mq,rfl⟩:=jW ho
  obtain⟨s',p',jR,jt,rfl⟩:=jW hr
  rw[Mc Mq jt] at e
  rw[hf s p op Mq,hf s' p' jR jt,Mc (ae.at_ s p op Mq) (ae.at_ s' p' jR jt),e.1]
  exact⟨J,e.2⟩
theorem aeQ {h:cR} (h0:∀s p o,gV h s p o→o.1=true→o.2.2≠0) (h2:∀s p o s' p' o',gV h s p o→gV h s' p' o'→o.1=true→o'.1=true→o.2.1=o'.2.1→o.2.2=o'.2.2→s=s'∧p=p'):(da (gq h)).2.2=0:=by
 have hb:∀k,k<(gq h).length→nN (gq h) k=false:=by
  intro k hk
  obtain⟨s,p,op,ho,rfl⟩:=jW hk
  obtain⟨v,h3,h4⟩:=j0 ho
  rw[Dy (by rw[dq];exact h3)]
  unfold xY
  simp only
  cases hw:op.1 with
  |false=>rfl
  |true=>
   rw[aoY,apA,aob,aob]
   refine⟨h0 s p op ho hw,fun ef=>?_⟩
   unfold gv eF at ef
   cases e:(gq h).findIdx? (kS ((v:Nat):Int) op.2.2) with
   |none=>
    rw[apH] at e
    have:=e _<|dz h3
    unfold kS at this
    simp[hw] at this
   |some i=>
    rw[e] at ef
    obtain⟨k1,k2,_⟩:=aom.1 e
    obtain⟨s',p',jR,jt,rfl⟩:=jW k1
    obtain⟨v',h5,h6⟩:=j0 jt
    rw[dW k1] at h5
    rw[an5 h5] at k2
    unfold kS at k2
    simp only[ez,an2] at k2
    obtain⟨⟨k3,k4⟩,k5⟩:=k2
    obtain⟨rfl,rfl⟩:=h2 s' p' jR s p op jt ho k3 hw ((xy h6 h4).1 aj) k5
    simp only at ef
    omega
 exact an0 (fun z:Int×Int×Int=>z.2.2)<|uN (j:=(gq h).length) hb<|an3 _
theorem Oe (hc:(da (gq h)).2.2=0) (ho:gV h s p o) (hw:o.1=true):o.2.2≠0:=by
 obtain⟨v,h3,h4⟩:=j0 ho
 exact(xW hc (by rw[dq];exact h3) hw).1
theorem Xd (hc:(da (gq h)).2.2=0) {s' p':Nat} {o':jw} (ho:gV h s p o) (jt:gV h s' p' o') (hw:o.1=true) (yM:o'.1=true) (hn:o.2.1=o'.2.1) (hv:o.2.2=o'.2.2):s=s'∧p=p':=by
 obtain⟨v,h3,h4⟩:=j0 ho
 obtain⟨v',h5,h6⟩:=j0 jt
 have e:=(xy h4 h6).2 hn
 subst e
 have h7:=(xW hc (j:=iC h s p) (by rw[dq];exact h3) hw).2
 have h8:=(xW hc (j:=iC h s' p') (by rw[dq];exact h5) yM).2
 simp only at h7 h8
 rw[hv] at h7
 exact D0 ho jt aj
end Go.Ew
namespace Go.Ew
variable {h:cR}
theorem yD (ho:fe h=true):iM h=true∧(da (gq h)).2.2=0∧lP h=gq h∧lQ h=gD (gq h):=by
 have h1:=ho
 unfold fe at h1
 rw[ez,an2] at h1
 obtain⟨hr,hc⟩:=h1
 rw[(rX hr).2.1] at hc
 exact⟨hr,hc,by rw[(wK ho).2.1,(rX hr).2.1],by rw[(wK ho).2.2,(rX hr).2.1]⟩
theorem acm (hr:iM h=true) (hc:(da (gq h)).2.2=0):fe h=true:=by
 unfold fe;rw[hr,(rX hr).2.1,hc];rfl
theorem Cy:iM h=true↔(∀o∈h.flatten,gT o.2.1=true)∧h.flatten.length≤4096:=by
 unfold iM
 rw[ez,an9,an2]
 rfl
theorem Iu {o:jw} (hm:o∈h.flatten):∃s p,gV h s p o:=by
 obtain⟨l,h1,h2⟩:=List.mem_flatten.1 hm
 obtain⟨s,hs⟩:=ap4 h1
 obtain⟨p,hp⟩:=ap4 h2
 exact⟨s,p,l,hs,hp⟩
section
variable {h:cR} {s n:Nat} {l:List jw} {o:jw}
end
section
variable {h g:cR} {σ σ':Nat→Nat} {ρ:bh→bh}
theorem NN (hh:fe h=true) (hg:fe g=true) {ρ':bh→bh} (ae:P3 g h σ ρ) (I':P3 h g σ' ρ') {lv:Int}:(gL (lP h) (lQ h) lv).map (·.1)=(gL (lP g) (lQ g) lv).map (·.1):=by
 obtain⟨_,h2,h3,h4⟩:=yD hh
 obtain⟨_,g2,g3,g4⟩:=yD hg
 obtain⟨f,E,_⟩:=ae.emb g2 h2
 obtain⟨f',E',_⟩:=I'.emb h2 g2
 rw[h3,h4,g3,g4]
 exact T5 (De _) F9 (De _) F9 E E'
end
end Go.Ew
namespace Go.Ew
def sG (lv:Int):Bool:=decide (0<(((dS lv).length:Nat):Int))
def nY (h:cR) (lv:Int):Int:=bif decide (lD h=0) then (bif sG lv then (da (cS h)).2.2 else 1) else 1
def nB (h:cR) (lv:Int):Int×Int:=bif decide (lD h=0) then (bif sG lv then ((da (cS h)).1,(da (cS h)).2.1) else (0,0)) else (0,0)
def tV (h:cR) (lv:Int):Int:=bif decide (nY h lv=0) then lv else 0
noncomputable def rp (h:cR) (lv:Int):Bool:=bif decide (nY h lv=0) then !decide (fc (cS h) (gK (cS h)) lv=0) else false
noncomputable def hG (h:cR) (lv:Int):yb:=bif decide (nY h lv=0) then (gL (cS h) (gK (cS h)) lv).getD (0,0,0,0,0) else (0,0,0,0,0)
section
variable {h:cR} {lv:Int}
theorem Ya (hl:sG lv=true):lv=1∨lv=2∨lv=3:=by
 by_cases h1:lv=1
 ·exact .inl h1
 by_cases h2:lv=2
 ·exact .inr (.inl h2)
 by_cases h3:lv=3
 ·exact .inr (.inr h3)
 unfold sG dS at hl
 rw[an' h1,an' h2,an' h3] at hl
 cases hl
theorem afS (hl:lv=1∨lv=2∨lv=3):sG lv=true:=by rcases hl with rfl|rfl|rfl<;>rfl
theorem Yp (he:lD h=0) (hl:sG lv=true) (hc:(da (cS h)).2.2=0):nY h lv=0∧nB h lv=(0,0)∧tV h lv=lv∧rp h lv=(!decide (fc (cS h) (gK (cS h)) lv=0))∧hG h lv=(gL (cS h) (gK (cS h)) lv).getD (0,0,0,0,0):=by
 have e1:nY h lv=0:=by unfold nY;rw[an6 he,hl];exact hc
 refine⟨e1,?_,?_,?_,?_⟩
 ·unfold nB;rw[an6 he,hl]
  show ((da (cS h)).1,(da (cS h)).2.1)=_
  rw[(PH hc).1,(PH hc).2]
 ·unfold tV;rw[e1];rfl
 ·unfold rp;rw[e1];rfl
 ·unfold hG;rw[e1];rfl
theorem QX {e:Int} (he:nY h lv=e) (h0:¬e=0):tV h lv=0∧rp h lv=false∧hG h lv=(0,0,0,0,0):=by
 subst he
 unfold tV rp hG
 rw[an' h0]
 exact⟨J,J,J⟩
theorem Th (hx:decide (lD h=0)=false∨sG lv=false):nY h lv=1∧nB h lv=(0,0):=by
 unfold nY nB
 rcases hx with hx|hx<;>rw[hx]
 ·exact⟨J,J⟩
 ·cases decide (lD h=0)<;>exact⟨rfl,rfl⟩
theorem ac6 (he:lD h=0) (hl:sG lv=true):nY h lv=(da (cS h)).2.2∧nB h lv=((da (cS h)).1,(da (cS h)).2.1):=by
 unfold nY nB;rw[an6 he,hl];exact⟨rfl,rfl⟩
theorem MP (hc:(da (cS h)).2.2=0):∀x∈gK (cS h),x<(((cS h).length:Nat):Int):=by rw[IF hc];exact F9
theorem abn {k r a b o:Int} (hw:qw (gL (cS h) (gK (cS h)) lv) k r a b o) (hc:fc (cS h) (gK (cS h)) lv=0):(gL (cS h) (gK (cS h)) lv).getD (0,0,0,0,0)=(k,r,a,b,o):=by
 obtain⟨y,hy⟩:=aos.1 (PF hc)
 rw[hy,hw.2 y hy];rfl
theorem abl (hc:¬fc (cS h) (gK (cS h)) lv=0):(gL (cS h) (gK (cS h)) lv).getD (0,0,0,0,0)=(0,0,0,0,0):=by rw[IM hc];rfl
theorem Hb (ho:fe h=true) (hl:lv=1∨lv=2∨lv=3):nY h lv=0∧nB h lv=(0,0)∧tV h lv=lv∧rp h lv=(gL (lP h) (lQ h) lv).isNone∧hG h lv=(gL (lP h) (lQ h) lv).getD (0,0,0,0,0):=by
 have hy:=wK ho
 unfold fe at ho
 rw[ez,an2] at ho
 obtain⟨h1,h2,h3,h4,h5⟩:=Yp (lv:=lv) (rX ho.1).2.2 (afS hl) ho.2
 refine⟨h1,h2,h3,?_,?_⟩
 ·rw[h4,hy.2.1,hy.2.2,IF ho.2]
  unfold fc
  cases gL (cS h) (gD (cS h)) lv<;>rfl
 ·rw[h5,hy.2.1,hy.2.2,IF ho.2]
end
theorem Xe {α0 α1 α2 α3 α4 α5 α6 α7 α8 α9 abh β:Type} (f:α0→α1→α2→α3→α4→α5→α6→α7→α8→α9→abh→β) {x0 y0:α0} {x1 y1:α1} {x2 y2:α2} {x3 y3:α3} {x4 y4:α4} {x5 y5:α5} {x6 y6:α6} {x7 y7:α7} {x8 y8:α8} {x9 y9:α9} {x10 y10:abh} (h0:x0=y0) (h1:x1=y1) (h2:x2=y2) (h3:x3=y3) (h4:x4=y4) (h5:x5=y5) (h6:x6=y6) (h7:x7=y7) (h8:x8=y8) (h9:x9=y9) (h10:x10=y10):f x0 x1 x2 x3 x4 x5 x6 x7 x8 x9 x10=f y0 y1 y2 y3 y4 y5 y6 y7 y8 y9 y10:=by
 subst h0;subst h1;subst h2;subst h3;subst h4;subst h5;subst h6;subst h7;subst h8;subst h9;subst h10;rfl
def Ej (s:bh) (lv:Int):Bool:=bif sG lv then decide ((kJ s).2.2=0) else false
def uU (s:bh) (lv:Int):Int:=bif sG lv then (bif decide ((kJ s).2.2=0) then nY (kJ s).1 lv else (kJ s).2.2) else 1
def zW (s:bh) (lv:Int):Int:=bif sG lv then (bif decide ((kJ s).2.2=0) then 0 else (kJ s).2.1) else 0
def ta (s:bh) (lv:Int):Int×Int:=bif Ej s lv then nB (kJ s).1 lv else (0,0)
def zV (s:bh) (lv:Int):Int:=bif Ej s lv then tV (kJ s).1 lv else 0
noncomputable def rn (s:bh) (lv:Int):Bool:=bif Ej s lv then rp (kJ s).1 lv else false
noncomputable def kH (s:bh) (lv:Int):yb:=bif Ej s lv then hG (kJ s).1 lv else (0,0,0,0,0)
section
variable {s:bh} {lv a e:Int} {h:cR}
theorem afB (hl:sG lv=false):uU s lv=1∧zW s lv=0∧ta s lv=(0,0)∧zV s lv=0∧rn s lv=false∧kH s lv=(0,0,0,0,0):=by
 have hr:Ej s lv=false:=by unfold Ej;rw[hl];rfl
 refine⟨?_,?_,?_,?_,?_,?_⟩
 ·unfold uU;rw[hl];rfl
 ·unfold zW;rw[hl];rfl
 ·unfold ta;rw[hr];rfl
 ·unfold zV;rw[hr];rfl
 ·unfold rn;rw[hr];rfl
 ·unfold kH;rw[hr];rfl
theorem abw (hl:sG lv=true) (ht:kJ s=(h,a,e)) (he:¬e=0):uU s lv=e∧zW s lv=a∧ta s lv=(0,0)∧zV s lv=0∧rn s lv=false∧kH s lv=(0,0,0,0,0):=by
 have hd:decide ((kJ s).2.2=0)=false:=by rw[ht];exact an' he
 have hr:Ej s lv=false:=by unfold Ej;rw[hl,hd];rfl
 refine⟨?_,?_,?_,?_,?_,?_⟩
 ·unfold uU;rw[hl,hd,ht];rfl
 ·unfold zW;rw[hl,hd,ht];rfl
 ·unfold ta;rw[hr];rfl
 ·unfold zV;rw[hr];rfl
 ·unfold rn;rw[hr];rfl
 ·unfold kH;rw[hr];rfl
theorem Qb (hl:sG lv=true) (ht:kJ s=(h,a,e)) (he:e=0):uU s lv=nY h lv∧zW s lv=0∧ta s lv=nB h lv∧zV s lv=tV h lv∧rn s lv=rp h lv∧kH s lv=hG h lv:=by
 have hd:decide ((kJ s).2.2=0)=true:=by rw[ht];exact an6 he
 have hr:Ej s lv=true:=by unfold Ej;rw[hl,hd];rfl
 refine⟨?_,?_,?_,?_,?_,?_⟩
 ·unfold uU;rw[hl,hd,ht];rfl
 ·unfold zW;rw[hl,hd];rfl
 ·unfold ta;rw[hr,ht];rfl
 ·unfold zV;rw[hr,ht];rfl
 ·unfold rn;rw[hr,ht];rfl
 ·unfold kH;rw[hr,ht];rfl
end
end Go.Ew
