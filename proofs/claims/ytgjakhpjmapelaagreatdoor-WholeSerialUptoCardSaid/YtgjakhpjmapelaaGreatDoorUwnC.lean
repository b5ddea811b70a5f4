/- Plain words and laws: hulls, as the program and the reference make them (law 4). -/
import Derived.Test.YtgjakhpjmapelaaGreatDoorUwnB
import Derived.Test.YtgjakhpjmapelaaGreatDoorUwnA
import Derived.Shelf.SlSortCmp.WholeK
import Derived.Shelf.SlSortCmp.NoneTotal
import Derived.Sort.LotA
import Derived.Laws.IdiomStrings
import Derived.Lib.SlTrimSet
set_option linter.unusedVariables false
set_option linter.unusedSimpArgs false
set_option linter.unusedSectionVars false
namespace Go.Ew
variable {n:Int} {q k:Nat} {x:Row}
theorem TS {rs xs:Rows} (hs:xs=cH n.toNat (wM (fZ rs) q)) (hq:q≤n.toNat) (nI:n.toNat≤q):xs=fj n rs:=by
 obtain rfl:q=n.toNat:=by omega
 exact hs
section
variable {n:Int} {rs:Rows} (h:bK n rs=true)
include h
theorem NQ:rs=cH n.toNat (wM (fZ rs) 0):=Cy h
theorem pF {i:Nat} (hx:rs[i]? =some x):x=ib n.toNat (fZ rs i):=by
 have h1:=Cy h
 have h2:(cH n.toNat (fZ rs))[i]? =some x:=by rw[←h1];exact hx
 exact(mX h2).2
theorem RO {i:Nat} {j:Int} (hx:rs[i]? =some x) (hj:(cX x)[q]? =some j):0≤j∧j<n∧j<((rs.length:Nat):Int):=by
 rw[pF h hx,yJ] at hj
 obtain⟨k,hk, -,rfl⟩:=wX.1 (dC hj)
 have:=(bQ h).1
 omega
end
def AN (p:hG) (i j k a b:Nat):Bool:=if a<k then BV p i j a b else p a b
section
variable {n:Int} {rs xs:Rows} {i j:Int} (h:bK n rs=true)
theorem Ht (hq:kC n [i,j]=false):ir n i j=0∧ic n rs i j=[]∧lI n i j=1:=by
 refine⟨(oR (rs:=rs) hq).1,?_,(oR (rs:=rs) hq).2.2⟩
 unfold ic;rw[anf (by rw[hq];decide)]
theorem aau (hq:kC n [i,j]=true) (hb:eK n rs i j=true):ic n rs i j=rs:=by unfold ic;rw[anc hq,anc hb]
include h
theorem WU:rs=cH n.toNat (AN (fZ rs) i.toNat j.toNat 0):=by
 rw[show cH n.toNat (AN (fZ rs) i.toNat j.toNat 0)=cH n.toNat (fZ rs) from dN fun a b _ _=>by unfold AN;simp]
 exact Cy h
theorem Uk (hs:xs=cH n.toNat (AN (fZ rs) i.toNat j.toNat k)) (hx:xs[q]? =some x):x.length=words n:=by
 subst hs
 have:=(bQ h).2.2.2.1
 rw[(mX hx).2,jF,anP this]
theorem Uj {k:Nat} {x xj:Row} (hq:kC n [i,j]=true) (hs:xs=cH n.toNat (AN (fZ rs) i.toNat j.toNat k)) (hx:xs[((k:Nat):Int).toNat]? =some x) (hj:rs[j.toNat]? =some xj)
  (hc:((k:Nat):Int)=i∨∃z,rs[((k:Nat):Int).toNat]? =some z∧fq z i=true):xs.set ((k:Nat):Int).toNat (jM x (ej xj j))=cH n.toNat (AN (fZ rs) i.toNat j.toNat (k+1)):=by
 have hr:=jm.1 hq
 have hn:((n.toNat:Nat):Int)=n:=by omega
 subst hs
 obtain⟨hk,hx⟩:=mX hx
 rw[dP] at hk ⊢
 rw[dP] at hx
 rw[hx,pF h hj,u0 hr.2.1 aj,HT,xI]
 have Ay:((decide (k=i.toNat))||fZ rs k i.toNat)=true:=by
  rcases hc with hc|⟨z,hz,hb⟩
  ·simp[show k=i.toNat from by omega]
  ·rw[dP] at hz
   rw[pF h hz,iY] at hb
   simp only[eW] at hb
   rw[hb.2];simp
 refine dN fun a b ha hb=>?_
 unfold AN
 by_cases e:a=k
 ·subst e
  rw[anc rfl,anf aj,anc aj]
  unfold BV
  rw[Ay,an_]
  cases fZ rs a b<;>cases fZ rs j.toNat b<;>simp
 ·rw[anf e]
  by_cases e2:a<k
  ·rw[anc e2,anc aj]
  ·rw[anf e2,anf aj]
theorem agc {z:Row} (hq:kC n [i,j]=true) (hs:xs=cH n.toNat (AN (fZ rs) i.toNat j.toNat k)) (gA:¬((k:Nat):Int)=i) (hz:rs[((k:Nat):Int).toNat]? =some z) (hb:fq z i=false):
  xs=cH n.toNat (AN (fZ rs) i.toNat j.toNat (k+1)):=by
 have hr:=jm.1 hq
 rw[hs]
 refine dN fun a b ha vu=>?_
 unfold AN
 by_cases e2:a<k
 ·rw[anc e2,anc aj]
 ·by_cases e:a=k
  ·subst e
   rw[anf e2,anc aj]
   unfold BV
   rw[pF h hz,iY,dP] at hb
   have wu:fZ rs a i.toNat=false:=by
    have h1:decide (0≤i)=true:=anh hr.1.1
    have h2:decide (i<((n.toNat:Nat):Int))=true:=anh aj
    rw[h1,h2] at hb
    simpa using hb
   rw[wu,ank (show ¬a=i.toNat from by omega)];simp
  ·rw[anf e2,anf aj]
theorem ael (hq:kC n [i,j]=true) (hb:eK n rs i j=false) (hs:xs=cH n.toNat (AN (fZ rs) i.toNat j.toNat k)) (hk:n.toNat≤k):xs=ic n rs i j:=by
 unfold ic
 rw[anc hq,anf (by rw[hb];decide),hs]
 exact dN fun a b ha _=>by unfold AN;rw[anc aj]
end
def NY (p:hG) (l:aA) (a b:Nat):Bool:=p a b&&(decide (((a:Nat):Int)∈l)&&decide (((b:Nat):Int)∈l))
def gp (n:Int) (rs:Rows) (l:aA):Rows:=cH n.toNat (NY (fZ rs) l)
def pG (n:Nat) (l:aA):Row:=ib n fun b=>decide (((b:Nat):Int)∈l)
theorem Vr (h:0≤n) (l:aA):eb n=pG n.toNat (l.take 0):=by
 have:=CS n.toNat
 rw[anP h] at this
 rw[this]
 exact kK fun k _=>by simp
theorem Zx {l:aA} {x:Int} {mk:Row} (hs:mk=pG n.toNat (l.take q)) (hx:l[((q:Nat):Int).toNat]? =some x) (h:x<n):ej mk x=pG n.toNat (l.take (q+1)):=by
 subst hs
 rw[nX hx]
 by_cases h0:0≤x
 ·unfold pG
  rw[u0 h0 aj]
  refine kK fun k _=>?_
  rw[anw]
  simp only[anm,anb,anx,ans,aqm,apG]
  exact or_congr Iff.rfl ⟨fun e=>by omega,fun e=>by omega⟩
 ·rw[←Y_ aj]
  refine kK fun k _=>?_
  rw[anw]
  simp only[anb,anx,ans,aqm,apG]
  exact⟨.inl,fun e=>e.elim id fun e=>by omega⟩
theorem abG {l:aA} {x:Int} {mk:Row} (hs:mk=pG n.toNat (l.take q)) (hx:l[((q:Nat):Int).toNat]? =some x) (h:n≤x):mk=pG n.toNat (l.take (q+1)):=by
 rw[hs,nX hx]
 refine kK fun k hk=>?_
 rw[anw]
 simp only[anb,anx,ans,aqm,apG]
 exact⟨.inl,fun e=>e.elim id fun e=>by omega⟩
theorem I0 (h:0≤n) (l:aA):(pG n.toNat l).length=words n:=by unfold pG;rw[jF,anP h]
def mG (x m:Row) (k:Nat):Row:=(List.range x.length).map fun t=>if t<k then x.getD t 0#64 &&& m.getD t 0#64 else 0#64
theorem tg (x m:Row) (k:Nat):(mG x m k).length=x.length:=by unfold mG;simp
theorem Q3 (x m:Row):List.replicate x.length 0#64=mG x m 0:=by
 unfold mG
 apply aoO
 ·simp
 ·intro i h1 h2;simp
theorem Q4 {m:Row} {u v:bt} (hu:x[((k:Nat):Int).toNat]? =some u) (hv:m[((k:Nat):Int).toNat]? =some v):(mG x m k).set ((k:Nat):Int).toNat (u &&& v)=mG x m (k+1):=by
 have e1:=wZ hu
 have e2:=wZ hv
 rw[dP]
 apply aoO
 ·rw[am',tg,tg]
 ·intro i h1 h2
  rw[apX]
  simp only[mG,List.getElem_map,apJ]
  by_cases e:k=i
  ·subst e;rw[anc rfl,anc aj,e1,e2]
  ·rw[anf e]
   by_cases h3:i<k
   ·rw[anc h3,anc aj]
   ·rw[anf h3,anf aj]
theorem Uh {n:Nat} {p q:Nat→Bool} (h:(ib n p).length≤k):mG (ib n p) (ib n q) k=ib n fun b=>p b&&q b:=by
 refine Ab (by rw[tg,jF]) fun b=>?_
 have h1:∀r:Row,fq r ((b:Nat):Int)=(r.getD (b/64) 0#64).getLsbD (b%64):=by intro r;unfold fq;simp
 have e1:=iY n p ((b:Nat):Int)
 have e2:=iY n q ((b:Nat):Int)
 rw[h1] at e1 e2 ⊢
 by_cases hb:b/64<(ib n p).length
 ·have:(mG (ib n p) (ib n q) k).getD (b/64) 0#64=(ib n p).getD (b/64) 0#64 &&& (ib n q).getD (b/64) 0#64:=by
   unfold mG
   rw[ik,anl,aob hb]
   show (if b/64<k then _ else _)=_
   rw[anc aj]
  rw[this,api,e1,e2]
  by_cases S8:b<n
  ·simp[S8]
  ·simp[S8]
 ·have S8:¬b<n:=by
   intro S8
   apply hb
   rw[jF,qI];omega
  have:(mG (ib n p) (ib n q) k).getD (b/64) 0#64=0#64:=by
   rw[ik,anp (by rw[tg];omega)];rfl
  rw[this];simp[S8]
def xh (p:hG) (l:aA) (k a b:Nat):Bool:=if a<k then NY p l a b else false
section
variable {n:Int} {rs xs:Rows} {l:aA} {mk:Row} {k:Nat} (h:bK n rs=true)
include h
theorem Uy:List.replicate n.toNat (eb n)=cH n.toNat (xh (fZ rs) l 0):=by
 have h0:=kS h
 have:=yH n.toNat
 unfold vV at this
 rw[anP h0] at this
 rw[this]
 exact dN fun a b _ _=>by unfold xh;simp
theorem YX (hs:xs=cH n.toNat (xh (fZ rs) l k)) (hm:mk=pG n.toNat l) (hk:k<n.toNat) (hb:fq mk ((k:Nat):Int)=false):xs=cH n.toNat (xh (fZ rs) l (k+1)):=by
 rw[hs]
 refine dN fun a b ha vu=>?_
 unfold xh
 by_cases e2:a<k
 ·rw[anc e2,anc aj]
 ·by_cases e:a=k
  ·subst e
   rw[anf e2,anc aj]
   rw[hm] at hb
   unfold pG at hb
   rw[iY] at hb
   have X4:decide (((a:Nat):Int)∈l)=false:=by
    have h2:decide (((a:Nat):Int)<((n.toNat:Nat):Int))=true:=anh aj
    rw[h2] at hb
    simpa using hb
   unfold NY
   rw[X4];simp
  ·rw[anf e2,anf aj]
theorem aeK (hs:xs=cH n.toNat (xh (fZ rs) l k)) (hx:rs[((k:Nat):Int).toNat]? =some x):xs=xs.set k (mG x mk 0):=by
 have qx:rs[k]? =some x:=hx
 have hk:k<n.toNat:=by have:=(dE.1 qx).1;have:=(bQ h).1;omega
 have h0:=kS h
 have e:mG x mk 0=eb n:=by
  rw[←Q3]
  unfold eb
  rw[nY h qx]
 rw[e]
 apply anL
 intro a
 rw[an7]
 split
 ·rename_i e2;subst e2
  rw[anc (by rw[hs,mj];exact hk),hs,sC hk]
  congr 1
  have:=CS n.toNat
  rw[anP h0] at this
  rw[this]
  exact kK fun b _=>by unfold xh;simp
 ·rfl
theorem KI {r:Row} {ys:Rows} (hs:xs=cH n.toNat (xh (fZ rs) l k)) (hy:ys=xs.set k (mG x mk q)) (hx:rs[((k:Nat):Int).toNat]? =some x) (hr:ys[((k:Nat):Int).toNat]? =some r):r=mG x mk q:=by
 have qx:rs[k]? =some x:=hx
 have hk:k<n.toNat:=by have:=(dE.1 qx).1;have:=(bQ h).1;omega
 rw[hy,dP,ano (by rw[hs,mj];exact hk)] at hr
 exact(ana hr).symm
theorem YW {q:Nat} {x r:Row} {ys:Rows} {u v:bt} (hs:xs=cH n.toNat (xh (fZ rs) l k)) (hy:ys=xs.set k (mG x mk q)) (hx:rs[((k:Nat):Int).toNat]? =some x) (hr:ys[((k:Nat):Int).toNat]? =some r)
  (hu:x[((q:Nat):Int).toNat]? =some u) (hv:mk[((q:Nat):Int).toNat]? =some v):ys.set ((k:Nat):Int).toNat (r.set ((q:Nat):Int).toNat (u &&& v))=xs.set k (mG x mk (q+1)):=by
 rw[KI h hs hy hx hr,hy,Q4 hu hv,dP,List.set_set]
theorem YY {ys:Rows} (hs:xs=cH n.toNat (xh (fZ rs) l k)) (hy:ys=xs.set k (mG x mk q)) (hx:rs[((k:Nat):Int).toNat]? =some x) (hm:mk=pG n.toNat l) (hb:fq mk ((k:Nat):Int)=true) (hq:x.length≤q):ys=cH n.toNat (xh (fZ rs) l (k+1)):=by
 have qx:rs[k]? =some x:=hx
 have hk:k<n.toNat:=by have:=(dE.1 qx).1;have:=(bQ h).1;omega
 rw[hy,hm,hs,pF h qx]
 unfold pG
 rw[Uh (by rw[pF h qx] at hq;exact hq),xI]
 rw[hm] at hb
 unfold pG at hb
 rw[iY] at hb
 simp only[eW] at hb
 refine dN fun a b ha vu=>?_
 unfold xh
 by_cases e:a=k
 ·subst e
  rw[anc rfl,anc aj]
  unfold NY
  have:decide (((a:Nat):Int)∈l)=true:=by simpa using hb.2
  rw[this,an_]
 ·rw[anf e]
  by_cases e2:a<k
  ·rw[anc e2,anc aj]
  ·rw[anf e2,anf aj]
theorem aaE (hs:xs=cH n.toNat (xh (fZ rs) l k)) (hk:n.toNat≤k):xs=gp n rs l:=by
 rw[hs]
 exact dN fun a b ha _=>by unfold xh;rw[anc aj]
end
theorem Cl {rs:Rows} (h:bK n rs=true) (l:aA):bK n (gp n rs l)=true:=by
 obtain⟨m,p,rfl,hm,rfl⟩:=mh h
 unfold gp;rw[dP];exact lJ hm
end Go.Ew
namespace Go.Ew
structure Rch (n:Nat) (p:hG) (i:Nat) (sn:List Bool) (td:aA) (at_:Int) (j:Nat):Prop where
 len:sn.length=n
 snd:∀k,sn.getD k false=true→TC n p i k
 tdo:∀t∈td,∃k,t=((k:Nat):Int)∧k<n∧(k=i∨sn.getD k false=true)
 don:∀x,x<n→(x=i∨sn.getD x false=true)→((x:Nat):Int)∈td∨(((x:Nat):Int)=at_∧∀y,y<j→p x y=true→sn.getD y false=true)∨∀y,y<n→p x y=true→sn.getD y false=true
section
variable {n:Nat} {p:hG} {i j:Nat} {sn:List Bool} {td:aA} {at_:Int}
end
theorem N6 {td:aA} (h:¬(0:Int)<((td.length:Nat):Int)):td=[]:=aoD aj
section
variable {n:Int} {rs:Rows} {i a j:Nat} {sn:List Bool} {td:aA} {x:Int} (rt:bK n rs=true) (e:x=((a:Nat):Int)) (h:Rch n.toNat (fZ rs) i sn td x j) (S9:a<n.toNat) (hj:j<n.toNat)
include rt e h S9 hj
end
section
variable {k:Int} {l:List (BitVec 8×BitVec 8)} {z:BitVec 8×BitVec 8} (hk:0<k) (h4:k≤4096)
include hk h4
end
end Go.Ew
namespace Go.Ew
section
variable {n:Int} {rs:Rows} (h:bK n rs=true)
include h
end
end Go.Ew
namespace Go.Ew
variable {n o:Int} {rs:Rows} {x:Row}
def eY (n:Int) (rs:Rows) (o:Int):aA:=if 0≤o∧o<n then wh n.toNat (fun a=>fZ rs a o.toNat) else []
def bO (n:Int) (rs:Rows) (o:Int):aA:=if 0≤o∧o<n then wh n.toNat (fun a=>fZ rs a o.toNat||decide (a=o.toNat)) else []
theorem Lp (h:¬(0≤o∧o<n)):eY n rs o=[]:=by unfold eY;rw[anf h]
theorem KH (h:¬(0≤o∧o<n)):bO n rs o=[]:=by unfold bO;rw[anf h]
theorem Ee (h:bK n rs=true) (h0:0≤o∧o<n) (hx:(gH n rs)[o.toNat]? =some x):x=ib n.toNat fun a=>fZ rs a o.toNat:=by
 obtain⟨m,p,rfl,hm,rfl⟩:=mh h
 rw[IE] at hx
 obtain⟨h1,rfl⟩:=mX hx
 rw[dP]
 exact kK fun a ha=>(jG ha h1).symm
theorem R6 (h:bK n rs=true) (h0:0≤o∧o<n) (hx:(gH n rs)[o.toNat]? =some x):cX x=eY n rs o:=by
 rw[Ee h h0 hx,yJ];unfold eY;rw[anc h0]
theorem Rh (h:bK n rs=true) (h0:0≤o∧o<n) (hx:(gH n rs)[o.toNat]? =some x):cX (ej x o)=bO n rs o:=by
 rw[Ee h h0 hx,u0 h0.1 aj,yJ];unfold bO;rw[anc h0]
theorem xl (h:bK n rs=true) {i:Nat} (hx:(gH n rs)[i]? =some x):x.length≤64:=(bQ (Gi h)).2.2.2.2 _ (dC hx)
theorem u9 (h:bK n rs=true) (o:Int):(eY n rs o).length≤4096:=by
 have h4:=(bQ h).2.2.1
 unfold eY;split
 ·have:=OH n.toNat (fun a=>fZ rs a o.toNat);omega
 ·simp
theorem uX (h:bK n rs=true) (o:Int):(bO n rs o).length≤4096:=by
 have h4:=(bQ h).2.2.1
 unfold bO;split
 ·have:=OH n.toNat (fun a=>fZ rs a o.toNat||decide (a=o.toNat));omega
 ·simp
section
variable {n:Int} {rs:Rows} (h:bK n rs=true) {k:Int} (hk:0≤k∧k<n)
include h hk
end
end Go.Ew
namespace Go.Ew
def aX (p:Int→Bool) (xs:aA):aA:=xs.filter fun x=>!p x
def DF (p:Int→Bool) (xs ys:aA) (q:Int) (k:Nat):Prop:=ys.length=xs.length∧ys.take q.toNat=aX p (xs.take k)∧ys.drop k=xs.drop k
section
variable {p:Int→Bool} {xs ys:aA} {q x:Int} {k:Nat}
theorem Z_ (h:eM p xs= -1):xs=aX p xs:=by
 have h1:=uG (p:=p) (r:=xs)
 rw[h,ank aj] at h1
 unfold aX
 refine(ap6.2 fun x hx=>?_).symm
 have:=aoZ.1 h1.symm x hx
 simpa using this
theorem Wj (h:¬eM p xs= -1):0≤eM p xs∧(eM p xs).toNat<xs.length∧DF p xs xs (eM p xs) ((eM p xs).toNat+1):=by
 unfold eM at h ⊢
 cases hf:xs.findIdx? p with
 |none=>rw[hf] at h;exact absurd rfl h
 |some i=>
  rw[hf] at h
  obtain⟨h1,h2,h3⟩:=anE.1 hf
  refine⟨by show (0:Int)≤((i:Nat):Int);omega,h1,J,?_,J⟩
  show xs.take i=aX p (xs.take (i+1))
  unfold aX
  rw[anH,eI h1,aoi]
  have e1:(xs.take i).filter (fun x=>!p x)=xs.take i:=by
   refine ap6.2 fun y hy=>?_
   obtain⟨j,hj⟩:=anu.1 hy
   have xN:=(dE.1 hj).1
   rw[iB] at xN
   have h4:=h3 j aj
   rw[aoG aj,eI aj] at hj
   rw[←ana hj]
   simpa using h4
  rw[e1]
  simp[h2]
theorem QX (h:DF p xs ys q k) (hx:ys[k]? =some x):xs[k]? =some x:=by
 have h1:=h.2.2
 have:(ys.drop k)[0]? =some x:=by rw[anU];exact hx
 rw[h1,anU] at this
 exact this
theorem Pa (hx:xs[k]? =some x):aX p (xs.take (k+1))=aX p (xs.take k)++(if p x=true then [] else [x]):=by
 unfold aX
 rw[anH,hx,aoi]
 cases hp:p x<;>simp[hp]
theorem MD (h:DF p xs ys q k):ys.drop (k+1)=xs.drop (k+1):=by
 have h1:=h.2.2
 rw[←an9,←an9,h1]
theorem aaa (h:DF p xs ys q k) (hx:ys[k]? =some x) (hp:p x=true):DF p xs ys q (k+1):=
 ⟨h.1,by rw[Pa (QX h hx),anc hp,aoB];exact h.2.1,MD h⟩
theorem Z' (h:DF p xs ys q k) (hx:ys[k]? =some x) (hp:p x=false) (h0:0≤q) (hq:q<((k:Nat):Int)):DF p xs (ys.set q.toNat x) (q+1) (k+1):=by
 have hk:=(dE.1 hx).1
 refine⟨by rw[am'];exact h.1,?_,?_⟩
 ·rw[Pa (QX h hx),anf (by rw[hp];decide),←h.2.1,show (q+1).toNat=q.toNat+1 from by omega,anH,List.take_set_of_le (ane _),ano aj]
  rfl
 ·rw[List.drop_set_of_lt aj]
  exact MD h
theorem adM (h:DF p xs ys q k) (hk:xs.length≤k) (h0:0≤q) (hq:q.toNat≤ys.length) (m:Nat):(ys.take q.toNat++(List.replicate m (0:Int)++[])).take q.toNat=aX p xs:=by
 rw[apC (by rw[iB];omega),h.2.1,anj hk]
end
def iQ (aF:List aO) (v i:Int):Bool:=decide (i<0)||(match aF[i.toNat]? with
 |none=>true
 |some x=>!x.2.2.1||!decide (x.2.2.2.1=v))
def fX (aF:List aO) (i:Int):Bool:=((aF[i.toNat]?).map (fun x=>x.2.2.1)).getD false
section
variable {aF:List aO} {v i:Int} {x:aO}
theorem YU (h:i<0):iQ aF v i=true:=by unfold iQ;rw[anh h];rfl
theorem YT (h:((aF.length:Nat):Int)≤i):iQ aF v i=true:=by
 unfold iQ
 rw[anp aj];simp
theorem KF (h0:¬i<0) (hx:aF[i.toNat]? =some x):iQ aF v i=(!x.2.2.1||!decide (x.2.2.2.1=v)):=by
 unfold iQ
 rw[ank h0,hx];rfl
theorem aaD (hx:aF[i.toNat]? =some x):fX aF i=x.2.2.1:=by unfold fX;rw[hx];rfl
theorem IT (o:ig aF) {t:Int} {q:Nat} {x:Int} (hx:(cC aF t)[q]? =some x):0≤x∧x<((aF.length:Nat):Int):=by
 by_cases h:0≤t∧t<(aF.length:Int)
 ·have:=Zl o h.1 h.2 hx
  omega
 ·rw[←Fl h] at hx;simp at hx
end
end Go.Ew
namespace Go.Ew
abbrev cN:=Int×Int×Int×Int×Int
def qq (U:List aO) (i:Int):Int:=((U[i.toNat]?).map (fun x=>x.2.2.2.1)).getD 0
section
variable {U:List aO} {fo:aA}
end
end Go.Ew
namespace Go.Ew
section
variable {U:List aO} {fo:aA} {pre:List cN} {pl:List Bool} {kd fr to sa sb:Int}
end
end Go.Ew
namespace Go.Ew
variable {h:dh} {U:List aO} {fo:aA} {j n:Nat} {w:Int}
def gq (h:dh):Bool:=jj h&&decide ((dv (cS h)).2.2=0)
def uC (h:dh):List bf:=if gq h then mu h else []
def oZ (h:dh):List aO:=if gq h then cS h else []
def pa (h:dh):aA:=if gq h then gI (cS h) else []
theorem Ao (hq:gq h=false):uC h=[]∧oZ h=[]∧pa h=[]:=by unfold uC oZ pa;simp[hq]
theorem wU (hq:gq h=true):uC h=mu h∧oZ h=cS h∧pa h=gI (cS h):=by unfold uC oZ pa;simp[hq]
theorem Zs {h:dh} (he:¬lE h=0):gq h=false:=by
 unfold gq
 cases hr:jj h with
 |false=>rfl
 |true=>exact absurd (tD hr).2.2 he
theorem ae8 {h:dh} (he:lE h=0):jj h=true:=by
 cases hr:jj h with
 |true=>rfl
 |false=>rw[(xG hr).2.2] at he;cases he
theorem Zr (he:¬(dv (cS h)).2.2=0):gq h=false:=by unfold gq;rw[ank he];simp
theorem abx (he:lE h=0) (hc:(dv (cS h)).2.2=0):gq h=true:=by unfold gq;rw[ae8 he,anh hc];rfl
theorem Ms {aF:List aO}:∀x∈gI aF,x<((aF.length:Nat):Int):=by
 intro x hx
 unfold gI at hx
 obtain⟨y,hy,rfl⟩:=anZ.1 hx
 have:=(NA (aF:=aF) (x:=y) J).2.2.2.1
 exact this
def Ll (fo:aA) (a b:Nat):Bool:=decide (fo.getD b (-1)=((a:Nat):Int))
def oW (U:List aO) (fo:aA):Rows:=cH U.length (Ll fo)
def uB (n:Nat) (fo:aA) (j:Nat):Rows:=cH n fun a b=>decide (b<j)&&Ll fo a b
theorem Zf (n:Nat) (fo:aA):vV ((n:Nat):Int)=uB n fo 0:=by
 rw[yH];exact dN fun a b _ _=>by simp
theorem abl (hl:fo.length=U.length) (hj:fo.length≤j):uB U.length fo j=oW U fo:=
 dN fun a b _ hb=>by rw[anh (show b<j by omega)];rfl
theorem ae1 (hw:fo[((j:Nat):Int).toNat]? =some w) (h:w<0):uB n fo j=uB n fo (j+1):=by
 refine dN fun a b ha hb=>?_
 by_cases e:b=j
 ·subst e
  rw[dP] at hw
  unfold Ll
  rw[ik,hw,ank (show ¬(some w).getD (-1)=((a:Nat):Int) by simp;omega)];simp
 ·have:decide (b<j)=decide (b<j+1):=by rw[aow];omega
  rw[this]
theorem ae2 (h0:0≤w) (hw:w<((n:Nat):Int)) (hj:j<n):kC ((n:Nat):Int) [w,((j:Nat):Int)]=true:=jm.2 aj
theorem abj (hw:fo[((j:Nat):Int).toNat]? =some w) (h0:0≤w) (h1:w<((n:Nat):Int)) (hj:j<n):rO (uB n fo j) (w,((j:Nat):Int))=uB n fo (j+1):=by
 unfold uB
 rw[Cv (ae2 h0 h1 hj)]
 refine dN fun a b ha hb=>?_
 rw[dP] at hw ⊢
 by_cases e:b=j
 ·subst e
  rw[ank (ape b),anh (aoF b),anh rfl]
  unfold Ll
  rw[ik,hw]
  show (false&&_||decide (a=w.toNat)&&true)=(true&&decide (w=((a:Nat):Int)))
  rw[ap_,ao4,aqf,an_,aow]
  omega
 ·rw[ank e,ap',aoI]
  have:decide (b<j)=decide (b<j+1):=by rw[aow];omega
  rw[this]
theorem abk {xs:Rows} {x:Row} (hs:xs=uB n fo j) (hw:fo[((j:Nat):Int).toNat]? =some w) (h0:0≤w) (h1:w<((n:Nat):Int)) (hj:j<n) (hx:xs[w.toNat]? =some x):xs.set w.toNat (ej x ((j:Nat):Int))=uB n fo (j+1):=by
 rw[HL hx,hs];exact abj hw h0 h1 hj
theorem US (n:Nat) (fo:aA) (j:Nat):(uB n fo j).length=n:=mj _ _
theorem Zh (U:List aO) (fo:aA):(oW U fo).length=U.length:=mj _ _
theorem Zg (h:n≤4096) (fo:aA) (j:Nat):(((uB n fo j).length:Nat):Int)=((n:Nat):Int)∧∀x∈uB n fo j,x.length≤1000000000:=⟨by rw[US],Bo h⟩
theorem GB (h:n≤4096) (P:hG):(((cH n P).length:Nat):Int)=((n:Nat):Int)∧∀x∈cH n P,x.length≤1000000000:=⟨by rw[mj],Bo h⟩
def MB (U:List aO) (fo:aA) (a b:Nat):Bool:=DG U a b||Ll fo a b
def kv (U:List aO) (fo:aA):Rows:=cH U.length (MB U fo)
theorem Yu (U:List aO) (fo:aA):tB ((U.length:Nat):Int) ((U.length:Nat):Int)=((U.length:Nat):Int)∧mi ((U.length:Nat):Int) (oY U) ((U.length:Nat):Int) (oW U fo)=kv U fo:=by
 refine⟨(Ai (ar:=oY U) (br:=oW U fo) J).1,?_⟩
 rw[(Ai rfl).2.1,dP]
 exact Se _ _
def pX (U:List aO) (fo:aA):hG:=cl U.length (MB U fo)
def cu (U:List aO) (fo:aA):Rows:=cH U.length (pX U fo)
theorem Wp (U:List aO) (fo:aA):fj ((U.length:Nat):Int) (kv U fo)=cu U fo:=EL
theorem Mz (fo:aA) (h:U.length≤4096):bK ((U.length:Nat):Int) (kv U fo)=true:=lJ h
theorem pL (fo:aA) (h:U.length≤4096):bK ((U.length:Nat):Int) (cu U fo)=true:=lJ h
end Go.Ew
namespace Go.Ew
def dV (lv:Int):aA:=bif decide (lv=1) then [1,2,3,4] else bif decide (lv=2) then [1,2,3,4]++[5] else bif decide (lv=3) then [1,2,3,4]++[6,7] else []
section
variable (U:List aO) (fo:aA)
def l6 (o:Int):aA:=aX (fX U) (cC U o)
end
section
variable {U:List aO} {fo:aA}
end
end Go.Ew
namespace Go.Ew
section
variable (U:List aO) (fo:aA)
end
section
variable {U:List aO} {fo:aA}
end
end Go.Ew
namespace Go.Ew
section
variable {U:List aO} {fo:aA} {l:List cN}
theorem jt {α:Type} {xs:List α} {j:Nat} {x z:α} (h:xs[((j:Nat):Int).toNat]? =some x):xs.getD j z=x:=by
 rw[dP] at h
 rw[ik,h];rfl
end

section
variable {α:Type} {l:List α} {p:α→Bool} {q:Nat→Bool} {j n:Nat} {x:α}
end
section
variable {l:List cN} {j:Nat} {s:cN} {ys:List Bool} {x:Bool}
end
section
variable {U:List aO} {fo:aA} {l:List cN}
end
end Go.Ew
namespace Go.Ew
def fJ (a b:Int):Int:=bif decide (a<b) then -1 else bif decide (b<a) then 1 else 0
def CN:aA→Int
 |[]=>0
 |x::r=>if x=0 then CN r else x
abbrev ep:=Int×Int×Int
def yb (x y:ep):Int:=CN [fJ x.1 y.1,fJ x.2.1 y.2.1,fJ x.2.2 y.2.2]
theorem Ov:∀{l:aA} {j:Nat} {x:Int},(∀y∈l.take j,y=0)→l[j]? =some x→¬x=0→CN l=x
 |[],j,x,_,h,_=>by simp at h
 |a::l,0,x,_,h,hx=>by
  simp only[anq,ann] at h
  subst h
  exact anf hx
 |a::l,j+1,x,hs,h,hx=>by
  simp only[anv] at h
  show (if a=0 then CN l else a)=x
  rw[anc (hs a (by simp)),Ov (fun y hy=>hs y (by simp[hy])) h hx]
theorem Lu:∀{l:aA},(∀y∈l,y=0)→CN l=0
 |[],_=>rfl
 |a::l,h=>by
  show (if a=0 then CN l else a)=0
  rw[anc (h a (by simp)),Lu (fun y hy=>h y (by simp[hy]))]
theorem YO {l:aA} {j:Nat} {x:Int} (hs:∀y∈l.take j,y=0) (hx:l[((j:Nat):Int).toNat]? =some x) (h:x=0):∀y∈l.take (j+1),y=0:=by
 rw[dP] at hx
 intro y hy
 rw[anH,hx] at hy
 rcases anx.1 hy with hy|hy
 ·exact hs y hy
 ·simp at hy;rw[hy];exact h
theorem F1 (a b:Int):aJ (fJ a b):=by
 unfold fJ aJ
 cases decide (a<b)<;>cases decide (b<a)<;>simp
end Go.Ew
namespace Go.Ew
open Go.RowKit
def pK (a:Option Addr) (c lo:Nat):Option Addr:=if c=lo then a else a.map (·.add (lo*3))
theorem zM {α:Type} [GT α] {M:bW} {w:aH}:∀(k:Nat) {xs:List α} {cs:List Value},bA M w cs xs→bA M w (cs.take (k*GT.size α)) (xs.take k)∧bA M w (cs.drop (k*GT.size α)) (xs.drop k)
 |0,xs,cs,h=>⟨by rw[apH,ao',ao'];rfl,by simpa using h⟩
 |k+1,[],cs,h=>by
  rw[show cs=[] from h]
  exact⟨by simp[bA],by simp[bA]⟩
 |k+1,x::xs,cs,h=>by
  obtain⟨c1,c2,rfl,h2,h3⟩:=h
  obtain⟨i1,i2⟩:=zM k h3
  have e:=GT.len h2
  have e1:(k+1)*GT.size α=c1.length+k*GT.size α:=by rw[an2,e];omega
  refine⟨⟨c1,c2.take (k*GT.size α),?_,h2,i1⟩,?_⟩
  ·rw[e1,List.take_length_add_append]
  ·rw[e1,List.drop_length_add_append];exact i2
theorem aeJ (n:Nat):(Builtin.zeroCells #[Value.int .i64 0,Value.int .i64 0,Value.int .i64 0] n).toList=List.replicate (n*3) (Value.int .i64 0):=by
 unfold Builtin.zeroCells
 apply anL
 intro i
 simp only[Array.toList_map,anl,Array.toList_range,an6]
 by_cases h:i<n*3
 ·rw[aob (by simpa using h),anc h]
  have:i%3=0∨i%3=1∨i%3=2:=by omega
  rcases this with h|h|h<;>simp[h]
 ·rw[anp (by simpa using h),anf h];rfl
theorem VF:aJ 0:=by unfold aJ;omega
theorem Ip {M:bW} {w:aH}:∀n,bA M w (List.replicate (n*3) (Value.int .i64 0)) (List.replicate n ((0,0,0):ep))
 |0=>rfl
 |n+1=>⟨[.int .i64 0,.int .i64 0,.int .i64 0],List.replicate (n*3) (.int .i64 0),by rw[show (n+1)*3=n*3+1+1+1 by omega,an4,an4,an4];rfl,⟨[_],[_,_],rfl,⟨rfl,VF⟩,[_],[_],rfl,⟨rfl,VF⟩,rfl,VF⟩,Ip n⟩
section
variable {P:Program} {n:Nat} {ops:Array Oper} {f:aN} {w:aH} {K:aN→aH→Prop} {x y:Operand} {d:Nat} {ty T e:TypeId} {ps:String} {af:Array Edge} {v u:Value} {M M0:bW} {w0:aH} {l:List Item} {bytes:Nat} {z:Value} {B:Nat} {kk:IntKind} {agg:Bool} {xs ys:List ep} {a:Option Addr} {k c:Nat}
theorem wH (hO:(own B e (.slice a k c) xs).holds M w):k=xs.length∧xs.length≤c:=by
 obtain⟨cs,h1,h2⟩:=hO
 rcases h1.2 with ⟨h3,h4⟩|⟨g,cap,cur,h3,h4,h5,h6,h7⟩
 ·cases h3;omega
 ·cases h3;exact⟨rfl,h6⟩
theorem UI {lo:Int} {rD:Operand} (hO:(own B e (.slice a k c) xs).holds M w) (ox:bI n x=true) (ol:bI n rD=true) (hx:ev f x=.slice a k c) (hl:ev f rD=.int kk lo) (hb:0≤lo∧lo≤xs.length) (hu:P.underlying T=some (.slice e)) (F:ef P e 3 agg bytes z)
  (h:K (ck f d (.slice (pK a c lo.toNat) (k-lo.toNat) (c-lo.toNat))) w):
  SO P n ops ⟨some d,.slice T x (some rD) none none,ty,ps,af,none⟩ f w K:=by
 obtain⟨hk,hc⟩:=wH hO
 refine SO.value (v:=.slice (pK a c lo.toNat) (k-lo.toNat) (c-lo.toNat)) (w':=w) ?_ h
 have vq:P.underlying T=some (.slice (P.elem T)):=by rw[hu];simp[Program.elem,hu]
 have uI:P.elem T=e:=by simp[Program.elem,hu]
 simp[execOp,aL ox,aL ol,hx,hl,Instr.sliceAt,gP hu]
 have:=run_slice_l (P:=P) (w:=w) T a k c vq kk lo hb.1 aj
 rw[uI,F.jr] at this
 simp[this,sliced,pK]
theorem aeY {hi:Int} {px:Operand} (hO:(own B e (.slice a k c) xs).holds M w) (ox:bI n x=true) (oh:bI n px=true) (hx:ev f x=.slice a k c) (hh:ev f px=.int kk hi) (hb:0≤hi∧hi≤xs.length) (hu:P.underlying T=some (.slice e)) (F:ef P e 3 agg bytes z)
  (h:K (ck f d (.slice (pK a c 0) hi.toNat c)) w):
  SO P n ops ⟨some d,.slice T x none (some px) none,ty,ps,af,none⟩ f w K:=by
 obtain⟨hk,hc⟩:=wH hO
 refine SO.value (v:=.slice (pK a c 0) hi.toNat c) (w':=w) ?_ h
 have vq:P.underlying T=some (.slice (P.elem T)):=by rw[hu];simp[Program.elem,hu]
 have uI:P.elem T=e:=by simp[Program.elem,hu]
 simp[execOp,aL ox,aL oh,hx,hh,Instr.sliceAt,gP hu]
 have:=run_slice_h (P:=P) (w:=w) T a k c vq kk hi hb.1 aj
 rw[uI,F.jr] at this
 simp[this,sliced,pK]
theorem RB {hi:Int} {px:Operand} (H:HI M0 w0 w l) (i:Nat) (pR:l[i]? =some (own B e (.slice a k c) xs)) (ox:bI n x=true) (oh:bI n px=true) (hx:ev f x=.slice a k c) (hh:ev f px=.int kk hi) (hb:0≤hi∧hi≤xs.length) (hu:P.underlying T=some (.slice e)) (F:ef P e 3 agg bytes z)
  (h:HI M0 w0 w (l.set i (own B e (.slice a (xs.take hi.toNat).length c) (xs.take hi.toNat)))→K (ck f d (.slice a (xs.take hi.toNat).length c)) w):
  SO P n ops ⟨some d,.slice T x none (some px) none,ty,ps,af,none⟩ f w K:=by
 have hO:=H.at_ i pR
 have jN:=(dE.1 pR).1
 have hlen:(xs.take hi.toNat).length=hi.toNat:=by simp;omega
 have FH:pK a c 0=a:=by
  unfold pK
  split
  ·rfl
  ·obtain⟨cs,h1,h2⟩:=hO
   rcases h1.2 with ⟨h3,h4⟩|⟨g,cap,cur,h3,h4⟩
   ·cases h3;rfl
   ·cases h3
    show some (Addr.add _ (0*3))=_
    rw[F_]
 refine aeY hO ox oh hx hh hb hu F ?_
 rw[FH]
 rw[hlen] at h
 refine h ?_
 refine H.weaken ?_ ?_
 ·apply anL
  intro j
  rw[anl,anl]
  by_cases hj:i=j
  ·subst hj;rw[ano jN,pR];cases a<;>rfl
  ·rw[anD hj]
 ·intro j it nG hj rG M S0
  by_cases qC:i=j
  ·subst qC
   rw[ano jN] at rG
   rw[pR] at hj
   cases hj;cases rG
   obtain⟨cs,h1,h2⟩:=S0
   have rZ:=bA.length h2
   have Au:GT.size ep=3:=rfl
   have q:=(zM hi.toNat h2).1
   rw[Au] at q rZ
   refine⟨cs.take (hi.toNat*3),⟨by rw[hlen,Au,iB];omega,?_⟩,q⟩
   rcases h1.2 with ⟨h3,h4⟩|⟨g,cap,cur,h3,h4,h5,h6,h7,h8,h9⟩
   ·cases h3
    refine .inl ⟨by rw[show hi.toNat=0 from by omega],by rw[hlen];omega⟩
   ·cases h3
    refine .inr ⟨g,c,cur,by rw[hlen],h4,h5,by omega,h7,h8,?_⟩
    rw[Au] at h9
    rw[←h9,hlen,Au,aoJ]
    congr 1
    omega
  ·rw[anD qC,hj] at rG;cases rG;exact S0
theorem clE (H:HI M0 w0 w l) (i:Nat) (hi:l[i]? =some (own B e (.slice a k c) xs)) (hB:B=w0.heap.size) (ox:bI n x=true) {q:Nat} (hx:ev f x=.slice (pK a c q) (k-q) (c-q))
  (hu:P.underlying T=some (.slice e)) (F:ef P e 3 agg bytes (.agg #[.int .i64 0,.int .i64 0,.int .i64 0])) (hq:q≤xs.length)
  (h:∀w',HI M0 w0 w' (l.set i (own B e (.slice a k c) (xs.take q++List.replicate (xs.length-q) (0,0,0))))→K f w'):
  SO P n ops ⟨none,.call {callee:=.builtin .clear,args:=#[x],argTypes:=#[T]},ty,ps,af,none⟩ f w K:=by
 subst hB
 have hO:=H.at_ i hi
 have jN:=(dE.1 hi).1
 obtain⟨hk,hc⟩:=wH hO
 obtain⟨cs,h1,h2⟩:=hO
 have Au:GT.size ep=3:=rfl
 by_cases nI:q=xs.length
 ·have hz:k-q=0:=by omega
  refine SO.value (d:=none) (v:=.tuple #[]) (w':=w) ?_<|h w ?_
  ·have Av:(Builtin.clear_ #[T] ty #[.slice (pK a c q) 0 (c-q)]).run P w=.ok (.tuple #[]) w:=by
    cases hca:pK a c q<;>simp[Builtin.clear_,run_underlying hu]
   rw[hz] at hx
   simp[execOp,resolve,invoke,builtin,aL ox,hx,Av]
  ·have e9:xs.take q++List.replicate (xs.length-q) (0,0,0)=xs:=by rw[nI];simp
   rw[e9]
   have:l.set i (own w0.heap.size e (.slice a k c) xs)=l:=by
    apply anL
    intro j
    by_cases hj:i=j
    ·subst hj;rw[ano jN,hi]
    ·rw[anD hj]
   rw[this];exact H
 ·rcases h1.2 with ⟨h0,h3⟩|⟨g',c1,cur,h0,h3,h4,h5,h6,h7,h8⟩
  ·omega
  ·cases h0
   have pQ:cur.size=c*3:=by rw[h7,Au]
   have S7:pK (some ⟨g',0,none⟩) c q=some ⟨g',q*3,none⟩:=by unfold pK;rw[anf aj];show some (Addr.add _<|q*3)=_;rw[F_]
   rw[S7] at hx
   have rZ:=bA.length h2
   rw[Au] at rZ h8
   have hz:bA (MS M0 l) w (List.replicate ((xs.length-q)*3) (Value.int .i64 0)) (List.replicate (xs.length-q) ((0,0,0):ep)):=Ip _
   have qV:=run_storeCells_at P g' (q*3) e (List.replicate ((xs.length-q)*3)<|Value.int .i64 0) 0 cur w h4 (by rw[oG];omega)<|bA.Bi hz
   refine SO.value (d:=none) (v:=.tuple #[]) (w':=w.setRow g' (cur.toList.take (q*3)++List.replicate ((xs.length-q)*3) (Value.int .i64 0)++cur.toList.drop (q*3+(List.replicate ((xs.length-q)*3)<|Value.int .i64 0).length)).toArray) ?_<|h _ ?_
   ·obtain⟨m,hm⟩:∃m,xs.length-q=m+1:=⟨xs.length-q-1,by omega⟩
    have Av:(Builtin.clear_ #[T] ty #[.slice (some ⟨g',q*3,none⟩) (xs.length-q) (c-q)]).run P w=.ok (.tuple #[]) (w.setRow g' (cur.toList.take (q*3)++List.replicate ((xs.length-q)*3) (Value.int .i64 0)++cur.toList.drop (q*3+(List.replicate ((xs.length-q)*3) (Value.int .i64 0)).length)).toArray):=by
     have r5:(Builtin.zeroCells (Value.agg #[.int .i64 0,.int .i64 0,.int .i64 0]).cells (xs.length-q)).toList=List.replicate ((xs.length-q)*3) (Value.int .i64 0):=aeJ _
     rw[anR] at qV
     rw[hm] at qV r5 ⊢
     simp[Builtin.clear_,run_underlying hu,F.uw,r5,qV]
    simp[execOp,resolve,invoke,builtin,aL ox,hx,Av]
   ·have XO:(List.replicate ((xs.length-q)*3) (Value.int .i64 0)).length=(xs.length-q)*3:=oG
    have GW:(xs.take q++List.replicate (xs.length-q) ((0,0,0):ep)).length=xs.length:=by simp;omega
    have acR:cur.toList.length=c*3:=by simpa using pQ
    refine H.vR i hi J J J (by simp) (ane _) (fun q' XQ gA=>setRow_other w g' q' _<|fun e=>gA<|by rw[e];rfl) ?_ ?_
    ·intro b hb
     refine⟨?_,.inl hb⟩
     rw[size_setRow]
     exact(H.ju _ (dC hi) b hb).2
    ·have qU:Up (MS M0 l) w (MS M0 (l.set i (own w0.heap.size e (Value.slice (some ⟨g',0,none⟩) xs.length c) (xs.take q++List.replicate (xs.length-q) (0,0,0))))) (w.setRow g' (cur.toList.take (q*3)++List.replicate ((xs.length-q)*3) (Value.int .i64 0)++cur.toList.drop (q*3+(List.replicate ((xs.length-q)*3) (Value.int .i64 0)).length)).toArray):=by
      refine⟨by simp,fun b hb hM=>⟨setRow_other w g' b _ (fun e=>hM<|.inr ⟨_,dC hi,by rw[e];rfl⟩),?_⟩⟩
      rintro(Df|⟨it,hit,ml⟩)
      ·exact hM<|.inl Df
      ·rcases an1 hit with hit|rfl
       ·exact hM<|.inr ⟨it,hit,ml⟩
       ·exact hM<|.inr ⟨_,dC hi,ml⟩
     have qc:=(zM q h2).1
     rw[Au] at qc
     refine⟨cs.take (q*3)++List.replicate ((xs.length-q)*3) (Value.int .i64 0),⟨by rw[GW,Au,fF,iB,XO];omega,.inr ⟨g',c,_,by rw[GW],h3,setRow_heap w g' cur _ e _ h4,by omega,h6,?_,?_⟩⟩,?_⟩
     ·simp only[aoK,fF,iB,anz,Au,XO]
      omega
     ·rw[GW]
      show (cur.toList.take (q*3)++List.replicate ((xs.length-q)*3) (Value.int .i64 0)++cur.toList.drop (q*3+(List.replicate ((xs.length-q)*3) (Value.int .i64 0)).length)).take (xs.length*3)=_
      rw[aom (by rw[fF,iB,XO];omega),anj (by rw[fF,iB,XO];omega),←h8,aoJ,aof aj]
     ·exact bA.append (bA.lift qU qc)<|Ip _
end
end Go.Ew
namespace Go.Ew
open Go.RowKit
section
variable {P:Program} {n:Nat} {ops:Array Oper} {f:aN} {w:aH} {K:aN→aH→Prop} {x y:Operand} {d:Nat} {ty T e:TypeId} {ps:String} {af:Array Edge} {v u:Value} {M M0:bW} {w0:aH} {l:List Item} {bytes:Nat} {z:Value} {B:Nat} {kk:IntKind} {agg:Bool} {xs ys:List ep} {a:Option Addr} {k c:Nat}
theorem TP {q:Nat} {i:Int} (hO:(own B e (.slice a k c) xs).holds M w0) (hi:0≤i∧i<((k-q:Nat):Int)):
  ∃g,a=some ⟨g,0,none⟩∧pK a c q=some ⟨g,q*3,none⟩∧q+i.toNat<xs.length∧∀xv,xs[q+i.toNat]? =some xv→hQ M w0 ⟨g,q*3+i.toNat*3,none⟩ xv:=by
 obtain⟨hk,hc⟩:=wH hO
 have h0:=hO
 obtain⟨cs,h1,h2⟩:=hO
 rcases h1.2 with ⟨h3,h4⟩|⟨g',c1,cur,h3,h4⟩
 ·omega
 ·cases h3
  refine⟨g',J,?_,by omega,fun xv hx=>?_⟩
  ·unfold pK;rw[anf aj];show some (Addr.add _ (q*3))=_;rw[F_]
  ·have:=abp h0 J hx
   rwa [show (q+i.toNat)*GT.size ep=q*3+i.toNat*3 from by show (q+i.toNat)*3=_;omega] at this
theorem RW {K:aN→Prop} {rest:de} {q:Nat} {i:Int} (hO:(own B e (.slice a k c) xs).holds M w0) (ox:bI n x=true) (oy:bI n y=true) (hx:ev f x=.slice (pK a c q) (k-q) (c-q)) (hy:ev f y=.int kk i) (hi:0≤i∧i<((k-q:Nat):Int)) (hu:P.underlying T=some (.slice e)) (F:ef P e 3 agg bytes z)
  (h:∀ad xv,xs[q+i.toNat]? =some xv→hQ M w0 ad xv→PW P n ops w0 K rest (ck f d (.pointer (some ad)))):PW P n ops w0 K (⟨some d,.indexAddr T x y,ty,ps,af,none⟩::rest) f:=by
 obtain⟨g,rfl,FH,eo,hat⟩:=TP hO hi
 rw[FH] at hx
 have lA:(⟨g,q*3,none⟩:Addr).add (i.toNat*3)=⟨g,q*3+i.toNat*3,none⟩:=by unfold Addr.add;split<;>simp_all
 refine⟨.pointer (some ⟨g,q*3+i.toNat*3,none⟩),fun w hw=>SO.value (v:=.pointer (some ⟨g,q*3+i.toNat*3,none⟩)) (w':=w) ?_ ⟨J,Ext.refl w⟩,h _ xs[q+i.toNat] (eI eo) (hat _<|eI eo)⟩
 have hb:0≤i∧i<((k-q:Nat):Int):=hi
 simp[execOp,aL ox,aL oy,hx,hy,Instr.indexAt,asIntOf,gP hu,hb,F.jr,lA]
theorem ahX {q:Nat} {i:Int} (hO:(own B e (.slice a k c) xs).holds M w) (ox:bI n x=true) (oy:bI n y=true) (hx:ev f x=.slice (pK a c q) (k-q) (c-q)) (hy:ev f y=.int kk i) (hi:0≤i∧i<((k-q:Nat):Int)) (hu:P.underlying T=some (.slice e)) (F:ef P e 3 agg bytes z)
  (h:∀ad xv,xs[q+i.toNat]? =some xv→hQ M w ad xv→K (ck f d (.pointer (some ad))) w):SO P n ops ⟨some d,.indexAddr T x y,ty,ps,af,none⟩ f w K:=by
 obtain⟨g,rfl,FH,eo,hat⟩:=TP hO hi
 rw[FH] at hx
 have lA:(⟨g,q*3,none⟩:Addr).add (i.toNat*3)=⟨g,q*3+i.toNat*3,none⟩:=by unfold Addr.add;split<;>simp_all
 refine SO.value (v:=.pointer (some ⟨g,q*3+i.toNat*3,none⟩)) (w':=w) ?_<|h _ xs[q+i.toNat] (eI eo)<|hat _<|eI eo
 have hb:0≤i∧i<((k-q:Nat):Int):=hi
 simp[execOp,aL ox,aL oy,hx,hy,Instr.indexAt,asIntOf,gP hu,hb,F.jr,lA]
end
end Go.Ew
namespace Go.Ew
open Go.RowKit
section
variable {α:Type} [GT α] {B:Nat} {E:TypeId} {ss:List SV} {ID:List (List α)} {l:List Item} {M0:bW} {w0 w w':aH} {s s':SV} {y:List α} {j:Nat} {e:TypeId}
theorem UM (hs:ss[j]? =some s):(l++aU B e ss ID).set (l.length+j) (own B e s'.v y)=l++aU B e (ss.set j s') (ID.set j y):=by
 rw[aos _ _ aj,show l.length+j-l.length=j from by omega]
 congr 1
 unfold aU
 apply anL
 intro i
 rw[an7,aoC,aoC,an7,an7,List.length_zipWith]
 have hl:=(dE.1 hs).1
 by_cases e:j=i
 ·subst e
  by_cases hx:j<ID.length
  ·rw[anc rfl,anc rfl,anc rfl,anc aj,anc hl,anc hx]
  ·rw[anc rfl,anc rfl,anc rfl,anf aj,anc hl,anf hx]
 ·rw[anf e,anf e,anf e]
theorem HI.Xk (H:HI M0 w0 w l) (e:TypeId):∀m:Nat,HI M0 w0 w (l++aU w0.heap.size e (List.replicate m (⟨none,0,0⟩:SV)) (List.replicate m ([]:List α)))
 |0=>by
  have:l++aU w0.heap.size e (List.replicate 0 (⟨none,0,0⟩:SV)) (List.replicate 0 ([]:List α))=l:=by unfold aU;simp
  rw[this];exact H
 |m+1=>by
  have h1:=(HI.Xk H e m).ql α e
  exact h1.perm List.perm_middle
theorem ahH (M:bW) (w:aH):GT.rep M w (Value.slice none 0 0).cells.toList (⟨none,0,0⟩:SV):=rfl
end
section
variable {P:Program} {n:Nat} {ops:Array Oper} {f:aN} {w w0:aH} {K:aN→aH→Prop} {M0:bW} {l:List Item} {x y:Operand} {d:Nat} {ty T e:TypeId} {ps:String} {af:Array Edge} {bytes:Nat} {z:Value} {agg:Bool} {u:Value}
theorem apR {α:Type} [GT α] {ID:List (List α)} {ss:List SV} {xs ys:List α} {s:SV} {j B:Nat} (H:HI M0 w0 w (l++aU B e ss ID)) (hs:ss[j]? =some s) (hr:ID[j]? =some xs) (hB:B=w0.heap.size) (ox:bI n x=true) (oy:bI n y=true) (hx:ev f x=s.v) (hy:ev f y=u)
  (hS:Src (MS M0 (l++aU B e ss ID)) w u ys) (hu:P.underlying T=some (.slice e)) (F:ef P e (GT.size α) agg bytes z) (hz:z.cells.size=GT.size α) (hl:(xs.length+ys.length)*bytes≤140737488355328) (og:Nat.ble 1 bytes=true)
  (h:∀a c w',HI M0 w0 w' (l++aU B e (ss.set j (⟨a,(xs++ys).length,c⟩:SV)) (ID.set j (xs++ys)))→K (ck f d (.slice a (xs++ys).length c)) w'):
  SO P n ops ⟨some d,.call {callee:=.builtin .append,args:=#[x,y],argTypes:=#[T,T]},ty,ps,af,none⟩ f w K:=
 lY H (l.length+j) (oV hs hr) hB ox oy hx hy hS hu F hz hl og fun a c w' h'=>h a c w' (by rw[←UM (s':=(⟨a,(xs++ys).length,c⟩:SV)) hs];exact h')
end
section
variable {P:Program} {n:Nat} {ops:Array Oper} {f:aN} {w0:aH} {K:aN→Prop} {M:bW} {ad:Addr} {T:TypeId} {bytes:Nat} {z:Value} {x:Operand} {d:Nat} {ty:TypeId} {ps:String} {af:Array Edge} {rest:de}
theorem Xl {s:SV} (hA:hQ M w0 ad s) (F:ef P T 1 false bytes z) (ox:bI n x=true) (hx:ev f x=.pointer (some ad)) (h:PW P n ops w0 K rest (ck f d s.v)):PW P n ops w0 K (⟨some d,.load T x,ty,ps,af,none⟩::rest) f:=
 tz hA F ox hx fun v hv=>by rw[RV.sv.1 hv];exact h
end
end Go.Ew
namespace Go.Ew
variable {p:Nat→Bool} {j:Nat}
def dq (U:List aO) (n:Int) (rs:Rows) (r:Int):aA:=aX (iQ U (qq U r)) (eY n rs r)
section
variable (U:List aO) (fo:aA) (n:Int) (rs:Rows)
def vF (r:Nat):Bool:=decide (fo.getD r 0= -1)&&decide (0<(((dq U n rs ((r:Nat):Int)).length:Nat):Int))
def AI:Option Nat:=(List.range fo.length).find? (vF U fo n rs)
end
theorem D6 {n:Nat} (hs:∀q,q<j→p q=false) (hj:j<n) (h:p j=true):(List.range n).find? p=some j:=by
 rw[List.find?_range_eq_some]
 refine⟨h,ang.2 hj,fun q hq=>?_⟩
 rw[hs q hq];rfl
theorem BG {n:Nat} (hs:∀q,q<j→p q=false) (hj:n≤j):(List.range n).find? p=none:=by
 rw[aoH]
 intro q hq
 rw[hs q (anK (ang.1 hq) hj)];decide
theorem sG (hs:∀q,q<j→p q=false) (h:p j=false):∀q,q<j+1→p q=false:=by
 intro q hq
 by_cases e:q=j
 ·rw[e];exact h
 ·exact hs q aj
theorem Mi {l:aA} {x:Int} (h:l[(0:Int).toNat]? =some x):l.headD 0=x:=by
 cases l with
 |nil=>simp at h
 |cons a l=>simp at h;exact h
def zP (n:Int) (rs:Rows) (a k:Int):Bool:=!decide (k=a)&&eK n rs a k
section
variable (U:List aO) (fo:aA) (n:Int) (rs:Rows)
def zQ (r:Nat):Option Int:=(dq U n rs ((r:Nat):Int)).find? (zP n rs (fo.getD r 0))
def wa (r:Nat):Bool:=!decide (fo.getD r 0<0)&&(zQ U fo n rs r).isSome
def F6:Option Nat:=(List.range fo.length).find? (wa U fo n rs)
end
theorem OI {α:Type} {l:List α} {p:α→Bool} {x:α} (hs:∀y∈l.take j,p y=false) (hx:l[((j:Nat):Int).toNat]? =some x) (h:p x=false):∀y∈l.take (j+1),p y=false:=by
 rw[dP] at hx
 intro y hy
 rw[anH,hx] at hy
 rcases anx.1 hy with hy|hy
 ·exact hs y hy
 ·simp at hy;rw[hy];exact h
theorem abQ {α:Type} {p:α→Bool}:∀{l:List α} {j:Nat} {x:α},(∀y∈l.take j,p y=false)→l[((j:Nat):Int).toNat]? =some x→p x=true→l.find? p=some x:=by
 intro l j x hs hx h
 rw[dP] at hx
 have hj:=(dE.1 hx).1
 have e:l=l.take j++x::l.drop (j+1):=by
  rw[←(dE.1 hx).2,apU,aor]
 rw[e,List.find?_append,aoH.2 (fun y hy=>by rw[hs y hy];decide),List.find?_cons_of_pos h];rfl
theorem ZF {α:Type} {l:List α} {p:α→Bool} (hs:∀y∈l.take j,p y=false) (hj:l.length≤j):l.find? p=none:=by
 rw[anj hj] at hs
 exact aoH.2 fun y hy=>by rw[hs y hy];decide
theorem ad9 {U:List aO} {fo:aA} {n:Int} {rs:Rows} {j q:Nat} {a x:Int} (hs:∀q,q<j→wa U fo n rs q=false) (hj:j<fo.length) (aM:fo[((j:Nat):Int).toNat]? =some a) (h0:decide (a<0)=false)
  (gK:∀y∈(dq U n rs (j:Int)).take q,zP n rs a y=false) (cQ:(dq U n rs (j:Int))[((q:Nat):Int).toNat]? =some x) (h1:decide (x=a)=false) (h2:eK n rs a x=true):
  F6 U fo n rs=some j∧zQ U fo n rs j=some x∧fo.getD j 0=a:=by
 have hq:zP n rs a x=true:=by unfold zP;rw[h1,h2];rfl
 have hk:zQ U fo n rs j=some x:=by unfold zQ;rw[jt aM];exact abQ gK cQ hq
 refine⟨D6 hs hj ?_,hk,jt aM⟩
 unfold wa
 rw[jt aM,h0,hk];rfl
theorem ad8 {U:List aO} {fo:aA} {n:Int} {rs:Rows} {a:Int} (hs:∀q,q<j→wa U fo n rs q=false) (aM:fo[((j:Nat):Int).toNat]? =some a) (h0:decide (a<0)=true):∀q,q<j+1→wa U fo n rs q=false:=
 sG hs (by unfold wa;rw[jt aM,h0];rfl)
theorem WM {U:List aO} {fo:aA} {n:Int} {rs:Rows} {j q:Nat} {a:Int} (hs:∀q,q<j→wa U fo n rs q=false) (aM:fo[((j:Nat):Int).toNat]? =some a)
  (gK:∀y∈(dq U n rs (j:Int)).take q,zP n rs a y=false) (hq:(dq U n rs (j:Int)).length≤q):∀q,q<j+1→wa U fo n rs q=false:=
 sG hs (by unfold wa zQ;rw[jt aM,ZF gK hq];simp)
theorem Q5 {n:Int} {rs:Rows} (h:bK n rs=true) (U:List aO) (r:Int):(dq U n rs r).length≤4096:=by
 unfold dq aX
 exact Nat.le_trans (aoc _ _)<|u9 h r
end Go.Ew
namespace Go.Ew
open Go.RowKit Go.Sort Go.Proofs
variable {w:aH} {g:Nat}
section
variable {β:Type} [Inhabited β] {enc:β→List Value} {k:Nat}
theorem Tn (hk:∀x,(enc x).length=k) (hp:0<k):∀(xs:List β) (t:Nat),t<xs.length*k→(xs.flatMap enc)[t]! =(enc xs[t/k]!)[t%k]!
 |[],t,h=>by simp at h
 |x::xs,t,h=>by
  rw[aoL]
  by_cases ht:t<k
  ·rw[apq ht,apo ht,List.getElem!_cons_zero,aoA,aoA,nM (by rw[hk];exact ht)]
  ·have h2:t-k<xs.length*k:=by rw[iI,an2] at h;omega
   have e1:t/k=(t-k)/k+1:=by rw[show t=(t-k)+k by omega,Nat.add_div_right _ hp];simp
   have e2:t%k=(t-k)%k:=by rw[show t=(t-k)+k by omega,Nat.add_mod_right];simp
   have ih:=Tn hk hp xs (t-k) h2
   rw[e1,e2,List.getElem!_cons_succ,←ih,aoA,aoA,ny (by rw[hk];omega),hk]
theorem Dk (hk:∀x,(enc x).length=k):∀xs:List β,(xs.flatMap enc).length=xs.length*k
 |[]=>by simp
 |x::xs=>by rw[aoL,fF,Dk hk xs,hk,iI,an2];omega
theorem G_ (hk:∀x,(enc x).length=k) (hp:0<k) (d:Array β):flatK enc k d=(d.toList.flatMap enc).toArray:=by
 apply Array.ext
 ·simp[Dk hk]
 ·intro t h1 h2
  have h3:t<d.size*k:=by simpa using h1
  have e1:=get_flatK enc k d t h3
  have e2:=Tn hk hp d.toList t<|by simpa using h3
  rw[aqi (flatK enc k d) t h1] at e1
  rw[aqi (d.toList.flatMap enc) t (by simpa using h2)] at e2
  have e3:d.toList[t/k]! =d[t/k]!:=by
   rw[aoA,aou,Array.getElem!_eq_getD,Array.getD_eq_getD_getElem?]
  rw[e1,List.getElem_toArray,e2,e3]
end
variable {α β:Type} [GT α] [Inhabited β] {val:β→α} {enc:β→List Value}
theorem Hl (h:∀M w cs x,GT.rep M w cs x↔∃b,cs=enc b∧val b=x) {M:bW} {w:aH}:∀{xs:List α} {cs:List Value},bA M w cs xs→∃bs:List β,bs.map val=xs∧cs=bs.flatMap enc
 |[],cs,hc=>⟨[],rfl,hc⟩
 |x::xs,cs,⟨c1,c2,e,h1,h2⟩=>by
  obtain⟨bs,e1,e2⟩:=Hl h h2
  obtain⟨b,e3,e4⟩:=(h _ _ _ _).1 h1
  exact⟨b::bs,by simp[e1,e4],by rw[e,e2,e3];rfl⟩
theorem Hh (h:∀M w cs x,GT.rep M w cs x↔∃b,cs=enc b∧val b=x) {M:bW} {w:aH}:∀bs:List β,bA M w (bs.flatMap enc) (bs.map val)
 |[]=>rfl
 |b::bs=>⟨enc b,bs.flatMap enc,rfl,(h _ _ _ _).2 ⟨b,rfl,rfl⟩,Hh h bs⟩
theorem JY {f:Array Value→Array Value} {cur:Array Value} {e:TypeId} {z:Nat×Nat} (h:w.heap[g]? =some (.cells cur e z)):(mapBlock w g f).heap[g]? =some (.cells (f cur) e z):=by
 simp[mapBlock,Array.getElem?_modify,h,onCells]
theorem HU {c:Nat} {f:Array Value→Array Value} (h:c≠g):(mapBlock w g f).heap[c]? =w.heap[c]?:=by
 simp[mapBlock,Array.getElem?_modify,Ne.symm h]
theorem Rr {M0:bW} {w0:aH} {l:List Item} {i:Nat} {e:TypeId} {cap:Nat} {xs:List α} (h:∀M w cs x,GT.rep M w cs x↔∃b,cs=enc b∧val b=x) (H:HI M0 w0 w l) (hi:l[i]? =some (own w0.heap.size e (.slice (some ⟨g,0,none⟩) xs.length cap) xs)):
  ∃bs:List β,bs.map val=xs∧HoldsK enc (GT.size α) w g 0 bs.toArray∧g<w.heap.size∧
   ∀(ds:List β) n os,ds.length=bs.length→HI M0 w0 (sortWorldK enc (GT.size α) w g 0 n ds.toArray os) (l.set i (own w0.heap.size e (.slice (some ⟨g,0,none⟩) xs.length cap) (ds.map val))):=by
 have hk:∀x:β,(enc x).length=GT.size α:=fun x=>GT.len<|(h (fun _=>True) w (enc x)<|val x).2 ⟨x,J,J⟩
 have hp:0<GT.size α:=GT.pos
 have BA:=dC hi
 obtain⟨cs,⟨hl,ho⟩,hc⟩:=H.all _ BA
 obtain⟨bs,rfl,rfl⟩:=Hl h hc
 have hblk:=H.ju _ BA g J
 rcases ho with ⟨ho, -⟩|⟨g',amE,cur,ho,h1,h2,h3,h4,h5,h6⟩
 ·cases ho
 cases ho
 have hlen:(bs.flatMap enc).length=bs.length*GT.size α:=Dk hk bs
 have pQ:bs.length*GT.size α≤cur.size:=by rw[h5];exact aoe _ (by simpa using h3)
 refine⟨bs,J,?_,hblk.2,?_⟩
 ·intro j hj
  rw[G_ hk hp] at hj ⊢
  have rG:j<bs.length*GT.size α:=by simpa [hlen] using hj
  have xO:j<cur.size:=by omega
  have e1:(bs.flatMap enc)[j]? =some cur[j]:=by
   rw[←h6,anG,anc (by simpa using rG)];simp[xO]
  constructor
  ·simp only[World.cell?,h2,anX,Option.isSome_none]
   rw[aqi _ j (by simpa [hlen] using rG)]
   have e2:(bs.flatMap enc)[j]'aj=cur[j]:=ana<|(eI _).symm.trans e1
   simp[e2,xO]
  ·simp[World.frozen?,h2]
 ·intro ds n os S4
  have hW:(sortWorldK enc (GT.size α) w g 0 n ds.toArray os).heap=(mapBlock (Go.Sort.ahead w n) g (putCells id 0 (ds.flatMap enc).toArray)).heap++os:=by
   simp only[sortWorldK,putRowK,putRow,grow,G_ hk hp]
  have hms:(mapBlock (Go.Sort.ahead w n) g (putCells id 0 (ds.flatMap enc).toArray)).heap.size=w.heap.size:=by simp[mapBlock,Go.Sort.ahead]
  have uH:∀c,c<w.heap.size→(sortWorldK enc (GT.size α) w g 0 n ds.toArray os).heap[c]? =(mapBlock (Go.Sort.ahead w n) g (putCells id 0 (ds.flatMap enc).toArray)).heap[c]?:=by
   intro c hc
   rw[hW,ao5 aj]
  refine H.vR i hi J J J (by rw[hW,aqg];omega) (by simp[sortWorldK,putRowK,putRow,grow,mapBlock,Go.Sort.ahead]) (fun c hcw gA=>?_) (fun b hb=>?_) ?_
  ·rw[uH c hcw]
   exact HU (w:=Go.Sort.ahead w n) fun e=>gA (by rw[e];rfl)
  ·cases hb
   exact⟨by rw[hW,aqg];exact anK hblk.2 aj,.inl rfl⟩
  ·refine⟨ds.flatMap enc,⟨?_,.inr ⟨g,cap,putCells id 0 (ds.flatMap enc).toArray cur,by simp[S4],h1,?_,by simpa [S4] using h3,h4,by simpa [putCells] using h5,?_⟩⟩,Hh h ds⟩
   ·rw[Dk hk,anO]
   ·rw[uH g hblk.2]
    exact JY (w:=Go.Sort.ahead w n) h2
   ·apply anL
    intro j
    have oe:(ds.flatMap enc).length=ds.length*GT.size α:=Dk hk ds
    rw[anG,anO]
    split
    ·rename_i hj
     have xO:j<cur.size:=by rw[S4] at hj;omega
     have hjf:j<(ds.flatMap enc).length:=by omega
     clear hW hms uH
     generalize ds.flatMap enc=F at hjf ⊢
     simp[putCells,xO,hjf]
    ·rw[anp aj]
theorem Ext.grow {w w':aH} (h:Ext w w'):∃q os',w'=Go.Sort.grow (w.drewN q) os':=by
 refine⟨w'.drawn-w.drawn,w'.heap.extract w.heap.size w'.heap.size,?_⟩
 have hh:w'.heap=w.heap++w'.heap.extract w.heap.size w'.heap.size:=by
  apply Array.ext_getElem?
  intro c
  by_cases hc:c<w.heap.size
  ·rw[ao5 hc,h.block c hc]
  ·rw[Array.getElem?_append_right aj,Array.getElem?_extract]
   split
   ·congr 1;omega
   ·exact Array.getElem?_eq_none aj
 have hd:=h.drawn
 obtain⟨h1,h2,h3,h4⟩:_∧_∧_∧_:=⟨h.os,h.tape,h.output,hh⟩
 cases w';cases w
 simp only[Go.Sort.grow,World.drewN] at *
 subst h1 h2 h3
 congr 1
 omega
end Go.Ew
namespace Go.Ew
open Go.RowKit Go.Sort Go.Proofs
def Ch:Type:={x:ep //aJ x.1∧aJ x.2.1∧aJ x.2.2}
instance :Inhabited Ch:=⟨⟨(0,0,0),by simp[aJ],by simp[aJ],by simp[aJ]⟩⟩
def QV (x:Ch):List Value:=[.int .i64 x.1.1,.int .i64 x.1.2.1,.int .i64 x.1.2.2]
def ltE (x y:ep):Bool:=decide (yb x y<0)
theorem Io (a b:Int):(fJ a b<0↔a<b)∧(fJ a b=0↔a=b):=by
 unfold fJ;constructor<;>cases h:decide (a<b)<;>cases k:decide (b<a)<;>simp at h k ⊢<;>omega
theorem Pd (x y:ep):yb x y<0↔x.1<y.1∨x.1=y.1∧(x.2.1<y.2.1∨x.2.1=y.2.1∧x.2.2<y.2.2):=by
 have h1:=Io x.1 y.1
 have h2:=Io x.2.1 y.2.1
 have h3:=Io x.2.2 y.2.2
 simp only[yb,CN]
 repeat' split
 all_goals omega
theorem Wf (M:bW) (w:aH) (cs:List Value) (x:ep):GT.rep M w cs x↔∃b:Ch,cs=QV b∧b.1=x:=by
 obtain⟨a,b,c⟩:=x
 constructor
 ·rintro⟨c1,c2,rfl,⟨rfl,h1⟩,d1,d2,rfl,⟨rfl,h2⟩,rfl,h3⟩
  exact⟨⟨(a,b,c),h1,h2,h3⟩,J,J⟩
 ·rintro⟨⟨⟨a',b',c'⟩,h1,h2,h3⟩,rfl,e⟩
  cases e
  exact⟨[_],[_,_],J,⟨J,h1⟩,[_],[_],J,⟨J,h2⟩,J,h3⟩
theorem aaQ:SWO (ltOf fun x y:Ch=>yb x.1 y.1):=by
 refine⟨fun x=>?_,fun x y z=>?_,fun x y z=>?_⟩<;>simp only[ltOf,anb,anr,Pd]<;>omega
theorem ahF (x y:Ch) (h:(ltOf fun x y:Ch=>yb x.1 y.1) x y=false) (k:(ltOf fun x y:Ch=>yb x.1 y.1) y x=false):x=y:=by
 simp only[ltOf,anr,Pd] at h k
 obtain⟨⟨a,b,c⟩,hx⟩:=x
 obtain⟨⟨a',b',c'⟩,hy⟩:=y
 have e:((a,b,c):ep)=(a',b',c'):=by
  simp only[anS]
  simp only at h k
  omega
 exact Subtype.ext e
def wF (l:List ep):List ep:=l.mergeSort fun x y=>!ltE y x
theorem Ru:wF []=[]:=by unfold wF;simp
theorem Rv (bs:List Ch):wF (bs.map fun b=>b.1)=(bs.mergeSort fun x y=>!(ltOf fun x y:Ch=>yb x.1 y.1) y x).map fun b=>b.1:=by
 refine(List.map_mergeSort fun a _ b _=>?_).symm
 rfl
end Go.Ew
namespace Go.Ew
structure W2 (U:List aO) (fo:aA) (n:Int) (rs:Rows) (e:ep):Prop where
 r0:0≤e.2.2
 r1:e.2.2<((fo.length:Nat):Int)
 fr:fo[e.2.2.toNat]? =some e.2.1
 w0:0≤e.2.1
 ne:e.1≠e.2.1
 ah:e.1∈aX (iQ U (qq U e.2.1)) (eY n rs e.2.2)
def DO (U:List aO) (fo:aA) (n:Int) (rs:Rows) (es:List ep):Prop:=es.length≤4096*fo.length∧∀e,e∈es↔W2 U fo n rs e
section
variable (U:List aO) (fo:aA) (n:Int) (rs:Rows)
def Cf (w r:Int) (l:aA):List ep:=(l.filter fun x=>!decide (x=w)).map fun x=>(x,w,r)
def Dv (r:Nat):List ep:=if fo.getD r (-1)<0 then [] else Cf (fo.getD r (-1)) ((r:Nat):Int) (aX (iQ U (qq U (fo.getD r (-1)))) (eY n rs ((r:Nat):Int)))
def uP (j:Nat):List ep:=(List.range j).flatMap (Dv U fo n rs)
def cK:List ep:=wF (uP U fo n rs fo.length)
end
section
variable {U:List aO} {fo:aA} {n:Int} {rs:Rows} {j q:Nat} {w x v:Int} {es O5:List ep}
theorem Du:uP U fo n rs (j+1)=uP U fo n rs j++Dv U fo n rs j:=by
 unfold uP;rw[aoM,ao0];simp
theorem TF (hw:fo[((j:Nat):Int).toNat]? =some w):fo.getD j (-1)=w:=by
 rw[dP] at hw;rw[ik,hw];rfl
theorem adH (h:es=uP U fo n rs j) (hw:fo[((j:Nat):Int).toNat]? =some w) (h0:w<0):es=uP U fo n rs (j+1):=by
 rw[Du,Dv,TF hw,anc h0,aoB];exact h
theorem Z7 (hv:v=qq U w) (h:es=uP U fo n rs j) (h2:O5=es++Cf w ((j:Nat):Int) ((aX (iQ U v) (eY n rs ((j:Nat):Int))).take q)) (hw:fo[((j:Nat):Int).toNat]? =some w) (h0:¬w<0) (hq:(aX (iQ U v) (eY n rs ((j:Nat):Int))).length≤q):O5=uP U fo n rs (j+1):=by
 rw[Du,Dv,TF hw,anf h0,h2,anj hq,h,hv]
theorem Wg {l:aA} {r:Int} (h:O5=es++Cf w r (l.take q)) (hx:l[((q:Nat):Int).toNat]? =some x) (he:x=w):O5=es++Cf w r (l.take (q+1)):=by
 rw[dP] at hx
 rw[h,anH,hx];unfold Cf;simp[he]
theorem Z6 {l:aA} {r:Int} (h:O5=es++Cf w r (l.take q)) (hx:l[((q:Nat):Int).toNat]? =some x) (he:¬x=w):O5++[(x,w,r)]=es++Cf w r (l.take (q+1)):=by
 rw[dP] at hx
 rw[h,anH,hx];unfold Cf;simp[he]
theorem MA (hr:bK n rs=true):(uP U fo n rs j).length≤4096*j:=by
 induction j with
 |zero=>simp[uP]
 |succ j ih=>
  rw[Du,fF]
  have:(Dv U fo n rs j).length≤4096:=by
   unfold Dv
   split
   ·simp
   ·unfold Cf aX
    rw[anO]
    exact Nat.le_trans (aoc _ _)<|Nat.le_trans (aoc _ _)<|u9 hr _
  omega
theorem Jv:(uP U fo n rs fo.length).length=(cK U fo n rs).length:=by unfold cK wF;rw[List.length_mergeSort]
theorem ri (hr:bK n rs=true):DO U fo n rs (cK U fo n rs):=by
 refine⟨by rw[←Jv];exact MA hr,fun e=>?_⟩
 unfold cK wF
 rw[List.mem_mergeSort]
 unfold uP
 rw[aqn]
 constructor
 ·rintro⟨r,hr,h⟩
  have hr:=ang.1 hr
  unfold Dv at h
  split at h
  ·cases h
  ·rename_i h0
   unfold Cf at h
   rw[anZ] at h
   obtain⟨x,hx,rfl⟩:=h
   rw[ant] at hx
   refine⟨by simp only;omega,by simp only;omega,?_,by simp only;omega,by simpa using hx.2,hx.1⟩
   simp only[dP]
   rw[ik,eI hr];rfl
 ·intro h
  obtain⟨a,b,r⟩:=e
  obtain⟨r0,r1,fr,w0,ne,ah⟩:=h
  simp only at r0 r1 fr w0 ne ah
  refine⟨r.toNat,ang.2 aj,?_⟩
  have e1:fo.getD r.toNat (-1)=b:=by rw[ik,fr];rfl
  have e2:((r.toNat:Nat):Int)=r:=by omega
  unfold Dv Cf
  rw[e1,e2,anf aj,anZ]
  exact⟨a,ant.2 ⟨ah,by simpa using ne⟩,J⟩
end
end Go.Ew
namespace Go.Ew
open Go.RowKit
section
variable {κ ν:Type} [DecidableEq κ]
def fO:List (κ×ν)→κ→Option ν
 |[],_=>none
 |x::xs,k=>if k=x.1 then some x.2 else fO xs k
def lS:List (κ×ν)→κ→ν→List (κ×ν)
 |[],k,v=>[(k,v)]
 |x::xs,k,v=>if k=x.1 then (k,v)::xs else x::lS xs k v
def oq:List (κ×Value)→κ→Nat→Option (Nat×Value)
 |[],_,_=>none
 |x::xs,k,i=>if k=x.1 then some (i,x.2) else oq xs k (i+1)
def mI (ek:κ→Value) (es:List MapEntry) (m:List (κ×Value)):Prop:=es.map (fun e=>(e.key,e.val))=m.map fun x=>(ek x.1,x.2)
def mA (ev:ν→Value) (m:List (κ×ν)):List (κ×Value):=m.map fun x=>(x.1,ev x.2)
theorem Js (ev:ν→Value):∀(m:List (κ×ν)) (k:κ) (i:Nat),(oq (mA ev m) k i).map (·.2)=(fO m k).map ev
 |[],_,_=>rfl
 |x::xs,k,i=>by
  simp only[mA,anA]
  unfold oq fO
  by_cases h:k=x.1
  ·simp[h]
  ·rw[anf h,anf h];exact Js ev xs k (i+1)
theorem Hc (ek:κ→Value) (ev:ν→Value):∀(m:List (κ×ν)) (es:List MapEntry) (k:κ) (i j:Nat) (v:Value),mI ek es (mA ev m)→oq (mA ev m) k i=some (j,v)→
  ∃q e,j=i+q∧es[q]? =some e∧e.key=ek k∧∀(u:ν),mI ek (es.modify q fun e=>{e with key:=ek k,val:=ev u}) (mA ev (lS m k u))
 |[],_,_,_,_,_,_,h=>by cases h
 |x::xs,es,k,i,j,v,hr,h=>by
  match es,hr with
  |[],hr=>simp[mI,mA] at hr
  |e::es,hr=>
   simp only[mI,mA,anA,aoj,anS] at hr
   obtain⟨⟨h1,h2⟩,h3⟩:=hr
   simp only[mA,anA] at h
   unfold oq at h
   split at h
   ·rename_i hk
    simp only[ann,anS] at h
    refine⟨0,e,h.1.symm,J,by rw[h1,hk],fun u=>?_⟩
    unfold lS
    rw[anc hk]
    simp[mI,mA] at h3 ⊢
    exact h3
   ·rename_i hk
    obtain⟨q,e',I_,nI,EB,EA⟩:=Hc ek ev xs es k (i+1) j v h3 h
    refine⟨q+1,e',by omega,by simpa using nI,EB,fun u=>?_⟩
    have:=EA u
    unfold lS
    rw[anf hk]
    simp only[mI,mA,List.modify_succ_cons,anA,aoj,anS]
    exact⟨⟨h1,h2⟩,this⟩
theorem Hd (ek:κ→Value) (ev:ν→Value):∀(m:List (κ×ν)) (es:List MapEntry) (k:κ) (i:Nat),mI ek es (mA ev m)→oq (mA ev m) k i=none→∀(c:Nat) (u:ν),mI ek (es++[⟨ek k,ev u,c⟩]) (mA ev (lS m k u))
 |[],es,k,_,hr,_,c,u=>by
  have:es=[]:=by simpa [mI,mA] using hr
  subst this;simp[mI,mA,lS]
 |x::xs,es,k,i,hr,h,c,u=>by
  match es,hr with
  |[],hr=>simp[mI,mA] at hr
  |e::es,hr=>
   simp only[mI,mA,anA,aoj,anS] at hr
   obtain⟨⟨h1,h2⟩,h3⟩:=hr
   simp only[mA,anA] at h
   unfold oq at h
   split at h
   ·cases h
   ·rename_i hk
    have:=Hd ek ev xs es k (i+1) h3 h c u
    unfold lS
    rw[anf hk]
    simp only[mI,mA,apw,anA,aoj,anS]
    exact⟨⟨h1,h2⟩,this⟩
theorem V7 (m:List (κ×ν)) (k k':κ) (v:ν):fO (lS m k v) k'=if k'=k then some v else fO m k':=by
 induction m with
 |nil=>simp[lS,fO]
 |cons x xs ih=>
  unfold lS
  by_cases h:k=x.1
  ·subst h
   simp only[aoP,fO]
   by_cases h':k'=x.1<;>simp[h']
  ·rw[anf h]
   simp only[fO,ih]
   by_cases h':k'=x.1
   ·rw[anc h',anc h',anf (by rw[h'];exact fun e=>h e.symm)]
   ·rw[anf h',anf h']
theorem ZW {m:List (κ×ν)} {iv:ν→Prop} (h:∀x∈m,iv x.2) {k:κ} {v:ν} (hv:fO m k=some v):iv v:=by
 induction m with
 |nil=>cases hv
 |cons x xs ih=>
  unfold fO at hv
  split at hv
  ·cases hv;exact h x (by simp)
  ·exact ih (fun y hy=>h y<|by simp[hy]) hv
theorem Ol {m:List (κ×ν)} {iv:ν→Prop} (h:∀x∈m,iv x.2) (k:κ) {v:ν} (hv:iv v):∀x∈lS m k v,iv x.2:=by
 induction m with
 |nil=>intro x hx;simp[lS] at hx;subst hx;exact hv
 |cons y ys ih=>
  intro x hx
  unfold lS at hx
  split at hx
  ·rcases ans.1 hx with rfl|hx
   ·exact hv
   ·exact h x<|by simp[hx]
  ·rcases ans.1 hx with rfl|hx
   ·exact h x<|by simp
   ·exact ih (fun z hz=>h z<|by simp[hz]) x hx
def CU (ek:κ→Value) (ev:ν→Value) (iv:ν→Prop) (b:Nat) (m:List (κ×ν)):Item:=
 ⟨some b,fun _ w=>∃es clock,w.heap[b]? =some (.map es clock)∧mI ek es.toList (mA ev m)∧∀x∈m,iv x.2,fun h _ hb=>by
  obtain⟨es,c,h1,h2⟩:=h
  exact⟨es,c,(hb b rfl).trans h1,h2⟩⟩
end
structure Ra (P:Program) (kt:TypeId) {κ:Type} [DecidableEq κ] (ek:κ→Value):Prop where
 Cg:∀e a w,(Instr.checkKey e 10000 kt (ek a)).run P w=.ok () w
 find:∀(k:κ) (w:aH) (m:List (κ×Value)) (es:List MapEntry),mI ek es m→(Instr.findKey kt (ek k) es).run P w=.ok (oq m k 0) w
 stays:∀k w,(Instr.keyThatStays (ek k) (ek k)).run P w=.ok (ek k) w
structure Hx (P:Program) (T:TypeId) {κ ν:Type} [DecidableEq κ] (ek:κ→Value) (ev:ν→Value) (z:ν):Prop where
 h:∃kt et,P.underlying T=some (.map kt et)∧Ra P kt ek∧∀w,(zeroValue et).run P w=.ok (ev z) w
abbrev tF (b:Nat) (m:List (bf×Int)):Item:=CU (fun s=>Value.string s) (fun v=>Value.int .i64 v) aJ b m
abbrev bU (b:Nat) (m:List ((Int×Int)×Bool)):Item:=CU K2 Value.bool (fun _=>True) b m
section
variable {P:Program}
theorem M4 {kt:TypeId} (F:DL P kt) (k:Int×Int) (w:aH):∀(m:List ((Int×Int)×Value)) (es:List MapEntry) (i:Nat),mI K2 es m→(Instr.findAsking kt (K2 k) es i).run P w=.ok (oq m k i) w
 |[],es,i,h=>by
  have:es=[]:=by simpa [mI] using h
  subst this;simp[Instr.findAsking,oq]
 |x::xs,es,i,h=>by
  match es,h with
  |e::es,h=>
   simp only[mI,anA,aoj,anS] at h
   obtain⟨⟨h1,h2⟩,h3⟩:=h
   have ih:=M4 F k w xs es (i+1) h3
   by_cases hk:k=x.1
   ·simp[Instr.findAsking,oq,h1,h2,F.eq,hk]
   ·simp[Instr.findAsking,oq,h1,h2,F.eq,hk,ih]
  |[],h=>simp[mI] at h
theorem VA {kt:TypeId} (F:DL P kt):Ra P kt K2 where
 Cg:=F.Cg
 find k w m es h:=by
  obtain⟨d,hd⟩:=F.u
  cases es with
  |nil=>
   have:m=[]:=by simpa [mI] using h.symm
   subst this
   simp[Instr.findKey,run_underlying hd,Result.andThen,Instr.findNow,oq]
  |cons e es=>
   have h0:Instr.findNow d (K2 k) (e::es) 0=none:=EJ d _ e es 0
   simp[Instr.findKey,run_underlying hd,Result.andThen,h0,M4 F k w m _ 0 h]
 stays k w:=by simp[Instr.keyThatStays,Instr.sameBits]
theorem WQ (s t:bf):(s==t)=decide (s=t):=by
 rw[anw]
 rcases s with ⟨a⟩
 rcases t with ⟨b⟩
 show (a==b)=true↔_
 simp
theorem OE (k:bf):∀(m:List (bf×Value)) (es:List MapEntry) (i:Nat),mI (fun s=>Value.string s) es m→Instr.findNow .string (.string k) es i=some (oq m k i)
 |[],es,i,h=>by
  have:es=[]:=by simpa [mI] using h
  subst this;rfl
 |x::xs,es,i,h=>by
  match es,h with
  |e::es,h=>
   simp only[mI,anA,aoj,anS] at h
   obtain⟨⟨h1,h2⟩,h3⟩:=h
   have ih:=OE k xs es (i+1) h3
   unfold Instr.findNow oq
   rw[h1,h2]
   by_cases hk:k=x.1
   ·simp[Instr.sameNow,WQ,hk]
   ·simp[Instr.sameNow,WQ,hk,ih]
  |[],h=>simp[mI] at h
theorem VB {kt:TypeId} (hd:P.underlying kt=some .string):Ra P kt (fun s=>Value.string s) where
 Cg e a w:=by
  rw[show (10000:Nat)=9999+1 from rfl]
  generalize 9999=q
  simp[Instr.checkKey,run_underlying hd,Result.andThen]
 find k w m es h:=by simp[Instr.findKey,run_underlying hd,Result.andThen,OE k m es 0 h]
 stays k w:=by simp[Instr.keyThatStays,Instr.sameBits,WQ]
theorem Xv {T kt et:TypeId} {κ ν:Type} [DecidableEq κ] {ek:κ→Value} {ev:ν→Value} {z:ν} {v:Value} {k b:Nat} {a:Bool} (h:P.underlying T=some (.map kt et)) (K:Ra P kt ek) (F:ef P et k a b v) (hv:v=ev z):Hx P T ek ev z:=⟨kt,et,h,K,hv▸F.uw⟩
variable {κ ν:Type} [DecidableEq κ] {ek:κ→Value} {ev:ν→Value} {z:ν} {iv:ν→Prop}
variable {n:Nat} {ops:Array Oper} {f:aN} {w:aH} {K:aN→aH→Prop} {x y c:Operand} {d:Nat} {ty T:TypeId} {ps:String} {af:Array Edge} {M0:bW} {w0:aH} {l:List Item} {m:List (κ×ν)} {b:Nat}
theorem mmG (H:HI M0 w0 w l) (h:∀b w',Ext w w'→HI M0 w0 w' (CU ek ev iv b []::l)→K (ck f d (.map (some b))) w'):SO P n ops ⟨some d,.makeMap T none,ty,ps,af,none⟩ f w K:=
 SO.value (v:=.map (some w.heap.size)) (w':=w.alloc (.map #[] 0)) (by simp[execOp,run_makeMap]) (h _ _ (Ext.alloc w _)
  (H.new (Ext.alloc w _) w.heap.size rfl (ane _) (by simp) ⟨#[],0,heap_alloc_new w _,rfl,fun _ h=>(by cases h)⟩))
theorem abJ {k:κ} {TR:Bool} (F:Hx P T ek ev z) (hz:iv z) (H:HI M0 w0 w l) (i:Nat) (hi:l[i]? =some (CU ek ev iv b m)) (ox:bI n x=true) (oy:bI n y=true) (hx:Go.Ew.ev f x=.map (some b)) (hy:Go.Ew.ev f y=ek k)
  (h:iv ((fO m k).getD z)→K (ck f d (if TR then .tuple #[ev ((fO m k).getD z),.bool (fO m k).isSome] else ev ((fO m k).getD z))) w):SO P n ops ⟨some d,.lookup T x y TR,ty,ps,af,none⟩ f w K:=by
 obtain⟨kt,et,h1,h2,h3⟩:=F.h
 obtain⟨es,clock,g1,g2,g3⟩:=H.at_ i hi
 have hI:iv ((fO m k).getD z):=by
  cases hg:fO m k with
  |none=>exact hz
  |some v=>exact ZW g3 hg
 refine SO.value (v:=if TR then .tuple #[ev ((fO m k).getD z),.bool (fO m k).isSome] else ev ((fO m k).getD z)) (w':=w) ?_<|h hI
 have hf:=Js ev m k 0
 have hr:=h2.find k w (mA ev m) es.toList g2
 simp only[execOp,aL ox,aL oy,hx,hy,Instr.lookup,Sem.run_bind,run_underlying h1,get_map g1,h2.Cg,hr,Result.andThen_ok,Sem.run_pure]
 cases hq:oq (mA ev m) k 0 with
 |none=>
  have hg:fO m k=none:=by rw[hq] at hf;simpa using hf.symm
  simp[hq,hg,h3 w]
 |some p=>
  obtain⟨j,v⟩:=p
  rw[hq] at hf
  cases hg:fO m k with
  |none=>rw[hg] at hf;cases hf
  |some u=>
   rw[hg] at hf
   simp only[aov,ann] at hf
   subst hf
   simp
theorem abF {dd:Option Nat} {k:κ} {v:ν} (F:Hx P T ek ev z) (H:HI M0 w0 w l) (i:Nat) (hi:l[i]? =some (CU ek ev iv b m)) (ox:bI n x=true) (oy:bI n y=true) (oc:bI n c=true) (hx:Go.Ew.ev f x=.map (some b)) (hy:Go.Ew.ev f y=ek k) (hc:Go.Ew.ev f c=ev v) (hv:iv v)
  (h:∀w',HI M0 w0 w' (l.set i (CU ek ev iv b (lS m k v)))→K (cZ f dd undef) w'):SO P n ops ⟨dd,.mapUpdate T x y c,ty,ps,af,none⟩ f w K:=by
 obtain⟨kt,et,h1,h2,h3⟩:=F.h
 obtain⟨es,clock,g1,g2,g3⟩:=H.at_ i hi
 have hr:=h2.find k w (mA ev m) es.toList g2
 have eo:b<w.heap.size:=(anJ.1 g1).1
 have fin:∀(o:Obj),(∀M w',w'.heap[b]? =some o→(CU ek ev iv b (lS m k v)).holds M w')→
   HI M0 w0 {w with heap:=w.heap.setIfInBounds b o} (l.set i (CU ek ev iv b (lS m k v))):=by
  intro o ho
  refine H.vR i hi J J J (by simp) (ane _) (fun q hq gA=>?_) (fun q hq=>?_)<|ho _ _ (A4 g1).1
  ·exact(A4 g1).2 q fun e=>gA (by rw[e];rfl)
  ·cases hq
   exact⟨by simpa using eo,.inl rfl⟩
 cases hq:oq (mA ev m) k 0 with
 |none=>
  refine SO.skip (w':={w with heap:=w.heap.setIfInBounds b (.map (es.push ⟨ek k,ev v,clock⟩) (clock+1))}) ?_ (h _<|fin _ ?_)
  ·simp[execOp,aL ox,aL oy,aL oc,hx,hy,hc,Instr.mapUpdate,run_underlying h1,get_map g1,h2.Cg,hr,hq,DV _ g1]
  ·intro M w' hw
   exact⟨_,_,hw,by rw[Array.toList_push];exact Hd ek ev m es.toList k 0 g2 hq clock v,Ol g3 k hv⟩
 |some p=>
  obtain⟨j,u⟩:=p
  obtain⟨q,e,I_,nI,EB,EA⟩:=Hc ek ev m es.toList k 0 j u g2 hq
  obtain rfl:j=q:=by omega
  have he:es[j]? =some e:=by simpa using nI
  have hsb:(Instr.keyThatStays e.key (ek k)).run P w=.ok (ek k) w:=by rw[EB];exact h2.stays k w
  refine SO.skip (w':={w with heap:=w.heap.setIfInBounds b (.map (es.modify j fun e=>{e with key:=ek k,val:=ev v}) clock)}) ?_ (h _<|fin _ ?_)
  ·simp[execOp,aL ox,aL oy,aL oc,hx,hy,hc,Instr.mapUpdate,run_underlying h1,get_map g1,h2.Cg,hr,hq,he,hsb,DV _ g1]
  ·intro M w' hw
   exact⟨_,_,hw,by rw[Array.toList_modify];exact EA v,Ol g3 k hv⟩
end
section
variable {P:Program} {n:Nat} {ops:Array Oper} {f:aN} {w:aH} {K:aN→aH→Prop} {x y c:Operand} {d:Nat} {dd:Option Nat} {ty T:TypeId} {ps:String} {af:Array Edge} {M0:bW} {w0:aH} {l:List Item} {b:Nat}
abbrev Q9 (P:Program) (T:TypeId):Prop:=Hx P T K2 Value.bool false
abbrev Q8 (P:Program) (T:TypeId):Prop:=Hx P T (fun s=>Value.string s) (fun v=>Value.int .i64 v) (0:Int)
theorem mmP (H:HI M0 w0 w l) (h:∀b w',Ext w w'→HI M0 w0 w' (bU b []::l)→K (ck f d (.map (some b))) w'):SO P n ops ⟨some d,.makeMap T none,ty,ps,af,none⟩ f w K:=mmG H h
theorem mmS (H:HI M0 w0 w l) (h:∀b w',Ext w w'→HI M0 w0 w' (tF b []::l)→K (ck f d (.map (some b))) w'):SO P n ops ⟨some d,.makeMap T none,ty,ps,af,none⟩ f w K:=mmG H h
theorem ahU {m:List ((Int×Int)×Bool)} {k:Int×Int} (F:Q9 P T) (H:HI M0 w0 w l) (i:Nat) (hi:l[i]? =some (bU b m)) (ox:bI n x=true) (oy:bI n y=true) (hx:Go.Ew.ev f x=.map (some b)) (hy:Go.Ew.ev f y=K2 k)
  (h:K (ck f d (.bool ((fO m k).getD false))) w):SO P n ops ⟨some d,.lookup T x y false,ty,ps,af,none⟩ f w K:=abJ (TR:=false) F trivial H i hi ox oy hx hy fun _=>h
theorem ahT {m:List (bf×Int)} {k:bf} (F:Q8 P T) (H:HI M0 w0 w l) (i:Nat) (hi:l[i]? =some (tF b m)) (ox:bI n x=true) (oy:bI n y=true) (hx:Go.Ew.ev f x=.map (some b)) (hy:Go.Ew.ev f y=.string k)
  (h:aJ ((fO m k).getD 0)→K (ck f d (.tuple #[.int .i64 ((fO m k).getD 0),.bool (fO m k).isSome])) w):SO P n ops ⟨some d,.lookup T x y true,ty,ps,af,none⟩ f w K:=abJ (TR:=true) F (by unfold aJ;omega) H i hi ox oy hx hy h
theorem ahS {m:List ((Int×Int)×Bool)} {k:Int×Int} {v:Bool} (F:Q9 P T) (H:HI M0 w0 w l) (i:Nat) (hi:l[i]? =some (bU b m)) (ox:bI n x=true) (oy:bI n y=true) (oc:bI n c=true) (hx:Go.Ew.ev f x=.map (some b)) (hy:Go.Ew.ev f y=K2 k) (hc:Go.Ew.ev f c=.bool v)
  (h:∀w',HI M0 w0 w' (l.set i (bU b (lS m k v)))→K (cZ f dd undef) w'):SO P n ops ⟨dd,.mapUpdate T x y c,ty,ps,af,none⟩ f w K:=abF F H i hi ox oy oc hx hy hc trivial h
theorem ahR {m:List (bf×Int)} {k:bf} {v:Int} (F:Q8 P T) (H:HI M0 w0 w l) (i:Nat) (hi:l[i]? =some (tF b m)) (ox:bI n x=true) (oy:bI n y=true) (oc:bI n c=true) (hx:Go.Ew.ev f x=.map (some b)) (hy:Go.Ew.ev f y=.string k) (hc:Go.Ew.ev f c=.int .i64 v) (hv:aJ v)
  (h:∀w',HI M0 w0 w' (l.set i (tF b (lS m k v)))→K (cZ f dd undef) w'):SO P n ops ⟨dd,.mapUpdate T x y c,ty,ps,af,none⟩ f w K:=abF F H i hi ox oy oc hx hy hc hv h
end
end Go.Ew
namespace Go.Ew
section
variable {α σ:Type} (st:σ→α→Bool×σ)
def gm:σ→List α→List α×σ
 |s,[]=>([],s)
 |s,x::l=>if (st s x).1 then gm (st s x).2 l else (x::(gm (st s x).2 l).1,(gm (st s x).2 l).2)
theorem NP (s:σ) (l r:List α):gm st s (l++r)=((gm st s l).1++(gm st (gm st s l).2 r).1,(gm st (gm st s l).2 r).2):=by
 induction l generalizing s with
 |nil=>simp[gm]
 |cons x l ih=>
  rw[apw,gm,gm]
  split
  ·exact ih _
  ·rw[ih];rfl
theorem Wl (s:σ) (x:α):gm st s [x]=if (st s x).1 then ([],(st s x).2) else ([x],(st s x).2):=by simp[gm]
theorem Wm (s:σ) (l:List α):(gm st s l).1.length≤l.length:=by
 induction l generalizing s with
 |nil=>simp[gm]
 |cons x l ih=>
  rw[gm]
  split
  ·exact Nat.le_trans (ih _)<|aqq _
  ·simp only[iI];exact Nat.succ_le_succ (ih _)
theorem Wk (s:σ) (l:List α):∀x∈(gm st s l).1,x∈l∧∃s',(st s' x).1=false:=by
 induction l generalizing s with
 |nil=>intro x h;cases h
 |cons y l ih=>
  intro x h
  rw[gm] at h
  split at h
  ·obtain⟨h1,h2⟩:=ih _ x h;exact⟨anI _ h1,h2⟩
  ·rename_i hy
   rcases ans.1 h with rfl|h
   ·exact⟨by simp,s,by simpa using hy⟩
   ·obtain⟨h1,h2⟩:=ih _ x h;exact⟨anI _ h1,h2⟩
def Nj (s:σ) (xs:List α) (ix:Int) (s':σ):Prop:=(ix= -1∧gm st s xs=(xs,s'))∨∃j:Nat,ix=((j:Nat):Int)∧j<xs.length∧gm st s (xs.take (j+1))=(xs.take j,s')
variable {st} {s s':σ} {xs ys:List α} {x:α} {j k:Nat} {q:Int}
theorem V9:gm st s (xs.take 0)=(xs.take 0,s):=by simp[gm]
theorem D3 (hx:xs[k]? =some x):gm st s (xs.take (k+1))=if (st (gm st s (xs.take k)).2 x).1 then ((gm st s (xs.take k)).1,(st (gm st s (xs.take k)).2 x).2) else ((gm st s (xs.take k)).1++[x],(st (gm st s (xs.take k)).2 x).2):=by
 rw[anH,hx,NP,show (some x).toList=[x] from rfl,Wl]
 split<;>simp
theorem ZX (h:gm st s (xs.take j)=(xs.take j,s')) (hx:xs[((j:Nat):Int).toNat]? =some x) (hp:(st s' x).1=false):gm st s (xs.take (j+1))=(xs.take (j+1),(st s' x).2):=by
 rw[dP] at hx
 rw[D3 hx,h]
 show (if (st s' x).1=true then _ else _)=_
 rw[anf (by rw[hp];decide),anH,hx];rfl
theorem adw (h:gm st s (xs.take j)=(xs.take j,s')) (hj:j<xs.length) (hx:xs[((j:Nat):Int).toNat]? =some x) (hp:(st s' x).1=true):Nj st s xs ((j:Nat):Int) (st s' x).2:=by
 rw[dP] at hx
 refine .inr ⟨j,J,hj,?_⟩
 rw[D3 hx,h]
 show (if (st s' x).1=true then _ else _)=_
 rw[anc hp]
theorem adx (h:gm st s (xs.take j)=(xs.take j,s')) (hj:xs.length≤j):Nj st s xs (-1) s':=by
 rw[anj hj] at h;exact .inl ⟨rfl,h⟩
def DS (st:σ→α→Bool×σ) (s:σ) (xs ys:List α) (q:Int) (k:Nat) (s':σ):Prop:=0≤q∧q<((k:Nat):Int)∧ys.length=xs.length∧gm st s (xs.take k)=(ys.take q.toNat,s')∧ys.drop k=xs.drop k
theorem O9 (h:Nj st s xs q s') (hq:q= -1):gm st s xs=(xs,s'):=by
 rcases h with ⟨_,h⟩|⟨j,h,_⟩
 ·exact h
 ·omega
theorem Wh (h:Nj st s xs q s') (hq:¬q= -1):q.toNat<xs.length∧DS st s xs xs q (q.toNat+1) s':=by
 rcases h with ⟨h,_⟩|⟨j,rfl,h1,h2⟩
 ·omega
 ·refine⟨by omega,by omega,by omega,J,?_,J⟩
  rw[dP];exact h2
theorem Yv (h:DS st s xs ys q k s') (hx:ys[k]? =some x):xs[k]? =some x:=by
 have:=am_ (fun l=>l[0]?) h.2.2.2.2
 simp only[anU,anR] at this
 rw[←this];exact hx
theorem Z9 (h:DS st s xs ys q k s') (hx:ys[((k:Nat):Int).toNat]? =some x) (hp:(st s' x).1=true):DS st s xs ys q (k+1) (st s' x).2:=by
 rw[dP] at hx
 have qx:=Yv h hx
 obtain⟨h0,h1,h2,h3,h4⟩:=h
 refine⟨h0,by omega,h2,?_,?_⟩
 ·rw[D3 qx,h3]
  show (if (st s' x).1=true then _ else _)=_
  rw[anc hp]
 ·rw[←an9,h4,an9]
theorem Z8 (h:DS st s xs ys q k s') (hx:ys[((k:Nat):Int).toNat]? =some x) (hp:(st s' x).1=false):DS st s xs (ys.set q.toNat x) (q+1) (k+1) (st s' x).2:=by
 rw[dP] at hx
 have qx:=Yv h hx
 have hk:=(dE.1 hx).1
 obtain⟨h0,h1,h2,h3,h4⟩:=h
 refine⟨by omega,by omega,by rw[am'];exact h2,?_,?_⟩
 ·rw[D3 qx,h3]
  show (if (st s' x).1=true then _ else _)=_
  rw[anf (by rw[hp];decide),show (q+1).toNat=q.toNat+1 from by omega,anH,List.take_set_of_le (ane _),ano aj]
  rfl
 ·rw[List.drop_set_of_lt aj,←an9,h4,an9]
theorem TM (h:DS st s xs ys q k s') (hk:xs.length≤k) (Az:k≤xs.length) (r:List α):(ys.take q.toNat++r).take q.toNat=(gm st s xs).1∧s'=(gm st s xs).2:=by
 obtain⟨h0,h1,h2,h3,h4⟩:=h
 rw[anj hk] at h3
 rw[h3]
 exact⟨by rw[aom (by simp;omega),aoJ,Nat.min_self],J⟩
end
def fc (n:Int) (rs:Rows) (kp:aA) (met:List ((Int×Int)×Bool)) (e:ep):Bool×List ((Int×Int)×Bool):=
 bif (fO met (e.1,e.2.1)).getD false||(eK n rs e.1 e.2.1||!(kp.any fun z_=>decide (e.2.2=z_))) then (true,met) else (false,lS met (e.1,e.2.1) true)
def gD (n:Int) (rs:Rows) (kp:aA) (es:List ep):List ep:=(gm (fc n rs kp) [] es).1
theorem Dh {n:Int} {rs:Rows} {kp:aA} {es:List ep} {e:ep} (h:e∈gD n rs kp es):e∈es∧eK n rs e.1 e.2.1=false∧e.2.2∈kp:=by
 obtain⟨h1,s',h2⟩:=Wk _ _ _ e h
 refine⟨h1,?_⟩
 unfold fc at h2
 cases ha:(fO s' (e.1,e.2.1)).getD false<;>cases hb:eK n rs e.1 e.2.1<;>cases hc:(kp.any fun z_=>decide (e.2.2=z_))<;>simp[ha,hb,hc] at h2
 obtain⟨z,hz,hz2⟩:=anN.1 hc
 exact⟨J,by rw[show e.2.2=z by simpa using hz2];exact hz⟩
theorem Tj {n:Int} {rs:Rows} {kp:aA} {es:List ep} (h:gD n rs kp es=[]) {e:ep} (he:e∈es) (hk:e.2.2∈kp):eK n rs e.1 e.2.1=true:=by
 have key:∀es:List ep,(gm (fc n rs kp) [] es).1=[]→∀e∈es,e.2.2∈kp→eK n rs e.1 e.2.1=true:=by
  intro es
  induction es with
  |nil=>intro _ e h;cases h
  |cons x l ih=>
   intro h e he hk
   rw[gm] at h
   split at h
   ·rename_i hx
    have hs:(fc n rs kp [] x).2=[]:=by
     unfold fc at hx ⊢
     cases hb:eK n rs x.1 x.2.1<;>cases hc:(kp.any fun z_=>decide (x.2.2=z_))<;>simp[fO,hb,hc] at hx ⊢
    rw[hs] at h
    rcases ans.1 he with rfl|he
    ·unfold fc at hx
     have hc:(kp.any fun z_=>decide (e.2.2=z_))=true:=anN.2 ⟨_,hk,by simp⟩
     cases hb:eK n rs e.1 e.2.1<;>simp[fO,hb,hc] at hx
     rfl
    ·exact ih h e he hk
   ·cases h
 exact key es h e he hk
theorem Tk (n:Int) (rs:Rows) (kp:aA) (es:List ep):(gD n rs kp es).length≤es.length:=Wm _ _ _
end Go.Ew
namespace Go.Ew
variable {n o:Int} {rs:Rows} {l:List ep} {p:hG} {a b q:Nat} {U:List aO} {fo:aA}
def l_ (n:Int) (rs:Rows) (l:List ep):Rows:=l.foldl (fun m e=>ic n m e.1 e.2.1) rs
def TrP (n:Nat) (p:hG):Prop:=∀i j k,i<n→j<n→k<n→p i j=true→p j k=true→p i k=true
def TH (es:List ep) (a b:Nat):Bool:=es.any fun e=>decide (e.1=((a:Nat):Int))&&decide (e.2.1=((b:Nat):Int))
def oJ (n:Nat) (es:List ep):Prop:=∀e∈es,kC ((n:Nat):Int) [e.1,e.2.1]=true
theorem Q0 (n:Nat) (p:hG):TrP n (cl n p):=fun i j k _ hj _ h1 h2=>BK hj h1 h2
theorem BS {e:ep}:l_ n rs (l++[e])=ic n (l_ n rs l) e.1 e.2.1:=by unfold l_;rw[aoX];rfl
theorem adS {n:Nat} {q:hG} (ha:a<n) (hb:b<n):cl n (fun x y=>cl n p x y||q x y) a b=cl n (fun x y=>p x y||q x y) a b:=by
 rw[anw,rj ha hb,rj ha hb]
 constructor
 ·intro h
  refine h.least (fun x y hx hy h=>?_) fun x y z _ _ _=>TC.trans
  rcases anm _ _▸h with h|h
  ·exact((rj hx hy).1 h).mono fun _ _ _ _ h=>by simp[h]
  ·exact .one hx hy (by simp[h])
 ·intro h
  refine h.mono fun x y hx hy h=>?_
  rcases anm _ _▸h with h|h
  ·simp[yc h]
  ·simp[h]
theorem M9 {n:Nat} {p:hG} (h:TrP n p):∀{es:List ep},oJ n es→l_ ((n:Nat):Int) (cH n p) es=cH n (cl n fun a b=>p a b||TH es a b):=by
 have key:∀(k:Nat) (es:List ep),es.length=k→oJ n es→l_ ((n:Nat):Int) (cH n p) es=cH n (cl n fun a b=>p a b||TH es a b):=by
  intro k
  induction k with
  |zero=>
   intro es hl _
   rw[aod.1 hl]
   refine dN fun a b ha hb=>?_
   rw[anw,rj ha hb]
   constructor
   ·intro h;exact .one ha hb (by simp[h])
   ·intro k
    refine k.least (R:=fun x y=>p x y=true) (fun x y _ _ h=>by simpa [TH] using h) fun x y z hx hy hz=>h x y z hx hy hz
  |succ k ih=>
   intro es hl Ca
   obtain⟨l,e,rfl⟩:∃l e,es=l++[e]:=⟨es.dropLast,es.getLast (by intro h;rw[h] at hl;simp at hl),(List.dropLast_concat_getLast _).symm⟩
   have hi:=Ca e<|by simp
   have hr:=jm.1 hi
   rw[BS,ih l (by simpa using hl) (fun x hx=>Ca x (by simp[hx])),Q6 hi (Q0 n _)]
   refine dN fun a b ha hb=>?_
   rw[adS ha hb]
   refine F2 (fun x y _ _=>?_) ha hb
   rw[Bool.or_assoc]
   congr 1
   unfold TH
   rw[List.any_append]
   congr 1
   simp only[List.any_cons,List.any_nil,aoI]
   rw[anw]
   simp only[eW,anb]
   omega
 intro es Ca
 exact key _ es J Ca
theorem zT {n:Nat} {rs:Rows} {es:List ep} (h:bK ((n:Nat):Int) rs=true) (Ca:oJ n es):bK ((n:Nat):Int) (l_ ((n:Nat):Int) rs es)=true:=by
 have key:∀(k:Nat) (es:List ep),es.length=k→oJ n es→bK ((n:Nat):Int) (l_ ((n:Nat):Int) rs es)=true:=by
  intro k
  induction k with
  |zero=>intro es hl _;rw[aod.1 hl];exact h
  |succ k ih=>
   intro es hl Ca
   obtain⟨l,e,rfl⟩:∃l e,es=l++[e]:=⟨es.dropLast,es.getLast (by intro h;rw[h] at hl;simp at hl),(List.dropLast_concat_getLast _).symm⟩
   rw[BS]
   have:=NV (i:=e.1) (j:=e.2.1)<|ih l (by simpa using hl)<|fun x hx=>Ca x<|by simp[hx]
   unfold ir at this
   rwa [anc (Ca e (by simp))] at this
 exact key _ es J Ca
def ME (n:Nat) (p:hG):Nat:=(List.range (n*n)).countP fun k=>p (k/n) (k%n)
theorem aah (n:Nat) (p:hG):ME n p≤n*n:=by
 unfold ME;exact Nat.le_trans List.countP_le_length (by simp)
theorem Jw {α:Type} {p q:α→Bool}:∀{l:List α},(∀x∈l,p x=true→q x=true)→(∃x∈l,p x=false∧q x=true)→l.countP p<l.countP q
 |[],_,h=>by obtain⟨x,hx,_⟩:=h;cases hx
 |a::l,h,⟨x,hx,h1,h2⟩=>by
  have hm:l.countP p≤l.countP q:=List.countP_mono_left fun y hy=>h y (by simp[hy])
  rw[List.countP_cons,List.countP_cons]
  rcases ans.1 hx with rfl|hx
  ·rw[h1,h2];simp;omega
  ·have ih:=Jw (l:=l) (fun y hy=>h y<|by simp[hy]) ⟨x,hx,h1,h2⟩
   have:=h a<|by simp
   cases hp:p a<;>cases hq:q a<;>simp_all<;>omega
theorem aag {n:Nat} {q:hG} (h:∀a b,a<n→b<n→p a b=true→q a b=true) (ha:a<n) (hb:b<n) (h1:p a b=false) (h2:q a b=true):ME n p<ME n q:=by
 have hn:0<n:=by omega
 refine Jw (fun k hk hp=>h _ _ ?_ (Nat.mod_lt _ hn) hp) ⟨a*n+b,?_,?_,?_⟩
 ·exact(Nat.div_lt_iff_lt_mul hn).2 (ang.1 hk)
 ·rw[ang]
  calc a*n+b<a*n+n:=by omega
   _=(a+1)*n:=by rw[an2,Nat.one_mul]
   _≤n*n:=aoe _ ha
 ·rw[show (a*n+b)/n=a by rw[apI,Nat.mul_add_div hn,apq hb,anR],show (a*n+b)%n=b by rw[apI,Nat.mul_add_mod,apo hb]];exact h1
 ·rw[show (a*n+b)/n=a by rw[apI,Nat.mul_add_div hn,apq hb,anR],show (a*n+b)%n=b by rw[apI,Nat.mul_add_mod,apo hb]];exact h2
structure Nk (U:List aO) (fo:aA) (p:Nat→bW) (a b r:Nat):Prop where
 a1:a<U.length
 r1:r<U.length
 fr:fo[r]? =some ((b:Nat):Int)
 ne:a≠b
 wr:iQ U (qq U ((b:Nat):Int)) ((a:Nat):Int)=false
 ah:p a r
theorem BI (ez:fo.length=U.length) {e:ep} (h:W2 U fo ((U.length:Nat):Int) (cH U.length p) e):∃a b r:Nat,e=(((a:Nat):Int),((b:Nat):Int),((r:Nat):Int))∧Nk U fo (fun x y=>p x y=true) a b r:=by
 obtain⟨a,b,r⟩:=e
 obtain⟨r0,r1,fr,w0,ne,ah⟩:=h
 simp only at r0 r1 fr w0 ne ah
 unfold aX at ah
 rw[ant] at ah
 obtain⟨ah,wr⟩:=ah
 unfold eY at ah
 rw[anc aj,wX,dP] at ah
 obtain⟨k,hk,hp,rfl⟩:=ah
 refine⟨k,b.toNat,r.toNat,by rw[show ((b.toNat:Nat):Int)=b by omega,show ((r.toNat:Nat):Int)=r by omega],hk,by omega,by rw[fr];congr 1;omega,fun e=>ne aj,?_,?_⟩
 ·rw[show ((b.toNat:Nat):Int)=b by omega];simpa using wr
 ·rw[jG hk aj] at hp;exact hp
theorem O7 (ez:fo.length=U.length) {r:Nat} (h:Nk U fo (fun x y=>p x y=true) a b r):W2 U fo ((U.length:Nat):Int) (cH U.length p) (((a:Nat):Int),((b:Nat):Int),((r:Nat):Int)):=by
 obtain⟨a1,r1,fr,ne,wr,ah⟩:=h
 refine⟨by simp only;omega,by simp only;omega,by simpa using fr,by simp only;omega,by simp only;omega,?_⟩
 simp only
 unfold aX
 rw[ant]
 refine⟨?_,by rw[wr];rfl⟩
 unfold eY
 rw[anc aj,wX,dP]
 exact⟨a,a1,by rw[dP,jG a1 r1];exact ah,J⟩
theorem D9 {es:List ep} (ez:fo.length=U.length) (fL:∀x∈fo,x<((U.length:Nat):Int)) (h:DO U fo ((U.length:Nat):Int) (cH U.length p) es):oJ U.length es:=by
 intro e he
 obtain⟨a,b,r,rfl,k⟩:=BI ez ((h.2 e).1 he)
 have:=fL _<|dC k.fr
 have:=k.a1
 exact jm.2<|by simp only;omega
structure Pr (U:List aO) (fo:aA) (o:Int) (R:Nat→bW):Prop where
 base:∀a b,a<U.length→b<U.length→pX U fo a b=true→((a:Nat):Int)∈bO ((U.length:Nat):Int) (cu U fo) o→((b:Nat):Int)∈bO ((U.length:Nat):Int) (cu U fo) o→R a b
 trans:∀a b c,a<U.length→b<U.length→c<U.length→R a b→R b c→R a c
 PJ:∀a b r,((r:Nat):Int)∈l6 U o→Nk U fo R a b r→R a b
noncomputable def B0 (U:List aO) (fo:aA) (o:Int) (a b:Nat):Bool:=@decide (∀R,Pr U fo o R→R a b) (Classical.propDecidable _)
noncomputable def cW (U:List aO) (fo:aA) (o:Int):Rows:=cH U.length (B0 U fo o)
theorem qd:B0 U fo o a b=true↔∀R,Pr U fo o R→R a b:=by unfold B0;exact @decide_eq_true_iff _ (Classical.propDecidable _)
theorem aaU (U:List aO) (fo:aA) (o:Int):Pr U fo o (fun a b=>B0 U fo o a b=true) where
 base a b ha hb hc h1 h2:=qd.2 fun R hR=>hR.base a b ha hb hc h1 h2
 trans a b c ha hb hc h1 h2:=qd.2 fun R hR=>hR.trans a b c ha hb hc (qd.1 h1 R hR) (qd.1 h2 R hR)
 PJ a b r hr h:=qd.2 fun R hR=>hR.PJ a b r hr ⟨h.a1,h.r1,h.fr,h.ne,h.wr,qd.1 h.ah R hR⟩
structure SnQ (U:List aO) (fo:aA) (o:Int) (p:hG):Prop where
 tr:TrP U.length p
 base:∀a b,a<U.length→b<U.length→pX U fo a b=true→((a:Nat):Int)∈bO ((U.length:Nat):Int) (cu U fo) o→((b:Nat):Int)∈bO ((U.length:Nat):Int) (cu U fo) o→p a b=true
 le:∀R,Pr U fo o R→∀a b,a<U.length→b<U.length→p a b=true→R a b
def JK (U:List aO) (fo:aA) (o:Int) (n:Int) (rs:Rows):Prop:=n=((U.length:Nat):Int)∧∃p,rs=cH U.length p∧SnQ U fo o p
def Im (U:List aO) (rs:Rows):Nat:=ME U.length (fZ rs)
section
variable {U:List aO} {fo:aA} {o n:Int} {rs:Rows} {es:List ep}
theorem UD (U:List aO) (fo:aA) (o:Int):JK U fo o ((U.length:Nat):Int) (gp ((U.length:Nat):Int) (cu U fo) (bO ((U.length:Nat):Int) (cu U fo) o)):=by
 have hm:∀a b,a<U.length→b<U.length→(NY (fZ (cu U fo)) (bO ((U.length:Nat):Int) (cu U fo) o) a b=true↔pX U fo a b=true∧((a:Nat):Int)∈bO ((U.length:Nat):Int) (cu U fo) o∧((b:Nat):Int)∈bO ((U.length:Nat):Int) (cu U fo) o):=by
  intro a b ha hb
  unfold NY
  rw[show fZ (cu U fo) a b=pX U fo a b from jG ha hb]
  simp only[eW,anb]
 refine⟨J,_,by unfold gp;rw[dP],?_,?_,?_⟩
 ·intro i j k hi hj hk h1 h2
  obtain⟨a1,a2,a3⟩:=(hm i j hi hj).1 h1
  obtain⟨b1,b2,b3⟩:=(hm j k hj hk).1 h2
  exact(hm i k hi hk).2 ⟨BK hj a1 b1,a2,b3⟩
 ·intro a b ha hb h1 h2 h3
  exact(hm a b ha hb).2 ⟨h1,h2,h3⟩
 ·intro R hR a b ha hb h
  obtain⟨h1,h2,h3⟩:=(hm a b ha hb).1 h
  exact hR.base a b ha hb h1 h2 h3
theorem KY (h:JK U fo o n rs) (hn:U.length≤4096):bK n rs=true:=by
 obtain⟨rfl,p,rfl,_⟩:=h;exact lJ hn
theorem Xf (h:JK U fo o n rs) (ez:fo.length=U.length) (fL:∀x∈fo,x<((U.length:Nat):Int)) (he:DO U fo n rs es) {kp:aA}:oJ U.length (gD n rs kp es):=by
 obtain⟨rfl,p,rfl,_⟩:=h
 exact fun e hm=>D9 ez fL he e (Dh hm).1
theorem Y7 (h:JK U fo o n rs) (ez:fo.length=U.length) (fL:∀x∈fo,x<((U.length:Nat):Int)) (he:DO U fo n rs es):
  JK U fo o n (l_ n rs (gD n rs (l6 U o) es))∧(gD n rs (l6 U o) es≠[]→Im U rs<Im U (l_ n rs (gD n rs (l6 U o) es))):=by
 have sV:=Xf h ez fL he (kp:=l6 U o)
 obtain⟨rfl,p,rfl,q⟩:=h
 rw[M9 q.tr sV]
 refine⟨⟨J,_,J,Q0 _ _,?_,?_⟩,?_⟩
 ·intro a b ha hb h1 h2 h3
  exact yc<|by simp[q.base a b ha hb h1 h2 h3]
 ·intro R hR a b ha hb h
  refine((rj ha hb).1 h).least (fun x y hx hy hp=>?_) fun x y z hx hy hz=>hR.trans x y z hx hy hz
  rcases anm _ _▸hp with hp|hp
  ·exact q.le R hR x y hx hy hp
  ·obtain⟨e,S2,yU⟩:=anN.1 hp
   obtain⟨m1,m2,m3⟩:=Dh S2
   obtain⟨a',b',r',rfl,k⟩:=BI ez ((he.2 e).1 m1)
   simp only[eW,anb] at yU
   obtain⟨e1,e2⟩:=yU
   obtain rfl:a'=x:=by omega
   obtain rfl:b'=y:=by omega
   exact hR.PJ a' b' r' m3 ⟨k.a1,k.r1,k.fr,k.ne,k.wr,q.le R hR a' r' k.a1 k.r1 k.ah⟩
 ·intro gA
  obtain⟨e,S2⟩:=List.exists_mem_of_ne_nil _ gA
  obtain⟨m1,m2,m3⟩:=Dh S2
  have hi:=sV e S2
  obtain⟨a',b',r',rfl,k⟩:=BI ez ((he.2 e).1 m1)
  have hr:=jm.1 hi
  simp only at hr m2
  have hb:b'<U.length:=by omega
  rw[uM k.a1 hb] at m2
  unfold Im
  refine aag (a:=a') (b:=b') (fun a b ha hb h=>?_) k.a1 hb ?_ ?_
  ·rw[jG ha hb] at h ⊢
   exact yc<|by simp[h]
  ·rw[jG k.a1 hb];exact m2
  ·rw[jG k.a1 hb]
   refine yc ?_
   rw[anm]
   exact .inr (anN.2 ⟨_,S2,by simp⟩)
theorem aaT (h:JK U fo o n rs) (ez:fo.length=U.length) (fL:∀x∈fo,x<((U.length:Nat):Int)) (he:DO U fo n rs es) (hz:gD n rs (l6 U o) es=[]):rs=cW U fo o:=by
 obtain⟨rfl,p,rfl,q⟩:=h
 have hR:Pr U fo o (fun a b=>p a b=true):=by
  refine⟨q.base,q.tr,fun a b r hr k=>?_⟩
  have hb:=fL _<|dC k.fr
  have hh:=Tj hz ((he.2 _).2 (O7 ez k)) hr
  simp only at hh
  rw[uM k.a1 aj] at hh
  exact hh
 refine dN fun a b ha hb=>?_
 rw[anw,qd]
 exact⟨fun h R hR=>q.le R hR a b ha hb h,fun h=>h _ hR⟩
theorem K3 (rs:Rows) (U:List aO):Im U rs≤U.length*U.length:=aah _ _
end
theorem Bv (h:ig U) (hn:U.length≤64) (ho:0≤o∧o<((U.length:Nat):Int)):(aX (fX U) (cC U o)).length≤64:=by
 unfold aX
 refine Nat.le_trans (aoc _ _) ?_
 unfold cC
 rw[anc ho,anO,ao6]
 have h1:=R8 h ho.1 ho.2
 unfold cC at h1
 rw[anc ho,anO,ao6] at h1
 have h2:=(ig.back h o.toNat aj).1
 omega
theorem BT {n2:Int} {m2:Rows} {x:ep} (h:n2=n∧m2=l_ n rs (l.take q)) (hx:l[((q:Nat):Int).toNat]? =some x) (hi:kC n [x.1,x.2.1]=true):
  ir n2 x.1 x.2.1=n∧ic n2 m2 x.1 x.2.1=l_ n rs (l.take (q+1)):=by
 obtain⟨rfl,rfl⟩:=h
 rw[dP] at hx
 refine⟨by unfold ir;rw[anc hi],?_⟩
 rw[anH,hx,show (some x).toList=[x] from rfl,BS]
theorem aaS {n2:Int} {m2:Rows} (h:JK U fo o n rs) (hn:U.length≤4096) (he:oJ U.length l) (h2:n2=n∧m2=l_ n rs (l.take q)):bK n2 m2=true:=by
 obtain⟨rfl,rfl⟩:=h2
 have hr:=KY h hn
 rw[h.1] at hr ⊢
 exact zT hr fun e S3=>he e (aox S3)
theorem K1 {x:ep} (h:n=((U.length:Nat):Int)) (he:oJ U.length l) (hx:l[((q:Nat):Int).toNat]? =some x):kC n [x.1,x.2.1]=true:=by
 rw[h];exact he x (dC hx)
end Go.Ew
namespace Go.Ew
variable {r N:Int} {j:Nat} {R:Rows}
abbrev yj:=Int×Int×Int×Int×Int
structure Um (k r a b o:Int):Prop where
 k:aJ k
 r:aJ r
 a:aJ a
 b:aJ b
 o:aJ o
def qE (x:Option yj) (k r a b o:Int):Prop:=Um k r a b o∧∀y,x=some y→y=(k,r,a,b,o)
theorem uv {x:Option yj} {k a b o:Int} (h:x=none) (i:Um k r a b o):qE x k r a b o:=⟨i,fun y hy=>by rw[h] at hy;cases hy⟩
theorem zY {x:Option yj} {k a b o:Int} (h:x=some (k,r,a,b,o)) (i:Um k r a b o):qE x k r a b o:=⟨i,fun y hy=>by rw[h] at hy;exact(ana hy).symm⟩
section
variable (U:List aO) (fo:aA)
def pD (kd:Int):Option yj:=if 0≤eM (fun z_=>decide ((-2)=z_)) fo then some (kd,eM (fun z_=>decide ((-2)=z_)) fo, -1, -1, -1) else none
def kh (n:Int) (rs:Rows) (kd:Int):Option yj:=(cP n rs).map fun i=>(kd, -1, -1, -1,((i:Nat):Int))
def qo (n:Int) (rs:Rows) (kd:Int):Option yj:=(AI U fo n rs).map fun r=>(kd,((r:Nat):Int),(dq U n rs ((r:Nat):Int)).headD 0, -1, -1)
def qp (n:Int) (rs:Rows) (kd:Int):Option yj:=(F6 U fo n rs).map fun r=>(kd,((r:Nat):Int),fo.getD r 0,(zQ U fo n rs r).getD 0, -1)
noncomputable def Jz (a b:Nat):Bool:=pX U fo a b||@decide (∃r,Nk U fo (fun x y=>pX U fo x y=true) a b r) (Classical.propDecidable _)
noncomputable def AK:Rows:=cH U.length (cl U.length (Jz U fo))
def Cu (n:Int) (rs:Rows) (r:Int):Bool:=decide (fo.getD r.toNat 0= -1)&&decide (0<(((dq U n rs r).length:Nat):Int))
def Eh (n:Int) (rs:Rows) (o:Int):Option Int:=(l6 U o).find? (Cu U fo n rs)
noncomputable def IK (o:Nat):Bool:=(Eh U fo ((U.length:Nat):Int) (cW U fo ((o:Nat):Int)) ((o:Nat):Int)).isSome
noncomputable def IL:Option Nat:=(List.range U.length).find? (IK U fo)
noncomputable def sK (kd:Int):Option yj:=(IL U fo).map fun o=>(kd,(Eh U fo ((U.length:Nat):Int) (cW U fo ((o:Nat):Int)) ((o:Nat):Int)).getD 0,(dq U ((U.length:Nat):Int) (cW U fo ((o:Nat):Int)) ((Eh U fo ((U.length:Nat):Int) (cW U fo ((o:Nat):Int)) ((o:Nat):Int)).getD 0)).headD 0, -1,((o:Nat):Int))
noncomputable def Xe (o:Nat):Bool:=(cP ((U.length:Nat):Int) (cW U fo ((o:Nat):Int))).isSome
noncomputable def IF:Option Nat:=(List.range U.length).find? (Xe U fo)
noncomputable def sI (kd:Int):Option yj:=(IF U fo).map fun o=>(kd, -1,(((cP ((U.length:Nat):Int) (cW U fo ((o:Nat):Int))).getD 0:Nat):Int), -1,((o:Nat):Int))
noncomputable def ki (kd:Int):Option yj:=
 if kd=1 then pD fo kd else if kd=2 then kh ((U.length:Nat):Int) (cu U fo) kd else if kd=3 then qo U fo ((U.length:Nat):Int) (cu U fo) kd else if kd=4 then qp U fo ((U.length:Nat):Int) (cu U fo) kd
 else if kd=5 then kh ((U.length:Nat):Int) (AK U fo) kd else if kd=6 then sK U fo kd else sI U fo kd
noncomputable def iN (lv:Int):Option yj:=(dV lv).findSome? (ki U fo)
noncomputable def eX:List (Int×Rows):=(List.range U.length).map fun o=>(((U.length:Nat):Int),cW U fo ((o:Nat):Int))
end
section
variable {U:List aO} {fo:aA}
theorem A6:(eX U fo).length=U.length:=by unfold eX;simp
theorem Of {x:Int×Rows} (h:(eX U fo)[((j:Nat):Int).toNat]? =some x):j<U.length∧x=(((U.length:Nat):Int),cW U fo ((j:Nat):Int)):=by
 rw[dP] at h
 have hl:=(dE.1 h).1
 rw[A6] at hl
 unfold eX at h
 rw[anl,aob hl] at h
 exact⟨hl,(ana h).symm⟩
theorem RE (hj:j<U.length):(eX U fo).take j++[(((U.length:Nat):Int),cW U fo ((j:Nat):Int))]=(eX U fo).take (j+1):=by
 have h:(eX U fo)[j]? =some (((U.length:Nat):Int),cW U fo ((j:Nat):Int)):=by unfold eX;rw[anl,aob hj];rfl
 rw[anH,h];rfl
theorem af3 {es:List ep} (ez:fo.length=U.length) (fL:∀x∈fo,x<((U.length:Nat):Int)) (h:DO U fo ((U.length:Nat):Int) (cu U fo) es):l_ ((U.length:Nat):Int) (cu U fo) es=AK U fo:=by
 unfold cu at h ⊢
 rw[M9 (p:=pX U fo) (Q0 U.length (MB U fo)) (D9 ez fL h)]
 unfold AK
 refine dN fun a b ha hb=>F2 (fun x y hx hy=>?_) ha hb
 rw[anw]
 unfold Jz TH
 rw[anm,anm,anN,@decide_eq_true_iff _ (Classical.propDecidable _)]
 refine or_congr Iff.rfl ⟨?_,?_⟩
 ·rintro⟨e,he,h2⟩
  simp only[eW,anb] at h2
  obtain⟨a',b',r',rfl,k⟩:=BI ez ((h.2 e).1 he)
  obtain rfl:a'=x:=by simp only at h2;omega
  obtain rfl:b'=y:=by simp only at h2;omega
  exact⟨r',k⟩
 ·rintro⟨r,k⟩
  exact⟨_,(h.2 _).2 (O7 ez k),by simp⟩
theorem ZZ {α β:Type} {l:List α} {f:α→Option β} {x:α} (hs:∀y∈l.take j,f y=none) (hx:l[((j:Nat):Int).toNat]? =some x) (h:f x=none):∀y∈l.take (j+1),f y=none:=by
 rw[dP] at hx
 intro y hy
 rw[anH,hx] at hy
 rcases anx.1 hy with hy|hy
 ·exact hs y hy
 ·simp at hy;rw[hy];exact h
theorem ZY {α β:Type} {l:List α} {f:α→Option β} {x:α} {y:β} (hs:∀y∈l.take j,f y=none) (hx:l[((j:Nat):Int).toNat]? =some x) (h:f x=some y):l.findSome? f=some y:=by
 rw[dP] at hx
 have e:l=l.take j++x::l.drop (j+1):=by
  rw[←(dE.1 hx).2,apU,aor]
 rw[e,List.findSome?_append,apx.2 hs,List.findSome?_cons,h];rfl
theorem ady {α β:Type} {l:List α} {f:α→Option β} (hs:∀y∈l.take j,f y=none) (hj:l.length≤j):l.findSome? f=none:=by
 rw[anj hj] at hs
 exact apx.2 hs
theorem LQ {lv x:Int} (h:x∈dV lv):x=1∨x=2∨x=3∨x=4∨x=5∨x=6∨x=7:=by
 unfold dV at h
 cases h1:decide (lv=1)<;>cases h2:decide (lv=2)<;>cases h3:decide (lv=3)<;>simp[h1,h2,h3] at h<;>omega
end
theorem rT:aJ (-1):=by unfold aJ;omega
theorem FB:aJ 0:=by unfold aJ;omega
theorem HW (h:j≤9223372036854775807):aJ ((j:Nat):Int):=by unfold aJ;omega
theorem NZ:Um 0 0 0 0 0:=⟨FB,FB,FB,FB,FB⟩
section
variable {U:List aO} {fo:aA} {n kd:Int} {rs:Rows} {j:Nat} {x a:Int}
theorem wiN (h:aJ kd):Um kd (-1) (-1) (-1) (-1):=⟨h,rT,rT,rT,rT⟩
theorem N5:decide (0≤eM (fun z_=>decide ((-2)=z_)) fo)=(pD fo kd).isSome:=by
 unfold pD;split<;>simp_all
theorem aaN (hk:aJ kd) (hl:fo.length≤9223372036854775807):qE (pD fo kd) kd (eM (fun z_=>decide ((-2)=z_)) fo) (-1) (-1) (-1):=by
 have h:=wK (p:=fun z_=>decide ((-2)=z_)) (r:=fo)
 refine⟨⟨hk,by unfold aJ;omega,rT,rT,rT⟩,fun y hy=>?_⟩
 unfold pD at hy
 split at hy
 ·exact(ana hy).symm
 ·cases hy
theorem Cx:(cP n rs).isSome=(kh n rs kd).isSome:=by unfold kh;simp
theorem LL {i:Nat} (h:cP n rs=some i):i<n.toNat:=by
 unfold cP at h;exact ang.1 (apD h)
theorem PM (hk:aJ kd) (hn:n≤9223372036854775807) (h:(cP n rs).isSome=true):qE (kh n rs kd) kd (-1) (-1) (-1) (((cP n rs).getD 0:Nat):Int):=by
 obtain⟨i,hi⟩:=anB.1 h
 have hl:=LL hi
 unfold kh
 rw[hi]
 exact zY J ⟨hk,rT,rT,rT,HW (by simp only[apn];omega)⟩
theorem PN (hk:aJ kd) (h:(cP n rs).isSome=false):qE (kh n rs kd) kd (-1) (-1) (-1) (-1):=
 uv (by unfold kh;cases e:cP n rs<;>simp_all) (wiN hk)
theorem adI (h:AI U fo n rs=some j):true=(qo U fo n rs kd).isSome:=by unfold qo;rw[h];rfl
theorem TG (h:AI U fo n rs=none):qo U fo n rs kd=none:=by unfold qo;rw[h];rfl
theorem af2 (hk:aJ kd) (h:AI U fo n rs=some j) (hj:j≤9223372036854775807) (hx:(dq U n rs ((j:Nat):Int))[(0:Int).toNat]? =some x) (ix:aJ x):qE (qo U fo n rs kd) kd ((j:Nat):Int) x (-1) (-1):=by
 refine zY ?_ ⟨hk,HW hj,ix,rT,rT⟩
 unfold qo;rw[h];show some (kd,_,(dq U n rs ((j:Nat):Int)).headD 0,_,_)=_
 rw[Mi hx]
theorem adW (h:F6 U fo n rs=some j):true=(qp U fo n rs kd).isSome:=by unfold qp;rw[h];rfl
theorem T1 (h:F6 U fo n rs=none):qp U fo n rs kd=none:=by unfold qp;rw[h];rfl
theorem af4 (hk:aJ kd) (h:F6 U fo n rs=some j) (hb:zQ U fo n rs j=some x) (ha:fo.getD j 0=a) (hj:j≤9223372036854775807) (ia:aJ a) (ix:aJ x):qE (qp U fo n rs kd) kd ((j:Nat):Int) a x (-1):=by
 refine zY ?_ ⟨hk,HW hj,ia,ix,rT⟩
 unfold qp;rw[h];show some (kd,_,fo.getD j 0,(zQ U fo n rs j).getD 0,_)=_
 rw[hb,ha];rfl
end
theorem M8 {U:List aO} {n:Int} {rs:Rows} {k:Nat} {x:Int} (h:bK n rs=true) (hx:(dq U n rs r)[k]? =some x):aJ x:=by
 have hm:=dC hx
 unfold dq aX at hm
 have hm:=(ant.1 hm).1
 unfold eY at hm
 split at hm
 ·obtain⟨k,hk,_,rfl⟩:=wX.1 hm
  have:=(bQ h).2.2.1
  unfold aJ;omega
 ·cases hm
section
variable {U:List aO} {fo:aA} {cn n2 kd:Int} {cr m2:Rows} {es:List ep} {q:Nat}
theorem Yz (ez:fo.length=U.length) (fL:∀x∈fo,x<((U.length:Nat):Int)) (oH:cn=((U.length:Nat):Int)) (pS:cr=cu U fo) (h:DO U fo cn cr es):oJ U.length es:=by
 subst oH pS;exact D9 ez fL h
theorem TU (hn:U.length≤4096) (oH:cn=((U.length:Nat):Int)) (pS:cr=cu U fo) (he:oJ U.length es) (h2:n2=cn∧m2=l_ cn cr (es.take q)):bK n2 m2=true:=by
 obtain⟨rfl,rfl⟩:=h2
 subst oH pS
 exact zT (pL fo hn) fun e S3=>he e (aox S3)
theorem adU (ez:fo.length=U.length) (fL:∀x∈fo,x<((U.length:Nat):Int)) (oH:cn=((U.length:Nat):Int)) (pS:cr=cu U fo) (h:DO U fo cn cr es) (h2:n2=cn∧m2=l_ cn cr (es.take q)) (hq:es.length≤q):n2=((U.length:Nat):Int)∧m2=AK U fo:=by
 obtain⟨rfl,rfl⟩:=h2
 subst oH pS
 rw[anj hq]
 exact⟨J,af3 ez fL h⟩
theorem Og (h:n2=N∧m2=R):(cP n2 m2).isSome=(kh N R kd).isSome:=by obtain⟨rfl,rfl⟩:=h;exact Cx
theorem abh (h:n2=N∧m2=R) (hk:aJ kd) (hn:N≤9223372036854775807) (h1:(cP n2 m2).isSome=true):qE (kh N R kd) kd (-1) (-1) (-1) (((cP n2 m2).getD 0:Nat):Int):=by obtain⟨rfl,rfl⟩:=h;exact PM hk hn h1
theorem abi (h:n2=N∧m2=R) (hk:aJ kd) (h1:(cP n2 m2).isSome=false):qE (kh N R kd) kd (-1) (-1) (-1) (-1):=by obtain⟨rfl,rfl⟩:=h;exact PN hk h1
end
end Go.Ew
namespace Go.Ew
section
variable {α:Type} {l:List α} {p:α→Bool} {j:Nat} {x:α}
theorem Yr (hs:∀y∈l.take j,p y=false) (hx:l[((j:Nat):Int).toNat]? =some x) (h:p x=false):∀y∈l.take (j+1),p y=false:=by
 rw[dP] at hx
 intro y hy
 rw[anH,hx] at hy
 rcases anx.1 hy with hy|hy
 ·exact hs y hy
 ·simp at hy;rw[hy];exact h
theorem adB (hs:∀y∈l.take j,p y=false) (hx:l[((j:Nat):Int).toNat]? =some x) (h:p x=true):l.find? p=some x:=by
 rw[dP] at hx
 have e:l=l.take j++x::l.drop (j+1):=by
  rw[←(dE.1 hx).2,apU,aor]
 rw[e,List.find?_append,aoH.2 (fun y hy=>by rw[hs y hy];exact apL),List.find?_cons,h];rfl
theorem ZH {l:aA} {p:Int→Bool} {j:Nat} {x:Int} (h:(aX p l)[((j:Nat):Int).toNat]? =some x):∃q:Nat,l[q]? =some x:=by
 have h1:=dC h
 unfold aX at h1
 exact apu (ant.1 h1).1
theorem adC (hs:∀y∈l.take j,p y=false) (hj:l.length≤j):l.find? p=none:=by
 rw[anj hj] at hs
 exact aoH.2 fun y hy=>by rw[hs y hy];exact apL
end
section
variable {U:List aO} {fo:aA} {kd:Int} {j:Nat} {r y x:Int} {X:Int×Rows}
theorem Gm (hn:U.length≤64) (hj:j<U.length):bK ((U.length:Nat):Int) (cW U fo ((j:Nat):Int))=true:=by
 unfold cW;exact lJ aj
theorem Y8 (h:(l6 U ((j:Nat):Int)).find? (Cu U fo ((U.length:Nat):Int) (cW U fo ((j:Nat):Int)))=none):IK U fo j=false:=by
 unfold IK Eh;rw[h];rfl
theorem aaY (h:(l6 U ((j:Nat):Int)).find? (Cu U fo ((U.length:Nat):Int) (cW U fo ((j:Nat):Int)))=some r):IK U fo j=true:=by
 unfold IK Eh;rw[h];rfl
theorem ae0 (h:IL U fo=some j):true=(sK U fo kd).isSome:=by unfold sK;rw[h];rfl
theorem Xg (h:IL U fo=none):sK U fo kd=none:=by unfold sK;rw[h];rfl
theorem ahL (hk:aJ kd) (h:IL U fo=some j) (h2:(l6 U ((j:Nat):Int)).find? (Cu U fo ((U.length:Nat):Int) (cW U fo ((j:Nat):Int)))=some r) (hj:j≤9223372036854775807) (hr:aJ r)
  (hx:(dq U ((U.length:Nat):Int) (cW U fo ((j:Nat):Int)) r)[(0:Int).toNat]? =some x) (ix:aJ x):qE (sK U fo kd) kd r x (-1) ((j:Nat):Int):=by
 refine zY ?_ ⟨hk,hr,ix,rT,HW hj⟩
 unfold sK;rw[h]
 have e:Eh U fo ((U.length:Nat):Int) (cW U fo ((j:Nat):Int)) ((j:Nat):Int)=some r:=h2
 show some (kd,(Eh U fo ((U.length:Nat):Int) (cW U fo ((j:Nat):Int)) ((j:Nat):Int)).getD 0,(dq U ((U.length:Nat):Int) (cW U fo ((j:Nat):Int)) ((Eh U fo ((U.length:Nat):Int) (cW U fo ((j:Nat):Int)) ((j:Nat):Int)).getD 0)).headD 0,_,_)=_
 rw[e]
 show some (kd,r,(dq U ((U.length:Nat):Int) (cW U fo ((j:Nat):Int)) r).headD 0,_,_)=_
 rw[Mi hx]
theorem aeO (h:IF U fo=some j):true=(sI U fo kd).isSome:=by unfold sI;rw[h];rfl
theorem Xd (h:IF U fo=none):sI U fo kd=none:=by unfold sI;rw[h];rfl
theorem ahE (hk:aJ kd) (h:IF U fo=some j) (hj:j<U.length) (hn:U.length≤64) (h2:(cP ((U.length:Nat):Int) (cW U fo ((j:Nat):Int))).isSome=true):
  qE (sI U fo kd) kd (-1) (((cP ((U.length:Nat):Int) (cW U fo ((j:Nat):Int))).getD 0:Nat):Int) (-1) ((j:Nat):Int):=by
 obtain⟨i,hi⟩:=anB.1 h2
 have hl:=LL hi
 refine zY ?_ ⟨hk,rT,HW (by rw[hi,apn];omega),rT,HW aj⟩
 unfold sI;rw[h];rfl
end
section
variable {U:List aO} {fo:aA} {lv x:Int} {j:Nat} {P:Option yj} {k r a b o:Int}
theorem Vb:ki U fo 1=pD fo 1:=by unfold ki;exact anc rfl
theorem Va:ki U fo 2=kh ((U.length:Nat):Int) (cu U fo) 2:=by unfold ki;rw[anf au];exact anc rfl
theorem U_:ki U fo 3=qo U fo ((U.length:Nat):Int) (cu U fo) 3:=by unfold ki;rw[anf au,anf au];exact anc rfl
theorem U9:ki U fo 4=qp U fo ((U.length:Nat):Int) (cu U fo) 4:=by unfold ki;rw[anf au,anf au,anf au];exact anc rfl
theorem U7:ki U fo 5=kh ((U.length:Nat):Int) (AK U fo) 5:=by unfold ki;rw[anf au,anf au,anf au,anf au];exact anc rfl
theorem U6:ki U fo 6=sK U fo 6:=by unfold ki;rw[anf au,anf au,anf au,anf au,anf au];exact anc rfl
theorem U5:ki U fo 7=sI U fo 7:=by unfold ki;rw[anf au,anf au,anf au,anf au,anf au];exact anf au
theorem Bc (hs:∀y∈(dV lv).take j,ki U fo y=none) (hx:(dV lv)[((j:Nat):Int).toNat]? =some x) (e:ki U fo x=P) (h:P.isSome=false):∀y∈(dV lv).take (j+1),ki U fo y=none:=
 ZZ hs hx (by rw[e];cases P<;>simp_all)
theorem od (hs:∀y∈(dV lv).take j,ki U fo y=none) (hx:(dV lv)[((j:Nat):Int).toNat]? =some x) (e:ki U fo x=P) (h:P.isSome=true):iN U fo lv=P:=by
 obtain⟨y,rfl⟩:=anB.1 h
 exact ZY hs hx e
theorem Om (hs:∀y∈(dV lv).take j,ki U fo y=none) (h:(dV lv).length≤j):iN U fo lv=none:=ady hs h
noncomputable def fg (U:List aO) (fo:aA) (lv:Int):Int:=if (iN U fo lv).isSome=true then 0 else 8
theorem sH (e:iN U fo lv=P) (h:P.isSome=true):0=fg U fo lv:=by unfold fg;rw[anc (by rw[e];exact h)]
theorem aaf (e:iN U fo lv=none):8=fg U fo lv:=by unfold fg;rw[anf (by rw[e];exact apL)]
theorem xf (e:iN U fo lv=P) (h:qE P k r a b o):qE (iN U fo lv) k r a b o:=by rw[e];exact h
theorem Vz (h:lv=1∨lv=2∨lv=3):dV lv≠[]:=by
 rcases h with rfl|rfl|rfl<;>simp[dV]
theorem SA:(dV lv).length≤6:=by
 unfold dV
 cases h1:decide (lv=1)<;>cases h2:decide (lv=2)<;>cases h3:decide (lv=3)<;>simp
end
end Go.Ew
namespace Go.Ew
variable {n x:Int} {r:Row} {q:Nat} {rs:Rows}
def Kg (a b:Row) (j:Nat):Bool:=!decide ((a.getD j 0#64 &&& b.getD j 0#64)=0#64)
def pd (a b:Row):Bool:=(List.range a.length).any (Kg a b)
theorem aei {p:Nat→Bool} {n j:Nat} (hj:j<n) (h:p j=true):true=(List.range n).any p:=(anN.2 ⟨j,ang.2 hj,h⟩).symm
theorem aas {p:Nat→Bool} {n j:Nat} (hs:∀q,q<j→p q=false) (hj:n≤j):false=(List.range n).any p:=by
 symm
 rw[aoZ]
 intro q hq
 rw[hs q (by have:=ang.1 hq;omega)]
 exact apL
theorem ZN {α:Type} {p:α→Bool} {r:List α} (h:0≤eM p r):eM p r<((r.length:Nat):Int):=by
 unfold eM at h ⊢
 cases e:r.findIdx? p with
 |none=>rw[e] at h;exact absurd h au
 |some i=>
  have:=(anE.1 e).1
  show ((i:Nat):Int)<_
  omega
def BX (n:Int) (r:Row):Prop:=r.length=words n∧∀x∈cX r,0≤x∧x<n
theorem ZC:BX n (eb n):=by
 refine⟨by unfold eb;simp,fun x hx=>?_⟩
 have:=vg.1 hx
 rw[Ft] at this;cases this
theorem ZB (h:BX n r) (h0:0≤x) (h1:x<n):BX n (ej r x):=by
 refine⟨by rw[←h.1];unfold ej;split<;>simp,fun y hy=>?_⟩
 have:=vg.1 hy
 rw[Dc,anm] at this
 rcases this with h2|h2
 ·exact h.2 y<|vg.2 h2
 ·simp only[eW,anb] at h2
  rw[h2.1];exact⟨h0,h1⟩
theorem ZD {x y:bt} (h:BX n r) (hx:r[q]? =some x):BX n (r.set q (x &&& ~~~y)):=by
 refine⟨by rw[am'];exact h.1,fun z hz=>?_⟩
 have h1:=vg.1 hz
 refine h.2 z<|vg.2 ?_
 unfold fq at h1 ⊢
 rw[eW] at h1 ⊢
 refine⟨h1.1,?_⟩
 have h2:=h1.2
 rw[ik,an7] at h2
 split at h2
 ·rename_i e
  rw[←e,ik,hx]
  split at h2
  ·simp only[apn,api,eW] at h2
   exact h2.1
  ·simp at h2
 ·rwa [←ik] at h2
theorem abN (h:BX n r) (hx:(cX r)[q]? =some x):0≤x∧x<n:=h.2 x (dC hx)
theorem Vw (h:BX n r) (h0:0≤x) (h1:x<n):x<64*((r.length:Nat):Int):=by
 rw[h.1];unfold words;omega
def KP (T:Rows) (lf:Row) (x:Int):Bool:=!(pd (T.getD x.toNat []) lf)
def adR (lf:Row) (x:Int):Row:=lf.set (x/64).toNat (lf.getD (x/64).toNat 0#64 &&& ~~~((1#64) <<< ((BitVec.ofInt 64 (x%64)).toNat:Int).toNat))
def A0 (T:Rows):Nat→Row→aA→aA×Int
 |0,_,os=>(os,0)
 |k+1,lf,os=>if eM (KP T lf) (cX lf)<0 then ([],7) else A0 T k (adR lf ((cX lf).getD (eM (KP T lf) (cX lf)).toNat 0)) (os++[(cX lf).getD (eM (KP T lf) (cX lf)).toNat 0])
def rr (n:Int):aA→Row→Option Row
 |[],lf=>some lf
 |x::r,lf=>if x<0∨n≤x∨fq lf x=true then none else rr n r (ej lf x)
def dK (n:Int) (rs:Rows) (nd:aA):aA×Int:=match rr n nd (eb n) with
 |none=>([],1)
 |some lf=>A0 (gH n rs) nd.length lf []
section
variable {n:Int} {rs T:Rows} {nd os:aA} {lf:Row} {j:Nat} {x:Int} {y:bt}
theorem Y4 (h:rr n nd (eb n)=rr n (nd.drop j) lf) (hx:nd[((j:Nat):Int).toNat]? =some x) (h0:0≤x) (h1:x<n) (h2:fq lf x=false):rr n nd (eb n)=rr n (nd.drop (j+1)) (ej lf x):=by
 rw[dP] at hx
 obtain⟨hj,qx⟩:=dE.1 hx
 rw[h,an8 hj,qx]
 show (if _ then _ else _)=_
 rw[anf (by rintro(h3|h3|h3);omega;omega;rw[h2] at h3;cases h3)]
theorem KS (h:rr n nd (eb n)=rr n (nd.drop j) lf) (hx:nd[((j:Nat):Int).toNat]? =some x) (h1:x<0∨n≤x∨fq lf x=true):dK n rs nd=([],1):=by
 rw[dP] at hx
 obtain⟨hj,qx⟩:=dE.1 hx
 rw[an8 hj,qx] at h
 have:rr n nd (eb n)=none:=by
  rw[h];show (if _ then _ else _)=_;rw[anc h1]
 unfold dK;rw[this]
theorem UB (h:rr n nd (eb n)=rr n (nd.drop j) lf) (hj:nd.length≤j):dK n rs nd=A0 (gH n rs) (nd.length-([]:aA).length) lf []:=by
 rw[List.drop_of_length_le hj] at h
 unfold dK;rw[h];rfl
theorem aeP (h:dK n rs nd=A0 (gH n rs) (nd.length-os.length) lf os) (hl:os.length<nd.length) (hi:eM (KP (gH n rs) lf) (cX lf)<0):dK n rs nd=([],7):=by
 rw[h,show nd.length-os.length=(nd.length-os.length-1)+1 from by omega]
 show (if _ then _ else _)=_
 rw[anc hi]
theorem Y3 (h:dK n rs nd=A0 (gH n rs) (nd.length-os.length) lf os) (hl:os.length<nd.length) (hi:¬eM (KP (gH n rs) lf) (cX lf)<0) (hx:(cX lf)[(eM (KP (gH n rs) lf) (cX lf)).toNat]? =some x) (hy:lf[(x/64).toNat]? =some y):
  dK n rs nd=A0 (gH n rs) (nd.length-(os++[x]).length) (lf.set (x/64).toNat (y &&& ~~~((1#64) <<< ((BitVec.ofInt 64 (x%64)).toNat:Int).toNat))) (os++[x]):=by
 have e1:(cX lf).getD (eM (KP (gH n rs) lf) (cX lf)).toNat 0=x:=by rw[ik,hx];rfl
 have e2:lf.getD (x/64).toNat 0#64=y:=by rw[ik,hy];rfl
 rw[h,show nd.length-os.length=(nd.length-os.length-1)+1 from by omega]
 show (if _ then _ else _)=_
 rw[anf hi,e1,fF,iI,gj,show nd.length-(os.length+(0+1))=nd.length-os.length-1 from by omega]
 unfold adR
 rw[e2]
theorem aaO (h:dK n rs nd=A0 (gH n rs) (nd.length-os.length) lf os) (hl:nd.length≤os.length):dK n rs nd=(os,0):=by
 rw[h,show nd.length-os.length=0 from by omega];rfl
theorem KQ:∀(k:Nat) (lf:Row) (os:aA),(A0 T k lf os).1.length≤os.length+k
 |0,_,_=>ane _
 |k+1,lf,os=>by
  show (if _ then _ else _:aA×Int).1.length≤_
  split
  ·exact aok _
  ·refine Nat.le_trans (KQ k _ _) ?_
   rw[fF,iI,gj];omega
theorem KR:(dK n rs nd).1.length≤nd.length:=by
 unfold dK
 split
 ·exact aok _
 ·refine Nat.le_trans (KQ _ _ _) ?_
  simp
end
theorem aeX {U:List aO} {fo:aA} {o:Int} (hn:U.length≤64):bK ((U.length:Nat):Int) (cW U fo o)=true:=by
 unfold cW;exact lJ aj
theorem ZG {l:aA} {p:Int→Bool}:(aX p l).length≤l.length:=by unfold aX;exact aoc _ _
theorem uW (h:bK n rs=true) (o:Int) (p:Int→Bool):(aX p (bO n rs o)).length≤4096:=Nat.le_trans ZG (uX h o)
theorem Ro (h:bK n rs=true) (o:Int) (p:Int→Bool):(dK n rs (aX p (bO n rs o))).1.length≤4096:=Nat.le_trans KR (uW h o p)
theorem Iq {U:List aO} {mn n2:Int} {m2:Rows} {es:List ep} (B8:mn=((U.length:Nat):Int)) (h:bK mn rs=true) (he:oJ U.length es) (h2:n2=mn∧m2=l_ mn rs (es.take q)):bK n2 m2=true:=by
 obtain⟨rfl,rfl⟩:=h2
 subst B8
 exact zT h fun e S3=>he e (aox S3)
theorem RM:bK 0 []=true:=by decide
end Go.Ew
namespace Go.Ew
variable {x y w:List Nat} {a b:Nat}
def pO (n:Nat) (p:hG):Nat→Nat→Nat→List Nat→Prop
 |0,a,b,w=>a=b∧w=[a]
 |L+1,a,b,w=>∃k v,k<n∧p a k=true∧pO n p L k b v∧w=a::v
def I4:List Nat→List Nat→Prop
 |a::x,b::y=>a<b∨(a=b∧I4 x y)
 |_,_=>False
def slt (x y:List Nat):Prop:=x.length<y.length∨(x.length=y.length∧I4 x y)
def sle (x y:List Nat):Prop:=x=y∨slt x y
section
variable {n:Nat} {p:hG}
theorem GD:∀x,¬I4 x x
 |[],h=>h
 |a::x,h=>by
  rcases h with h|⟨-,h⟩
  ·exact ape _ h
  ·exact GD x h
theorem I3:∀{x y z:List Nat},I4 x y→I4 y z→I4 x z
 |a::x,b::y,c::z,h,k=>by
  rcases h with h|⟨rfl,h⟩
  ·rcases k with k|⟨rfl,k⟩
   ·exact .inl (aql h k)
   ·exact .inl h
  ·rcases k with k|⟨rfl,k⟩
   ·exact .inl k
   ·exact .inr ⟨J,I3 h k⟩
 |[],_,_,h,_=>h.elim
 |_::_,[],_,h,_=>h.elim
 |_::_,_::_,[],_,k=>k.elim
theorem Br:∀{x y:List Nat} {a b:Nat},x.length=y.length→(I4 x y∨(x=y∧a<b))→I4 (x++[a]) (y++[b])
 |[],[],a,b,_,h=>by
  rcases h with h|⟨-,h⟩
  ·exact h.elim
  ·exact .inl h
 |c::x,d::y,a,b,hl,h=>by
  have hl':x.length=y.length:=by simpa using hl
  rcases h with (h|⟨rfl,h⟩)|⟨h,k⟩
  ·exact .inl h
  ·exact .inr ⟨J,Br hl' (.inl h)⟩
  ·cases h;exact .inr ⟨rfl,Br hl' (.inr ⟨rfl,k⟩)⟩
theorem PD (x:List Nat):¬slt x x:=by
 rintro(h|⟨-,h⟩)
 ·exact ape _ h
 ·exact GD x h
theorem II {z:List Nat} (h:slt x y) (k:slt y z):slt x z:=by
 rcases h with h|⟨h1,h2⟩<;>rcases k with k|⟨k1,k2⟩
 ·exact .inl aj
 ·exact .inl aj
 ·exact .inl aj
 ·exact .inr ⟨by omega,I3 h2 k2⟩
theorem Cs {z:List Nat} (h:sle x y) (k:sle y z):sle x z:=by
 rcases h with rfl|h
 ·exact k
 ·rcases k with rfl|k
  ·exact .inr h
  ·exact .inr (II h k)
theorem K6 (h:sle x y) (k:sle y x):x=y:=by
 rcases h with rfl|h
 ·rfl
 ·rcases k with rfl|k
  ·rfl
  ·exact absurd (II h k)<|PD _
theorem K4 (a b:Nat) (h:slt x y):slt (x++[a]) (y++[b]):=by
 rcases h with h|⟨h1,h2⟩
 ·exact .inl (by simp;omega)
 ·exact .inr ⟨by simp;omega,Br h1 (.inl h2)⟩
theorem UE (h:a<b):slt (x++[a]) (x++[b]):=.inr ⟨by simp,Br rfl (.inr ⟨rfl,h⟩)⟩
theorem K5 (a:Nat) (h:sle x y):sle (x++[a]) (y++[a]):=by
 rcases h with rfl|h
 ·exact .inl rfl
 ·exact .inr (K4 a a h)
theorem N9 (h:sle x y):x.length≤y.length:=by
 rcases h with rfl|h|⟨h, -⟩<;>omega
theorem UG (a:Nat) (h:sle x y):sle (a::x) (a::y):=by
 rcases h with rfl|h|⟨h1,h2⟩
 ·exact .inl rfl
 ·exact .inr (.inl (by simp;omega))
 ·exact .inr (.inr ⟨by simp;omega,.inr ⟨J,h2⟩⟩)
theorem lq:∀{L a b:Nat} {w:List Nat},pO n p L a b w→w.length=L+1
 |0,a,b,w,h=>by rw[h.2];rfl
 |L+1,a,b,w,h=>by
  obtain⟨k,v,_,_,h,rfl⟩:=h
  rw[iI,lq h]
theorem AV:∀{L a b:Nat} {w:List Nat},pO n p L a b w→w[0]? =some a
 |0,a,b,w,h=>by rw[h.2];rfl
 |L+1,a,b,w,h=>by
  obtain⟨k,v,_,_,h,rfl⟩:=h
  rfl
theorem xg:∀{L a b:Nat} {w:List Nat},pO n p L a b w→w[L]? =some b
 |0,a,b,w,h=>by rw[h.2,h.1];rfl
 |L+1,a,b,w,h=>by
  obtain⟨k,v,_,_,h,rfl⟩:=h
  have:=xg h
  simpa using this
theorem E6:∀{L a b c:Nat} {w:List Nat},pO n p L a b w→c<n→p b c=true→pO n p (L+1) a c (w++[c])
 |0,a,b,c,w,h,hc,hp=>by
  obtain⟨rfl,rfl⟩:=h
  exact⟨c,[c],hc,hp,⟨J,J⟩,J⟩
 |L+1,a,b,c,w,h,hc,hp=>by
  obtain⟨k,v,h1,h2,h,rfl⟩:=h
  exact⟨k,v++[c],h1,h2,E6 h hc hp,J⟩
theorem tm:∀{L a c:Nat} {w:List Nat},pO n p (L+1) a c w→∃b v,pO n p L a b v∧p b c=true∧c<n∧w=v++[c]
 |0,a,c,w,h=>by
  obtain⟨k,v,h1,h2,⟨rfl,rfl⟩,rfl⟩:=h
  exact⟨a,[a],⟨J,J⟩,h2,h1,J⟩
 |L+1,a,c,w,h=>by
  obtain⟨k,v,h1,h2,h,rfl⟩:=h
  obtain⟨b,u,h3,h4,h5,rfl⟩:=tm h
  exact⟨b,a::u,⟨k,u,h1,h2,h3,J⟩,h4,h5,J⟩
theorem DP {L a b:Nat} {w:List Nat} (h:pO n p L a b w) (ha:a<n):∀x∈w,x<n:=by
 induction L generalizing a w with
 |zero=>obtain⟨rfl,rfl⟩:=h;simpa using ha
 |succ L ih=>
  obtain⟨k,v,h1,h2,h,rfl⟩:=h
  intro x hx
  rcases ans.1 hx with rfl|hx
  ·exact ha
  ·exact ih h h1 x hx
theorem Ck:∀{L a b t:Nat} {w:List Nat} {x:Nat},pO n p L a b w→w[t]? =some x→(∃u,pO n p t a x u)∧∃v,pO n p (L-t) x b v
 |L,a,b,0,w,x,h,hx=>by
  rw[AV h] at hx;cases hx
  exact⟨⟨[a],J,J⟩,w,h⟩
 |0,a,b,t+1,w,x,h,hx=>by obtain⟨rfl,rfl⟩:=h;simp at hx
 |L+1,a,b,t+1,w,x,h,hx=>by
  obtain⟨k,v,h1,h2,h,rfl⟩:=h
  obtain⟨⟨u,hu⟩,v',hv⟩:=Ck h (by simpa using hx)
  exact⟨⟨a::u,k,u,h1,h2,hu,J⟩,v',by rwa [show L+1-(t+1)=L-t from by omega]⟩
theorem KG:∀{L M a b c:Nat} {u v:List Nat},pO n p L a b u→pO n p M b c v→∃w,pO n p (L+M) a c w
 |0,M,a,b,c,u,v,h,k=>by obtain⟨rfl,rfl⟩:=h;exact⟨v,by rwa [anX]⟩
 |L+1,M,a,b,c,u,v,h,k=>by
  obtain⟨x,u',h1,h2,h,rfl⟩:=h
  obtain⟨w,hw⟩:=KG h k
  exact⟨a::w,by rw[show L+1+M=(L+M)+1 from by omega];exact⟨x,w,h1,h2,hw,J⟩⟩
def fo {α:Type} (f:Nat→Option α):Nat→Option α
 |0=>none
 |k+1=>match fo f k with
  |some x=>some x
  |none=>f k
theorem D5 {α:Type} {f:Nat→Option α} {x:α}:∀{n:Nat},fo f n=some x→∃k,k<n∧f k=some x∧∀j,j<k→f j=none
 |k+1,h=>by
  unfold fo at h
  have pf:∀m,fo f m=none→∀j,j<m→f j=none:=by
   intro m
   induction m with
   |zero=>intro _ j hj;omega
   |succ m ih=>
    intro hm j hj
    unfold fo at hm
    cases h1:fo f m with
    |some y=>rw[h1] at hm;cases hm
    |none=>
     rw[h1] at hm
     rcases aoS.1 hj with hj|rfl
     ·exact ih h1 j hj
     ·exact hm
  cases h1:fo f k with
  |some y=>
   rw[h1] at h;cases h
   obtain⟨j,h2,h3,h4⟩:=D5 h1
   exact⟨j,by omega,h3,h4⟩
  |none=>rw[h1] at h;exact⟨k,by omega,h,pf k h1⟩
theorem Ie {α:Type} {f:Nat→Option α}:∀{n:Nat},fo f n=none→∀j,j<n→f j=none
 |m+1,hm,j,hj=>by
  unfold fo at hm
  cases h1:fo f m with
  |some y=>rw[h1] at hm;cases hm
  |none=>
   rw[h1] at hm
   rcases aoS.1 hj with hj|rfl
   ·exact Ie h1 j hj
   ·exact hm
theorem af0 {α:Type} {f:Nat→Option α} {x:α} {n k:Nat} (hk:k<n) (h:f k=some x) (hj:∀j,j<k→f j=none):fo f n=some x:=by
 cases h1:fo f n with
 |none=>rw[Ie h1 k hk] at h;cases h
 |some y=>
  obtain⟨m,_,h3,h4⟩:=D5 h1
  rcases apS m k with hm|rfl|hm
  ·rw[hj m hm] at h3;cases h3
  ·rw[h3] at h;rw[h]
  ·rw[h4 k hm] at h;cases h
def wl (n:Nat) (p:hG):Nat→Nat→Nat→Option (List Nat)
 |0,a,b=>if a=b then some [a] else none
 |L+1,a,b=>fo (fun k=>if p a k=true then (wl n p L k b).map (a::·) else none) n
theorem DQ:∀{L a b:Nat},wl n p L a b=none→∀w,¬pO n p L a b w
 |0,a,b,h,w,hw=>by obtain⟨rfl,rfl⟩:=hw;unfold wl at h;simp at h
 |L+1,a,b,h,w,hw=>by
  obtain⟨k,v,h1,h2,h3,rfl⟩:=hw
  have h4:=Ie h k h1
  rw[anc h2,Option.map_eq_none_iff] at h4
  exact DQ h4 v h3
theorem zZ:∀{L a b:Nat} {w:List Nat},wl n p L a b=some w→pO n p L a b w∧∀v,pO n p L a b v→sle w v
 |0,a,b,w,h=>by
  unfold wl at h
  split at h
  ·rename_i e;cases h;exact⟨⟨e,rfl⟩,fun v hv=>.inl hv.2.symm⟩
  ·cases h
 |L+1,a,b,w,h=>by
  obtain⟨k,h1,h2,h3⟩:=D5 h
  have hp:p a k=true:=by
   cases hp:p a k with
   |true=>rfl
   |false=>rw[hp] at h2;simp at h2
  rw[anc hp,anC] at h2
  obtain⟨u,h2,rfl⟩:=h2
  obtain⟨h4,h5⟩:=zZ h2
  refine⟨⟨k,u,h1,hp,h4,J⟩,?_⟩
  rintro v ⟨m,v,k1,k2,k3,rfl⟩
  rcases apS m k with hm|rfl|hm
  ·have:=h3 m hm
   rw[anc k2,Option.map_eq_none_iff] at this
   exact absurd k3<|DQ this v
  ·exact UG a<|h5 v k3
  ·refine .inr (.inr ⟨by simp[lq h4,lq k3],.inr ⟨J,?_⟩⟩)
   have e1:=AV h4;have e2:=AV k3
   cases u with
   |nil=>simp at e1
   |cons x u=>
    cases v with
    |nil=>simp at e2
    |cons y v=>
     simp at e1 e2
     subst e1;subst e2
     exact .inl hm
def ET (n:Nat) (p:hG) (a b:Nat):Option (List Nat):=fo (fun L=>wl n p (L+1) a b) n
def IC (n:Nat) (p:hG) (a b:Nat) (w:List Nat):Prop:=(∃L,pO n p (L+1) a b w)∧∀L v,pO n p (L+1) a b v→sle w v
theorem LA:∀{n:Nat} {l:List Nat},l.Nodup→(∀x∈l,x<n)→l.length≤n
 |0,l,_,h=>by
  cases l with
  |nil=>simp
  |cons x l=>exact absurd (h x anY) aj
 |n+1,l,hd,h=>by
  have h1:(l.filter (fun x=>decide (x≠n))).length≤n:=LA (apK List.filter_sublist hd) fun x hx=>by
   have:=ant.1 hx
   have h2:=h x this.1
   have h3:=anT this.2
   omega
  have h2:∀l:List Nat,l.Nodup→l.length≤(l.filter (fun x=>decide (x≠n))).length+1:=by
   intro l
   induction l with
   |nil=>simp
   |cons a l ih=>
    intro hd
    have hd:=aog.1 hd
    by_cases ha:a=n
    ·subst ha
     have hf:l.filter (fun x=>decide (x≠a))=l:=ap6.2<|fun x hx=>anh<|fun (e:x=a)=>hd.1<|by rw[←e];exact hx
     rw[List.filter_cons_of_neg (by simp),hf]
     simp
    ·rw[List.filter_cons_of_pos (by simpa using ha)]
     have:=ih hd.2
     simp only[iI];omega
  have:=h2 l hd
  omega
theorem WN (h:IC n p a b w) {s t x:Nat} (qV:s<t) (hs:w[s]? =some x) (ht:w[t]? =some x):s=0∧t+1=w.length:=by
 obtain⟨⟨L,hw⟩,hl⟩:=h
 have hlen:=lq hw
 have OS:t<w.length:=(dE.1 ht).1
 obtain⟨⟨u,hu⟩, -⟩:=Ck hw hs
 obtain⟨-,v,hv⟩:=Ck hw ht
 obtain⟨y,hy⟩:=KG hu hv
 refine anV fun hc=>?_
 have C6:∃M,s+(L+1-t)=M+1:=⟨s+(L+1-t)-1,by omega⟩
 obtain⟨M,hM⟩:=C6
 rw[hM] at hy
 have h1:=N9<|hl _ _ hy
 have h2:=lq hy
 omega
theorem F7 (h:IC n p a b w) (ha:a<n):w.length≤n+1:=by
 have h0:=h
 obtain⟨⟨L,hw⟩,hl⟩:=h
 have hlen:=lq hw
 have hm:=DP hw ha
 have hd:w.dropLast.Nodup:=by
  rw[List.nodup_iff_pairwise_ne,List.pairwise_iff_getElem]
  intro i j hi hj Jh e
  rw[List.length_dropLast] at hi hj
  rw[List.getElem_dropLast,List.getElem_dropLast] at e
  have:=WN h0 Jh (eI aj)<|by rw[e];exact eI aj
  omega
 have:=LA hd fun x hx=>hm x (List.dropLast_subset _ hx)
 rw[List.length_dropLast] at this
 omega
theorem WO {a b:Nat} {w:List Nat} (h:IC n p a b w) (ha:a<n):ET n p a b=some w:=by
 have hlen:=F7 h ha
 have h0:=h
 obtain⟨⟨L,hw⟩,hl⟩:=h
 have hwl:=lq hw
 have afc:wl n p (L+1) a b=some w:=by
  cases h1:wl n p (L+1) a b with
  |none=>exact absurd hw (DQ h1 w)
  |some v=>
   obtain⟨h2,h3⟩:=zZ h1
   rw[K6 (h3 _ hw) (hl _ _ h2)]
 refine af0 (k:=L) aj afc fun j hj=>?_
 cases h1:wl n p (j+1) a b with
 |none=>rfl
 |some v=>
  have h2:=N9<|hl _ _ (zZ h1).1
  have h3:=lq (zZ h1).1
  omega
theorem F5 (h:ET n p a b=some w):IC n p a b w:=by
 obtain⟨L,h1,h2,h3⟩:=D5 h
 obtain⟨h4,h5⟩:=zZ h2
 refine⟨⟨L,h4⟩,fun M v hv=>?_⟩
 rcases apS M L with hm|rfl|hm
 ·exact absurd hv<|DQ (h3 M hm) v
 ·exact h5 v hv
 ·exact .inr (.inl (by rw[lq h4,lq hv];omega))
theorem ad7 {a b:Nat} (h:∀L w,¬pO n p (L+1) a b w):ET n p a b=none:=by
 cases h1:ET n p a b with
 |none=>rfl
 |some w=>obtain⟨⟨L,h2⟩,_⟩:=F5 h1;exact absurd h2 (h L w)
end
end Go.Ew
namespace Go.Ew
variable {x:Int} {t a k:Nat} {w u:List Nat}
structure Bk (bs:aA) (i j:Int) (w:aA):Prop where
 head:w[0]? =some i
 last:w[w.length-1]? =some j
 len:2≤w.length
 JD:∀t x y,w[t]? =some x→w[t+1]? =some y→bs[y.toNat]? =some x
 ne:∀t,1≤t→t+1<w.length→w[t]?≠some i
 rng:∀x∈w,0≤x∧x<(bs.length:Int)
theorem af5 {bs:aA} {i j:Int} {w v:aA} (h:Bk bs i j w) (k:Bk bs i j v):w=v:=by
 have key:∀s,s<w.length→s<v.length→w[w.length-1-s]? =v[v.length-1-s]?:=by
  intro s
  induction s with
  |zero=>intro _ _;rw[ap0,ap0,h.last,k.last]
  |succ s ih=>
   intro h1 h2
   have e:=ih aj aj
   have a1:w[w.length-1-(s+1)]? =some w[w.length-1-(s+1)]:=eI aj
   have a2:v[v.length-1-(s+1)]? =some v[v.length-1-(s+1)]:=eI aj
   have b1:w[w.length-1-s]? =some w[w.length-1-s]:=eI aj
   have b2:v[v.length-1-s]? =some v[v.length-1-s]:=eI aj
   have c1:=h.JD _ _ _ a1<|by rw[show w.length-1-(s+1)+1=w.length-1-s from by omega];exact b1
   have c2:=k.JD _ _ _ a2<|by rw[show v.length-1-(s+1)+1=v.length-1-s from by omega];exact b2
   rw[b1,b2] at e
   rw[ana e,c2] at c1
   rw[a1,a2,c1]
 have hl:w.length=v.length:=by
  refine anV fun gA=>?_
  have l1:=h.len;have l2:=k.len
  rcases Nat.lt_or_gt_of_ne gA with hc|hc
  ·have:=key (w.length-1) aj aj
   rw[an',h.head] at this
   exact k.ne _ aj aj this.symm
  ·have:=key (v.length-1) aj aj
   rw[an',k.head] at this
   exact h.ne _ aj aj this
 apply anL
 intro s
 by_cases hs:s<w.length
 ·have:=key (w.length-1-s) aj aj
  rwa [show w.length-1-(w.length-1-s)=s from by omega,show v.length-1-(w.length-1-s)=s from by omega] at this
 ·rw[anp aj,anp aj]
open Classical in
noncomputable def vG (bs:aA) (i j:Int):aA:=if h:∃w,Bk bs i j w then Classical.choose h else []
theorem adZ {bs:aA} {i j:Int} {w:aA} (h:Bk bs i j w):vG bs i j=w:=by
 have hh:∃w,Bk bs i j w:=⟨w,h⟩
 unfold vG
 rw[dif_pos hh]
 exact af5 (Classical.choose_spec hh) h
section
variable {bs:aA} {i j:Int} {w:aA} (h:Bk bs i j w)
include h
theorem WA (hx:bs[j.toNat]? =some x):w[w.length-1-1]? =some x:=by
 have l1:=h.len
 have a1:w[w.length-1-1]? =some w[w.length-1-1]:=eI aj
 have:=h.JD _ _ _ a1<|by rw[show w.length-1-1+1=w.length-1 from by omega];exact h.last
 rw[hx] at this
 rw[a1,ana this]
theorem aaj:[j]=(w.drop (w.length-1)).reverse:=by
 have l1:=h.len
 have h2:=h.last
 rw[eI aj] at h2
 rw[an8 aj,show w.length-1+1=w.length from by omega,List.drop_length,ana h2];rfl
theorem Pj {l:aA} (ht:1≤t) (OS:t<w.length) (hx:w[t-1]? =some x) (hl:l=(w.drop t).reverse):l++[x]=(w.drop (t-1)).reverse:=by
 have h1:t-1<w.length:=by omega
 rw[eI h1] at hx
 rw[an8 h1,show t-1+1=t from by omega,List.reverse_cons,←hl,ana hx]
theorem aai (ht:1≤t) (OS:t<w.length) (hx:w[t-1]? =some x) (e:x=i):t=1:=by
 refine anV fun gA=>?_
 exact h.ne (t-1) aj aj<|by rw[hx,e]
theorem adY {l:aA} (ht:1≤t) (OS:t<w.length) (hx:w[t-1]? =some x) (e:x=i) (hl:l=(w.drop t).reverse):(l++[x]).reverse=w:=by
 have h1:=aai h ht OS hx e
 rw[Pj h ht OS hx hl,List.reverse_reverse,h1];rfl
theorem YA (ht:1≤t) (hx:w[t-1]? =some x) (e:¬x=i):1≤t-1:=by
 refine anV fun gA=>?_
 rw[show t-1=0 from by omega,h.head] at hx
 exact e (ana hx).symm
theorem aak {y:Int} (ht:1≤t) (OS:t<w.length) (hx:w[t-1]? =some x) (e:¬x=i) (hy:bs[x.toNat]? =some y):w[t-1-1]? =some y:=by
 have h1:=YA h ht hx e
 have a1:w[t-1-1]? =some w[t-1-1]:=eI aj
 have:=h.JD _ _ _ a1<|by rw[show t-1-1+1=t-1 from by omega];exact hx
 rw[hy] at this
 rw[a1,ana this]
theorem T4 (hx:w[t]? =some x):0≤x∧x<(bs.length:Int):=h.rng x (dC hx)
end
def pE (n:Nat) (p:hG) (a:Nat):List Nat:=(List.range n).filter (p a)
def kb (w:List Nat) (k:Nat):Prop:=w.getLast?=some k
def Dn (n:Nat) (p:hG) (E:List (List Nat)) (c t:Nat) (u:List Nat) (k:Nat):Prop:=
 ∃a,kb u a∧k∈pE n p a∧((∃s,s<c∧E[s]? =some u)∨(E[c]? =some u∧k∈(pE n p a).take t))
structure Tr (n:Nat) (p:hG) (i:Nat) (bs:aA) (w:List Nat):Prop where
 wk:∃L b,pO n p L i b w
 JD:∀s x y,w[s]? =some x→w[s+1]? =some y→bs[y]? =some ((x:Nat):Int)
 ne:∀s x,1≤s→w[s]? =some x→x≠i
structure vO (n:Nat) (p:hG) (i j:Nat) (bs:aA) (E:List (List Nat)) (c t:Nat):Prop where
 len:bs.length=n
 hd:E[0]? =some [i]
 Yy:c≤E.length
 inc:∀(s u:Nat) (a b:List Nat),s<u→E[s]? =some a→E[u]? =some b→slt a b
 tr:∀w∈E,Tr n p i bs w
 dn:∀w∈E,w=[i]∨∃u k,w=u++[k]∧Dn n p E c t u k
 al:∀u k,Dn n p E c t u k→k≠j∧(k≠i→∃w∈E,kb w k∧sle w (u++[k]))
 Ph:∀k v,bs[k]? =some v→v≠ -1→k≠j∧(k≠i→∃w∈E,kb w k)
section
variable {n:Nat} {p:hG} {i j:Nat} {bs:aA} {E:List (List Nat)} {c t:Nat}
theorem uD:k∈pE n p a↔k<n∧p a k=true:=by unfold pE;simp[ant]
theorem Y5 {s u x y:Nat} (hsu:s<u) (hx:(pE n p a)[s]? =some x) (hy:(pE n p a)[u]? =some y):x<y:=by
 have h0:(pE n p a).Pairwise (·<·):=List.Pairwise.filter _ List.pairwise_lt_range
 have h1:=(dE.1 hx);have h2:=(dE.1 hy)
 have:=(List.pairwise_iff_getElem.1 h0) s u h1.1 h2.1 hsu
 rw[h1.2,h2.2] at this;exact this
theorem GM (u:List Nat) (k:Nat):kb (u++[k]) k:=by unfold kb;simp
theorem yM {L b:Nat} (h:pO n p L a b w):kb w b:=by
 unfold kb
 rw[List.getLast?_eq_getElem?,lq h]
 exact xg h
theorem sT {b:Nat} (h:kb w a) (k:kb w b):a=b:=by unfold kb at h k;rw[h] at k;exact ana k
theorem T6 (hi:i<n):vO n p i j (List.replicate n (-1)) [[i]] 0 0 where
 len:=by simp
 hd:=rfl
 Yy:=by simp
 inc:=by
  intro s u a b hsu ha hb
  have h2:=(dE.1 hb).1
  simp at h2;omega
 tr:=by
  intro w hw
  rw[aoh.1 hw]
  refine⟨⟨0,i,J,J⟩,?_,?_⟩
  ·intro s x y _ hy;simp at hy
  ·intro s x hs hx
   have h2:=(dE.1 hx).1
   simp at h2;omega
 dn:=by intro w hw;exact .inl (aoh.1 hw)
 al:=by
  rintro u k ⟨a,_,_,⟨s,hs,_⟩|⟨_,hk⟩⟩
  ·omega
  ·simp at hk
 Ph:=by
  intro k v hk hv
  have h2:=dE.1 hk
  obtain⟨h3,h4⟩:=h2
  simp at h4
  exact absurd h4.symm hv
theorem WH (h:vO n p i j bs E c t) (hu:E[c]? =some u) (ha:kb u a) (ht:(pE n p a).length≤t):vO n p i j bs E (c+1) 0:=by
 have hD:∀v k,Dn n p E (c+1) 0 v k↔Dn n p E c t v k:=by
  intro v k
  constructor
  ·rintro⟨b,h1,h2,⟨s,hs,h3⟩|⟨_,h3⟩⟩
   ·rcases aoS.1 hs with hs|rfl
    ·exact⟨b,h1,h2,.inl ⟨s,hs,h3⟩⟩
    ·rw[hu] at h3;cases h3
     obtain rfl:=sT ha h1
     exact⟨a,h1,h2,.inr ⟨hu,by rwa [anj ht]⟩⟩
   ·simp at h3
  ·rintro⟨b,h1,h2,⟨s,hs,h3⟩|⟨h3,_⟩⟩
   ·exact⟨b,h1,h2,.inl ⟨s,by omega,h3⟩⟩
   ·exact⟨b,h1,h2,.inl ⟨c,by omega,h3⟩⟩
 refine⟨h.len,h.hd,(dE.1 hu).1,h.inc,h.tr,?_,?_,h.Ph⟩
 ·intro w hw
  rcases h.dn w hw with e|⟨v,k,e,hd⟩
  ·exact .inl e
  ·exact .inr ⟨v,k,e,(hD v k).2 hd⟩
 ·intro v k hd
  exact h.al v k<|(hD v k).1 hd
theorem T7 {u w:List Nat} {a k:Nat} (h:vO n p i j bs E c t) (hu:E[c]? =some u) (ha:kb u a) (hk:(pE n p a)[t]? =some k) (hw:w∈E):slt w (u++[k]):=by
 have hul:0<u.length:=by
  cases u with
  |nil=>unfold kb at ha;simp at ha
  |cons x u=>simp
 rcases h.dn w hw with rfl|⟨v,m,rfl,b,h1,h2,⟨s,hs,h3⟩|⟨h3,h4⟩⟩
 ·exact .inl (by simp;omega)
 ·exact K4 _ _<|h.inc s c v u hs h3 hu
 ·rw[hu] at h3;cases h3
  obtain rfl:=sT ha h1
  obtain⟨s,hs⟩:=anu.1 h4
  have qV:s<t:=by
   have:=(dE.1 hs).1
   rw[iB] at this;omega
  rw[anG,anc qV] at hs
  exact UE<|Y5 qV hs hk
theorem Ij {v:List Nat} {m:Nat} (hu:E[c]? =some u) (ha:kb u a) (hk:(pE n p a)[t]? =some k) (h:Dn n p E c (t+1) v m):Dn n p E c t v m∨(v=u∧m=k):=by
 obtain⟨b,h1,h2,h3|⟨h3,h4⟩⟩:=h
 ·exact .inl ⟨b,h1,h2,.inl h3⟩
 ·rw[hu] at h3;cases h3
  obtain rfl:=sT ha h1
  rw[anH,hk] at h4
  rcases anx.1 h4 with h4|h4
  ·exact .inl ⟨a,h1,h2,.inr ⟨hu,h4⟩⟩
  ·exact .inr ⟨J,by simpa using h4⟩
theorem QW {m:Nat} (h:Dn n p E c t u m):Dn n p E c (t+1) u m:=by
 obtain⟨b,h1,h2,h3|⟨h3,h4⟩⟩:=h
 ·exact⟨b,h1,h2,.inl h3⟩
 ·exact⟨b,h1,h2,.inr ⟨h3,by
   obtain⟨s,hs⟩:=anu.1 h4
   have qV:s<t:=by
    have:=(dE.1 hs).1
    rw[iB] at this;omega
   rw[anG,anc qV] at hs
   exact anu.2 ⟨s,by rw[anG,anc aj];exact hs⟩⟩⟩
theorem WB {v:Int} (h:vO n p i j bs E c t) (hu:E[c]? =some u) (ha:kb u a) (hk:(pE n p a)[t]? =some k) (hv:bs[k]? =some v) (kn:v≠ -1):vO n p i j bs E c (t+1):=by
 refine⟨h.len,h.hd,h.Yy,h.inc,h.tr,?_,?_,h.Ph⟩
 ·intro w hw
  rcases h.dn w hw with e|⟨v,m,e,hd⟩
  ·exact .inl e
  ·exact .inr ⟨v,m,e,QW hd⟩
 ·intro v' m hd
  rcases Ij hu ha hk hd with hd|⟨rfl,rfl⟩
  ·exact h.al v' m hd
  ·obtain⟨h1,h2⟩:=h.Ph m v hv kn
   refine⟨h1,fun hi=>?_⟩
   obtain⟨w,hw,hwl⟩:=h2 hi
   exact⟨w,hw,hwl,.inr (T7 h hu ha hk hw)⟩
theorem Gj (h:Tr n p i bs w) (hk:bs[k]? =some (-1)):Tr n p i (bs.set k x) w:=by
 refine⟨h.wk,?_,h.ne⟩
 intro s a b ha hb
 have h1:=h.JD s a b ha hb
 rw[an7]
 split
 ·rename_i e;subst e
  rw[hk] at h1
  have:=ana h1
  omega
 ·exact h1
theorem af7 (h:vO n p i j bs E c t) (Jh:i≠j) (hu:E[c]? =some u) (ha:kb u a) (hk:(pE n p a)[t]? =some i) (hv:bs[i]? =some (-1)):vO n p i j (bs.set i ((a:Nat):Int)) E c (t+1):=by
 refine⟨by rw[am'];exact h.len,h.hd,h.Yy,h.inc,fun w hw=>Gj (h.tr w hw) hv,?_,?_,?_⟩
 ·intro w hw
  rcases h.dn w hw with e|⟨v,m,e,hd⟩
  ·exact .inl e
  ·exact .inr ⟨v,m,e,QW hd⟩
 ·intro v m hd
  rcases Ij hu ha hk hd with hd|⟨rfl,rfl⟩
  ·exact h.al v m hd
  ·exact⟨Jh,fun hi=>absurd rfl hi⟩
 ·intro m v hm kn
  by_cases e:m=i
  ·exact⟨by rw[e];exact Jh,fun hi=>absurd e hi⟩
  ·rw[anD aj] at hm
   exact h.Ph m v hm kn
theorem Y2 (h:Tr n p i bs u) (ha:kb u a) (hk:k∈pE n p a) (hv:bs[k]? =some (-1)) (Ay:k≠i):Tr n p i (bs.set k ((a:Nat):Int)) (u++[k]):=by
 obtain⟨L,b,hw⟩:=h.wk
 obtain rfl:=sT ha (yM hw)
 obtain⟨eD,Az⟩:=uD.1 hk
 have hlen:=lq hw
 have h2:=Gj (x:=((a:Nat):Int)) h hv
 refine⟨⟨L+1,k,E6 hw eD Az⟩,?_,?_⟩
 ·intro s x y hx hy
  have hs:s+1<(u++[k]).length:=(dE.1 hy).1
  rw[fF,ao3] at hs
  rw[nM aj] at hx
  by_cases gK:s+1<u.length
  ·rw[nM gK] at hy
   exact h2.JD s x y hx hy
  ·rw[ny aj,show s+1-u.length=0 from by omega] at hy
   simp at hy;subst hy
   rw[show s=L from by omega,xg hw] at hx
   cases hx
   rw[ano (by have:=(dE.1 hv).1;omega)]
 ·intro s x hs hx
  by_cases gK:s<u.length
  ·rw[nM gK] at hx
   exact h.ne s x hs hx
  ·rw[ny aj] at hx
   have:=(dE.1 hx).1
   simp at this
   rw[show s-u.length=0 from by omega] at hx
   simp at hx;rw[←hx];exact Ay
theorem WD (h:vO n p i j bs E c t) (hu:E[c]? =some u) (ha:kb u a) (hk:(pE n p a)[t]? =some k) (hv:bs[k]? =some (-1)) (Ay:k≠i) (OU:k≠j):
  vO n p i j (bs.set k ((a:Nat):Int)) (E++[u++[k]]) c (t+1):=by
 have rZ:c<E.length:=(dE.1 hu).1
 have hE:∀s v,s≤c→((E++[u++[k]])[s]? =some v↔E[s]? =some v):=fun s v hs=>by rw[nM aj]
 have hD:∀v m tt,Dn n p (E++[u++[k]]) c tt v m↔Dn n p E c tt v m:=by
  intro v m tt
  constructor
  ·rintro⟨b,h1,h2,⟨s,hs,h3⟩|⟨h3,h4⟩⟩
   ·exact⟨b,h1,h2,.inl ⟨s,hs,(hE s v aj).1 h3⟩⟩
   ·exact⟨b,h1,h2,.inr ⟨(hE c v aj).1 h3,h4⟩⟩
  ·rintro⟨b,h1,h2,⟨s,hs,h3⟩|⟨h3,h4⟩⟩
   ·exact⟨b,h1,h2,.inl ⟨s,hs,(hE s v aj).2 h3⟩⟩
   ·exact⟨b,h1,h2,.inr ⟨(hE c v aj).2 h3,h4⟩⟩
 have Jf:k∈pE n p a:=dC hk
 refine⟨by rw[am'];exact h.len,by rw[nM aj];exact h.hd,by rw[fF];omega,?_,?_,?_,?_,?_⟩
 ·intro s m x y hsm hx hy
  by_cases hm:m<E.length
  ·rw[nM aj] at hx
   rw[nM hm] at hy
   exact h.inc s m x y hsm hx hy
  ·have h1:=(dE.1 hy).1
   rw[fF,ao3] at h1
   rw[ny aj,show m-E.length=0 from by omega] at hy
   simp at hy;subst hy
   rw[nM aj] at hx
   exact T7 h hu ha hk<|dC hx
 ·intro w hw
  rcases anx.1 hw with hw|hw
  ·exact Gj (h.tr w hw) hv
  ·rw[aoh.1 hw]
   exact Y2 (h.tr u<|dC hu) ha Jf hv Ay
 ·intro w hw
  rcases anx.1 hw with hw|hw
  ·rcases h.dn w hw with e|⟨v,m,e,hd⟩
   ·exact .inl e
   ·exact .inr ⟨v,m,e,(hD _ _ _).2 (QW hd)⟩
  ·refine .inr ⟨u,k,aoh.1 hw,(hD _ _ _).2 ⟨a,ha,Jf,.inr ⟨hu,?_⟩⟩⟩
   exact anu.2 ⟨t,by rw[anG,anc aj];exact hk⟩
 ·intro v m hd
  rcases Ij hu ha hk ((hD _ _ _).1 hd) with hd|⟨rfl,rfl⟩
  ·obtain⟨h1,h2⟩:=h.al v m hd
   refine⟨h1,fun hi=>?_⟩
   obtain⟨w,hw,C2⟩:=h2 hi
   exact⟨w,aoy _ hw,C2⟩
  ·exact⟨OU,fun _=>⟨v++[m],aot _ (aoh.2 J),GM _ _,.inl rfl⟩⟩
 ·intro m v hm kn
  by_cases e:m=k
  ·subst e
   exact⟨OU,fun _=>⟨u++[m],aot _ (aoh.2 J),GM _ _⟩⟩
  ·rw[anD aj] at hm
   obtain⟨h1,h2⟩:=h.Ph m v hm kn
   refine⟨h1,fun hi=>?_⟩
   obtain⟨w,hw,C2⟩:=h2 hi
   exact⟨w,aoy _ hw,C2⟩
theorem MP {u:List Nat} (h:vO n p i j bs E c t) (hu:E[c]? =some u):∀L b w,pO n p L i b w→sle u w∨∃s v,s<c∧E[s]? =some v∧kb v b∧sle v w
 |0,b,w,hw=>by
  obtain⟨rfl,rfl⟩:=hw
  rcases aqb c with rfl|hc
  ·rw[h.hd] at hu;cases hu
   exact .inl (.inl rfl)
  ·exact .inr ⟨0,[i],hc,h.hd,J,.inl rfl⟩
 |L+1,b,w,hw=>by
  obtain⟨d,x,h1,h2,h3,rfl⟩:=tm hw
  have eo:slt x (x++[b]):=.inl (by simp)
  rcases MP h hu L d x h1 with h4|⟨s,v,hs,hv,SF,hvx⟩
  ·exact .inl (Cs h4<|.inr eo)
  ·obtain⟨h5,h6⟩:=h.al v b ⟨d,SF,uD.2 ⟨h3,h2⟩,.inl ⟨s,hs,hv⟩⟩
   by_cases xP:b=i
   ·subst xP
    exact .inr ⟨0,[b],by omega,h.hd,J,.inr (.inl (by simp[lq h1]))⟩
   ·obtain⟨y,hy,As,hyv⟩:=h6 xP
    have XD:sle y (x++[b]):=Cs hyv<|K5 b hvx
    obtain⟨m,hm⟩:=anu.1 hy
    rcases apS m c with hmc|rfl|hmc
    ·exact .inr ⟨m,y,hmc,hm,As,XD⟩
    ·rw[hu] at hm;cases hm
     exact .inl XD
    ·exact .inl (Cs (.inr (h.inc c m u y hmc hu hm)) XD)
theorem T8 (h:vO n p i j bs E c t) (hu:E[c]? =some u) (ha:kb u a) (hk:(pE n p a)[t]? =some j):IC n p i j (u++[j]):=by
 obtain⟨L,b,hw⟩:=(h.tr u (dC hu)).wk
 obtain rfl:=sT ha (yM hw)
 obtain⟨h1,h2⟩:=uD.1 (dC hk)
 refine⟨⟨L,E6 hw h1 h2⟩,fun M v hv=>?_⟩
 obtain⟨d,x,k1,k2,k3,rfl⟩:=tm hv
 rcases MP h hu M d x k1 with h4|⟨s,y,hs,hy,As,XD⟩
 ·exact K5 j h4
 ·exact absurd J (h.al y j ⟨d,As,uD.2 ⟨k3,k2⟩,.inl ⟨s,hs,hy⟩⟩).1
theorem Pk (h:vO n p i j bs E E.length 0):∀L b w,pO n p L i b w→∃v∈E,kb v b
 |0,b,w,hw=>by obtain⟨rfl,rfl⟩:=hw;exact⟨[i],dC h.hd,rfl⟩
 |L+1,b,w,hw=>by
  obtain⟨d,x,h1,h2,h3,rfl⟩:=tm hw
  obtain⟨v,hv,SF⟩:=Pk h L d x h1
  obtain⟨s,hs⟩:=anu.1 hv
  obtain⟨h5,h6⟩:=h.al v b ⟨d,SF,uD.2 ⟨h3,h2⟩,.inl ⟨s,(dE.1 hs).1,hs⟩⟩
  by_cases xP:b=i
  ·subst xP;exact⟨[b],dC h.hd,rfl⟩
  ·obtain⟨y,hy,As,_⟩:=h6 xP
   exact⟨y,hy,As⟩
theorem WG (h:vO n p i j bs E E.length 0):ET n p i j=none:=ad7 fun L w hw=>by
 obtain⟨d,x,h1,h2,h3,rfl⟩:=tm hw
 obtain⟨v,hv,SF⟩:=Pk h L d x h1
 obtain⟨s,hs⟩:=anu.1 hv
 exact(h.al v j ⟨d,SF,uD.2 ⟨h3,h2⟩,.inl ⟨s,(dE.1 hs).1,hs⟩⟩).1 rfl
end
end Go.Ew
namespace Go.Ew
variable {ys:aA} {q m:Nat} {v n:Int} {rs:Rows}
theorem Wo (h:q≤ys.length):(FY ys q).length=ys.length:=by unfold FY;simp;omega
theorem IN {xs zs:aA} (hx:xs.length=1) (hm:1≤m) (hz:zs.length=m):(xs++zs.drop xs.length).length=m∧(xs++zs.drop xs.length).take 1=List.replicate 1 (xs.headD 0):=by
 obtain⟨a,rfl⟩:=List.length_eq_one_iff.1 hx
 exact⟨by simp;omega,by simp⟩
theorem UU (h:ys.take q=List.replicate q v) (hl:ys.length=m) (hq:q<m):(FY ys q).take (q+min q (ys.length-q))=List.replicate (q+min q (ys.length-q)) v:=by
 unfold FY
 rw[h,List.take_replicate,←anM,List.replicate_append_replicate,show min (ys.length-q) q=min q (ys.length-q) from Nat.min_comm _ _]
 exact apC<|by simp
theorem Zi (h:ys.take q=List.replicate q v) (hl:ys.length=m) (hq:q≤m) (hm:m≤q):ys=List.replicate m v:=by
 rw[anj aj] at h
 rw[h,show q=m from by omega]
theorem HH (h0:0≤n) (h1:n≤4096):(BitVec.ofInt 64 n).toNat=n.toNat:=by
 rw[ao2]
 congr 1
 exact Int.emod_eq_of_lt h0<|by show n<18446744073709551616;omega
theorem Zw {x y:bt} (h:x=1#64):
  (x >>> 32)*(y >>> 32)+(((x >>> 32)*(y &&& 4294967295#64)+((x &&& 4294967295#64)*(y &&& 4294967295#64)) >>> 32) >>> 32)+(((((x >>> 32)*(y &&& 4294967295#64)+((x &&& 4294967295#64)*(y &&& 4294967295#64)) >>> 32) &&& 4294967295#64)+(x &&& 4294967295#64)*(y >>> 32)) >>> 32)=0#64:=by
 subst h
 have e1:(1#64:bt) &&& 4294967295#64=1#64:=by decide
 have e2:(1#64:bt) >>> 32=0#64:=by decide
 have e3:∀z:bt,1#64*z=z:=fun z=>BitVec.one_mul z
 have e4:∀z:bt,0#64*z=0#64:=fun z=>BitVec.zero_mul
 have e5:(y &&& 4294967295#64) >>> 32=0#64:=by
  apply aoQ
  rw[apc,BitVec.toNat_and,ao7]
  have:=Nat.and_lt_two_pow y.toNat<|show (4294967295#64).toNat<2^32 by decide
  rw[apq this];rfl
 have e6:(y >>> 32) >>> 32=0#64:=by
  apply aoQ
  rw[apc,apc,ao7,ao7]
  have:=y.isLt
  show y.toNat/4294967296/4294967296=0
  omega
 have e7:(0#64:bt) >>> 32=0#64:=by decide
 have e8:(0#64:bt) &&& 4294967295#64=0#64:=by decide
 have e9:∀z:bt,0#64+z=z:=fun z=>BitVec.zero_add z
 rw[e1,e2,e4,e4,e3,e3,e5,e9,e9,e7,e8,e9,e9,e6]
def qL (E:List (List Nat)) (c:Nat):aA:=(E.drop c).map fun w=>((w.getLastD 0:Nat):Int)
def Ps (n:Nat) (p:hG) (i j:Int) (bs td:aA):Prop:=∃E c,vO n p i.toNat j.toNat bs E c 0∧td=qL E c
def E2 (n:Nat) (p:hG) (i j:Int) (bs td:aA) (x:Int) (q:Nat):Prop:=
 ∃E c u a,vO n p i.toNat j.toNat bs E c q∧E[c]? =some u∧kb u a∧x=((a:Nat):Int)∧td=qL E (c+1)
section
variable {n:Nat} {p:hG} {i j:Int} {bs td:aA} {x k v:Int} {q:Nat}
theorem Xm {E:List (List Nat)} {c:Nat} (h:(qL E c)[0]? =some x):∃u,E[c]? =some u∧x=((u.getLastD 0:Nat):Int):=by
 unfold qL at h
 rw[anl,anU,anR,anC] at h
 obtain⟨u,h1,h2⟩:=h
 exact⟨u,h1,h2.symm⟩
theorem OJ {w:List Nat} {a:Nat} (h:kb w a):w.getLastD 0=a:=by
 unfold kb at h
 rw[List.getLastD_eq_getLast?,h];rfl
theorem MQ {c t:Nat} {E:List (List Nat)} {u:List Nat} {i j:Nat} (hi:i<n) (h:vO n p i j bs E c t) (hu:u∈E):∃a,kb u a∧a<n:=by
 obtain⟨L,b,hw⟩:=(h.tr u hu).wk
 exact⟨b,yM hw,DP hw hi b (dC<|xg hw)⟩
theorem T_ (h0:0≤i) (h1:i.toNat<n):Ps n p i j (List.replicate n (-1)) [i]:=⟨[[i.toNat]],0,T6 h1,by simp[qL,anP h0]⟩
theorem ad6 (hi:i.toNat<n) (h:Ps n p i j bs td) (hx:td[0]? =some x):0≤x∧x.toNat<n:=by
 obtain⟨E,c,hb,rfl⟩:=h
 obtain⟨u,hu,rfl⟩:=Xm hx
 obtain⟨a,ha,S9⟩:=MQ hi hb (dC hu)
 rw[OJ ha]
 exact⟨by omega,by omega⟩
theorem aan (hi:i.toNat<n) (h:Ps n p i j bs td) (hx:td[0]? =some x):E2 n p i j bs (td.drop 1) x 0:=by
 obtain⟨E,c,hb,rfl⟩:=h
 obtain⟨u,hu,rfl⟩:=Xm hx
 obtain⟨a,ha,S9⟩:=MQ hi hb (dC hu)
 exact⟨E,c,u,a,hb,hu,ha,by rw[OJ ha],by unfold qL;rw[←List.map_drop,an9]⟩
theorem DY {x:Int} (hk:(wh n (p x.toNat))[q]? =some k):(pE n p x.toNat)[q]? =some k.toNat∧0≤k∧k.toNat<n:=by
 unfold wh rR at hk
 rw[anl,anC] at hk
 obtain⟨m,h1,rfl⟩:=hk
 refine⟨by simpa [pE] using h1,by omega,?_⟩
 have:=(uD.1<|show m∈pE n p x.toNat from dC h1).1
 omega
theorem WI (h:E2 n p i j bs td x q) (hk:(wh n (p x.toNat))[q]? =some k) (hv:bs[k.toNat]? =some v) (kn:¬v= -1):E2 n p i j bs td x (q+1):=by
 obtain⟨E,c,u,a,hb,hu,ha,rfl,ht⟩:=h
 obtain⟨h1,h2,h3⟩:=DY hk
 rw[dP] at h1
 exact⟨E,c,u,a,WB hb hu ha h1 hv kn,hu,ha,J,ht⟩
theorem af8 (h:E2 n p i j bs td x q) (hk:(wh n (p x.toNat))[q]? =some k) (hv:bs[k.toNat]? =some v) (kn:v= -1) (OU:¬k=j) (Ay:k=i) (hj:0≤j):E2 n p i j (bs.set k.toNat x) td x (q+1):=by
 obtain⟨E,c,u,a,hb,hu,ha,rfl,ht⟩:=h
 obtain⟨h1,h2,h3⟩:=DY hk
 rw[dP] at h1
 subst Ay;subst kn
 exact⟨E,c,u,a,af7 hb aj hu ha h1 hv,hu,ha,J,ht⟩
theorem WJ (h:E2 n p i j bs td x q) (hk:(wh n (p x.toNat))[q]? =some k) (hv:bs[k.toNat]? =some v) (kn:v= -1) (OU:¬k=j) (Ay:¬k=i) (hj:0≤j) (hi:0≤i):E2 n p i j (bs.set k.toNat x) (td++[k]) x (q+1):=by
 obtain⟨E,c,u,a,hb,hu,ha,rfl,ht⟩:=h
 obtain⟨h1,h2,h3⟩:=DY hk
 rw[dP] at h1
 subst kn
 have rZ:=(dE.1 hu).1
 refine⟨E++[u++[k.toNat]],c,u,a,WD hb hu ha h1 hv aj aj,by rw[nM rZ];exact hu,ha,J,?_⟩
 unfold qL at ht ⊢
 rw[ap5 aj,aoz,←ht]
 simp only[anA,List.map_nil,List.getLastD_concat]
 rw[anP h2]
theorem WK (h:E2 n p i j bs td x q) (hq:(wh n (p x.toNat)).length≤q):Ps n p i j bs td:=by
 obtain⟨E,c,u,a,hb,hu,ha,rfl,ht⟩:=h
 refine⟨E,c+1,WH hb hu ha ?_,ht⟩
 rw[dP] at hq
 unfold wh rR at hq
 rw[anO] at hq
 exact hq
theorem Pl (h:Ps n p i j bs td) (ht:td=[]):ET n p i.toNat j.toNat=none:=by
 obtain⟨E,c,hb,rfl⟩:=h
 unfold qL at ht
 rw[List.map_eq_nil_iff,List.drop_eq_nil_iff] at ht
 have hc:c=E.length:=Nat.le_antisymm hb.Yy ht
 subst hc
 exact WG hb
theorem wW {w:List Nat} {t:Nat}:(rR w)[t]? =some x↔∃m,w[t]? =some m∧x=((m:Nat):Int):=by
 unfold rR
 rw[anl,anC]
 exact⟨fun ⟨m,h1,h2⟩=>⟨m,h1,h2.symm⟩,fun ⟨m,h1,h2⟩=>⟨m,h1,h2.symm⟩⟩
theorem T9 (hi:0≤i∧i.toNat<n) (h:E2 n p i j bs td x q) (hk:(wh n (p x.toNat))[q]? =some k) (hv:bs[k.toNat]? =some v) (kn:v= -1) (OU:k=j) (hj:0≤j):
  ∃w,Bk (bs.set k.toNat x) i j (rR w)∧ET n p i.toNat j.toNat=some w:=by
 obtain⟨E,c,u,a,hb,hu,ha,rfl,ht⟩:=h
 obtain⟨h1,h2,h3⟩:=DY hk
 rw[dP] at h1
 subst kn;subst OU
 have hB:=T8 hb hu ha h1
 refine⟨u++[k.toNat],?_,WO hB hi.2⟩
 have hT:=hb.tr u<|dC hu
 obtain⟨L,b,hw⟩:=hT.wk
 obtain rfl:=sT ha (yM hw)
 have hT2:=Gj (x:=((a:Nat):Int)) hT hv
 have hlen:=lq hw
 have Ax:=(dE.1 hv).1
 have GW:(rR (u++[k.toNat])).length=L+2:=by unfold rR;simp[hlen]
 refine⟨?_,?_,by omega,?_,?_,?_⟩
 ·rw[wW]
  exact⟨i.toNat,by rw[nM aj];exact AV hw,(anP hi.1).symm⟩
 ·rw[GW,wW]
  exact⟨k.toNat,by rw[ny aj,show L+2-1-u.length=0 from by omega];rfl,(anP h2).symm⟩
 ·intro t y z hy hz
  obtain⟨m,hm,rfl⟩:=wW.1 hy
  obtain⟨r,hr,rfl⟩:=wW.1 hz
  rw[dP]
  have hs:t+1<(u++[k.toNat]).length:=(dE.1 hr).1
  rw[fF,ao3] at hs
  rw[nM aj] at hm
  by_cases gK:t+1<u.length
  ·rw[nM gK] at hr
   exact hT2.JD t m r hm hr
  ·rw[ny aj,show t+1-u.length=0 from by omega] at hr
   simp only[anq,ann] at hr;subst hr
   rw[show t=L from by omega,xg hw] at hm
   cases hm
   rw[ano Ax]
 ·intro t ht1 SH hc
  rw[GW] at SH
  obtain⟨m,hm,e⟩:=wW.1 hc
  rw[nM aj] at hm
  exact hT.ne t m ht1 hm aj
 ·intro z hz
  obtain⟨t,ht⟩:=anu.1 hz
  obtain⟨m,hm,rfl⟩:=wW.1 ht
  obtain⟨L2,C2⟩:=hB.1
  have:=DP C2 hi.2 m<|dC hm
  rw[am',hb.len]
  omega
theorem Sp {k:Nat} (hv:bs[k]? =some v) (kn:v= -1) (hx:0≤x):(bs.set k x).count (-1)+1=bs.count (-1):=by
 subst kn
 obtain⟨h1,h2⟩:=dE.1 hv
 have C6:0<bs.count (-1):=List.count_pos_iff.2<|dC hv
 rw[List.count_set h1,h2]
 have gA:(x==(-1:Int))=false:=by rw[beq_eq_false_iff_ne];omega
 rw[gA]
 simp
 omega
end
theorem Aa (h:bK n rs=true) {x:Nat} {r:Row} (hx:rs[x]? =some r):cX r=wh n.toNat (fZ rs x):=by rw[pF h hx,yJ]
theorem Gy {bs td:aA} {k x:Int} {z:Nat} (hv:bs[k.toNat]? =some v) (kn:v= -1) (hx:0≤x) (hz:bs.count (-1)+td.length≤z):(bs.set k.toNat x).count (-1)+td.length≤z∧(bs.set k.toNat x).count (-1)+(td++[k]).length≤z:=by
 have h:=Sp hv kn hx
 exact⟨by omega,by rw[fF,ao3];omega⟩
def fz (n:Int) (rs:Rows) (i j:Int):Option aA:=if 0≤i∧i<n∧0≤j∧j<n then (ET n.toNat (fZ rs) i.toNat j.toNat).map rR else none
theorem sO {i j:Int} (h:i<0∨n≤i∨j<0∨n≤j):fz n rs i j=none:=by unfold fz;rw[anf aj]
theorem Ag {i j:Int} (h:0≤i∧i<n∧0≤j∧j<n):fz n rs i j=(ET n.toNat (fZ rs) i.toNat j.toNat).map rR:=by unfold fz;rw[anc h]
end Go.Ew
namespace Go.Ew
section
variable {n:Nat} {p:hG} {j k s t q i:Nat} {d:aA} {x y:Int}
variable {a:Nat} {b:Int}
variable {out:aA} {at_:Int}
end
section
variable {n:Int} {rs:Rows} {l:aA} {q:Nat} {x y:Int}
end
end Go.Ew
namespace Go.Ew
section
variable {n:Int} {rs:Rows} {a b c x y:Int} (h:bK n rs=true) (ha:0≤a∧a<n) (hb:0≤b∧b<n)
include h ha hb
theorem IQ (hs:(fz n rs a b).isSome=true):∃w,(fz n rs a b).getD []=rR w∧IC n.toNat (fZ rs) a.toNat b.toNat w∧a.toNat<n.toNat:=by
 rw[Ag ⟨ha.1,ha.2,hb.1,hb.2⟩] at hs ⊢
 cases hf:ET n.toNat (fZ rs) a.toNat b.toNat with
 |none=>rw[hf] at hs;cases hs
 |some w=>exact⟨w,rfl,F5 hf,by omega⟩
theorem U4 (hs:(fz n rs a b).isSome=true):2≤((fz n rs a b).getD []).length∧(((fz n rs a b).getD []).length:Int)≤n+1:=by
 obtain⟨w,e,hB,S9⟩:=IQ h ha hb hs
 have h2:=F7 hB S9
 obtain⟨L,hL⟩:=hB.1
 have h1:=lq hL
 rw[e];unfold rR;rw[anO]
 omega
end
end Go.Ew
namespace Go.Ew
section
variable {n a b:Int} {rs:Rows}
theorem Be (hs:(fz n rs a b).isSome=true):(0≤a∧a<n)∧0≤b∧b<n:=by
 unfold fz at hs
 split at hs
 ·omega
 ·cases hs
theorem U1 (h:bK n rs=true) (hs:(fz n rs a b).isSome=true):2≤((fz n rs a b).getD []).length∧(((fz n rs a b).getD []).length:Int)≤n+1:=U4 h (Be hs).1 (Be hs).2 hs
theorem U3 (h:bK n rs=true) (hs:(fz n rs a b).isSome=true) {q:Nat} {x:Int} (hx:((fz n rs a b).getD [])[q]? =some x):0≤x∧x<n:=by
 obtain⟨w,hw,⟨⟨L,hb⟩, -⟩,hn⟩:=IQ h (Be hs).1 (Be hs).2 hs
 rw[hw] at hx
 unfold rR at hx
 rw[anl] at hx
 cases hq:w[q]? with
 |none=>rw[hq] at hx;cases hx
 |some y=>
  rw[hq] at hx
  have:=DP hb hn y<|dC hq
  have e:((y:Nat):Int)=x:=ana hx
  omega
end
end Go.Ew
namespace Go.Ew
variable {r a b:Nat} {k:Int}
section
variable (U:List aO) (fo:aA)
def Iz (k:Int):Prop:=
 (k=1∧∃r:Nat,fo[r]? =some (-2))∨
 (k=2∧∃i,i<U.length∧pX U fo i i=true)∨
 (k=3∧∃r a,r<U.length∧a<U.length∧fo[r]? =some (-1)∧iQ U (qq U ((r:Nat):Int)) ((a:Nat):Int)=false∧pX U fo a r=true)∨
 (k=4∧∃r a b,r<U.length∧a<U.length∧b<U.length∧fo[r]? =some ((b:Nat):Int)∧a≠b∧iQ U (qq U ((r:Nat):Int)) ((a:Nat):Int)=false∧pX U fo a r=true∧pX U fo b a=true)∨
 (k=5∧∃i,i<U.length∧cl U.length (Jz U fo) i i=true)∨
 (k=6∧∃o r a,o<U.length∧r<U.length∧a<U.length∧((r:Nat):Int)∈l6 U ((o:Nat):Int)∧fo[r]? =some (-1)∧iQ U (qq U ((r:Nat):Int)) ((a:Nat):Int)=false∧B0 U fo ((o:Nat):Int) a r=true)∨
 (k=7∧∃o i,o<U.length∧i<U.length∧B0 U fo ((o:Nat):Int) i i=true)
end
section
variable {U:List aO} {fo:aA} {n:Nat} {p:hG}
theorem n3 {α:Type} {l:List α} {q:α→Bool}:(l.find? q).isSome=true↔∃x∈l,q x=true:=by
 rw[List.find?_isSome]
theorem Bp:(cP ((n:Nat):Int) (cH n p)).isSome=true↔∃i,i<n∧p i i=true:=by
 unfold cP
 rw[n3,dP]
 constructor
 ·rintro⟨i,hi,h⟩
  have hi:=ang.1 hi
  rw[uM hi hi] at h
  exact⟨i,hi,h⟩
 ·rintro⟨i,hi,h⟩
  exact⟨i,ang.2 hi,by rw[uM hi hi];exact h⟩
theorem th (hr:r<n) {z:Int}:z∈dq U ((n:Nat):Int) (cH n p) ((r:Nat):Int)↔∃a,a<n∧p a r=true∧iQ U (qq U ((r:Nat):Int)) ((a:Nat):Int)=false∧z=((a:Nat):Int):=by
 unfold dq aX
 rw[ant]
 unfold eY
 rw[anc aj,wX,dP]
 constructor
 ·rintro⟨⟨a,ha,h,rfl⟩,h2⟩
  refine⟨a,by omega,?_,by simpa using h2,J⟩
  rw[dP,jG aj hr] at h
  exact h
 ·rintro⟨a,ha,h,h2,rfl⟩
  refine⟨⟨a,by omega,?_,J⟩,by rw[h2];rfl⟩
  rw[dP,jG ha hr]
  exact h
theorem Ar {l:aA}:decide (0<((l.length:Nat):Int))=true↔∃z,z∈l:=by
 rw[anb]
 cases l with
 |nil=>simp
 |cons a l=>simp only[iI];exact⟨fun _=>⟨a,by simp⟩,fun _=>by omega⟩
theorem wN (hl:fo.length=U.length) (hr:r<U.length) {x d:Int}:fo.getD r d=x↔fo[r]? =some x:=by
 rw[ik,eI aj]
 simp
theorem UA:(pD fo k).isSome=true↔∃r:Nat,fo[r]? =some (-2):=by
 rw[←N5,anb]
 have h:=uG (p:=fun z_:Int=>decide ((-2)=z_)) (r:=fo)
 rw[←anb (p:=0≤_),h,anN]
 simp only[anb]
 constructor
 ·rintro⟨x,hx,rfl⟩
  obtain⟨r,hr⟩:=apu hx
  exact⟨r,hr⟩
 ·rintro⟨r,hr⟩
  exact⟨_,dC hr,J⟩
theorem wG {n:Nat} {q:Nat→Bool}:((List.range n).find? q).isSome=true↔∃i,i<n∧q i=true:=by
 rw[n3]
 simp only[ang]
theorem HS (hl:fo.length=U.length) (eo:∀x∈fo,x<((U.length:Nat):Int)) (hk:k=1∨k=2∨k=3∨k=4∨k=5∨k=6∨k=7):(ki U fo k).isSome=true↔Iz U fo k:=by
 unfold ki Iz
 rcases hk with rfl|rfl|rfl|rfl|rfl|rfl|rfl
 ·simp[UA]
 ·simp only[Int.reduceEq,aoP,an3,aqa,aqh,aqj,apG]
  rw[←Cx]
  exact Bp
 ·simp only[Int.reduceEq,aoP,an3,aqa,aqh,aqj,apG]
  unfold qo AI
  rw[apP,wG,hl]
  constructor
  ·rintro⟨r,hr,h⟩
   unfold vF at h
   rw[eW,anb,wN hl hr] at h
   obtain⟨z,hz⟩:=Ar.1 h.2
   unfold cu at hz
   obtain⟨a,ha,h1,h2,_⟩:=(th hr).1 hz
   exact⟨r,a,hr,ha,h.1,h2,h1⟩
  ·rintro⟨r,a,hr,ha,h1,h2,h3⟩
   refine⟨r,hr,?_⟩
   unfold vF
   rw[eW,anb,wN hl hr]
   exact⟨h1,Ar.2 ⟨((a:Nat):Int),(th hr).2 ⟨a,ha,h3,h2,J⟩⟩⟩
 ·simp only[Int.reduceEq,aoP,an3,aqa,aqh,aqj,apG]
  unfold qp F6
  rw[apP,wG,hl]
  constructor
  ·rintro⟨r,hr,h⟩
   unfold wa zQ at h
   rw[eW,n3] at h
   obtain⟨h0,z,hz,hq⟩:=h
   have h0:¬fo.getD r 0<0:=by simpa using h0
   unfold cu at hz
   obtain⟨a,ha,h1,h2,rfl⟩:=(th hr).1 hz
   have hb:fo[r]? =some (((fo.getD r 0).toNat:Nat):Int):=by
    rw[←wN hl hr (d:=0)];omega
   have Cc:=eo _<|dC hb
   unfold zP at hq
   rw[eW] at hq
   obtain⟨I_,nI⟩:=hq
   have gA:¬((a:Nat):Int)=fo.getD r 0:=by simpa using I_
   have hcc:((((fo.getD r 0).toNat:Nat)):Int)=fo.getD r 0:=by omega
   rw[←hcc] at nI
   unfold cu at nI
   rw[uM aj ha] at nI
   exact⟨r,a,(fo.getD r 0).toNat,hr,ha,by omega,hb,by omega,h2,h1,nI⟩
  ·rintro⟨r,a,b,hr,ha,hb,h1,h2,h3,h4,h5⟩
   refine⟨r,hr,?_⟩
   have h1':=(wN hl hr (d:=0)).2 h1
   unfold wa zQ
   rw[eW,n3,h1']
   refine⟨by simp,((a:Nat):Int),(th hr).2 ⟨a,ha,h4,h3,J⟩,?_⟩
   unfold zP cu
   rw[eW,uM hb ha]
   exact⟨by simp;omega,h5⟩
 ·simp only[Int.reduceEq,aoP,an3,aqa,aqh,aqj,apG]
  rw[←Cx]
  exact Bp
 ·simp only[Int.reduceEq,aoP,an3,aqa,aqh,aqj,apG]
  unfold sK IL
  rw[apP,wG]
  constructor
  ·rintro⟨o,ho,h⟩
   unfold IK Eh at h
   obtain⟨z,hz,hq⟩:=n3.1 h
   have hz2:z∈cC U ((o:Nat):Int):=by
    unfold l6 aX at hz
    exact(ant.1 hz).1
   unfold Cu at hq
   rw[eW,anb] at hq
   obtain⟨h1,h2⟩:=hq
   have hzn:0≤z∧z<((U.length:Nat):Int):=by
    by_cases hz0:0≤z∧z<((U.length:Nat):Int)
    ·exact hz0
    ·exfalso
     rw[Ar] at h2
     obtain⟨y,hy⟩:=h2
     unfold dq aX eY at hy
     rw[anf hz0] at hy
     simp at hy
   obtain⟨r,rfl⟩:∃r:Nat,z=((r:Nat):Int):=⟨z.toNat,by omega⟩
   have hr:r<U.length:=by omega
   rw[dP,wN hl hr] at h1
   obtain⟨y,hy⟩:=Ar.1 h2
   unfold cW at hy
   obtain⟨a,ha,h3,h4,_⟩:=(th hr).1 hy
   exact⟨o,r,a,ho,hr,ha,hz,h1,h4,h3⟩
  ·rintro⟨o,r,a,ho,hr,ha,h1,h2,h3,h4⟩
   refine⟨o,ho,?_⟩
   unfold IK Eh
   refine n3.2 ⟨((r:Nat):Int),h1,?_⟩
   unfold Cu
   rw[eW,anb,dP,wN hl hr]
   exact⟨h2,Ar.2 ⟨((a:Nat):Int),(th hr).2 ⟨a,ha,h4,h3,J⟩⟩⟩
 ·simp only[Int.reduceEq,aoP,an3,aqa,aqh,aqj,apG]
  unfold sI IF
  rw[apP,wG]
  constructor
  ·rintro⟨o,ho,h⟩
   unfold Xe at h
   obtain⟨i,hi,h⟩:=Bp.1 h
   exact⟨o,i,ho,hi,h⟩
  ·rintro⟨o,i,ho,hi,h⟩
   exact⟨o,ho,Bp.2 ⟨i,hi,h⟩⟩
end
structure JS (kE:List aO) (vy:aA) (U:List aO) (fo:aA) (g:Nat→Nat):Prop where
 lt:∀a,a<kE.length→g a<U.length
 inj:∀a b,a<kE.length→b<kE.length→g a=g b→a=b
 ah:∀a b,a<kE.length→b<kE.length→DG kE a b=true→DG U (g a) (g b)=true
 fr:∀r x,vy[r]? =some x→fo[g r]? =some (if 0≤x then ((g x.toNat:Nat):Int) else x)
 wr:∀a r,a<kE.length→r<kE.length→iQ kE (qq kE ((r:Nat):Int)) ((a:Nat):Int)=false→iQ U (qq U ((g r:Nat):Int)) ((g a:Nat):Int)=false
 kp:∀o r,o<kE.length→r<kE.length→((r:Nat):Int)∈l6 kE ((o:Nat):Int)→((g r:Nat):Int)∈l6 U ((g o:Nat):Int)
section
variable {kE U:List aO} {vy fo:aA} {g:Nat→Nat}
theorem JS.ed (E:JS kE vy U fo g) (hl:vy.length=kE.length) (oe:fo.length=U.length) (ha:a<kE.length) (hb:b<kE.length) (h:MB kE vy a b=true):MB U fo (g a) (g b)=true:=by
 unfold MB at h ⊢
 rw[anm] at h ⊢
 rcases h with h|h
 ·exact .inl (E.ah a b ha hb h)
 ·refine .inr ?_
  unfold Ll at h ⊢
  rw[anb,wN hl hb] at h
  have:=E.fr b _ h
  rw[anc aj,dP] at this
  rw[anb,wN oe (E.lt b hb)]
  exact this
theorem JS.co (E:JS kE vy U fo g) (hl:vy.length=kE.length) (oe:fo.length=U.length) (ha:a<kE.length) (hb:b<kE.length) (h:pX kE vy a b=true):pX U fo (g a) (g b)=true:=by
 unfold pX at h
 refine((rj ha hb).1 h).least (R:=fun x y=>pX U fo (g x) (g y)=true) (fun x y hx hy hp=>yc<|E.ed hl oe hx hy hp) fun x y z hx hy hz h1 h2=>BK (E.lt y hy) h1 h2
theorem JS.cf (E:JS kE vy U fo g) (eo:∀x∈vy,x<((kE.length:Nat):Int)) {p' p:Nat→bW} (hp:∀a b,a<kE.length→b<kE.length→p' a b→p (g a) (g b)) (h:Nk kE vy p' a b r):Nk U fo p (g a) (g b) (g r):=by
 have hb:=eo _<|dC h.fr
 have hf:=E.fr r _ h.fr
 rw[anc aj,dP] at hf
 exact⟨E.lt a h.a1,E.lt r h.r1,hf,fun e=>h.ne (E.inj a b h.a1 aj e),E.wr a b h.a1 aj h.wr,hp a r h.a1 h.r1 h.ah⟩
theorem Bn {U:List aO} {fo:aA} {o:Nat} (ho:o<U.length) (ha:a<U.length):((a:Nat):Int)∈bO ((U.length:Nat):Int) (cu U fo) ((o:Nat):Int)↔pX U fo a o=true∨a=o:=by
 unfold bO
 rw[anc aj,wX,dP,dP]
 constructor
 ·rintro⟨k,hk,h,e⟩
  obtain rfl:k=a:=by omega
  rw[anm,anb] at h
  unfold cu at h
  rw[jG hk ho] at h
  exact h
 ·intro h
  refine⟨a,ha,?_,J⟩
  rw[anm,anb]
  unfold cu
  rw[jG ha ho]
  exact h
theorem JS.sn (E:JS kE vy U fo g) (hl:vy.length=kE.length) (oe:fo.length=U.length) (eo:∀x∈vy,x<((kE.length:Nat):Int)) {o:Nat} (ho:o<kE.length) (ha:a<kE.length) (hb:b<kE.length) (h:B0 kE vy ((o:Nat):Int) a b=true):B0 U fo ((g o:Nat):Int) (g a) (g b)=true:=by
 have hR:=aaU U fo ((g o:Nat):Int)
 have key:Pr kE vy ((o:Nat):Int) (fun x y=>x<kE.length→y<kE.length→B0 U fo ((g o:Nat):Int) (g x) (g y)=true):=by
  refine⟨fun x y hx hy hc h1 h2 _ _=>?_,fun x y z hx hy hz h1 h2 _ _=>?_,fun x y r hr k hx hy=>?_⟩
  ·rw[Bn ho hx] at h1
   rw[Bn ho hy] at h2
   refine hR.base _ _ (E.lt x hx) (E.lt y hy) (E.co hl oe hx hy hc) ((Bn (E.lt o ho)<|E.lt x hx).2 ?_)<|(Bn (E.lt o ho)<|E.lt y hy).2 ?_
   ·exact h1.imp (E.co hl oe hx ho)<|am_ g
   ·exact h2.imp (E.co hl oe hy ho)<|am_ g
  ·exact hR.trans _ _ _ (E.lt x hx) (E.lt y hy) (E.lt z hz) (h1 hx hy) (h2 hy hz)
  ·exact hR.PJ _ _ (g r) (E.kp o r ho k.r1 hr)<|E.cf eo (p:=fun x y=>B0 U fo ((g o:Nat):Int) x y=true) (fun a b ha hb hp=>hp ha hb) k
 exact qd.1 h _ key ha hb
end
structure zV (U:List aO) (fo:aA) (t:Nat→Nat):Prop where
 inj:∀a b,a<U.length→b<U.length→t a=t b→a=b
 ah:∀a b,a<U.length→b<U.length→DG U a b=true→t a<t b
 thin:∀r:Nat,fo[r]?≠some (-2)
 rf:∀(r b:Nat),r<U.length→b<U.length→fo[r]? =some ((b:Nat):Int)→t b<t r∧qq U ((b:Nat):Int)=qq U ((r:Nat):Int)
 last:∀(r a b:Nat),r<U.length→a<U.length→b<U.length→fo[r]? =some ((b:Nat):Int)→iQ U (qq U ((r:Nat):Int)) ((a:Nat):Int)=false→t a<t r→a≠b→t a<t b
 init:∀(r a:Nat),r<U.length→a<U.length→fo[r]? =some (-1)→iQ U (qq U ((r:Nat):Int)) ((a:Nat):Int)=false→¬t a<t r
section
variable {U:List aO} {fo:aA} {t:Nat→Nat}
theorem zV.co (E:zV U fo t) (hl:fo.length=U.length) (ha:a<U.length) (hb:b<U.length) (h:pX U fo a b=true):t a<t b:=by
 refine((rj ha hb).1 h).least (R:=fun x y=>t x<t y) (fun x y hx hy hp=>?_) fun x y z _ _ _ h1 h2=>aql h1 h2
 unfold MB at hp
 rw[anm] at hp
 rcases hp with hp|hp
 ·exact E.ah x y hx hy hp
 ·unfold Ll at hp
  rw[anb,wN hl hy] at hp
  exact(E.rf y x hy hx hp).1
theorem zV.cf (E:zV U fo t) (eo:∀x∈fo,x<((U.length:Nat):Int)) {p:Nat→bW} (h:Nk U fo p a b r) (hp:p a r→t a<t r):t a<t b:=by
 have hb:=eo _<|dC h.fr
 have hw:=h.wr
 rw[(E.rf r b h.r1 aj h.fr).2] at hw
 exact E.last r a b h.r1 h.a1 aj h.fr hw (hp h.ah) h.ne
theorem zV.sn (E:zV U fo t) (hl:fo.length=U.length) (eo:∀x∈fo,x<((U.length:Nat):Int)) {o:Int} (ha:a<U.length) (hb:b<U.length) (h:B0 U fo o a b=true):t a<t b:=by
 refine qd.1 h (fun x y=>t x<t y) ⟨fun x y hx hy hc _ _=>E.co hl hx hy hc,fun x y z _ _ _ h1 h2=>aql h1 h2,fun x y r _ k=>E.cf eo k id⟩
theorem zV.none (E:zV U fo t) (hl:fo.length=U.length) (eo:∀x∈fo,x<((U.length:Nat):Int)):¬Iz U fo k:=by
 unfold Iz
 rintro(⟨h0,r,hr⟩|⟨h0,i,hi,h⟩|⟨h0,r,a,hr,ha,h1,h2,h3⟩|⟨h0,r,a,b,hr,ha,hb,h1,h2,h3,h4,h5⟩|⟨h0,i,hi,h⟩|⟨h0,o,r,a,ho,hr,ha,h1,h2,h3,h4⟩|⟨h0,o,i,ho,hi,h⟩)
 ·exact E.thin r hr
 ·exact ape _<|E.co hl hi hi h
 ·exact E.init r a hr ha h1 h2<|E.co hl ha hr h3
 ·have:=E.last r a b hr ha hb h1 h3 (E.co hl ha hr h4) h2
  have:=E.co hl hb ha h5
  omega
 ·refine ape (t i)<|((rj hi hi).1 h).least (R:=fun x y=>t x<t y) (fun x y hx hy hp=>?_) fun x y z _ _ _ h1 h2=>aql h1 h2
  unfold Jz at hp
  rw[anm,@decide_eq_true_iff _ (Classical.propDecidable _)] at hp
  rcases hp with hp|⟨r,hp⟩
  ·exact E.co hl hx hy hp
  ·exact E.cf eo hp fun h=>E.co hl hp.a1 hp.r1 h
 ·exact E.init r a hr ha h2 h3<|E.sn hl eo ha hr h4
 ·exact ape _<|E.sn hl eo hi hi h
end
section
variable {U kE:List aO} {fo vy:aA}
theorem v7 (hl:fo.length=U.length) (eo:∀x∈fo,x<((U.length:Nat):Int)) {lv:Int}:iN U fo lv=none↔∀k∈dV lv,¬Iz U fo k:=by
 unfold iN
 rw[apx]
 refine forall_congr' fun k=>forall_congr' fun hk=>?_
 rw[←HS hl eo (LQ hk)]
 cases ki U fo k<;>simp
theorem IS {x:yj} (h:ki U fo k=some x):x.1=k:=by
 unfold ki at h
 split at h
 ·unfold pD at h;split at h
  ·cases h;rfl
  ·cases h
 ·split at h
  ·unfold kh at h;obtain⟨_,_,rfl⟩:=anC.1 h;rfl
  ·split at h
   ·unfold qo at h;obtain⟨_,_,rfl⟩:=anC.1 h;rfl
   ·split at h
    ·unfold qp at h;obtain⟨_,_,rfl⟩:=anC.1 h;rfl
    ·split at h
     ·unfold kh at h;obtain⟨_,_,rfl⟩:=anC.1 h;rfl
     ·split at h
      ·unfold sK at h;obtain⟨_,_,rfl⟩:=anC.1 h;rfl
      ·unfold sI at h;obtain⟨_,_,rfl⟩:=anC.1 h;rfl
theorem Tu (hl:fo.length=U.length) (eo:∀x∈fo,x<((U.length:Nat):Int)) {t:Nat→Nat} (E:zV U fo t) {lv:Int}:iN U fo lv=none:=by
 rw[v7 hl eo]
 exact fun k _=>E.none hl eo
end
end Go.Ew
namespace Go.Ew
variable {U:List aO} {fo:aA} {lv:Int}
section
variable {xs ys:List ep} {q k:Nat} {x:ep} {z:ep}
theorem aae (h:ys.length=xs.length) (hq:q≤ys.length):((ys.take q++List.replicate (ys.length-q) z).take ((q:Nat):Int).toNat).length≤xs.length:=by
 simp only[dP,iB,fF,oG];omega
theorem aad (h:∀x∈ys,x∈xs) (hq:q≤ys.length):∀x∈(ys.take q++List.replicate (ys.length-q) z).take ((q:Nat):Int).toNat,x∈xs:=by
 rw[dP,aom (by rw[iB];omega),anj (by rw[iB];omega)]
 exact fun x hx=>h x<|aox hx
theorem aac (h:ys.length=xs.length∧∀x∈ys,x∈xs) {i:Nat} (hx:ys[i]? =some x):(ys.set k x).length=xs.length∧∀y∈ys.set k x,y∈xs:=by
 refine⟨by rw[am'];exact h.1,fun y hy=>?_⟩
 rcases an1 hy with hy|rfl
 ·exact h.2 y hy
 ·exact h.2 _<|dC hx
end
theorem TE {n:Int} {rs:Rows} (hn:n=((U.length:Nat):Int)) (hr:bK n rs=true) (ez:fo.length=U.length) (fL:∀x∈fo,x<((U.length:Nat):Int)):oJ U.length (cK U fo n rs):=by
 subst hn
 have h:=ri (U:=U) (fo:=fo) hr
 obtain⟨m,p,e,hm,rfl⟩:=mh hr
 obtain rfl:m=U.length:=by omega
 exact D9 ez fL h
theorem Il (h:¬fg U fo lv=0):iN U fo lv=none:=by
 unfold fg at h
 split at h
 ·exact absurd J h
 ·cases e:iN U fo lv<;>simp_all
theorem Pc (h:fg U fo lv=0):(iN U fo lv).isSome=true:=by
 unfold fg at h
 split at h
 ·assumption
 ·cases h
theorem Z3 {k r a b o:Int} (h:qE (iN U fo lv) k r a b o) (hc:fg U fo lv=0) (hk:k=6∨k=7):0≤o∧o<((U.length:Nat):Int):=by
 obtain⟨y,hy⟩:=anB.1 (Pc hc)
 have e:=h.2 y hy
 subst e
 unfold iN at hy
 obtain⟨q,hq,hp⟩:=List.exists_of_findSome?_eq_some hy
 have e:=IS hp
 simp only at e
 subst e
 rcases hk with rfl|rfl
 ·have hp:sK U fo 6=some (6,r,a,b,o):=hp
  unfold sK at hp
  obtain⟨o',h1,h2⟩:=anC.1 hp
  simp only[anS] at h2
  unfold IL at h1
  have:=ang.1<|apD h1
  omega
 ·have hp:sI U fo 7=some (7,r,a,b,o):=hp
  unfold sI at hp
  obtain⟨o',h1,h2⟩:=anC.1 hp
  simp only[anS] at h2
  unfold IF at h1
  have:=ang.1<|apD h1
  omega
end Go.Ew
namespace Go.Ew
open Go.RowKit
def pM (s:bf):List (BitVec 8):=s.data.toList.map fun b=>b.toBitVec
def tf (s:bf) (i:Int):Int:=((s[i.toNat]?).map fun c=>((c.toNat:Nat):Int)).getD 0
theorem adV {s:bf} {i:Int} {c:UInt8} (h:s[i.toNat]? =some c):tf s i=((c.toNat:Nat):Int):=by unfold tf;rw[h];rfl
theorem FU {s:bf} {i j:Nat} (h:i≤j) (h2:j≤s.size):(s.extract i j).size=j-i:=by rw[ByteArray.size_extract];omega
theorem Dq (s:bf) (i j:Nat):(s.extract i j).size≤s.size:=by rw[ByteArray.size_extract];omega
theorem uR (s:bf):(pM s).length=s.size:=by unfold pM;rw[anO,anW];rfl
section
variable {P:Program} {n:Nat} {ops:Array Oper} {f:aN} {w:aH} {K:aN→aH→Prop} {x y:Operand} {d:Nat} {ty T T2 e:TypeId} {ps:String} {af:Array Edge} {M M0:bW} {w0:aH} {l:List Item} {B:Nat} {a:Option Addr} {k c:Nat} {s:bf} {lo hi:Int} {rD px:Operand}
theorem PE (ox:bI n x=true) (ol:bI n rD=true) (oh:bI n px=true) (hx:ev f x=.string s) (hl:ev f rD=.int .i64 lo) (hh:ev f px=.int .i64 hi) (hb:0≤lo∧lo≤hi∧hi≤(s.size:Int)) (hu:P.underlying T=some .string) (h:K (ck f d (.string (s.extract lo.toNat hi.toNat))) w):
  SO P n ops ⟨some d,.slice T x (some rD) (some px) none,ty,ps,af,none⟩ f w K:=by
 refine SO.value (v:=.string (s.extract lo.toNat hi.toNat)) (w':=w) ?_ h
 simp[execOp,aL ox,aL ol,aL oh,hx,hl,hh,Instr.sliceAt,gP hu,run_slice_string (P:=P) w T s .i64 .i64 lo hi hu hb.1 hb.2.1 hb.2.2]
theorem UH (ox:bI n x=true) (ol:bI n rD=true) (hx:ev f x=.string s) (hl:ev f rD=.int .i64 lo) (hb:0≤lo∧lo≤(s.size:Int)) (hu:P.underlying T=some .string) (h:K (ck f d (.string (s.extract lo.toNat s.size))) w):
  SO P n ops ⟨some d,.slice T x (some rD) none none,ty,ps,af,none⟩ f w K:=by
 refine SO.value (v:=.string (s.extract lo.toNat s.size)) (w':=w) ?_ h
 simp[execOp,aL ox,aL ol,hx,hl,Instr.sliceAt,gP hu,run_slice_string_l (P:=P) w T s hu .i64 lo hb.1 hb.2]
theorem ahJ (ox:bI n x=true) (oh:bI n px=true) (hx:ev f x=.string s) (hh:ev f px=.int .i64 hi) (hb:0≤hi∧hi≤(s.size:Int)) (hu:P.underlying T=some .string) (h:K (ck f d (.string (s.extract 0 hi.toNat))) w):
  SO P n ops ⟨some d,.slice T x none (some px) none,ty,ps,af,none⟩ f w K:=by
 refine SO.value (v:=.string (s.extract 0 hi.toNat)) (w':=w) ?_ h
 simp[execOp,aL ox,aL oh,hx,hh,Instr.sliceAt,gP hu,run_slice_string_h (P:=P) w T s hu .i64 hi hb.1 hb.2]
theorem Nt (s:bf) (cap i:Nat) {b:BitVec 8} (h:(pM s)[i]? =some b):(bytesRow s cap)[i]? =some (U8 b):=by
 have hi:=(dE.1 h).1
 rw[uR] at hi
 unfold pM at h
 rw[anl,aou] at h
 unfold bytesRow
 have ug:i<s.data.size:=hi
 rw[ao5 (by simpa using ug),Array.getElem?_map]
 rw[Array.getElem?_eq_getElem ug] at h ⊢
 simp only[aov,ann] at h ⊢
 rw[←h]
 rfl
theorem ajr (H:HI M0 w0 w l) (ox:bI n x=true) (hx:ev f x=.string s) (pQ:s.size≤maxLen) (hs:P.underlying T=some .string) (hd:P.underlying T2=some (.slice e)) (he:P.underlying e=some (.int .u8))
  (h:∀a c w',Ext w w'→HI M0 w0 w' (tH (.slice a (pM s).length c) (pM s)::l)→K (ck f d (.slice a (pM s).length c)) w'):
  SO P n ops ⟨some d,.convert T T2 x,ty,ps,af,none⟩ f w K:=by
 have hr:=run_bytes_of_string (P:=P) w T T2 e s hs hd he
 have hX:Ext w (w.drew.alloc (.cells (bytesRow s (grownCap w s.size 0 e)) e ((bytesRow s (grownCap w s.size 0 e)).size,(bytesRow s (grownCap w s.size 0 e)).size+1))):=(Ext.drew w).trans (Ext.alloc _ _)
 have hk:K (ck f d (.slice (some ⟨w.heap.size,0,none⟩) (pM s).length (grownCap w s.size 0 e))) _:=h _ _ _ hX<|(H.ext hX).put rfl (RV.list.2 ⟨_,_,_,J,J,by rw[uR];exact grownCap_ge w s.size 0 e,grownCap_le_maxLen w s.size 0 e pQ,.inr ⟨_,J,fun i b hb=>?_⟩⟩)
 ·refine SO.value (v:=.slice (some ⟨w.heap.size,0,none⟩) s.size (grownCap w s.size 0 e)) ?_<|by rw[uR] at hk;exact hk
  simp[execOp,aL ox,hx,hr]
 ·have lA:(⟨w.heap.size,0,none⟩:Addr).add (i*GT.size (BitVec 8))=⟨w.heap.size,i,none⟩:=by show Addr.add _ (i*1)=_;rw[F_,apj]
  rw[lA]
  refine⟨[U8 b],J,fun hM=>?_,fun j v hj=>?_⟩
  ·exact absurd (H.mb _ hM)<|ape _
  ·cases j with
   |succ j=>simp at hj
   |zero=>
    simp only[anq,ann] at hj
    subst hj
    rw[show ((⟨w.heap.size,i,none⟩:Addr).add 0)=⟨w.heap.size,i,none⟩ from by unfold Addr.add;simp]
    have hg:(w.drew.alloc (.cells (bytesRow s (grownCap w s.size 0 e)) e ((bytesRow s (grownCap w s.size 0 e)).size,(bytesRow s (grownCap w s.size 0 e)).size+1))).heap[w.heap.size]? =some (.cells (bytesRow s (grownCap w s.size 0 e)) e ((bytesRow s (grownCap w s.size 0 e)).size,(bytesRow s (grownCap w s.size 0 e)).size+1)):=by
     show (w.heap.push _)[w.heap.size]? =_
     simp
    rw[cell_of_row _ w.heap.size _ _ e _ hg]
    exact Nt s _ i hb
theorem Xz {kk:IntKind} {i:Int} (ox:bI n x=true) (oy:bI n y=true) (hx:ev f x=.string s) (hy:ev f y=.int kk i) (hi:0≤i∧i<(s.size:Int)) (hu:P.underlying T=some .string)
  (h:K (ck f d (.int .u8 (tf s i))) w):SO P n ops ⟨some d,.index T x y,ty,ps,af,none⟩ f w K:=
 ixS ox oy hx hy hi hu fun c hc=>by rw[←adV hc];exact h
theorem ahI {i j:Int} (ox:bI n x=true) (oy:bI n y=true) (hx:ev f x=.int .u8 i) (hy:ev f y=.int .u8 j) (hi:0≤i-j∧i-j≤255) (h:K (ck f d (.int .u8 (i-j))) w):SO P n ops ⟨some d,.binOp .sub T x y T2,ty,ps,af,none⟩ f w K:=
 bin ox oy hx hy (by simp[binOp,Op.intArith,(w8 hi.1 hi.2).1]) h
theorem HD (b:bt):IntKind.i64.wrap (b.toNat:Int)=b.toInt:=by
 have:=b.isLt
 unfold IntKind.wrap
 rw[apz]
 simp[IntKind.bits,IntKind.signed]
 split<;>split<;>omega
theorem cvT {e:TypeDesc} {b:bt} (ox:bI n x=true) (hx:ev f x=ag b) (h1:P.underlying T=some e) (h2:P.underlying T2=some (.int .i64)) (h:K (ck f d (.int .i64 b.toInt)) w):
  SO P n ops ⟨some d,.convert T T2 x,ty,ps,af,none⟩ f w K:=
 cv ox hx h1 h2 (by rw[HD];exact h)
end
end Go.Ew
namespace Go.Ew
variable {s:bf} {vs:List bf} {m:List (bf×Int)}
structure Rb (cs:bf):Prop where
 two:2≤cs.size
 low:cs.size<4294967281
 asc:∀(j:Nat) b,cs.data.toList[j]? =some b→b.toNat<128
def trimB (s cs:bf):bf:=⟨(Go.Lib.trimS s.data.toList cs.data.toList).toArray⟩
def Cp (s cs:bf):bf:=⟨(Go.Lib.trimLeftS s.data.toList cs.data.toList).toArray⟩
abbrev sD:bf:=⟨#[97,98,99,100,101,102,103,104,105,106,107,108,109,110,111,112,113,114,115,116,117,118,119,120,121,122]⟩
abbrev qi:bf:=⟨#[48,49,50,51,52,53,54,55,56,57]⟩
theorem NU:Rb sD:=⟨by decide,by decide,fun j b h=>by
 have:∀b∈sD.data.toList,b.toNat<128:=by decide
 exact this b (dC h)⟩
theorem Hs:Rb qi:=⟨by decide,by decide,fun j b h=>by
 have:∀b∈qi.data.toList,b.toNat<128:=by decide
 exact this b (dC h)⟩
theorem dropWhile_nil {α:Type} {p:α→Bool}:∀{l:List α},l.dropWhile p=[]↔l.all p=true
 |[]=>by simp
 |a::l=>by
  rw[List.dropWhile_cons,List.all_cons]
  cases h:p a
  ·simp
  ·simp only[aoP,an_];exact dropWhile_nil
theorem Rn {l cs:List UInt8}:Go.Lib.trimS l cs=[]↔l.all (cs.contains ·)=true:=by
 unfold Go.Lib.trimS Go.Lib.trimLeftS Go.Lib.trimRightS
 rw[dropWhile_nil]
 constructor
 ·intro h
  have h1:(l.reverse.dropWhile (cs.contains ·)).all (cs.contains ·)=true:=by rw[←apY];exact h
  have h2:l.reverse.dropWhile (cs.contains ·)=[]:=by
   cases e:l.reverse.dropWhile (cs.contains ·) with
   |nil=>rfl
   |cons a t=>
    rw[e,List.all_cons,eW] at h1
    have:=List.head?_dropWhile_not (cs.contains ·) l.reverse
    rw[e] at this
    simp only[List.head?_cons] at this
    rw[h1.1] at this;cases this
  have:=dropWhile_nil.1 h2
  rwa [apY] at this
 ·intro h
  rw[apY]
  have:l.reverse.dropWhile (cs.contains ·)=[]:=dropWhile_nil.2<|by rw[apY];exact h
  rw[this];rfl
theorem IG {cs:bf}:trimB s cs=⟨#[]⟩↔s.data.toList.all (cs.data.toList.contains ·)=true:=by
 rw[←Rn]
 unfold trimB
 constructor
 ·intro h
  have:=am_ (fun x:bf=>x.data.toList) h
  simpa using this
 ·intro h;rw[h]
theorem Eg (s cs:bf):(Cp s cs).size≤s.size:=by
 show (Go.Lib.trimLeftS s.data.toList cs.data.toList).toArray.size≤s.data.size
 rw[aoK,←anW]
 exact(List.dropWhile_sublist _).length_le
theorem NL (c:UInt8):sD.data.toList.contains c=wg c:=by
 have:∀n:Fin 256,sD.data.toList.contains (UInt8.ofNat n.1)=wg (UInt8.ofNat n.1):=by decide +kernel
 have:=this ⟨c.toNat,c.toNat_lt⟩
 simpa using this
theorem Fw:mC s=(bif !decide (s=⟨#[]⟩) then (bif decide ((s.size:Int)≤8) then decide (trimB s sD=⟨#[]⟩) else false) else false):=by
 have h1:decide (trimB s sD=⟨#[]⟩)=s.data.toList.all wg:=by
  rw[anw,anb,IG]
  rw[show (fun x=>sD.data.toList.contains x)=wg from funext NL]
 have h2:(!decide (s=⟨#[]⟩))=decide (1≤s.size):=by
  rw[anw]
  simp only[aoo,anr,anb]
  constructor
  ·intro h
   rcases aqb s.size with h0|h0
   ·exact absurd (by cases s with|mk a=>exact am_ ByteArray.mk (aoV h0)) h
   ·exact h0
  ·rintro h rfl
   exact absurd h au
 have h3:decide ((s.size:Int)≤8)=decide (s.size≤8):=by rw[aow];omega
 rw[h1,h2,h3]
 unfold mC
 cases s.data.toList.all wg<;>cases decide (1≤s.size)<;>cases decide (s.size≤8)<;>rfl
theorem Ej {h:dh}:jj h=(bif decide ((h.flatten.length:Int)≤4096) then !(h.flatten.any (fun (x_:gT)=>!(mC x_.2.1))) else false):=by
 unfold jj
 have h1:(!(h.flatten.any (fun (x_:gT)=>!(mC x_.2.1))))=h.flatten.all Al:=by
  rw[←List.not_all_eq_any_not,Bool.not_not];rfl
 have h2:decide ((h.flatten.length:Int)≤4096)=decide (h.flatten.length≤4096):=by rw[aow];omega
 rw[h1,h2]
 cases h.flatten.all Al<;>cases decide (h.flatten.length≤4096)<;>rfl
def BW (vs:List bf) (m:List (bf×Int)):Prop:=∀s,fO m s=if gC vs s<0 then none else some (gC vs s)
theorem Vt:BW [] []:=fun s=>rfl
theorem QS (vs:List bf) (a s:bf):gC (vs++[a]) s=if gC vs s<0 then (if a=s then (vs.length:Int) else -1) else gC vs s:=by
 unfold gC eM
 rw[ap3]
 cases e:vs.findIdx? (GQ s) with
 |some i=>show ((i:Nat):Int)=if ((i:Nat):Int)<0 then _ else ((i:Nat):Int);rw[anf aj]
 |none=>
  simp only[Option.none_or,List.findIdx?_cons,List.findIdx?_nil]
  unfold GQ
  by_cases h:a=s<;>simp[h]
theorem Vu (h:BW vs m) (hs:(fO m s).isSome=true):(fO m s).getD 0=gC vs s∧¬gC vs s<0:=by
 rw[h s] at hs ⊢
 by_cases h0:gC vs s<0
 ·rw[anc h0] at hs;cases hs
 ·rw[anf h0];exact⟨rfl,h0⟩
theorem I1 (h:BW vs m) (hs:(fO m s).isSome=false):gC vs s<0:=by
 rw[h s] at hs
 by_cases h0:gC vs s<0
 ·exact h0
 ·rw[anf h0] at hs;cases hs
theorem Vs (h:BW vs m) (hs:(fO m s).isSome=false):BW (vs++[s]) (lS m s ((vs.length:Nat):Int)):=by
 intro t
 have h0:=I1 h hs
 rw[V7,QS,h t]
 by_cases e:t=s
 ·subst e
  rw[anc rfl,anc h0,anc rfl,anf aj]
 ·have e2:¬s=t:=fun k=>e k.symm
  rw[anf e]
  by_cases h1:gC vs t<0
  ·simp only[h1,e2,aoP,an3];rfl
  ·simp only[h1,an3]
section
variable {h:dh} {i q:Nat} {vs:List bf} {aF:List aO} {m:List (bf×Int)} {x0:List gT} {x1:gT}
theorem OO (h1:vs=(jL i (iF h i) (h.getD i []) q).1) (h2:aF=(jL i (iF h i) (h.getD i []) q).2) (hm:BW vs m) (aM:h[((i:Nat):Int).toNat]? =some x0) (cQ:x0[((q:Nat):Int).toNat]? =some x1) (hs:(fO m x1.2.1).isSome=false):
  vs++[x1.2.1]=(jL i (iF h i) (h.getD i []) (q+1)).1∧aF++[(((i:Nat):Int),((q:Nat):Int),x1.1,((vs.length:Nat):Int),x1.2.2)]=(jL i (iF h i) (h.getD i []) (q+1)).2:=by
 have hf:=I1 hm hs
 subst h1 h2
 rw[fB aM] at *
 exact xr cQ hf
theorem ON (h1:vs=(jL i (iF h i) (h.getD i []) q).1) (h2:aF=(jL i (iF h i) (h.getD i []) q).2) (hm:BW vs m) (aM:h[((i:Nat):Int).toNat]? =some x0) (cQ:x0[((q:Nat):Int).toNat]? =some x1) (hs:(fO m x1.2.1).isSome=true):
  vs=(jL i (iF h i) (h.getD i []) (q+1)).1∧aF++[(((i:Nat):Int),((q:Nat):Int),x1.1,(fO m x1.2.1).getD 0,x1.2.2)]=(jL i (iF h i) (h.getD i []) (q+1)).2:=by
 obtain⟨e,hf⟩:=Vu hm hs
 rw[e]
 subst h1 h2
 rw[fB aM] at *
 exact xp cQ hf
end
theorem To {α:Type} (h:List (List α)) (j:Nat):((h.take j).flatten).length≤h.flatten.length:=by
 conv=>rhs;rw[←aor j h]
 rw[List.flatten_append,fF];omega
end Go.Ew
namespace Go.Ew
variable {L:List UInt8}
def jQ (s p:bf):Bool:=bif decide ((p.size:Int)≤(s.size:Int)) then decide (s.extract 0 (p.size:Int).toNat=p) else false
def eH (s p:bf):bf:=bif jQ s p then s.extract (p.size:Int).toNat s.size else s
abbrev jT:bf:=⟨#[45]⟩
def gB (s:bf) (a:Int):Int:=bif decide (a<0)||decide ((s.size:Int)≤a) then 0 else ((s.extract a.toNat s.size).size:Int)-((Cp (eH (s.extract a.toNat s.size) jT) qi).size:Int)
theorem rq (s p:bf):(eH s p).size≤s.size:=by
 unfold eH
 cases jQ s p
 ·exact ane _
 ·exact Dq _ _ _
theorem UC {s:bf} {a:Int} (h:0≤a∧a≤(s.size:Int)):0≤gB s a∧a+gB s a≤(s.size:Int):=by
 unfold gB
 cases e:(decide (a<0)||decide ((s.size:Int)≤a)) with
 |true=>show (0:Int)≤0∧a+0≤_;omega
 |false=>
  show (0:Int)≤_-_∧a+(_-_)≤_
  have h1:=rq (s.extract a.toNat s.size) jT
  have h2:=Eg (eH (s.extract a.toNat s.size) jT) qi
  have h3:=FU (s:=s) (i:=a.toNat) (j:=s.size) aj<|ane _
  omega
def nf (m:Nat):List UInt8→Nat→Option Nat
 |[],n=>some n
 |c::l,n=>if (m-(c.toNat-48))/10<n then none else nf m l (10*n+(c.toNat-48))
def BJ (s:bf):bf:=eH s jT
def lT (s:bf):Bool:=decide (eH s jT=⟨#[]⟩)||(!decide (trimB (eH s jT) qi=⟨#[]⟩)||(decide (tf (eH s jT) 0=48)&&!decide (s=⟨#[48]⟩)))
def pb (s:bf):Nat:=bif jQ s jT then 9223372036854775808 else 9223372036854775807
def gk (s:bf):Int×Int:=bif lT s then (0,2) else match nf (pb s) (BJ s).data.toList 0 with
 |none=>(0,3)
 |some n=>(bif jQ s jT then -((n:Nat):Int) else ((n:Nat):Int),0)
theorem DR {m:Nat} (h9:9≤m):∀{l:List UInt8} {n k:Nat},(∀c∈l,48≤c.toNat∧c.toNat≤57)→n≤m→nf m l n=some k→k≤m
 |[],n,k,_,hn,h=>by cases h;exact hn
 |c::l,n,k,hl,hn,h=>by
  unfold nf at h
  split at h
  ·cases h
  ·rename_i hc
   have:=hl c<|by simp
   exact DR h9 (fun x hx=>hl x<|by simp[hx]) aj h
theorem wO {s:bf} (h:trimB s qi=⟨#[]⟩):∀c∈s.data.toList,48≤c.toNat∧c.toNat≤57:=by
 intro c hc
 have h1:=ani.1 (IG.1 h) c hc
 have:∀n:Fin 256,qi.data.toList.contains (UInt8.ofNat n.1)=true→48≤(UInt8.ofNat n.1).toNat∧(UInt8.ofNat n.1).toNat≤57:=by decide +kernel
 have:=this ⟨c.toNat,c.toNat_lt⟩
 simp only[UInt8.ofNat_toNat] at this
 exact this h1
theorem Fq (s:bf):aJ (gk s).1∧0≤(gk s).2∧(gk s).2≤3:=by
 unfold gk
 cases hb:lT s with
 |true=>show aJ 0∧(0:Int)≤2∧(2:Int)≤3;exact⟨by unfold aJ;decide,by decide,by decide⟩
 |false=>
  show aJ (Prod.fst (match nf (pb s) (BJ s).data.toList 0 with|none=>_|some n=>_))∧_
  cases e:nf (pb s) (BJ s).data.toList 0 with
  |none=>show aJ 0∧(0:Int)≤3∧(3:Int)≤3;exact⟨by unfold aJ;decide,by decide,by decide⟩
  |some n=>
   have hd:trimB (BJ s) qi=⟨#[]⟩:=by
    unfold lT at hb
    simp only[aoU,aph,anb] at hb
    exact hb.2.1
   refine⟨?_,by show (0:Int)≤0;decide,by show (0:Int)≤3;decide⟩
   show aJ (bif jQ s jT then -((n:Nat):Int) else ((n:Nat):Int))
   have hle:=DR (m:=pb s) (by unfold pb;cases jQ s jT<;>decide) (wO hd) (aok _) e
   unfold pb at hle
   unfold aJ
   cases h:jQ s jT<;>rw[h] at hle
   ·have hle:n≤9223372036854775807:=hle
    show -9223372036854775808≤((n:Nat):Int)∧((n:Nat):Int)≤9223372036854775807
    omega
   ·have hle:n≤9223372036854775808:=hle
    show -9223372036854775808≤ -((n:Nat):Int)∧ -((n:Nat):Int)≤9223372036854775807
    omega
section
variable {s dg:bf} {m nv:bt} {x:BitVec 8} {j:Nat}
theorem It (h:(pM dg)[((j:Nat):Int).toNat]? =some x):∃c:UInt8,dg.data.toList[j]? =some c∧c.toBitVec=x:=by
 rw[dP] at h
 unfold pM at h
 rw[anl] at h
 exact anC.1 h
theorem TO (h:trimB dg qi=⟨#[]⟩) (hx:(pM dg)[((j:Nat):Int).toNat]? =some x):48≤x.toNat∧x.toNat≤57:=by
 obtain⟨c,h1,rfl⟩:=It hx
 exact wO h c<|dC h1
theorem O_ (h:48≤x.toNat∧x.toNat≤57):(BitVec.ofInt 64 (((x.toNat:Nat):Int)-48)).toNat=x.toNat-48:=by
 rw[ao2]
 show (((x.toNat:Int)-48)%18446744073709551616).toNat=_
 omega
theorem O' (h:48≤x.toNat∧x.toNat≤57) (hm:9≤m.toNat):((m-BitVec.ofInt 64 (((x.toNat:Nat):Int)-48))/10#64).toNat=(m.toNat-(x.toNat-48))/10:=by
 rw[BitVec.toNat_udiv,BitVec.toNat_sub,O_ h]
 have:=m.isLt
 show (2^64-(x.toNat-48)+m.toNat)%2^64/10=_
 congr 1
 omega
theorem Zt (h:48≤x.toNat∧x.toNat≤57) (hm:9≤m.toNat) (hx:∃c:UInt8,L[j]? =some c∧c.toBitVec=x) (hs:nf m.toNat L 0=nf m.toNat (L.drop j) nv.toNat) (hc:decide (((m-BitVec.ofInt 64 (((x.toNat:Nat):Int)-48))/10#64).toNat<nv.toNat)=true):nf m.toNat L 0=none:=by
 obtain⟨c,h1,rfl⟩:=hx
 rw[anb,O' h hm] at hc
 rw[hs,an8 (dE.1 h1).1,(dE.1 h1).2]
 unfold nf
 exact anc hc
theorem Vk (h:48≤x.toNat∧x.toNat≤57) (hm:9≤m.toNat) (hx:∃c:UInt8,L[j]? =some c∧c.toBitVec=x) (hs:nf m.toNat L 0=nf m.toNat (L.drop j) nv.toNat) (hc:decide (((m-BitVec.ofInt 64 (((x.toNat:Nat):Int)-48))/10#64).toNat<nv.toNat)=false):nf m.toNat L 0=nf m.toNat (L.drop (j+1)) (10#64*nv+BitVec.ofInt 64 (((x.toNat:Nat):Int)-48)).toNat:=by
 obtain⟨c,h1,rfl⟩:=hx
 rw[anr,O' h hm] at hc
 have e:(10#64*nv+BitVec.ofInt 64 (((c.toBitVec.toNat:Nat):Int)-48)).toNat=10*nv.toNat+(c.toBitVec.toNat-48):=by
  rw[BitVec.toNat_add,BitVec.toNat_mul,O_ h]
  have:=m.isLt
  show (10*nv.toNat%2^64+(c.toBitVec.toNat-48))%2^64=_
  omega
 rw[hs,an8 (dE.1 h1).1,(dE.1 h1).2,e]
 conv=>lhs;unfold nf
 exact anf hc
theorem OD (hs:nf m.toNat L 0=nf m.toNat (L.drop j) nv.toNat) (hj:L.length≤j):nf m.toNat L 0=some nv.toNat:=by
 rw[hs,List.drop_of_length_le hj];rfl
theorem Zv (s:bf):9≤pb s:=by unfold pb;cases jQ s jT<;>decide
theorem Pn (h:lT s=false):trimB (eH s jT) qi=⟨#[]⟩:=by
 unfold lT at h
 simp only[aoU,aph,anb] at h
 exact h.2.1
theorem aab (h:¬eH s jT=⟨#[]⟩):(0:Int)<((eH s jT).size:Int):=by
 rcases aqb (eH s jT).size with h0|h0
 ·exfalso
  refine h ?_
  cases e:eH s jT with
  |mk a=>rw[e] at h0;exact am_ ByteArray.mk (aoV h0)
 ·omega
theorem Fs (h:lT s=true):gk s=(0,2):=by unfold gk;rw[h];rfl
theorem Vo (h:lT s=false) (hv:nf (pb s) (BJ s).data.toList 0=none):gk s=(0,3):=by unfold gk;rw[h,hv];rfl
theorem Vn (h:lT s=false) (hp:jQ s jT=true) (hv:nf (pb s) (BJ s).data.toList 0=some nv.toNat):gk s=((-nv).toInt,0):=by
 have hr:=DR (m:=pb s) (by unfold pb;cases jQ s jT<;>decide) (wO (by
  unfold lT at h
  simp only[aoU,aph,anb] at h
  exact h.2.1)) (aok _) hv
 unfold pb at hr
 rw[hp] at hr
 have hr:nv.toNat≤9223372036854775808:=hr
 unfold gk
 rw[h,hv,hp]
 show (-((nv.toNat:Nat):Int),(0:Int))=_
 congr 1
 rw[apz,BitVec.toNat_neg]
 have:=nv.isLt
 by_cases h0:nv.toNat=0
 ·simp[h0]
 ·rw[apo aj]
  split<;>omega
theorem Vm (h:lT s=false) (hp:jQ s jT=false) (hv:nf (pb s) (BJ s).data.toList 0=some nv.toNat):gk s=(nv.toInt,0):=by
 have hr:=DR (m:=pb s) (by unfold pb;cases jQ s jT<;>decide) (wO (by
  unfold lT at h
  simp only[aoU,aph,anb] at h
  exact h.2.1)) (aok _) hv
 unfold pb at hr
 rw[hp] at hr
 have hr:nv.toNat≤9223372036854775807:=hr
 unfold gk
 rw[h,hv,hp]
 show (((nv.toNat:Nat):Int),(0:Int))=_
 congr 1
 rw[apz]
 split<;>omega
end
def cF (s:bf) (a e b:Int):Bool:=bif decide (e=0) then (bif decide (a<(s.size:Int)) then decide (tf s a=b) else false) else false
def eS (s:bf) (a e b:Int):Int:=bif cF s a e b then a+1 else a
def cq (e x:Int):Int:=bif decide (e=0) then x else e
def Bm (s:bf) (a e b:Int):Int×Int:=bif cF s a e b then (a+1,e) else (a,cq e 2)
def LB (s:bf):Nat→Int→Int
 |0,a=>a
 |k+1,a=>bif (bif decide (a<(s.size:Int)) then (bif decide (97≤tf s a) then decide (tf s a≤122) else false) else false) then LB s k (a+1) else a
def zN (s:bf) (a e:Int) (j:Nat):Int:=bif decide (e=0) then LB s (8-j) (a+((j:Nat):Int)) else a+((j:Nat):Int)
def Ke (s:bf) (a e:Int):Int×Int×bf:=(zN s a e 0,(bif decide (zN s a e 0=a) then cq e 2 else e),s.extract a.toNat (zN s a e 0).toNat)
def Ly (s:bf) (a e:Int):Int×Int×Int:=bif !decide (e=0) then (a,e,0) else bif !decide ((gk (s.extract a.toNat (a+gB s a).toNat)).2=0) then (a,cq e (gk (s.extract a.toNat (a+gB s a).toNat)).2,0) else (a+gB s a,e,(gk (s.extract a.toNat (a+gB s a).toNat)).1)
def IV (s:bf) (a on e:Int):Int:=bif (bif decide (on=4096) then (bif cF s a e 119 then true else cF s a e 114) else false) then cq e 3 else e
def IU (s:bf) (a e:Int):Int×Int:=bif cF s a e 119 then (eS s a e 119,e) else Bm s (eS s a e 119) e 114
def Ak (s:bf) (a on e:Int):Int×Int×gT:=
 let e1:=IV s a on e
 let m1:=IU s a e1
 let m2:=Bm s m1.1 m1.2 58
 let nm:=Ke s m2.1 m2.2
 let m3:=Bm s nm.1 nm.2.1 61
 let nb:=Ly s m3.1 m3.2
 (nb.1,nb.2.1,cF s a e1 119,nm.2.2,nb.2.2)
def Bh (s:bf):Nat→Int→Int→Int→List gT→Int×Int×Int×List gT
 |0,a,on,e,l=>(a,on,e,l)
 |k+1,a,on,e,l=>bif cF s a e 32 then Bh s k (Ak s (eS s a e 32) on e).1 (on+1) (Ak s (eS s a e 32) on e).2.1 (l++[(Ak s (eS s a e 32) on e).2.2]) else (a,on,e,l)
def yK (s:bf) (a on e:Int):Int×Int×Int×List gT:=
 bif cF s a e 10 then (eS s a e 10,on,e,[]) else
  let o:=Ak s (eS s a e 10) on e
  let L:=Bh s (s.size+1) o.1 (on+1) o.2.1 [o.2.2]
  let m:=Bm s (eS s L.1 L.2.2.1 32) L.2.2.1 10
  (m.1,L.2.1,m.2,L.2.2.2)
def pP (s:bf):Nat→Int→Int→Int→dh→Int×Int×Int×dh
 |0,a,on,e,h=>(a,on,e,h)
 |k+1,a,on,e,h=>bif (bif decide (e=0) then decide (a<(s.size:Int)) else false) then pP s k (yK s a on e).1 (yK s a on e).2.1 (yK s a on e).2.2.1 (h++[(yK s a on e).2.2.2]) else (a,on,e,h)
def kI (s:bf):dh×Int×Int:=
 bif !decide ((pP s (s.size+1) 0 0 0 []).2.2.1=0) then ([],(pP s (s.size+1) 0 0 0 []).1,(pP s (s.size+1) 0 0 0 []).2.2.1) else ((pP s (s.size+1) 0 0 0 []).2.2.2,0,0)
section
variable {s:bf} {a e b x:Int} {j:Nat}
theorem HM (h:cF s a e b=true):e=0∧a<(s.size:Int)∧tf s a=b:=by
 unfold cF at h
 cases h1:decide (e=0)<;>rw[h1] at h
 ·cases h
 ·cases h2:decide (a<(s.size:Int))<;>rw[h2] at h
  ·cases h
  ·exact⟨anT h1,anT h2,anT h⟩
theorem ct (h:0≤a∧a≤(s.size:Int)):a≤eS s a e b∧eS s a e b≤(s.size:Int)∧eS s a e b≤a+1:=by
 unfold eS
 cases h1:cF s a e b
 ·show a≤a∧a≤_∧a≤a+1;omega
 ·have:=HM h1
  show a≤a+1∧a+1≤_∧a+1≤a+1;omega
theorem lB (h:0≤e∧e≤3) (hx:0≤x∧x≤3):0≤cq e x∧cq e x≤3:=by
 unfold cq
 cases decide (e=0)
 ·exact h
 ·exact hx
theorem zW {p:Int} (hp:p=a+((j:Nat):Int)) (h:(bif decide (e=0) then (bif decide (p-a<8) then (bif decide (p<(s.size:Int)) then (bif decide (97≤tf s p) then decide (tf s p≤122) else false) else false) else false) else false)=false):zN s a e j=p:=by
 subst hp
 unfold zN
 cases h1:decide (e=0)
 ·rfl
 ·rw[h1] at h
  show LB s (8-j) _=_
  have h:(bif decide (a+((j:Nat):Int)-a<8) then _ else false)=false:=h
  cases h2:decide (a+((j:Nat):Int)-a<8)
  ·have:8-j=0:=by have:=aoE h2;omega
   rw[this];rfl
  ·rw[h2] at h
   obtain⟨k,hk⟩:∃k,8-j=k+1:=⟨8-j-1,by have:=anT h2;omega⟩
   rw[hk]
   show (bif _ then _ else _)=_
   have h:(bif decide (a+((j:Nat):Int)<(s.size:Int)) then (bif decide (97≤tf s (a+((j:Nat):Int))) then decide (tf s (a+((j:Nat):Int))≤122) else false) else false)=false:=h
   rw[h];rfl
theorem YQ {p:Int} (hp:p=a+((j:Nat):Int)) (h0:decide (e=0)=true) (h1:decide (p-a<8)=true) (h2:decide (p<(s.size:Int))=true) (h3:decide (97≤tf s p)=true) (h4:decide (tf s p≤122)=true):zN s a e j=zN s a e (j+1):=by
 subst hp
 unfold zN
 rw[h0]
 obtain⟨k,hk⟩:∃k,8-j=k+1:=⟨8-j-1,by have:=anT h1;omega⟩
 rw[hk,show 8-(j+1)=k from by omega]
 show LB s (k+1) _=LB s k _
 conv=>lhs;unfold LB
 rw[h2,h3,h4]
 show LB s k _=_
 congr 1
 push_cast
 omega
theorem Vq (h:(!cF s a e b)=false):e=0→e=0∧eS s a e b=a+1:=fun h0=>⟨h0,by unfold eS;rw[show cF s a e b=true by simpa using h];rfl⟩
theorem O4 (h:cq e 2=0):False:=by
 unfold cq at h
 cases h1:decide (e=0)<;>rw[h1] at h
 ·exact aoE h1 h
 ·exact absurd (show (2:Int)=0 from h) au
theorem We (hx:¬x=0) (h:cq e x=0):False:=by
 unfold cq at h
 cases h1:decide (e=0)<;>rw[h1] at h
 ·exact aoE h1 h
 ·exact hx h
section
variable {k:Nat} {p n a2 e2:Int} {l:List gT} {o:gT} {Z:Int×Int×Int×List gT} {h:dh}
theorem Vh (hs:Z=Bh s k p n e l) (hk:1≤k) (h:cF s p e 32=true) (ho:Ak s (eS s p e 32) n e=(a2,e2,o)):Z=Bh s (k-1) a2 (n+1) e2 (l++[o]):=by
 obtain⟨q,rfl⟩:∃q,k=q+1:=⟨k-1,by omega⟩
 rw[hs]
 conv=>lhs;unfold Bh
 rw[h,ho];rfl
theorem Vg (hs:Z=Bh s k p n e l) (h:cF s p e 32=false):Z=(p,n,e,l):=by
 rw[hs]
 cases k with
 |zero=>rfl
 |succ k=>unfold Bh;rw[h];rfl
theorem Qa {n2:Int} {Y:Int×Int×Int×dh} (hs:Y=pP s k p n e h) (hk:1≤k) (h1:decide (e=0)=true) (h2:decide (p<(s.size:Int))=true) (ho:yK s p n e=(a2,n2,e2,l)):Y=pP s (k-1) a2 n2 e2 (h++[l]):=by
 obtain⟨q,rfl⟩:∃q,k=q+1:=⟨k-1,by omega⟩
 rw[hs]
 conv=>lhs;unfold pP
 rw[h1,h2,ho];rfl
theorem GI {Y:Int×Int×Int×dh} (hs:Y=pP s k p n e h) (hc:(bif decide (e=0) then decide (p<(s.size:Int)) else false)=false):Y=(p,n,e,h):=by
 rw[hs]
 cases k with
 |zero=>rfl
 |succ k=>unfold pP;rw[hc];rfl
end
end
end Go.Ew
namespace Go.Ew
variable {h:dh} {s p:Nat} {o:gT}
def iz (h:dh) (s p:Nat):Nat:=((h.take s).flatten).length+p
def jC (h:dh) (s p:Nat) (o:gT):Prop:=∃l,h[s]? =some l∧l[p]? =some o
theorem jC.un {o':gT} (a:jC h s p o) (b:jC h s p o'):o=o':=by
 obtain⟨l,h1,h2⟩:=a
 obtain⟨l',h3,h4⟩:=b
 rw[h1] at h3
 obtain rfl:=ana h3
 rw[h2] at h4
 exact ana h4
theorem jC.mem (a:jC h s p o):o∈h.flatten:=by
 obtain⟨l,h1,h2⟩:=a
 exact List.mem_flatten.2 ⟨l,dC h1,dC h2⟩
theorem jC.lt (a:jC h s p o):s<h.length:=by
 obtain⟨l,h1,h2⟩:=a
 exact(dE.1 h1).1
theorem Tv {vs:List bf} {s:bf} (h:¬gC vs s<0):∃v:Nat,gC vs s=((v:Nat):Int)∧vs[v]? =some s:=by
 unfold gC eM at *
 cases e:vs.findIdx? (GQ s) with
 |none=>rw[e] at h;exact absurd au h
 |some i=>
  obtain⟨h1,h2,_⟩:=anE.1 e
  unfold GQ at h2
  rw[anb] at h2
  exact⟨i,J,by rw[eI h1,h2]⟩
theorem Wc {vs:List bf} {s:bf} (h:gC vs s<0):s∉vs:=by
 have:=uG (p:=GQ s) (r:=vs)
 unfold gC at h
 rw[ank aj] at this
 intro hm
 have h2:=aoZ.1 this.symm s hm
 unfold GQ at h2
 simp at h2
theorem aat {vs:List bf} (s:bf) (hn:vs.Nodup):∃(V:List bf) (v:Nat),Iv vs s=vs++V∧(vs++V).Nodup∧Lx vs s=((v:Nat):Int)∧(vs++V)[v]? =some s:=by
 unfold Iv Lx
 by_cases h:gC vs s<0
 ·rw[anc h,anc h]
  refine⟨[s],vs.length,J,?_,J,by simp⟩
  rw[aoW]
  refine⟨hn,by simp,fun a ha b hb e=>Wc h ?_⟩
  simp at hb
  rw[←hb,←e];exact ha
 ·rw[anf h,anf h]
  obtain⟨v,h1,h2⟩:=Tv h
  exact⟨[],v,by simp,by simpa using hn,h1,by simpa using h2⟩
theorem IH (i:Nat) (st:zo) (ops:List gT) (hn:st.1.Nodup):∀k,k≤ops.length→∃(V:List bf) (L:List aO),jL i st ops k=(st.1++V,st.2++L)∧(st.1++V).Nodup∧L.length=k∧
  ∀p op,p<k→ops[p]? =some op→∃v:Nat,L[p]? =some (((i:Nat):Int),((p:Nat):Int),op.1,((v:Nat):Int),op.2.2)∧(st.1++V)[v]? =some op.2.1
 |0,_=>⟨[],[],by rw[A1];simp,by simpa using hn,rfl,fun p op h=>absurd h (aoR _)⟩
 |k+1,hk=>by
  obtain⟨V,L,h1,h2,h3,h4⟩:=IH i st ops hn k aj
  have hx:ops[((k:Nat):Int).toNat]? =some ops[k]:=by rw[dP];exact eI aj
  obtain⟨V2,v,e1,e2,e3,e4⟩:=aat ops[k].2.1 h2
  refine⟨V++V2,L++[(((i:Nat):Int),((k:Nat):Int),ops[k].1,((v:Nat):Int),ops[k].2.2)],?_,by rw[←anM];exact e2,by simp[h3],fun p op hp hop=>?_⟩
  ·rw[xn hx,h1]
   unfold uS
   simp only
   rw[e1,e3,anM,anM]
  ·by_cases hpk:p<k
   ·obtain⟨u,h5,h6⟩:=h4 p op hpk hop
    refine⟨u,by rw[nM aj];exact h5,?_⟩
    rw[←anM,nM (dE.1 h6).1];exact h6
   ·obtain rfl:p=k:=by omega
    rw[eI aj] at hop
    obtain rfl:=ana hop
    exact⟨v,by rw[ny aj,h3];simp,by rw[←anM];exact e4⟩
theorem BQ (h:dh):∀j,j≤h.length→(iF h j).1.Nodup∧∀s p op,s<j→jC h s p op→∃v:Nat,(iF h j).2[iz h s p]? =some (((s:Nat):Int),((p:Nat):Int),op.1,((v:Nat):Int),op.2.2)∧(iF h j).1[v]? =some op.2.1
 |0,_=>⟨by simp[iF],fun s p op hs=>absurd hs (aoR _)⟩
 |j+1,hj=>by
  obtain⟨h1,h2⟩:=BQ h j aj
  have hx:h[((j:Nat):Int).toNat]? =some h[j]:=by rw[dP];exact eI aj
  have hl:=(BP h j aj).1
  obtain⟨V,L,e1,e2,e3,e4⟩:=IH j (iF h j) h[j] h1 h[j].length (ane _)
  rw[zh hx]
  unfold Lb
  rw[e1]
  refine⟨e2,fun s p op hs ho=>?_⟩
  by_cases hsj:s<j
  ·obtain⟨v,h3,h4⟩:=h2 s p op hsj ho
   exact⟨v,by rw[nM (dE.1 h3).1];exact h3,by rw[nM (dE.1 h4).1];exact h4⟩
  ·obtain rfl:s=j:=by omega
   obtain⟨l,k1,k2⟩:=ho
   rw[eI aj] at k1
   obtain rfl:=ana k1
   obtain⟨v,h3,h4⟩:=e4 p op (dE.1 k2).1 k2
   refine⟨v,?_,h4⟩
   unfold iz
   rw[←hl,ny aj,show (iF h s).2.length+p-(iF h s).2.length=p by omega]
   exact h3
theorem mY {op:gT} (ho:jC h s p op):∃v:Nat,(jy h)[iz h s p]? =some (((s:Nat):Int),((p:Nat):Int),op.1,((v:Nat):Int),op.2.2)∧(y_ h)[v]? =some op.2.1:=
 (BQ h h.length (ane _)).2 s p op ho.lt ho
theorem NO (h:dh):(y_ h).Nodup:=(BQ h h.length (ane _)).1
theorem R3 (l:List gT) (t:dh) (s p:Nat):iz (l::t) (s+1) p=l.length+iz t s p:=by
 unfold iz;rw[List.take_succ_cons,aoY,fF];omega
theorem N7:∀(h:dh) {i:Nat},i<h.flatten.length→∃s p op,jC h s p op∧i=iz h s p
 |[],i,hi=>by simp at hi
 |l::t,i,hi=>by
  by_cases hl:i<l.length
  ·exact⟨0,i,l[i],⟨l,J,eI hl⟩,by unfold iz;simp⟩
  ·rw[aoY,fF] at hi
   obtain⟨s,p,op,⟨l',h1,h2⟩,h3⟩:=N7 t (i:=i-l.length) aj
   exact⟨s+1,p,op,⟨l',h1,h2⟩,by rw[R3];omega⟩
section
variable {h:dh} {s p s' p':Nat} {op CP:gT}
theorem R2 (ho:jC h s p op):iz h s p<(jy h).length:=by
 obtain⟨v,h1,_⟩:=mY ho
 exact(dE.1 h1).1
theorem Zj (ho:jC h s p op) (lF:jC h s' p' CP) (e:iz h s p=iz h s' p'):s=s'∧p=p':=by
 obtain⟨v,h1,_⟩:=mY ho
 obtain⟨v',h2,_⟩:=mY lF
 rw[e,h2] at h1
 have:=ana h1
 simp only[anS] at this
 omega
theorem lR {i:Nat} (hi:i<(jy h).length):∃s p op,jC h s p op∧i=iz h s p:=N7 h (by rwa [Ju] at hi)
theorem Od (ho:jC h s p op):j3 (jy h) (iz h s p)=((s:Nat):Int)∧kL (jy h) (iz h s p)=((p:Nat):Int):=by
 obtain⟨v,h1,_⟩:=mY ho
 unfold j3 kL
 rw[ik,h1]
 exact⟨J,J⟩
theorem aej (ho:jC h s p op) (lF:jC h s' p' CP):DG (jy h) (iz h s p) (iz h s' p')=true↔s=s'∧p<p':=by
 unfold DG
 rw[eW,eW,anb,anb,anb,(Od ho).1,(Od lF).1]
 constructor
 ·rintro⟨⟨h1,h2⟩,h3⟩
  obtain rfl:s=s':=by omega
  unfold iz at h1
  exact⟨J,by omega⟩
 ·rintro⟨rfl,h1⟩
  exact⟨⟨by unfold iz;omega,R2 lF⟩,J⟩
theorem Fv {v v':Nat} {a b:bf} (h1:(y_ h)[v]? =some a) (h2:(y_ h)[v']? =some b):v=v'↔a=b:=by
 constructor
 ·rintro rfl;rw[h1] at h2;exact ana h2
 ·rintro rfl
  have l1:=(dE.1 h1).1
  have l2:=(dE.1 h2).1
  exact(List.getElem?_inj l1<|NO h).1 (h1.trans h2.symm)
theorem Rf (ho:jC h s p op) (lF:jC h s' p' CP):iQ (jy h) (qq (jy h) ((iz h s' p':Nat):Int)) ((iz h s p:Nat):Int)=false↔op.1=true∧op.2.1=CP.2.1:=by
 obtain⟨v,h1,h2⟩:=mY ho
 obtain⟨v',h3,h4⟩:=mY lF
 rw[KF aj (by rw[dP];exact h1)]
 unfold qq
 rw[dP,h3]
 simp only[aov,apn,aoU,aph,anb]
 rw[←Fv h2 h4]
 exact and_congr Iff.rfl aj
end
section
variable {h:dh} {s p s' p':Nat} {op CP:gT}
theorem BF (ho:jC h s p op) (hw:op.1=true):(gI (jy h))[iz h s p]? =some (-3):=by
 obtain⟨v,h1,h2⟩:=mY ho
 unfold gI
 rw[anl,h1]
 show some (sY _ _)=_
 rw[←G5 (x:=(((s:Nat):Int),((p:Nat):Int),op.1,((v:Nat):Int),op.2.2)) hw]
theorem Z0 (ho:jC h s p op) (hw:op.1=false) (h0:op.2.2=0):(gI (jy h))[iz h s p]? =some (-1):=by
 obtain⟨v,h1,h2⟩:=mY ho
 unfold gI
 rw[anl,h1]
 show some (sY _ _)=_
 rw[←G7 (x:=(((s:Nat):Int),((p:Nat):Int),op.1,((v:Nat):Int),op.2.2)) hw h0]
theorem adz (hc:(dv (jy h)).2.2=0) (ho:jC h s p op) (hw:op.1=false) (h0:op.2.2≠0) (lF:jC h s' p' CP) (B4:CP.1=true) (hn:CP.2.1=op.2.1) (hv:CP.2.2=op.2.2):(gI (jy h))[iz h s p]? =some ((iz h s' p':Nat):Int):=by
 obtain⟨v,h1,h2⟩:=mY ho
 obtain⟨v',h3,h4⟩:=mY lF
 rw[hn] at h4
 obtain rfl:=(Fv h2 h4).2 rfl
 have hg:=(F3 hc (j:=iz h s' p') (by rw[dP];exact h3) B4).2
 simp only at hg
 rw[hv] at hg
 unfold gI
 rw[anl,h1]
 show some (sY _ _)=_
 rw[←G6 (x:=(((s:Nat):Int),((p:Nat):Int),op.1,((v:Nat):Int),op.2.2)) hw h0 (by rw[anb];simp only;rw[hg];omega)]
 simp only
 rw[hg]
 congr 1
 omega
end
theorem NR (hc:(dv (jy h)).2.2=0) (ho:jC h s p o) (hw:o.1=true):o.2.2≠0:=by
 obtain⟨v,h3,h4⟩:=mY ho
 exact(F3 hc (by rw[dP];exact h3) hw).1
end Go.Ew
namespace Go.Ew
theorem Sm {h:dh} (ho:gq h=true):jj h=true∧(dv (jy h)).2.2=0∧oZ h=jy h∧pa h=gI (jy h):=by
 have h1:=ho
 unfold gq at h1
 rw[eW,anb] at h1
 obtain⟨hr,hc⟩:=h1
 rw[(tD hr).2.1] at hc
 exact⟨hr,hc,by rw[(wU ho).2.1,(tD hr).2.1],by rw[(wU ho).2.2,(tD hr).2.1]⟩
section
variable {h:dh} {s n:Nat} {l:List gT} {o:gT}
end
section
variable {h g:dh} {σ σ':Nat→Nat} {ρ:bf→bf}
end
abbrev Nc:=Nat×Nat×gT
def rz (l:List gT) (nm:bf):Int:=l.foldl (fun v q=>if q.2.1=nm then q.2.2 else v) 0
structure JL (g:dh) (sq:List Nc):Prop where
 mem:∀s p o,jC g s p o↔(s,p,o)∈sq
 ord:∀(i j:Nat) (x y:Nc),sq[i]? =some x→sq[j]? =some y→x.1=y.1→(x.2.1<y.2.1↔i<j)
 val:∀(j s p:Nat) (o:gT),sq[j]? =some (s,p,o)→o.1=false→o.2.2=rz (((sq.take j).map (·.2.2)).filter (·.1)) o.2.1
theorem Bt (l:List gT) (q:gT) (nm:bf):rz (l++[q]) nm=if q.2.1=nm then q.2.2 else rz l nm:=by
 unfold rz;rw[aoX];rfl
theorem Eu (sq:List Nc) (nm:bf):∀j,j≤sq.length→(rz (((sq.take j).map (·.2.2)).filter (·.1)) nm=0∧∀i x,i<j→sq[i]? =some x→x.2.2.1=true→x.2.2.2.1≠nm)∨
  ∃i x,i<j∧sq[i]? =some x∧x.2.2.1=true∧x.2.2.2.1=nm∧rz (((sq.take j).map (·.2.2)).filter (·.1)) nm=x.2.2.2.2∧∀i' x',i'<j→sq[i']? =some x'→x'.2.2.1=true→x'.2.2.2.1=nm→i'≤i
 |0,_=>.inl ⟨rfl,fun i x h=>absurd h (aoR _)⟩
 |j+1,hj=>by
  have hx:sq[j]? =some sq[j]:=eI aj
  have ih:=Eu sq nm j aj
  have e:((sq.take (j+1)).map (·.2.2)).filter (·.1)=((sq.take j).map (·.2.2)).filter (·.1)++(if sq[j].2.2.1=true then [sq[j].2.2] else []):=by
   rw[anH,hx,aoz,aoi]
   congr 1
   simp only[Option.toList,anA,List.map_nil,aqo,List.filter_nil]
  rw[e]
  by_cases hw:sq[j].2.2.1=true
  ·rw[anc hw,Bt]
   by_cases hn:sq[j].2.2.2.1=nm
   ·rw[anc hn]
    exact .inr ⟨j,_,by omega,hx,hw,hn,J,fun i' x' h1 _ _ _=>by omega⟩
   ·rw[anf hn]
    rcases ih with ⟨i1,i2⟩|⟨i,x,i1,i2,i3,i4,i5,i6⟩
    ·refine .inl ⟨i1,fun i x h1 h2 h3=>?_⟩
     by_cases ei:i=j
     ·subst ei;rw[hx] at h2;cases h2;exact hn
     ·exact i2 i x aj h2 h3
    ·refine .inr ⟨i,x,by omega,i2,i3,i4,i5,fun i' x' h1 h2 h3 h4=>?_⟩
     by_cases ei:i'=j
     ·subst ei;rw[hx] at h2;cases h2;exact absurd h4 hn
     ·exact i6 i' x' aj h2 h3 h4
  ·rw[anf hw,aoB]
   rcases ih with ⟨i1,i2⟩|⟨i,x,i1,i2,i3,i4,i5,i6⟩
   ·refine .inl ⟨i1,fun i x h1 h2 h3=>?_⟩
    by_cases ei:i=j
    ·subst ei;rw[hx] at h2;cases h2;exact absurd h3 hw
    ·exact i2 i x aj h2 h3
   ·refine .inr ⟨i,x,by omega,i2,i3,i4,i5,fun i' x' h1 h2 h3 h4=>?_⟩
    by_cases ei:i'=j
    ·subst ei;rw[hx] at h2;cases h2;exact absurd h3 hw
    ·exact i6 i' x' aj h2 h3 h4
theorem JL.ajp {g:dh} {sq:List Nc} (S:JL g sq) (hc:(dv (jy g)).2.2=0):∃t,zV (jy g) (gI (jy g)) t:=by
 have hsp:∀i:Nat,∃j:Nat,∀s p o,jC g s p o→i=iz g s p→sq[j]? =some (s,p,o):=by
  intro i
  by_cases hi:i<(jy g).length
  ·obtain⟨s,p,op,ho,e⟩:=lR hi
   obtain⟨j,hj⟩:=apu ((S.mem s p op).1 ho)
   refine⟨j,fun s' p' o' lF e'=>?_⟩
   obtain⟨rfl,rfl⟩:=Zj ho lF (e.symm.trans e')
   rw[lF.un ho];exact hj
  ·exact⟨0,fun s p o ho e=>absurd (e▸R2 ho) hi⟩
 obtain⟨t,ht⟩:=Classical.axiomOfChoice hsp
 have ht:∀s p o,jC g s p o→sq[t (iz g s p)]? =some (s,p,o):=fun s p o ho=>ht _ s p o ho J
 have un:∀{s p o j},jC g s p o→sq[j]? =some (s,p,o)→j=t (iz g s p):=by
  intro s p o j ho hj
  have h1:=S.ord _ _ _ _ hj (ht s p o ho) J
  have h2:=S.ord _ _ _ _ (ht s p o ho) hj J
  omega
 have lo:∀{s p o},jC g s p o→t (iz g s p)≤sq.length:=fun ho=>Nat.le_of_lt (dE.1<|ht _ _ _ ho).1
 
 have rd:∀{s p o},jC g s p o→o.1=false→((gI (jy g))[iz g s p]? =some (-1)∧∀s' p' o',jC g s' p' o'→o'.1=true→o'.2.1=o.2.1→¬t (iz g s' p')<t (iz g s p))∨
   ∃s' p' o',jC g s' p' o'∧o'.1=true∧o'.2.1=o.2.1∧(gI (jy g))[iz g s p]? =some ((iz g s' p':Nat):Int)∧t (iz g s' p')<t (iz g s p)∧∀s2 p2 o2,jC g s2 p2 o2→o2.1=true→o2.2.1=o.2.1→t (iz g s2 p2)<t (iz g s p)→t (iz g s2 p2)≤t (iz g s' p'):=by
  intro s p o ho hw
  have hv:=S.val _ _ _ _ (ht s p o ho) hw
  rcases Eu sq o.2.1 (t (iz g s p)) (lo ho) with ⟨h1,h2⟩|⟨i,⟨s',p',o'⟩,h1,h2,h3,h4,h5,h6⟩
  ·rw[h1] at hv
   exact .inl ⟨Z0 ho hw hv,fun s' p' o' lF B4 hn eo=>h2 _ _ eo (ht s' p' o' lF) B4 hn⟩
  ·have lF:=(S.mem s' p' o').2 (dC h2)
   have hi:=un lF h2
   subst hi
   simp only at h3 h4 h5
   rw[h5] at hv
   refine .inr ⟨s',p',o',lF,h3,h4,adz hc ho hw (by rw[hv];exact NR hc lF h3) lF h3 h4 hv.symm,h1,fun s2 p2 o2 Je C2 L7 eo=>h6 _ _ eo (ht s2 p2 o2 Je) C2 L7⟩
 refine⟨t,⟨?_,?_,?_,?_,?_,?_⟩⟩
 ·intro a b ha hb e
  obtain⟨s,p,op,ho,rfl⟩:=lR ha
  obtain⟨s',p',CP,lF,rfl⟩:=lR hb
  have h1:=ht _ _ _ ho
  rw[e,ht _ _ _ lF] at h1
  cases h1;rfl
 ·intro a b ha hb e
  obtain⟨s,p,op,ho,rfl⟩:=lR ha
  obtain⟨s',p',CP,lF,rfl⟩:=lR hb
  rw[aej ho lF] at e
  exact(S.ord _ _ _ _ (ht _ _ _ ho) (ht _ _ _ lF) e.1).1 e.2
 ·intro r e
  have hr:r<(jy g).length:=by have:=(dE.1 e).1;rwa [Jq] at this
  obtain⟨s,p,op,ho,rfl⟩:=lR hr
  cases hw:op.1 with
  |true=>rw[BF ho hw] at e;cases e
  |false=>
   rcases rd ho hw with ⟨h1,_⟩|⟨s',p',o',_,_,_,h1,_⟩
   ·rw[h1] at e;cases e
   ·rw[h1] at e;have:=ana e;omega
 ·intro r b hr hb e
  obtain⟨s,p,op,ho,rfl⟩:=lR hr
  cases hw:op.1 with
  |true=>rw[BF ho hw] at e;have:=ana e;omega
  |false=>
   rcases rd ho hw with ⟨h1,_⟩|⟨s',p',o',lF,B4,hn,h1,h2,h3⟩
   ·rw[h1] at e;have:=ana e;omega
   ·rw[h1] at e
    obtain rfl:iz g s' p'=b:=by have:=ana e;omega
    refine⟨h2,?_⟩
    obtain⟨v,k1,k2⟩:=mY ho
    obtain⟨v',k3,k4⟩:=mY lF
    unfold qq
    rw[dP,dP,k1,k3]
    show ((v':Nat):Int)=((v:Nat):Int)
    rw[(Fv k4 k2).2 hn]
 ·intro r a b hr ha hb e hwr eo gA
  obtain⟨s,p,op,ho,rfl⟩:=lR hr
  obtain⟨s2,p2,o2,Je,rfl⟩:=lR ha
  obtain⟨C2,L7⟩:=(Rf Je ho).1 hwr
  cases hw:op.1 with
  |true=>rw[BF ho hw] at e;have:=ana e;omega
  |false=>
   rcases rd ho hw with ⟨h1,_⟩|⟨s',p',o',lF,B4,hn,h1,h2,h3⟩
   ·rw[h1] at e;have:=ana e;omega
   ·rw[h1] at e
    obtain rfl:iz g s' p'=b:=by have:=ana e;omega
    have hle:=h3 s2 p2 o2 Je C2 L7 eo
    refine Nat.lt_of_le_of_ne hle fun e=>gA ?_
    have k1:=ht _ _ _ Je
    rw[e,ht _ _ _ lF] at k1
    cases k1;rfl
 ·intro r a hr ha e hwr
  obtain⟨s,p,op,ho,rfl⟩:=lR hr
  obtain⟨s2,p2,o2,Je,rfl⟩:=lR ha
  obtain⟨C2,L7⟩:=(Rf Je ho).1 hwr
  cases hw:op.1 with
  |true=>rw[BF ho hw] at e;cases e
  |false=>
   rcases rd ho hw with ⟨h1,h2⟩|⟨s',p',o',lF,B4,hn,h1,h2,h3⟩
   ·exact h2 s2 p2 o2 Je C2 L7
   ·rw[h1] at e;have:=ana e;omega
theorem UJ {g:dh} {sq:List Nc} (S:JL g sq) (ho:gq g=true) {lv:Int}:iN (oZ g) (pa g) lv=none:=by
 obtain⟨_,h2,h3,h4⟩:=Sm ho
 obtain⟨t,E⟩:=S.ajp h2
 rw[h3,h4]
 exact Tu (Jq _) Ms E
end Go.Ew
namespace Go.Ew
def sS (lv:Int):Bool:=decide (0<(((dV lv).length:Nat):Int))
def pz (h:dh) (lv:Int):Int:=bif decide (lE h=0) then (bif sS lv then (dv (cS h)).2.2 else 1) else 1
def mP (h:dh) (lv:Int):Int×Int:=bif decide (lE h=0) then (bif sS lv then ((dv (cS h)).1,(dv (cS h)).2.1) else (0,0)) else (0,0)
def tI (h:dh) (lv:Int):Int:=bif decide (pz h lv=0) then lv else 0
noncomputable def qz (h:dh) (lv:Int):Bool:=bif decide (pz h lv=0) then !decide (fg (cS h) (gJ (cS h)) lv=0) else false
noncomputable def gX (h:dh) (lv:Int):yj:=bif decide (pz h lv=0) then (iN (cS h) (gJ (cS h)) lv).getD (0,0,0,0,0) else (0,0,0,0,0)
section
variable {h:dh} {lv:Int}
theorem Xw (hl:sS lv=true):lv=1∨lv=2∨lv=3:=by
 by_cases h1:lv=1
 ·exact .inl h1
 by_cases h2:lv=2
 ·exact .inr (.inl h2)
 by_cases h3:lv=3
 ·exact .inr (.inr h3)
 unfold sS dV at hl
 rw[ank h1,ank h2,ank h3] at hl
 cases hl
theorem ae7 (hl:lv=1∨lv=2∨lv=3):sS lv=true:=by rcases hl with rfl|rfl|rfl<;>rfl
theorem XL (he:lE h=0) (hl:sS lv=true) (hc:(dv (cS h)).2.2=0):pz h lv=0∧mP h lv=(0,0)∧tI h lv=lv∧qz h lv=(!decide (fg (cS h) (gJ (cS h)) lv=0))∧gX h lv=(iN (cS h) (gJ (cS h)) lv).getD (0,0,0,0,0):=by
 have e1:pz h lv=0:=by unfold pz;rw[anh he,hl];exact hc
 refine⟨e1,?_,?_,?_,?_⟩
 ·unfold mP;rw[anh he,hl]
  show ((dv (cS h)).1,(dv (cS h)).2.1)=_
  rw[(Pe hc).1,(Pe hc).2]
 ·unfold tI;rw[e1];rfl
 ·unfold qz;rw[e1];rfl
 ·unfold gX;rw[e1];rfl
theorem Ql {e:Int} (he:pz h lv=e) (h0:¬e=0):tI h lv=0∧qz h lv=false∧gX h lv=(0,0,0,0,0):=by
 subst he
 unfold tI qz gX
 rw[ank h0]
 exact⟨J,J,J⟩
theorem SJ (hx:decide (lE h=0)=false∨sS lv=false):pz h lv=1∧mP h lv=(0,0):=by
 unfold pz mP
 rcases hx with hx|hx<;>rw[hx]
 ·exact⟨J,J⟩
 ·cases decide (lE h=0)<;>exact⟨rfl,rfl⟩
theorem acf (he:lE h=0) (hl:sS lv=true):pz h lv=(dv (cS h)).2.2∧mP h lv=((dv (cS h)).1,(dv (cS h)).2.1):=by
 unfold pz mP;rw[anh he,hl];exact⟨rfl,rfl⟩
theorem Mt (hc:(dv (cS h)).2.2=0):∀x∈gJ (cS h),x<(((cS h).length:Nat):Int):=by rw[Ic hc];exact Ms
theorem aaC {k r a b o:Int} (hw:qE (iN (cS h) (gJ (cS h)) lv) k r a b o) (hc:fg (cS h) (gJ (cS h)) lv=0):(iN (cS h) (gJ (cS h)) lv).getD (0,0,0,0,0)=(k,r,a,b,o):=by
 obtain⟨y,hy⟩:=anB.1 (Pc hc)
 rw[hy,hw.2 y hy];rfl
theorem aaA (hc:¬fg (cS h) (gJ (cS h)) lv=0):(iN (cS h) (gJ (cS h)) lv).getD (0,0,0,0,0)=(0,0,0,0,0):=by rw[Il hc];rfl
theorem L4 (ho:gq h=true) (hl:lv=1∨lv=2∨lv=3):pz h lv=0∧mP h lv=(0,0)∧tI h lv=lv∧qz h lv=(iN (oZ h) (pa h) lv).isNone∧gX h lv=(iN (oZ h) (pa h) lv).getD (0,0,0,0,0):=by
 have hy:=wU ho
 unfold gq at ho
 rw[eW,anb] at ho
 obtain⟨h1,h2,h3,h4,h5⟩:=XL (lv:=lv) (tD ho.1).2.2 (ae7 hl) ho.2
 refine⟨h1,h2,h3,?_,?_⟩
 ·rw[h4,hy.2.1,hy.2.2,Ic ho.2]
  unfold fg
  cases iN (cS h) (gI (cS h)) lv<;>rfl
 ·rw[h5,hy.2.1,hy.2.2,Ic ho.2]
end
theorem Ws {α0 α1 α2 α3 α4 α5 α6 α7 α8 α9 aaw β:Type} (f:α0→α1→α2→α3→α4→α5→α6→α7→α8→α9→aaw→β) {x0 y0:α0} {x1 y1:α1} {x2 y2:α2} {x3 y3:α3} {x4 y4:α4} {x5 y5:α5} {x6 y6:α6} {x7 y7:α7} {x8 y8:α8} {x9 y9:α9} {x10 y10:aaw} (h0:x0=y0) (h1:x1=y1) (h2:x2=y2) (h3:x3=y3) (h4:x4=y4) (h5:x5=y5) (h6:x6=y6) (h7:x7=y7) (h8:x8=y8) (h9:x9=y9) (h10:x10=y10):f x0 x1 x2 x3 x4 x5 x6 x7 x8 x9 x10=f y0 y1 y2 y3 y4 y5 y6 y7 y8 y9 y10:=by
 subst h0;subst h1;subst h2;subst h3;subst h4;subst h5;subst h6;subst h7;subst h8;subst h9;subst h10;rfl
def Ed (s:bf) (lv:Int):Bool:=bif sS lv then decide ((kI s).2.2=0) else false
def uZ (s:bf) (lv:Int):Int:=bif sS lv then (bif decide ((kI s).2.2=0) then pz (kI s).1 lv else (kI s).2.2) else 1
def z8 (s:bf) (lv:Int):Int:=bif sS lv then (bif decide ((kI s).2.2=0) then 0 else (kI s).2.1) else 0
def tq (s:bf) (lv:Int):Int×Int:=bif Ed s lv then mP (kI s).1 lv else (0,0)
def z7 (s:bf) (lv:Int):Int:=bif Ed s lv then tI (kI s).1 lv else 0
noncomputable def rF (s:bf) (lv:Int):Bool:=bif Ed s lv then qz (kI s).1 lv else false
noncomputable def kH (s:bf) (lv:Int):yj:=bif Ed s lv then gX (kI s).1 lv else (0,0,0,0,0)
section
variable {s:bf} {lv a e:Int} {h:dh}
theorem aeN (hl:sS lv=false):uZ s lv=1∧z8 s lv=0∧tq s lv=(0,0)∧z7 s lv=0∧rF s lv=false∧kH s lv=(0,0,0,0,0):=by
 have hr:Ed s lv=false:=by unfold Ed;rw[hl];rfl
 refine⟨?_,?_,?_,?_,?_,?_⟩
 ·unfold uZ;rw[hl];rfl
 ·unfold z8;rw[hl];rfl
 ·unfold tq;rw[hr];rfl
 ·unfold z7;rw[hr];rfl
 ·unfold rF;rw[hr];rfl
 ·unfold kH;rw[hr];rfl
theorem aaL (hl:sS lv=true) (ht:kI s=(h,a,e)) (he:¬e=0):uZ s lv=e∧z8 s lv=a∧tq s lv=(0,0)∧z7 s lv=0∧rF s lv=false∧kH s lv=(0,0,0,0,0):=by
 have hd:decide ((kI s).2.2=0)=false:=by rw[ht];exact ank he
 have hr:Ed s lv=false:=by unfold Ed;rw[hl,hd];rfl
 refine⟨?_,?_,?_,?_,?_,?_⟩
 ·unfold uZ;rw[hl,hd,ht];rfl
 ·unfold z8;rw[hl,hd,ht];rfl
 ·unfold tq;rw[hr];rfl
 ·unfold z7;rw[hr];rfl
 ·unfold rF;rw[hr];rfl
 ·unfold kH;rw[hr];rfl
theorem PA (hl:sS lv=true) (ht:kI s=(h,a,e)) (he:e=0):uZ s lv=pz h lv∧z8 s lv=0∧tq s lv=mP h lv∧z7 s lv=tI h lv∧rF s lv=qz h lv∧kH s lv=gX h lv:=by
 have hd:decide ((kI s).2.2=0)=true:=by rw[ht];exact anh he
 have hr:Ed s lv=true:=by unfold Ed;rw[hl,hd];rfl
 refine⟨?_,?_,?_,?_,?_,?_⟩
 ·unfold uZ;rw[hl,hd,ht];rfl
 ·unfold z8;rw[hl,hd];rfl
 ·unfold tq;rw[hr,ht];rfl
 ·unfold z7;rw[hr,ht];rfl
 ·unfold rF;rw[hr,ht];rfl
 ·unfold kH;rw[hr,ht];rfl
end
end Go.Ew
namespace Go.Ew
set_option maxRecDepth 100000
abbrev JH:bf:=⟨#[119,58,120,61,49,32,114,58,120,61,50,10,119,58,120,61,50,32,114,58,120,61,49,10]⟩
def YE:dh:=[[(true,⟨#[120]⟩,1),(false,⟨#[120]⟩,2)],[(true,⟨#[120]⟩,2),(false,⟨#[120]⟩,1)]]
def kW:List aO:=[(0,0,true,0,1),(0,1,false,0,2),(1,0,true,0,2),(1,1,false,0,1)]
def nw:aA:=[-3,2, -3,0]
theorem Iu:kI JH=(YE,0,0):=by decide +kernel
theorem Uc:gq YE=true:=by decide +kernel
theorem aee:oZ YE=kW:=by decide +kernel
theorem aef:pa YE=nw:=by decide +kernel
theorem Hr:∀x∈nw,x<((kW.length:Nat):Int):=by decide
def zg (o:Int) (a b:Nat):Bool:=(decide (o=1)&&((a,b)==(0,1)||(a,b)==(2,1)||(a,b)==(0,2)))||(decide (o=3)&&((a,b)==(2,3)||(a,b)==(0,3)||(a,b)==(2,0)))
theorem aeb:∀r:Nat,¬nw[r]? =some (-2):=by
 intro r h
 have:(-2:Int)∈nw:=dC h
 exact absurd this au
theorem Ud:∀r:Nat,¬nw[r]? =some (-1):=by
 intro r h
 have:(-1:Int)∈nw:=dC h
 exact absurd this au
theorem aea:∀i,i<4→pX kW nw i i=false:=by decide +kernel
theorem tU {p:Nat→Bool} (h:(List.range 4).all p=true) {i:Nat} (hi:i<4):p i=true:=ani.1 h i (ang.2 hi)
def OR (a b:Bool):Bool:=!a||b
theorem imp {a b:Bool} (h:OR a b=true) (ha:a=true):b=true:=by unfold OR at h;rw[ha] at h;simpa using h
theorem aga:((List.range 4).all fun r=>(List.range 4).all fun a=>(List.range 4).all fun b=>OR (decide (nw[r]? =some ((b:Nat):Int))&&(decide (a≠b)&&(!(iQ kW (qq kW ((r:Nat):Int)) ((a:Nat):Int))&&pX kW nw a r))) (!(pX kW nw b a)))=true:=by decide +kernel
theorem ad':∀r,r<4→∀a,a<4→∀b,b<4→nw[r]? =some ((b:Nat):Int)→a≠b→iQ kW (qq kW ((r:Nat):Int)) ((a:Nat):Int)=false→pX kW nw a r=true→pX kW nw b a=false:=by
 intro r hr a ha b hb h1 h2 h3 h4
 have:=imp (tU (tU (tU aga hr) ha) hb)<|by rw[anh h1,anh h2,h3,h4];rfl
 simpa using this
theorem af':((List.range 4).all fun o=>(List.range 4).all fun a=>(List.range 4).all fun b=>OR (pX kW nw a b&&(decide (((a:Nat):Int)∈bO ((kW.length:Nat):Int) (cu kW nw) ((o:Nat):Int))&&decide (((b:Nat):Int)∈bO ((kW.length:Nat):Int) (cu kW nw) ((o:Nat):Int)))) (zg ((o:Nat):Int) a b))=true:=by decide +kernel
theorem aap:∀o,o<4→∀a,a<4→∀b,b<4→pX kW nw a b=true→((a:Nat):Int)∈bO ((kW.length:Nat):Int) (cu kW nw) ((o:Nat):Int)→((b:Nat):Int)∈bO ((kW.length:Nat):Int) (cu kW nw) ((o:Nat):Int)→zg ((o:Nat):Int) a b=true:=by
 intro o ho a ha b hb h1 h2 h3
 exact imp (tU (tU (tU af' ho) ha) hb)<|by rw[h1,anh h2,anh h3];rfl
theorem af9:((List.range 4).all fun o=>(List.range 4).all fun a=>(List.range 4).all fun b=>(List.range 4).all fun c=>OR (zg ((o:Nat):Int) a b&&zg ((o:Nat):Int) b c) (zg ((o:Nat):Int) a c))=true:=by decide +kernel
theorem WT:∀o,o<4→∀a,a<4→∀b,b<4→∀c,c<4→zg ((o:Nat):Int) a b=true→zg ((o:Nat):Int) b c=true→zg ((o:Nat):Int) a c=true:=by
 intro o ho a ha b hb c hc h1 h2
 exact imp (tU (tU (tU (tU af9 ho) ha) hb) hc)<|by rw[h1,h2];rfl
theorem af_:((List.range 4).all fun o=>(List.range 4).all fun a=>(List.range 4).all fun b=>(List.range 4).all fun r=>OR (decide (((r:Nat):Int)∈l6 kW ((o:Nat):Int))&&(decide (nw[r]? =some ((b:Nat):Int))&&(decide (a≠b)&&(!(iQ kW (qq kW ((b:Nat):Int)) ((a:Nat):Int))&&zg ((o:Nat):Int) a r)))) (zg ((o:Nat):Int) a b))=true:=by decide +kernel
theorem aao:∀o,o<4→∀a,a<4→∀b,b<4→∀r,r<4→((r:Nat):Int)∈l6 kW ((o:Nat):Int)→nw[r]? =some ((b:Nat):Int)→a≠b→iQ kW (qq kW ((b:Nat):Int)) ((a:Nat):Int)=false→zg ((o:Nat):Int) a r=true→zg ((o:Nat):Int) a b=true:=by
 intro o ho a ha b hb r hr h1 h2 h3 h4 h5
 exact imp (tU (tU (tU (tU af_ ho) ha) hb) hr)<|by rw[anh h1,anh h2,anh h3,h4,h5];rfl
theorem aec:∀o,o<4→∀i,i<4→zg ((o:Nat):Int) i i=false:=by decide +kernel
theorem ad_:∀o i,o<4→i<4→¬B0 kW nw ((o:Nat):Int) i i=true:=by
 intro o i ho hi h
 have:=qd.1 h (fun a b=>zg ((o:Nat):Int) a b=true) ⟨fun a b ha hb=>aap o ho a ha b hb,fun a b c ha hb hc=>WT o ho a ha b hb c hc,fun a b r hr k=>by
  have hb:=Hr _<|dC k.fr
  have hb:b<4:=by have:kW.length=4:=rfl;omega
  exact aao o ho a k.a1 b hb r k.r1 hr k.fr k.ne k.wr k.ah⟩
 rw[aec o ho i hi] at this
 cases this
theorem YD:iN kW nw 3=none:=by
 rw[v7 rfl Hr]
 intro k hk
 unfold Iz
 rintro(⟨h0,r,hr⟩|⟨h0,i,hi,h⟩|⟨h0,r,a,hr,ha,h1,h2,h3⟩|⟨h0,r,a,b,hr,ha,hb,h1,h2,h3,h4,h5⟩|⟨h0,i,hi,h⟩|⟨h0,o,r,a,ho,hr,ha,h1,h2,h3,h4⟩|⟨h0,o,i,ho,hi,h⟩)
 ·exact aeb r hr
 ·rw[aea i hi] at h;cases h
 ·exact Ud r h1
 ·rw[ad' r hr a ha b hb h1 h2 h3 h4] at h5;cases h5
 ·subst h0;exact absurd hk au
 ·exact Ud r h2
 ·exact ad_ o i ho hi h
theorem aed:∃y,iN kW nw 2=some y∧y.1=5:=by
 have h5:(ki kW nw 5).isSome=true:=by
  rw[HS rfl Hr aj]
  refine .inr (.inr (.inr (.inr (.inl ⟨J,0,by decide,?_⟩))))
  have e1:Jz kW nw 0 2=true:=by
   unfold Jz
   rw[anm,@decide_eq_true_iff _ (Classical.propDecidable _)]
   exact .inr ⟨1,by decide,by decide,J,by decide,by decide +kernel,by decide +kernel⟩
  have e2:Jz kW nw 2 0=true:=by
   unfold Jz
   rw[anm,@decide_eq_true_iff _ (Classical.propDecidable _)]
   exact .inr ⟨3,by decide,by decide,J,by decide,by decide +kernel,by decide +kernel⟩
  exact BK (b:=2) au (yc e1)<|yc e2
 have hn:∀k,k=1∨k=2∨k=3∨k=4→ki kW nw k=none:=by
  intro k hk
  have:¬(ki kW nw k).isSome=true:=by
   rw[HS rfl Hr aj]
   have:=(v7 (U:=kW) (fo:=nw) (lv:=3) J Hr).1 YD k
   refine this ?_
   rcases hk with rfl|rfl|rfl|rfl<;>decide
  cases e:ki kW nw k with
  |none=>rfl
  |some x=>rw[e] at this;exact absurd rfl this
 obtain⟨y,hy⟩:=anB.1 h5
 refine⟨y,?_,IS hy⟩
 unfold iN
 rw[show dV 2=[1,2,3,4,5] from rfl]
 simp only[List.findSome?_cons,hn 1 aj,hn 2 aj,hn 3 aj,hn 4 aj,hy]
theorem Ue:(kI JH).2.2=0→(kI JH).1.flatten.length≤64:=by rw[Iu];decide
theorem F8:uZ JH 3=0∧rF JH 3=true:=by
 obtain⟨h1,_,_,_,h2,_⟩:=PA (lv:=3) rfl Iu rfl
 obtain⟨k1,_,_,k2,_⟩:=L4 (lv:=3) Uc aj
 rw[h1,h2,k1,k2,aee,aef,YD]
 exact⟨J,J⟩
theorem zS:uZ JH 2=0∧rF JH 2=false∧(kH JH 2).1=5:=by
 obtain⟨h1,_,_,_,h2,h3⟩:=PA (lv:=2) rfl Iu rfl
 obtain⟨k1,_,_,k2,k3⟩:=L4 (lv:=2) Uc aj
 obtain⟨y,e1,e2⟩:=aed
 rw[h1,h2,h3,k1,k2,k3,aee,aef,e1]
 exact⟨J,J,e2⟩
end Go.Ew
namespace Go.Ew
section
variable {h:dh}
theorem ZO (ho:gq h=true) {lv:Int} (hl:lv=1∨lv=2∨lv=3):qz h lv=true↔iN (oZ h) (pa h) lv=none:=by
 rw[(L4 ho hl).2.2.2.1,Option.isNone_iff_eq_none]
end
end Go.Ew
