/- Plain words and laws: hulls, as the program and the reference make them (law 4). -/
import Derived.Test.YtgjakhpjmapelaaGreatDoorOwnB
import Derived.Test.YtgjakhpjmapelaaGreatDoorOwnA
import Derived.Shelf.SlSortCmp.WholeK
import Derived.Shelf.SlSortCmp.NoneTotal
import Derived.Sort.LotA
import Derived.Laws.IdiomStrings
import Derived.Lib.SlTrimSet
import Derived.Shelf.Strings.SlTrimAscii
import Derived.Shelf.Spec.SlicesGrow
import Derived.JoinedCond
set_option linter.unusedVariables false
set_option linter.unusedSimpArgs false
set_option linter.unusedSectionVars false
namespace Go.Ew
theorem Tq {n:Int} {rs xs:Rows} {q:Nat} (hs:xs=cB n.toNat (wM (fX rs) q)) (hq:q≤n.toNat) (nn:n.toNat≤q):xs=fb n rs:=by
 obtain rfl:q=n.toNat:=by omega
 exact hs
section
variable {n:Int} {rs:Rows} (h:bF n rs=true)
include h
theorem Nk:rs=cB n.toNat (wM (fX rs) 0):=BZ h
theorem oV {i:Nat} {x:Row} (hx:rs[i]? =some x):x=gO n.toNat (fX rs i):=by
 have h1:=BZ h
 have h2:(cB n.toNat (fX rs))[i]? =some x:=by rw[←h1];exact hx
 exact(mH h2).2
theorem Rs {i:Nat} {x:Row} {q:Nat} {j:Int} (hx:rs[i]? =some x) (hj:(cR x)[q]? =some j):0≤j∧j<n∧j<((rs.length:Nat):Int):=by
 rw[oV h hx,xZ] at hj
 obtain⟨k,hk, -,rfl⟩:=wg.1 (dJ hj)
 have:=(bO h).1
 omega
end
def Ae (p:Nat→Nat→Bool) (i j k a b:Nat):Bool:=if a<k then Bf p i j a b else p a b
section
variable {n:Int} {rs xs:Rows} {i j:Int} (h:bF n rs=true)
theorem G_ (hq:kg n [i,j]=false):gX n i j=0∧gQ n rs i j=[]∧lk n i j=1:=by
 refine⟨(od (rs:=rs) hq).1,?_,(od (rs:=rs) hq).2.2⟩
 unfold gQ;rw[amn (by rw[hq];decide)]
theorem ZW (hq:kg n [i,j]=true) (hb:eC n rs i j=true):gQ n rs i j=rs:=by unfold gQ;rw[aml hq,aml hb]
include h
theorem Wl:rs=cB n.toNat (Ae (fX rs) i.toNat j.toNat 0):=by
 rw[show cB n.toNat (Ae (fX rs) i.toNat j.toNat 0)=cB n.toNat (fX rs) from dy fun a b _ _=>by unfold Ae;simp]
 exact BZ h
theorem TX {k q:Nat} {x:Row} (hs:xs=cB n.toNat (Ae (fX rs) i.toNat j.toNat k)) (hx:xs[q]? =some x):x.length=words n:=by
 subst hs
 have:=(bO h).2.2.2.1
 rw[(mH hx).2,js,amT this]
theorem TW {k:Nat} {x xj:Row} (hq:kg n [i,j]=true) (hs:xs=cB n.toNat (Ae (fX rs) i.toNat j.toNat k)) (hx:xs[((k:Nat):Int).toNat]? =some x) (hj:rs[j.toNat]? =some xj)
  (hc:((k:Nat):Int)=i∨∃z,rs[((k:Nat):Int).toNat]? =some z∧fe z i=true):xs.set ((k:Nat):Int).toNat (jz x (dY xj j))=cB n.toNat (Ae (fX rs) i.toNat j.toNat (k+1)):=by
 have hr:=ja.1 hq
 have hn:((n.toNat:Nat):Int)=n:=by omega
 subst hs
 obtain⟨hk,hx⟩:=mH hx
 rw[dZ] at hk ⊢
 rw[dZ] at hx
 rw[hx,oV h hj,ur hr.2.1 aq,Hy,wS]
 have zR:((decide (k=i.toNat))||fX rs k i.toNat)=true:=by
  rcases hc with hc|⟨z,hz,hb⟩
  ·simp[show k=i.toNat from by omega]
  ·rw[dZ] at hz
   rw[oV h hz,iJ] at hb
   simp only[eQ] at hb
   rw[hb.2];simp
 refine dy fun a b ha hb=>?_
 unfold Ae
 by_cases e:a=k
 ·subst e
  rw[aml rfl,amn aq,aml aq]
  unfold Bf
  rw[zR,ane]
  cases fX rs a b<;>cases fX rs j.toNat b<;>simp
 ·rw[amn e]
  by_cases e2:a<k
  ·rw[aml e2,aml aq]
  ·rw[amn e2,amn aq]
theorem afm {k:Nat} {z:Row} (hq:kg n [i,j]=true) (hs:xs=cB n.toNat (Ae (fX rs) i.toNat j.toNat k)) (gE:¬((k:Nat):Int)=i) (hz:rs[((k:Nat):Int).toNat]? =some z) (hb:fe z i=false):
  xs=cB n.toNat (Ae (fX rs) i.toNat j.toNat (k+1)):=by
 have hr:=ja.1 hq
 rw[hs]
 refine dy fun a b ha uP=>?_
 unfold Ae
 by_cases e2:a<k
 ·rw[aml e2,aml aq]
 ·by_cases e:a=k
  ·subst e
   rw[amn e2,aml aq]
   unfold Bf
   rw[oV h hz,iJ,dZ] at hb
   have vE:fX rs a i.toNat=false:=by
    have h1:decide (0≤i)=true:=amp hr.1.1
    have h2:decide (i<((n.toNat:Nat):Int))=true:=amp aq
    rw[h1,h2] at hb
    simpa using hb
   rw[vE,ams (show ¬a=i.toNat from by omega)];simp
  ·rw[amn e2,amn aq]
theorem ado {k:Nat} (hq:kg n [i,j]=true) (hb:eC n rs i j=false) (hs:xs=cB n.toNat (Ae (fX rs) i.toNat j.toNat k)) (hk:n.toNat≤k):xs=gQ n rs i j:=by
 unfold gQ
 rw[aml hq,amn (by rw[hb];decide),hs]
 exact dy fun a b ha _=>by unfold Ae;rw[aml aq]
end
def Nv (p:Nat→Nat→Bool) (l:List Int) (a b:Nat):Bool:=p a b&&(decide (((a:Nat):Int)∈l)&&decide (((b:Nat):Int)∈l))
def gj (n:Int) (rs:Rows) (l:List Int):Rows:=cB n.toNat (Nv (fX rs) l)
def oX (n:Nat) (l:List Int):Row:=gO n fun b=>decide (((b:Nat):Int)∈l)
theorem U3 {n:Int} (h:0≤n) (l:List Int):dX n=oX n.toNat (l.take 0):=by
 have:=Ci n.toNat
 rw[amT h] at this
 rw[this]
 exact ku fun k _=>by simp
theorem Y3 {n:Int} {l:List Int} {q:Nat} {x:Int} {mk:Row} (hs:mk=oX n.toNat (l.take q)) (hx:l[((q:Nat):Int).toNat]? =some x) (h:x<n):dY mk x=oX n.toNat (l.take (q+1)):=by
 subst hs
 rw[nB hx]
 by_cases h0:0≤x
 ·unfold oX
  rw[ur h0 aq]
  refine ku fun k _=>?_
  rw[amE]
  simp only[amt,amj,amH,amz,aps,aoG]
  exact or_congr Iff.rfl ⟨fun e=>by omega,fun e=>by omega⟩
 ·rw[←YF aq]
  refine ku fun k _=>?_
  rw[amE]
  simp only[amj,amH,amz,aps,aoG]
  exact⟨.inl,fun e=>e.elim id fun e=>by omega⟩
theorem aaW {n:Int} {l:List Int} {q:Nat} {x:Int} {mk:Row} (hs:mk=oX n.toNat (l.take q)) (hx:l[((q:Nat):Int).toNat]? =some x) (h:n≤x):mk=oX n.toNat (l.take (q+1)):=by
 rw[hs,nB hx]
 refine ku fun k hk=>?_
 rw[amE]
 simp only[amj,amH,amz,aps,aoG]
 exact⟨.inl,fun e=>e.elim id fun e=>by omega⟩
theorem IK {n:Int} (h:0≤n) (l:List Int):(oX n.toNat l).length=words n:=by unfold oX;rw[js,amT h]
def mj (x m:Row) (k:Nat):Row:=(List.range x.length).map fun t=>if t<k then x.getD t 0#64 &&& m.getD t 0#64 else 0#64
theorem sx (x m:Row) (k:Nat):(mj x m k).length=x.length:=by unfold mj;simp
theorem QD (x m:Row):List.replicate x.length 0#64=mj x m 0:=by
 unfold mj
 apply anT
 ·simp
 ·intro i h1 h2;simp
theorem QE {x m:Row} {k:Nat} {u v:BitVec 64} (hu:x[((k:Nat):Int).toNat]? =some u) (hv:m[((k:Nat):Int).toNat]? =some v):(mj x m k).set ((k:Nat):Int).toNat (u &&& v)=mj x m (k+1):=by
 have e1:=wi hu
 have e2:=wi hv
 rw[dZ]
 apply anT
 ·rw[ami,sx,sx]
 ·intro i h1 h2
  rw[aoX]
  simp only[mj,List.getElem_map,aoJ]
  by_cases e:k=i
  ·subst e;rw[aml rfl,aml aq,e1,e2]
  ·rw[amn e]
   by_cases h3:i<k
   ·rw[aml h3,aml aq]
   ·rw[amn h3,amn aq]
theorem TU {n:Nat} {p q:Nat→Bool} {k:Nat} (h:(gO n p).length≤k):mj (gO n p) (gO n q) k=gO n fun b=>p b&&q b:=by
 refine zp (by rw[sx,js]) fun b=>?_
 have h1:∀r:Row,fe r ((b:Nat):Int)=(r.getD (b/64) 0#64).getLsbD (b%64):=by intro r;unfold fe;simp
 have e1:=iJ n p ((b:Nat):Int)
 have e2:=iJ n q ((b:Nat):Int)
 rw[h1] at e1 e2 ⊢
 by_cases hb:b/64<(gO n p).length
 ·have:(mj (gO n p) (gO n q) k).getD (b/64) 0#64=(gO n p).getD (b/64) 0#64 &&& (gO n q).getD (b/64) 0#64:=by
   unfold mj
   rw[gZ,amx,ang hb]
   show (if b/64<k then _ else _)=_
   rw[aml aq]
  rw[this,aoo,e1,e2]
  by_cases SG:b<n
  ·simp[SG]
  ·simp[SG]
 ·have SG:¬b<n:=by
   intro SG
   apply hb
   rw[js,qd];omega
  have:(mj (gO n p) (gO n q) k).getD (b/64) 0#64=0#64:=by
   rw[gZ,amv (by rw[sx];omega)];rfl
  rw[this];simp[SG]
def wy (p:Nat→Nat→Bool) (l:List Int) (k a b:Nat):Bool:=if a<k then Nv p l a b else false
section
variable {n:Int} {rs xs:Rows} {l:List Int} {mk:Row} {k:Nat} (h:bF n rs=true)
include h
theorem Ua:List.replicate n.toNat (dX n)=cB n.toNat (wy (fX rs) l 0):=by
 have h0:=kF h
 have:=xX n.toNat
 unfold vh at this
 rw[amT h0] at this
 rw[this]
 exact dy fun a b _ _=>by unfold wy;simp
theorem Yt (hs:xs=cB n.toNat (wy (fX rs) l k)) (hm:mk=oX n.toNat l) (hk:k<n.toNat) (hb:fe mk ((k:Nat):Int)=false):xs=cB n.toNat (wy (fX rs) l (k+1)):=by
 rw[hs]
 refine dy fun a b ha uP=>?_
 unfold wy
 by_cases e2:a<k
 ·rw[aml e2,aml aq]
 ·by_cases e:a=k
  ·subst e
   rw[amn e2,aml aq]
   rw[hm] at hb
   unfold oX at hb
   rw[iJ] at hb
   have XA:decide (((a:Nat):Int)∈l)=false:=by
    have h2:decide (((a:Nat):Int)<((n.toNat:Nat):Int))=true:=amp aq
    rw[h2] at hb
    simpa using hb
   unfold Nv
   rw[XA];simp
  ·rw[amn e2,amn aq]
theorem adO (hs:xs=cB n.toNat (wy (fX rs) l k)) {x:Row} (hx:rs[((k:Nat):Int).toNat]? =some x):xs=xs.set k (mj x mk 0):=by
 have pT:rs[k]? =some x:=hx
 have hk:k<n.toNat:=by have:=(ef.1 pT).1;have:=(bO h).1;omega
 have h0:=kF h
 have e:mj x mk 0=dX n:=by
  rw[←QD]
  unfold dX
  rw[nC h pT]
 rw[e]
 apply amQ
 intro a
 rw[anC]
 split
 ·rename_i e2;subst e2
  rw[aml (by rw[hs,lY];exact hk),hs,rU hk]
  congr 1
  have:=Ci n.toNat
  rw[amT h0] at this
  rw[this]
  exact ku fun b _=>by unfold wy;simp
 ·rfl
theorem Kj {q:Nat} {x r:Row} {ys:Rows} (hs:xs=cB n.toNat (wy (fX rs) l k)) (hy:ys=xs.set k (mj x mk q)) (hx:rs[((k:Nat):Int).toNat]? =some x) (hr:ys[((k:Nat):Int).toNat]? =some r):r=mj x mk q:=by
 have pT:rs[k]? =some x:=hx
 have hk:k<n.toNat:=by have:=(ef.1 pT).1;have:=(bO h).1;omega
 rw[hy,dZ,amC (by rw[hs,lY];exact hk)] at hr
 exact(amo hr).symm
theorem Ys {q:Nat} {x r:Row} {ys:Rows} {u v:BitVec 64} (hs:xs=cB n.toNat (wy (fX rs) l k)) (hy:ys=xs.set k (mj x mk q)) (hx:rs[((k:Nat):Int).toNat]? =some x) (hr:ys[((k:Nat):Int).toNat]? =some r)
  (hu:x[((q:Nat):Int).toNat]? =some u) (hv:mk[((q:Nat):Int).toNat]? =some v):ys.set ((k:Nat):Int).toNat (r.set ((q:Nat):Int).toNat (u &&& v))=xs.set k (mj x mk (q+1)):=by
 rw[Kj h hs hy hx hr,hy,QE hu hv,dZ,List.set_set]
theorem Yu {q:Nat} {x:Row} {ys:Rows} (hs:xs=cB n.toNat (wy (fX rs) l k)) (hy:ys=xs.set k (mj x mk q)) (hx:rs[((k:Nat):Int).toNat]? =some x) (hm:mk=oX n.toNat l) (hb:fe mk ((k:Nat):Int)=true) (hq:x.length≤q):ys=cB n.toNat (wy (fX rs) l (k+1)):=by
 have pT:rs[k]? =some x:=hx
 have hk:k<n.toNat:=by have:=(ef.1 pT).1;have:=(bO h).1;omega
 rw[hy,hm,hs,oV h pT]
 unfold oX
 rw[TU (by rw[oV h pT] at hq;exact hq),wS]
 rw[hm] at hb
 unfold oX at hb
 rw[iJ] at hb
 simp only[eQ] at hb
 refine dy fun a b ha uP=>?_
 unfold wy
 by_cases e:a=k
 ·subst e
  rw[aml rfl,aml aq]
  unfold Nv
  have:decide (((a:Nat):Int)∈l)=true:=by simpa using hb.2
  rw[this,ane]
 ·rw[amn e]
  by_cases e2:a<k
  ·rw[aml e2,aml aq]
  ·rw[amn e2,amn aq]
theorem Z7 (hs:xs=cB n.toNat (wy (fX rs) l k)) (hk:n.toNat≤k):xs=gj n rs l:=by
 rw[hs]
 exact dy fun a b ha _=>by unfold wy;rw[aml aq]
end
theorem BJ {n:Int} {rs:Rows} (h:bF n rs=true) (l:List Int):bF n (gj n rs l)=true:=by
 obtain⟨m,p,rfl,hm,rfl⟩:=lW h
 unfold gj;rw[dZ];exact ll hm
end Go.Ew
namespace Go.Ew
structure Rch (n:Nat) (p:Nat→Nat→Bool) (i:Nat) (sn:List Bool) (td:List Int) (at_:Int) (j:Nat):Prop where
 len:sn.length=n
 snd:∀k,sn.getD k false=true→TC n p i k
 tdo:∀t∈td,∃k,t=((k:Nat):Int)∧k<n∧(k=i∨sn.getD k false=true)
 don:∀x,x<n→(x=i∨sn.getD x false=true)→((x:Nat):Int)∈td∨(((x:Nat):Int)=at_∧∀y,y<j→p x y=true→sn.getD y false=true)∨∀y,y<n→p x y=true→sn.getD y false=true
section
variable {n:Nat} {p:Nat→Nat→Bool} {i j:Nat} {sn:List Bool} {td:List Int} {at_:Int}
end
theorem NB {td:List Int} (h:¬(0:Int)<((td.length:Nat):Int)):td=[]:=anH aq
section
variable {n:Int} {rs:Rows} {i a j:Nat} {sn:List Bool} {td:List Int} {x:Int} (rt:bF n rs=true) (e:x=((a:Nat):Int)) (h:Rch n.toNat (fX rs) i sn td x j) (SH:a<n.toNat) (hj:j<n.toNat)
include rt e h SH hj
end
section
variable {k:Int} {l:List (BitVec 8×BitVec 8)} {z:BitVec 8×BitVec 8} (hk:0<k) (h4:k≤4096)
include hk h4
end
end Go.Ew
namespace Go.Ew
section
variable {n:Int} {rs:Rows} (h:bF n rs=true)
include h
end
end Go.Ew
namespace Go.Ew
def eL (n:Int) (rs:Rows) (o:Int):List Int:=if 0≤o∧o<n then vy n.toNat (fun a=>fX rs a o.toNat) else []
def bL (n:Int) (rs:Rows) (o:Int):List Int:=if 0≤o∧o<n then vy n.toNat (fun a=>fX rs a o.toNat||decide (a=o.toNat)) else []
theorem KY {n:Int} {rs:Rows} {o:Int} (h:¬(0≤o∧o<n)):eL n rs o=[]:=by unfold eL;rw[amn h]
theorem Ki {n:Int} {rs:Rows} {o:Int} (h:¬(0≤o∧o<n)):bL n rs o=[]:=by unfold bL;rw[amn h]
theorem DM {n:Int} {rs:Rows} (h:bF n rs=true) {o:Int} (h0:0≤o∧o<n) {x:Row} (hx:(gF n rs)[o.toNat]? =some x):x=gO n.toNat fun a=>fX rs a o.toNat:=by
 obtain⟨m,p,rfl,hm,rfl⟩:=lW h
 rw[Is] at hx
 obtain⟨h1,rfl⟩:=mH hx
 rw[dZ]
 exact ku fun a ha=>(ju ha h1).symm
theorem RG {n:Int} {rs:Rows} (h:bF n rs=true) {o:Int} (h0:0≤o∧o<n) {x:Row} (hx:(gF n rs)[o.toNat]? =some x):cR x=eL n rs o:=by
 rw[DM h h0 hx,xZ];unfold eL;rw[aml h0]
theorem QV {n:Int} {rs:Rows} (h:bF n rs=true) {o:Int} (h0:0≤o∧o<n) {x:Row} (hx:(gF n rs)[o.toNat]? =some x):cR (dY x o)=bL n rs o:=by
 rw[DM h h0 hx,ur h0.1 aq,xZ];unfold bL;rw[aml h0]
theorem wB {n:Int} {rs:Rows} (h:bF n rs=true) {i:Nat} {x:Row} (hx:(gF n rs)[i]? =some x):x.length≤64:=(bO (FW h)).2.2.2.2 _ (dJ hx)
theorem uA {n:Int} {rs:Rows} (h:bF n rs=true) (o:Int):(eL n rs o).length≤4096:=by
 have h4:=(bO h).2.2.1
 unfold eL;split
 ·have:=N8 n.toNat (fun a=>fX rs a o.toNat);omega
 ·simp
theorem um {n:Int} {rs:Rows} (h:bF n rs=true) (o:Int):(bL n rs o).length≤4096:=by
 have h4:=(bO h).2.2.1
 unfold bL;split
 ·have:=N8 n.toNat (fun a=>fX rs a o.toNat||decide (a=o.toNat));omega
 ·simp
section
variable {n:Int} {rs:Rows} (h:bF n rs=true) {k:Int} (hk:0≤k∧k<n)
include h hk
end
end Go.Ew
namespace Go.Ew
def aZ (p:Int→Bool) (xs:List Int):List Int:=xs.filter fun x=>!p x
def DF (p:Int→Bool) (xs ys:List Int) (q:Int) (k:Nat):Prop:=ys.length=xs.length∧ys.take q.toNat=aZ p (xs.take k)∧ys.drop k=xs.drop k
section
variable {p:Int→Bool} {xs ys:List Int} {q x:Int} {k:Nat}
theorem ZA (h:eF p xs= -1):xs=aZ p xs:=by
 have h1:=wW (p:=p) (r:=xs)
 rw[h,ams aq] at h1
 unfold aZ
 refine(ao9.2 fun x hx=>?_).symm
 have:=aob.1 h1.symm x hx
 simpa using this
theorem VN (h:¬eF p xs= -1):0≤eF p xs∧(eF p xs).toNat<xs.length∧DF p xs xs (eF p xs) ((eF p xs).toNat+1):=by
 unfold eF at h ⊢
 cases hf:xs.findIdx? p with
 |none=>rw[hf] at h;exact absurd rfl h
 |some i=>
  rw[hf] at h
  obtain⟨h1,h2,h3⟩:=amP.1 hf
  refine⟨by show (0:Int)≤((i:Nat):Int);omega,h1,J,?_,J⟩
  show xs.take i=aZ p (xs.take (i+1))
  unfold aZ
  rw[amW,eP h1,anL]
  have e1:(xs.take i).filter (fun x=>!p x)=xs.take i:=by
   refine ao9.2 fun y hy=>?_
   obtain⟨j,hj⟩:=amB.1 hy
   have wZ:=(ef.1 hj).1
   rw[ij] at wZ
   have h4:=h3 j aq
   rw[anJ aq,eP aq] at hj
   rw[←amo hj]
   simpa using h4
  rw[e1]
  simp[h2]
theorem Qx (h:DF p xs ys q k) (hx:ys[k]? =some x):xs[k]? =some x:=by
 have h1:=h.2.2
 have:(ys.drop k)[0]? =some x:=by rw[amY];exact hx
 rw[h1,amY] at this
 exact this
theorem OH (hx:xs[k]? =some x):aZ p (xs.take (k+1))=aZ p (xs.take k)++(if p x=true then [] else [x]):=by
 unfold aZ
 rw[amW,hx,anL]
 cases hp:p x<;>simp[hp]
theorem Md (h:DF p xs ys q k):ys.drop (k+1)=xs.drop (k+1):=by
 have h1:=h.2.2
 rw[←anc,←anc,h1]
theorem ZC (h:DF p xs ys q k) (hx:ys[k]? =some x) (hp:p x=true):DF p xs ys q (k+1):=
 ⟨h.1,by rw[OH (Qx h hx),aml hp,anR];exact h.2.1,Md h⟩
theorem ZB (h:DF p xs ys q k) (hx:ys[k]? =some x) (hp:p x=false) (h0:0≤q) (hq:q<((k:Nat):Int)):DF p xs (ys.set q.toNat x) (q+1) (k+1):=by
 have hk:=(ef.1 hx).1
 refine⟨by rw[ami];exact h.1,?_,?_⟩
 ·rw[OH (Qx h hx),amn (by rw[hp];decide),←h.2.1,show (q+1).toNat=q.toNat+1 from by omega,amW,List.take_set_of_le (amk _),amC aq]
  rfl
 ·rw[List.drop_set_of_lt aq]
  exact Md h
theorem acX (h:DF p xs ys q k) (hk:xs.length≤k) (h0:0≤q) (hq:q.toNat≤ys.length) (m:Nat):(ys.take q.toNat++(List.replicate m (0:Int)++[])).take q.toNat=aZ p xs:=by
 rw[ao4 (by rw[ij];omega),h.2.1,amr hk]
end
def iE (aG:List aH) (v i:Int):Bool:=decide (i<0)||(match aG[i.toNat]? with
 |none=>true
 |some x=>!x.2.2.1||!decide (x.2.2.2.1=v))
def fV (aG:List aH) (i:Int):Bool:=((aG[i.toNat]?).map (fun x=>x.2.2.1)).getD false
section
variable {aG:List aH} {v i:Int} {x:aH}
theorem Yq (h:i<0):iE aG v i=true:=by unfold iE;rw[amp h];rfl
theorem Yp (h:((aG.length:Nat):Int)≤i):iE aG v i=true:=by
 unfold iE
 rw[amv aq];simp
theorem QU (h0:¬i<0) (hx:aG[i.toNat]? =some x):iE aG v i=(!x.2.2.1||!decide (x.2.2.2.1=v)):=by
 unfold iE
 rw[ams h0,hx];rfl
theorem Z6 (hx:aG[i.toNat]? =some x):fV aG i=x.2.2.1:=by unfold fV;rw[hx];rfl
theorem IF (o:gL aG) {t:Int} {q:Nat} {x:Int} (hx:(cx aG t)[q]? =some x):0≤x∧x<((aG.length:Nat):Int):=by
 by_cases h:0≤t∧t<(aG.length:Int)
 ·have:=YQ o h.1 h.2 hx
  omega
 ·rw[←EU h] at hx;simp at hx
end
end Go.Ew
namespace Go.Ew
abbrev cH:=Int×Int×Int×Int×Int
def rl (I:List aH) (i:Int):Int:=((I[i.toNat]?).map (fun x=>x.2.2.2.1)).getD 0
section
variable {I:List aH} {U:List Int}
end
end Go.Ew
namespace Go.Ew
section
variable {I:List aH} {U:List Int} {pre:List cH} {pl:List Bool} {kd fr to sa sb:Int}
end
end Go.Ew
namespace Go.Ew
def fF (h:dv):Bool:=jt h&&decide ((dz (cN h)).2.2=0)
def sP (h:dv):List ByteArray:=if fF h then l6 h else []
def jD (h:dv):List aH:=if fF h then cN h else []
def ka (h:dv):List Int:=if fF h then jl (cN h) else []
theorem zG {h:dv} (hq:fF h=false):sP h=[]∧jD h=[]∧ka h=[]:=by unfold sP jD ka;simp[hq]
theorem Dk {h:dv} (hq:fF h=true):sP h=l6 h∧jD h=cN h∧ka h=jl (cN h):=by unfold sP jD ka;simp[hq]
theorem YY {h:dv} (he:¬k0 h=0):fF h=false:=by
 unfold fF
 cases hr:jt h with
 |false=>rfl
 |true=>exact absurd (xU hr).2.2 he
theorem aed {h:dv} (he:k0 h=0):jt h=true:=by
 cases hr:jt h with
 |true=>rfl
 |false=>rw[(wO hr).2.2] at he;cases he
theorem YX {h:dv} (he:¬(dz (cN h)).2.2=0):fF h=false:=by unfold fF;rw[ams he];simp
theorem aaN {h:dv} (he:k0 h=0) (hc:(dz (cN h)).2.2=0):fF h=true:=by unfold fF;rw[aed he,amp hc];rfl
theorem EX (h:dv):(jD h).length≤h.flatten.length:=by
 unfold jD;split
 ·exact HA h
 ·simp
theorem YV:gL ([]:List aH):=⟨fun h=>absurd h (an7 0),fun i h=>absurd h (aol _)⟩
theorem HB (h:dv):gL (jD h):=by
 unfold jD;split
 ·exact Hz h
 ·exact YV
theorem EY (h:dv):(ka h).length=(jD h).length:=by
 unfold ka jD;split
 ·exact SX _
 ·rfl
theorem L3 {aG:List aH}:∀x∈jl aG,x<((aG.length:Nat):Int):=by
 intro x hx
 unfold jl at hx
 obtain⟨y,hy,rfl⟩:=am5.1 hx
 have:=(M6 (aG:=aG) (x:=y) J).2.2.2.1
 exact this
theorem HC (h:dv):∀x∈ka h,x<(((jD h).length:Nat):Int):=by
 unfold ka jD;split
 ·exact L3
 ·intro x hx;cases hx
def KS (U:List Int) (a b:Nat):Bool:=decide (U.getD b (-1)=((a:Nat):Int))
def oo (I:List aH) (U:List Int):Rows:=cB I.length (KS U)
def tR (n:Nat) (U:List Int) (j:Nat):Rows:=cB n fun a b=>decide (b<j)&&KS U a b
theorem YL (n:Nat) (U:List Int):vh ((n:Nat):Int)=tR n U 0:=by
 rw[xX];exact dy fun a b _ _=>by simp
theorem aaE {I:List aH} {U:List Int} {j:Nat} (hl:U.length=I.length) (hj:U.length≤j):tR I.length U j=oo I U:=
 dy fun a b _ hb=>by rw[amp (show b<j by omega)];rfl
theorem ad9 {n:Nat} {U:List Int} {j:Nat} {w:Int} (hw:U[((j:Nat):Int).toNat]? =some w) (h:w<0):tR n U j=tR n U (j+1):=by
 refine dy fun a b ha hb=>?_
 by_cases e:b=j
 ·subst e
  rw[dZ] at hw
  unfold KS
  rw[gZ,hw,ams (show ¬(some w).getD (-1)=((a:Nat):Int) by simp;omega)];simp
 ·have:decide (b<j)=decide (b<j+1):=by rw[anx];omega
  rw[this]
theorem ad_ {n j:Nat} {w:Int} (h0:0≤w) (hw:w<((n:Nat):Int)) (hj:j<n):kg ((n:Nat):Int) [w,((j:Nat):Int)]=true:=ja.2 aq
theorem aaC {n:Nat} {U:List Int} {j:Nat} {w:Int} (hw:U[((j:Nat):Int).toNat]? =some w) (h0:0≤w) (h1:w<((n:Nat):Int)) (hj:j<n):ra (tR n U j) (w,((j:Nat):Int))=tR n U (j+1):=by
 unfold tR
 rw[BV (ad_ h0 h1 hj)]
 refine dy fun a b ha hb=>?_
 rw[dZ] at hw ⊢
 by_cases e:b=j
 ·subst e
  rw[ams (an7 b),amp (anI b),amp rfl]
  unfold KS
  rw[gZ,hw]
  show (false&&_||decide (a=w.toNat)&&true)=(true&&decide (w=((a:Nat):Int)))
  rw[apc,an8,apj,ane,anx]
  omega
 ·rw[ams e,apd,anM]
  have:decide (b<j)=decide (b<j+1):=by rw[anx];omega
  rw[this]
theorem aaD {n:Nat} {U:List Int} {j:Nat} {w:Int} {xs:Rows} {x:Row} (hs:xs=tR n U j) (hw:U[((j:Nat):Int).toNat]? =some w) (h0:0≤w) (h1:w<((n:Nat):Int)) (hj:j<n) (hx:xs[w.toNat]? =some x):xs.set w.toNat (dY x ((j:Nat):Int))=tR n U (j+1):=by
 rw[Hq hx,hs];exact aaC hw h0 h1 hj
theorem Ut (n:Nat) (U:List Int) (j:Nat):(tR n U j).length=n:=lY _ _
theorem YN (I:List aH) (U:List Int):(oo I U).length=I.length:=lY _ _
theorem YM {n:Nat} (h:n≤4096) (U:List Int) (j:Nat):(((tR n U j).length:Nat):Int)=((n:Nat):Int)∧∀x∈tR n U j,x.length≤1000000000:=⟨by rw[Ut],AP h⟩
theorem Gg {n:Nat} (h:n≤4096) (P:Nat→Nat→Bool):(((cB n P).length:Nat):Int)=((n:Nat):Int)∧∀x∈cB n P,x.length≤1000000000:=⟨by rw[lY],AP h⟩
def Mb (I:List aH) (U:List Int) (a b:Nat):Bool:=G9 I a b||KS U a b
def j7 (I:List aH) (U:List Int):Rows:=cB I.length (Mb I U)
theorem X3 (I:List aH) (U:List Int):sN ((I.length:Nat):Int) ((I.length:Nat):Int)=((I.length:Nat):Int)∧lX ((I.length:Nat):Int) (ot I) ((I.length:Nat):Int) (oo I U)=j7 I U:=by
 refine⟨(zA (ar:=ot I) (br:=oo I U) J).1,?_⟩
 rw[(zA rfl).2.1,dZ]
 exact RR _ _
def pB (I:List aH) (U:List Int):Nat→Nat→Bool:=cl I.length (Mb I U)
def cp (I:List aH) (U:List Int):Rows:=cB I.length (pB I U)
theorem VU (I:List aH) (U:List Int):fb ((I.length:Nat):Int) (j7 I U)=cp I U:=Ee
theorem L_ {I:List aH} (U:List Int) (h:I.length≤4096):bF ((I.length:Nat):Int) (j7 I U)=true:=ll h
theorem pc {I:List aH} (U:List Int) (h:I.length≤4096):bF ((I.length:Nat):Int) (cp I U)=true:=ll h
end Go.Ew
namespace Go.Ew
def dq (lv:Int):List Int:=bif decide (lv=1) then [1,2,3,4] else bif decide (lv=2) then [1,2,3,4]++[5] else bif decide (lv=3) then [1,2,3,4]++[6,7] else []
section
variable (I:List aH) (U:List Int)
def lO (o:Int):List Int:=aZ (fV I) (cx I o)
end
section
variable {I:List aH} {U:List Int}
end
end Go.Ew
namespace Go.Ew
section
variable (I:List aH) (U:List Int)
end
section
variable {I:List aH} {U:List Int}
end
end Go.Ew
namespace Go.Ew
section
variable {I:List aH} {U:List Int} {l:List cH}
theorem jh {α:Type} {xs:List α} {j:Nat} {x z:α} (h:xs[((j:Nat):Int).toNat]? =some x):xs.getD j z=x:=by
 rw[dZ] at h
 rw[gZ,h];rfl
end

section
variable {α:Type} {l:List α} {p:α→Bool} {q:Nat→Bool} {j n:Nat} {x:α}
end
section
variable {l:List cH} {j:Nat} {s:cH} {ys:List Bool} {x:Bool}
end
section
variable {I:List aH} {U:List Int} {l:List cH}
end
end Go.Ew
namespace Go.Ew
def fA (a b:Int):Int:=bif decide (a<b) then -1 else bif decide (b<a) then 1 else 0
def Cd:List Int→Int
 |[]=>0
 |x::r=>if x=0 then Cd r else x
abbrev dU:=Int×Int×Int
def xr (x y:dU):Int:=Cd [fA x.1 y.1,fA x.2.1 y.2.1,fA x.2.2 y.2.2]
theorem NW:∀{l:List Int} {j:Nat} {x:Int},(∀y∈l.take j,y=0)→l[j]? =some x→¬x=0→Cd l=x
 |[],j,x,_,h,_=>by simp at h
 |a::l,0,x,_,h,hx=>by
  simp only[amw,amu] at h
  subst h
  exact amn hx
 |a::l,j+1,x,hs,h,hx=>by
  simp only[amD] at h
  show (if a=0 then Cd l else a)=x
  rw[aml (hs a (by simp)),NW (fun y hy=>hs y (by simp[hy])) h hx]
theorem K6:∀{l:List Int},(∀y∈l,y=0)→Cd l=0
 |[],_=>rfl
 |a::l,h=>by
  show (if a=0 then Cd l else a)=0
  rw[aml (h a (by simp)),K6 (fun y hy=>h y (by simp[hy]))]
theorem Yk {l:List Int} {j:Nat} {x:Int} (hs:∀y∈l.take j,y=0) (hx:l[((j:Nat):Int).toNat]? =some x) (h:x=0):∀y∈l.take (j+1),y=0:=by
 rw[dZ] at hx
 intro y hy
 rw[amW,hx] at hy
 rcases amH.1 hy with hy|hy
 ·exact hs y hy
 ·simp at hy;rw[hy];exact h
theorem Fy (a b:Int):aK (fA a b):=by
 unfold fA aK
 cases decide (a<b)<;>cases decide (b<a)<;>simp
end Go.Ew
namespace Go.Ew
open Go.RowKit
def pb (a:Option Addr) (c lo:Nat):Option Addr:=if c=lo then a else a.map (·.add (lo*3))
theorem yZ {α:Type} [GT α] {M:Nat→Prop} {w:World}:∀(k:Nat) {xs:List α} {cs:List Value},bu M w cs xs→bu M w (cs.take (k*GT.size α)) (xs.take k)∧bu M w (cs.drop (k*GT.size α)) (xs.drop k)
 |0,xs,cs,h=>⟨by rw[aoH,aog,aog];rfl,by simpa using h⟩
 |k+1,[],cs,h=>by
  rw[show cs=[] from h]
  exact⟨by simp[bu],by simp[bu]⟩
 |k+1,x::xs,cs,h=>by
  obtain⟨c1,c2,rfl,h2,h3⟩:=h
  obtain⟨i1,i2⟩:=yZ k h3
  have e:=GT.len h2
  have e1:(k+1)*GT.size α=c1.length+k*GT.size α:=by rw[am8,e];omega
  refine⟨⟨c1,c2.take (k*GT.size α),?_,h2,i1⟩,?_⟩
  ·rw[e1,List.take_length_add_append]
  ·rw[e1,List.drop_length_add_append];exact i2
theorem adN (n:Nat):(Builtin.zeroCells #[Value.int .i64 0,Value.int .i64 0,Value.int .i64 0] n).toList=List.replicate (n*3) (Value.int .i64 0):=by
 unfold Builtin.zeroCells
 apply amQ
 intro i
 simp only[Array.toList_map,amx,Array.toList_range,an1]
 by_cases h:i<n*3
 ·rw[ang (by simpa using h),aml h]
  have:i%3=0∨i%3=1∨i%3=2:=by omega
  rcases this with h|h|h<;>simp[h]
 ·rw[amv (by simpa using h),amn h];rfl
theorem Vg:aK 0:=by unfold aK;omega
theorem HW {M:Nat→Prop} {w:World}:∀n,bu M w (List.replicate (n*3) (Value.int .i64 0)) (List.replicate n ((0,0,0):dU))
 |0=>rfl
 |n+1=>⟨[.int .i64 0,.int .i64 0,.int .i64 0],List.replicate (n*3) (.int .i64 0),by rw[show (n+1)*3=n*3+1+1+1 by omega,am_,am_,am_];rfl,⟨[_],[_,_],rfl,⟨rfl,Vg⟩,[_],[_],rfl,⟨rfl,Vg⟩,rfl,Vg⟩,HW n⟩
section
variable {P:Program} {n:Nat} {ops:Array Oper} {f:aS} {w:World} {K:aS→World→Prop} {x y:Operand} {d:Nat} {ty T e:TypeId} {ps:String} {af:Array Edge} {v u:Value} {M M0:Nat→Prop} {w0:World} {l:List Item} {bytes:Nat} {z:Value} {B:Nat} {kk:IntKind} {agg:Bool} {xs ys:List dU} {a:Option Addr} {k c:Nat}
theorem vS (hO:(own B e (.slice a k c) xs).holds M w):k=xs.length∧xs.length≤c:=by
 obtain⟨cs,h1,h2⟩:=hO
 rcases h1.2 with ⟨h3,h4⟩|⟨g,cap,cur,h3,h4,h5,h6,h7⟩
 ·cases h3;omega
 ·cases h3;exact⟨rfl,h6⟩
theorem Ul {lo:Int} {qT:Operand} (hO:(own B e (.slice a k c) xs).holds M w) (ox:bG n x=true) (ol:bG n qT=true) (hx:ev f x=.slice a k c) (hl:ev f qT=.int kk lo) (hb:0≤lo∧lo≤xs.length) (hu:P.underlying T=some (.slice e)) (F:eh P e 3 agg bytes z)
  (h:K (b9 f d (.slice (pb a c lo.toNat) (k-lo.toNat) (c-lo.toNat))) w):
  SO P n ops ⟨some d,.slice T x (some qT) none none,ty,ps,af,none⟩ f w K:=by
 obtain⟨hk,hc⟩:=vS hO
 refine SO.value (v:=.slice (pb a c lo.toNat) (k-lo.toNat) (c-lo.toNat)) (w':=w) ?_ h
 have uN:P.underlying T=some (.slice (P.elem T)):=by rw[hu];simp[Program.elem,hu]
 have tY:P.elem T=e:=by simp[Program.elem,hu]
 simp[execOp,aO ox,aO ol,hx,hl,Instr.sliceAt,gC hu]
 have:=run_slice_l (P:=P) (w:=w) T a k c uN kk lo hb.1 aq
 rw[tY,F.jf] at this
 simp[this,sliced,pb]
theorem ad6 {hi:Int} {oK:Operand} (hO:(own B e (.slice a k c) xs).holds M w) (ox:bG n x=true) (oh:bG n oK=true) (hx:ev f x=.slice a k c) (hh:ev f oK=.int kk hi) (hb:0≤hi∧hi≤xs.length) (hu:P.underlying T=some (.slice e)) (F:eh P e 3 agg bytes z)
  (h:K (b9 f d (.slice (pb a c 0) hi.toNat c)) w):
  SO P n ops ⟨some d,.slice T x none (some oK) none,ty,ps,af,none⟩ f w K:=by
 obtain⟨hk,hc⟩:=vS hO
 refine SO.value (v:=.slice (pb a c 0) hi.toNat c) (w':=w) ?_ h
 have uN:P.underlying T=some (.slice (P.elem T)):=by rw[hu];simp[Program.elem,hu]
 have tY:P.elem T=e:=by simp[Program.elem,hu]
 simp[execOp,aO ox,aO oh,hx,hh,Instr.sliceAt,gC hu]
 have:=run_slice_h (P:=P) (w:=w) T a k c uN kk hi hb.1 aq
 rw[tY,F.jf] at this
 simp[this,sliced,pb]
theorem Rg {hi:Int} {oK:Operand} (H:HI M0 w0 w l) (i:Nat) (pv:l[i]? =some (own B e (.slice a k c) xs)) (ox:bG n x=true) (oh:bG n oK=true) (hx:ev f x=.slice a k c) (hh:ev f oK=.int kk hi) (hb:0≤hi∧hi≤xs.length) (hu:P.underlying T=some (.slice e)) (F:eh P e 3 agg bytes z)
  (h:HI M0 w0 w (l.set i (own B e (.slice a (xs.take hi.toNat).length c) (xs.take hi.toNat)))→K (b9 f d (.slice a (xs.take hi.toNat).length c)) w):
  SO P n ops ⟨some d,.slice T x none (some oK) none,ty,ps,af,none⟩ f w K:=by
 have hO:=H.at_ i pv
 have jA:=(ef.1 pv).1
 have hlen:(xs.take hi.toNat).length=hi.toNat:=by simp;omega
 have Fe:pb a c 0=a:=by
  unfold pb
  split
  ·rfl
  ·obtain⟨cs,h1,h2⟩:=hO
   rcases h1.2 with ⟨h3,h4⟩|⟨g,cap,cur,h3,h4⟩
   ·cases h3;rfl
   ·cases h3
    show some (Addr.add _ (0*3))=_
    rw[FH]
 refine ad6 hO ox oh hx hh hb hu F ?_
 rw[Fe]
 rw[hlen] at h
 refine h ?_
 refine H.weaken ?_ ?_
 ·apply amQ
  intro j
  rw[amx,amx]
  by_cases hj:i=j
  ·subst hj;rw[amC jA,pv];cases a<;>rfl
  ·rw[amU hj]
 ·intro j it nk hj qV M Sy
  by_cases pX:i=j
  ·subst pX
   rw[amC jA] at qV
   rw[pv] at hj
   cases hj;cases qV
   obtain⟨cs,h1,h2⟩:=Sy
   have ru:=bu.length h2
   have zM:GT.size dU=3:=rfl
   have q:=(yZ hi.toNat h2).1
   rw[zM] at q ru
   refine⟨cs.take (hi.toNat*3),⟨by rw[hlen,zM,ij];omega,?_⟩,q⟩
   rcases h1.2 with ⟨h3,h4⟩|⟨g,cap,cur,h3,h4,h5,h6,h7,h8,h9⟩
   ·cases h3
    refine .inl ⟨by rw[show hi.toNat=0 from by omega],by rw[hlen];omega⟩
   ·cases h3
    refine .inr ⟨g,c,cur,by rw[hlen],h4,h5,by omega,h7,h8,?_⟩
    rw[zM] at h9
    rw[←h9,hlen,zM,anN]
    congr 1
    omega
  ·rw[amU pX,hj] at qV;cases qV;exact Sy
theorem clE (H:HI M0 w0 w l) (i:Nat) (hi:l[i]? =some (own B e (.slice a k c) xs)) (hB:B=w0.heap.size) (ox:bG n x=true) {q:Nat} (hx:ev f x=.slice (pb a c q) (k-q) (c-q))
  (hu:P.underlying T=some (.slice e)) (F:eh P e 3 agg bytes (.agg #[.int .i64 0,.int .i64 0,.int .i64 0])) (hq:q≤xs.length)
  (h:∀w',HI M0 w0 w' (l.set i (own B e (.slice a k c) (xs.take q++List.replicate (xs.length-q) (0,0,0))))→K f w'):
  SO P n ops ⟨none,.call {callee:=.builtin .clear,args:=#[x],argTypes:=#[T]},ty,ps,af,none⟩ f w K:=by
 subst hB
 have hO:=H.at_ i hi
 have jA:=(ef.1 hi).1
 obtain⟨hk,hc⟩:=vS hO
 obtain⟨cs,h1,h2⟩:=hO
 have zM:GT.size dU=3:=rfl
 by_cases nn:q=xs.length
 ·have hz:k-q=0:=by omega
  refine SO.value (d:=none) (v:=.tuple #[]) (w':=w) ?_<|h w ?_
  ·have zO:(Builtin.clear_ #[T] ty #[.slice (pb a c q) 0 (c-q)]).run P w=.ok (.tuple #[]) w:=by
    cases hca:pb a c q<;>simp[Builtin.clear_,run_underlying hu]
   rw[hz] at hx
   simp[execOp,resolve,invoke,builtin,aO ox,hx,zO]
  ·have e9:xs.take q++List.replicate (xs.length-q) (0,0,0)=xs:=by rw[nn];simp
   rw[e9]
   have:l.set i (own w0.heap.size e (.slice a k c) xs)=l:=by
    apply amQ
    intro j
    by_cases hj:i=j
    ·subst hj;rw[amC jA,hi]
    ·rw[amU hj]
   rw[this];exact H
 ·rcases h1.2 with ⟨h0,h3⟩|⟨g',c1,cur,h0,h3,h4,h5,h6,h7,h8⟩
  ·omega
  ·cases h0
   have pq:cur.size=c*3:=by rw[h7,zM]
   have SF:pb (some ⟨g',0,none⟩) c q=some ⟨g',q*3,none⟩:=by unfold pb;rw[amn aq];show some (Addr.add _ (q*3))=_;rw[FH]
   rw[SF] at hx
   have ru:=bu.length h2
   rw[zM] at ru h8
   have hz:bu (MS M0 l) w (List.replicate ((xs.length-q)*3) (Value.int .i64 0)) (List.replicate (xs.length-q) ((0,0,0):dU)):=HW _
   have qq:=run_storeCells_at P g' (q*3) e (List.replicate ((xs.length-q)*3)<|Value.int .i64 0) 0 cur w h4 (by rw[nX];omega)<|bu.AK hz
   refine SO.value (d:=none) (v:=.tuple #[]) (w':=w.setRow g' (cur.toList.take (q*3)++List.replicate ((xs.length-q)*3) (Value.int .i64 0)++cur.toList.drop (q*3+(List.replicate ((xs.length-q)*3)<|Value.int .i64 0).length)).toArray) ?_<|h _ ?_
   ·obtain⟨m,hm⟩:∃m,xs.length-q=m+1:=⟨xs.length-q-1,by omega⟩
    have zO:(Builtin.clear_ #[T] ty #[.slice (some ⟨g',q*3,none⟩) (xs.length-q) (c-q)]).run P w=.ok (.tuple #[]) (w.setRow g' (cur.toList.take (q*3)++List.replicate ((xs.length-q)*3) (Value.int .i64 0)++cur.toList.drop (q*3+(List.replicate ((xs.length-q)*3) (Value.int .i64 0)).length)).toArray):=by
     have ry:(Builtin.zeroCells (Value.agg #[.int .i64 0,.int .i64 0,.int .i64 0]).cells (xs.length-q)).toList=List.replicate ((xs.length-q)*3) (Value.int .i64 0):=adN _
     rw[amX] at qq
     rw[hm] at qq ry ⊢
     simp[Builtin.clear_,run_underlying hu,F.tL,ry,qq]
    simp[execOp,resolve,invoke,builtin,aO ox,hx,zO]
   ·have Xl:(List.replicate ((xs.length-q)*3) (Value.int .i64 0)).length=(xs.length-q)*3:=nX
    have Gy:(xs.take q++List.replicate (xs.length-q) ((0,0,0):dU)).length=xs.length:=by simp;omega
    have ab1:cur.toList.length=c*3:=by simpa using pq
    refine H.vc i hi J J J (by simp) (amk _) (fun q' hq' gE=>setRow_other w g' q' _ (fun e=>gE (by rw[e];rfl))) ?_ ?_
    ·intro b hb
     refine⟨?_,.inl hb⟩
     rw[size_setRow]
     exact(H.ji _ (dJ hi) b hb).2
    ·have qp:Up (MS M0 l) w (MS M0 (l.set i (own w0.heap.size e (Value.slice (some ⟨g',0,none⟩) xs.length c) (xs.take q++List.replicate (xs.length-q) (0,0,0))))) (w.setRow g' (cur.toList.take (q*3)++List.replicate ((xs.length-q)*3) (Value.int .i64 0)++cur.toList.drop (q*3+(List.replicate ((xs.length-q)*3) (Value.int .i64 0)).length)).toArray):=by
      refine⟨by simp,fun b hb hM=>⟨setRow_other w g' b _ (fun e=>hM (.inr ⟨_,dJ hi,by rw[e];rfl⟩)),?_⟩⟩
      rintro(CG|⟨it,hit,lZ⟩)
      ·exact hM<|.inl CG
      ·rcases am7 hit with hit|rfl
       ·exact hM<|.inr ⟨it,hit,lZ⟩
       ·exact hM<|.inr ⟨_,dJ hi,lZ⟩
     have qc:=(yZ q h2).1
     rw[zM] at qc
     refine⟨cs.take (q*3)++List.replicate ((xs.length-q)*3) (Value.int .i64 0),⟨by rw[Gy,zM,gf,ij,Xl];omega,.inr ⟨g',c,_,by rw[Gy],h3,setRow_heap w g' cur _ e _ h4,by omega,h6,?_,?_⟩⟩,?_⟩
     ·simp only[anO,gf,ij,amF,zM,Xl]
      omega
     ·rw[Gy]
      show (cur.toList.take (q*3)++List.replicate ((xs.length-q)*3) (Value.int .i64 0)++cur.toList.drop (q*3+(List.replicate ((xs.length-q)*3) (Value.int .i64 0)).length)).take (xs.length*3)=_
      rw[anG (by rw[gf,ij,Xl];omega),amr (by rw[gf,ij,Xl];omega),←h8,anN,anl aq]
     ·exact bu.append (bu.lift qp qc)<|HW _
end
end Go.Ew
namespace Go.Ew
open Go.RowKit
section
variable {P:Program} {n:Nat} {ops:Array Oper} {f:aS} {w:World} {K:aS→World→Prop} {x y:Operand} {d:Nat} {ty T e:TypeId} {ps:String} {af:Array Edge} {v u:Value} {M M0:Nat→Prop} {w0:World} {l:List Item} {bytes:Nat} {z:Value} {B:Nat} {kk:IntKind} {agg:Bool} {xs ys:List dU} {a:Option Addr} {k c:Nat}
theorem Tn {q:Nat} {i:Int} (hO:(own B e (.slice a k c) xs).holds M w0) (hi:0≤i∧i<((k-q:Nat):Int)):
  ∃g,a=some ⟨g,0,none⟩∧pb a c q=some ⟨g,q*3,none⟩∧q+i.toNat<xs.length∧∀xv,xs[q+i.toNat]? =some xv→gS M w0 ⟨g,q*3+i.toNat*3,none⟩ xv:=by
 obtain⟨hk,hc⟩:=vS hO
 have h0:=hO
 obtain⟨cs,h1,h2⟩:=hO
 rcases h1.2 with ⟨h3,h4⟩|⟨g',c1,cur,h3,h4⟩
 ·omega
 ·cases h3
  refine⟨g',J,?_,by omega,fun xv hx=>?_⟩
  ·unfold pb;rw[amn aq];show some (Addr.add _ (q*3))=_;rw[FH]
  ·have:=aaI h0 J hx
   rwa [show (q+i.toNat)*GT.size dU=q*3+i.toNat*3 from by show (q+i.toNat)*3=_;omega] at this
theorem Ry {K:aS→Prop} {rest:List Oper} {q:Nat} {i:Int} (hO:(own B e (.slice a k c) xs).holds M w0) (ox:bG n x=true) (oy:bG n y=true) (hx:ev f x=.slice (pb a c q) (k-q) (c-q)) (hy:ev f y=.int kk i) (hi:0≤i∧i<((k-q:Nat):Int)) (hu:P.underlying T=some (.slice e)) (F:eh P e 3 agg bytes z)
  (h:∀ad xv,xs[q+i.toNat]? =some xv→gS M w0 ad xv→PW P n ops w0 K rest (b9 f d (.pointer (some ad)))):PW P n ops w0 K (⟨some d,.indexAddr T x y,ty,ps,af,none⟩::rest) f:=by
 obtain⟨g,rfl,Fe,eM,hat⟩:=Tn hO hi
 rw[Fe] at hx
 have kV:(⟨g,q*3,none⟩:Addr).add (i.toNat*3)=⟨g,q*3+i.toNat*3,none⟩:=by unfold Addr.add;split<;>simp_all
 refine⟨.pointer (some ⟨g,q*3+i.toNat*3,none⟩),fun w hw=>SO.value (v:=.pointer (some ⟨g,q*3+i.toNat*3,none⟩)) (w':=w) ?_ ⟨J,Ext.refl w⟩,h _ xs[q+i.toNat] (eP eM) (hat _<|eP eM)⟩
 have hb:0≤i∧i<((k-q:Nat):Int):=hi
 simp[execOp,aO ox,aO oy,hx,hy,Instr.indexAt,asIntOf,gC hu,hb,F.jf,kV]
theorem ag6 {q:Nat} {i:Int} (hO:(own B e (.slice a k c) xs).holds M w) (ox:bG n x=true) (oy:bG n y=true) (hx:ev f x=.slice (pb a c q) (k-q) (c-q)) (hy:ev f y=.int kk i) (hi:0≤i∧i<((k-q:Nat):Int)) (hu:P.underlying T=some (.slice e)) (F:eh P e 3 agg bytes z)
  (h:∀ad xv,xs[q+i.toNat]? =some xv→gS M w ad xv→K (b9 f d (.pointer (some ad))) w):SO P n ops ⟨some d,.indexAddr T x y,ty,ps,af,none⟩ f w K:=by
 obtain⟨g,rfl,Fe,eM,hat⟩:=Tn hO hi
 rw[Fe] at hx
 have kV:(⟨g,q*3,none⟩:Addr).add (i.toNat*3)=⟨g,q*3+i.toNat*3,none⟩:=by unfold Addr.add;split<;>simp_all
 refine SO.value (v:=.pointer (some ⟨g,q*3+i.toNat*3,none⟩)) (w':=w) ?_<|h _ xs[q+i.toNat] (eP eM)<|hat _<|eP eM
 have hb:0≤i∧i<((k-q:Nat):Int):=hi
 simp[execOp,aO ox,aO oy,hx,hy,Instr.indexAt,asIntOf,gC hu,hb,F.jf,kV]
end
end Go.Ew
namespace Go.Ew
def db (I:List aH) (n:Int) (rs:Rows) (r:Int):List Int:=aZ (iE I (rl I r)) (eL n rs r)
section
variable (I:List aH) (U:List Int) (n:Int) (rs:Rows)
def u0 (r:Nat):Bool:=decide (U.getD r 0= -1)&&decide (0<(((db I n rs ((r:Nat):Int)).length:Nat):Int))
def z7:Option Nat:=(List.range U.length).find? (u0 I U n rs)
end
theorem Dx {p:Nat→Bool} {n j:Nat} (hs:∀q,q<j→p q=false) (hj:j<n) (h:p j=true):(List.range n).find? p=some j:=by
 rw[List.find?_range_eq_some]
 refine⟨h,amm.2 hj,fun q hq=>?_⟩
 rw[hs q hq];rfl
theorem A4 {p:Nat→Bool} {n j:Nat} (hs:∀q,q<j→p q=false) (hj:n≤j):(List.range n).find? p=none:=by
 rw[anK]
 intro q hq
 rw[hs q (amO (amm.1 hq) hj)];decide
theorem rY {p:Nat→Bool} {j:Nat} (hs:∀q,q<j→p q=false) (h:p j=false):∀q,q<j+1→p q=false:=by
 intro q hq
 by_cases e:q=j
 ·rw[e];exact h
 ·exact hs q aq
theorem LP {l:List Int} {x:Int} (h:l[(0:Int).toNat]? =some x):l.headD 0=x:=by
 cases l with
 |nil=>simp at h
 |cons a l=>simp at h;exact h
def y' (n:Int) (rs:Rows) (a k:Int):Bool:=!decide (k=a)&&eC n rs a k
section
variable (I:List aH) (U:List Int) (n:Int) (rs:Rows)
def za (r:Nat):Option Int:=(db I n rs ((r:Nat):Int)).find? (y' n rs (U.getD r 0))
def vq (r:Nat):Bool:=!decide (U.getD r 0<0)&&(za I U n rs r).isSome
def FC:Option Nat:=(List.range U.length).find? (vq I U n rs)
end
theorem N9 {α:Type} {l:List α} {p:α→Bool} {j:Nat} {x:α} (hs:∀y∈l.take j,p y=false) (hx:l[((j:Nat):Int).toNat]? =some x) (h:p x=false):∀y∈l.take (j+1),p y=false:=by
 rw[dZ] at hx
 intro y hy
 rw[amW,hx] at hy
 rcases amH.1 hy with hy|hy
 ·exact hs y hy
 ·simp at hy;rw[hy];exact h
theorem aa5 {α:Type} {p:α→Bool}:∀{l:List α} {j:Nat} {x:α},(∀y∈l.take j,p y=false)→l[((j:Nat):Int).toNat]? =some x→p x=true→l.find? p=some x:=by
 intro l j x hs hx h
 rw[dZ] at hx
 have hj:=(ef.1 hx).1
 have e:l=l.take j++x::l.drop (j+1):=by
  rw[←(ef.1 hx).2,aoT,ant]
 rw[e,List.find?_append,anK.2 (fun y hy=>by rw[hs y hy];decide),List.find?_cons_of_pos h];rfl
theorem Y' {α:Type} {l:List α} {p:α→Bool} {j:Nat} (hs:∀y∈l.take j,p y=false) (hj:l.length≤j):l.find? p=none:=by
 rw[amr hj] at hs
 exact anK.2 fun y hy=>by rw[hs y hy];decide
theorem ada {I:List aH} {U:List Int} {n:Int} {rs:Rows} {j q:Nat} {a x:Int} (hs:∀q,q<j→vq I U n rs q=false) (hj:j<U.length) (aQ:U[((j:Nat):Int).toNat]? =some a) (h0:decide (a<0)=false)
  (gH:∀y∈(db I n rs (j:Int)).take q,y' n rs a y=false) (cP:(db I n rs (j:Int))[((q:Nat):Int).toNat]? =some x) (h1:decide (x=a)=false) (h2:eC n rs a x=true):
  FC I U n rs=some j∧za I U n rs j=some x∧U.getD j 0=a:=by
 have hq:y' n rs a x=true:=by unfold y';rw[h1,h2];rfl
 have hk:za I U n rs j=some x:=by unfold za;rw[jh aQ];exact aa5 gH cP hq
 refine⟨Dx hs hj ?_,hk,jh aQ⟩
 unfold vq
 rw[jh aQ,h0,hk];rfl
theorem ac' {I:List aH} {U:List Int} {n:Int} {rs:Rows} {j:Nat} {a:Int} (hs:∀q,q<j→vq I U n rs q=false) (aQ:U[((j:Nat):Int).toNat]? =some a) (h0:decide (a<0)=true):∀q,q<j+1→vq I U n rs q=false:=
 rY hs (by unfold vq;rw[jh aQ,h0];rfl)
theorem We {I:List aH} {U:List Int} {n:Int} {rs:Rows} {j q:Nat} {a:Int} (hs:∀q,q<j→vq I U n rs q=false) (aQ:U[((j:Nat):Int).toNat]? =some a)
  (gH:∀y∈(db I n rs (j:Int)).take q,y' n rs a y=false) (hq:(db I n rs (j:Int)).length≤q):∀q,q<j+1→vq I U n rs q=false:=
 rY hs (by unfold vq za;rw[jh aQ,Y' gH hq];simp)
theorem QF {n:Int} {rs:Rows} (h:bF n rs=true) (I:List aH) (r:Int):(db I n rs r).length≤4096:=by
 unfold db aZ
 exact Nat.le_trans (anh _ _)<|uA h r
end Go.Ew
namespace Go.Ew
open Go.RowKit Go.Sort Go.Proofs
section
variable {β:Type} [Inhabited β] {enc:β→List Value} {k:Nat}
theorem S3 (hk:∀x,(enc x).length=k) (hp:0<k):∀(xs:List β) (t:Nat),t<xs.length*k→(xs.flatMap enc)[t]! =(enc xs[t/k]!)[t%k]!
 |[],t,h=>by simp at h
 |x::xs,t,h=>by
  rw[anP]
  by_cases ht:t<k
  ·rw[aou ht,aot ht,List.getElem!_cons_zero,anE,anE,qK (by rw[hk];exact ht)]
  ·have h2:t-k<xs.length*k:=by rw[iB,am8] at h;omega
   have e1:t/k=(t-k)/k+1:=by rw[show t=(t-k)+k by omega,Nat.add_div_right _ hp];simp
   have e2:t%k=(t-k)%k:=by rw[show t=(t-k)+k by omega,Nat.add_mod_right];simp
   have ih:=S3 hk hp xs (t-k) h2
   rw[e1,e2,List.getElem!_cons_succ,←ih,anE,anE,oR (by rw[hk];omega),hk]
theorem CK (hk:∀x,(enc x).length=k):∀xs:List β,(xs.flatMap enc).length=xs.length*k
 |[]=>by simp
 |x::xs=>by rw[anP,gf,CK hk xs,hk,iB,am8];omega
theorem GL (hk:∀x,(enc x).length=k) (hp:0<k) (d:Array β):flatK enc k d=(d.toList.flatMap enc).toArray:=by
 apply Array.ext
 ·simp[CK hk]
 ·intro t h1 h2
  have h3:t<d.size*k:=by simpa using h1
  have e1:=get_flatK enc k d t h3
  have e2:=S3 hk hp d.toList t<|by simpa using h3
  rw[apn (flatK enc k d) t h1] at e1
  rw[apn (d.toList.flatMap enc) t (by simpa using h2)] at e2
  have e3:d.toList[t/k]! =d[t/k]!:=by
   rw[anE,anv,Array.getElem!_eq_getD,Array.getD_eq_getD_getElem?]
  rw[e1,List.getElem_toArray,e2,e3]
end
variable {α β:Type} [GT α] [Inhabited β] {val:β→α} {enc:β→List Value}
theorem G0 (h:∀M w cs x,GT.rep M w cs x↔∃b,cs=enc b∧val b=x) {M:Nat→Prop} {w:World}:∀{xs:List α} {cs:List Value},bu M w cs xs→∃bs:List β,bs.map val=xs∧cs=bs.flatMap enc
 |[],cs,hc=>⟨[],rfl,hc⟩
 |x::xs,cs,⟨c1,c2,e,h1,h2⟩=>by
  obtain⟨bs,e1,e2⟩:=G0 h h2
  obtain⟨b,e3,e4⟩:=(h _ _ _ _).1 h1
  exact⟨b::bs,by simp[e1,e4],by rw[e,e2,e3];rfl⟩
theorem GW (h:∀M w cs x,GT.rep M w cs x↔∃b,cs=enc b∧val b=x) {M:Nat→Prop} {w:World}:∀bs:List β,bu M w (bs.flatMap enc) (bs.map val)
 |[]=>rfl
 |b::bs=>⟨enc b,bs.flatMap enc,rfl,(h _ _ _ _).2 ⟨b,rfl,rfl⟩,GW h bs⟩
theorem JA {w:World} {g:Nat} {f:Array Value→Array Value} {cur:Array Value} {e:TypeId} {z:Nat×Nat} (h:w.heap[g]? =some (.cells cur e z)):(mapBlock w g f).heap[g]? =some (.cells (f cur) e z):=by
 simp[mapBlock,Array.getElem?_modify,h,onCells]
theorem HD {w:World} {g c:Nat} {f:Array Value→Array Value} (h:c≠g):(mapBlock w g f).heap[c]? =w.heap[c]?:=by
 simp[mapBlock,Array.getElem?_modify,Ne.symm h]
theorem Q7 {M0:Nat→Prop} {w0 w:World} {l:List Item} {i:Nat} {e:TypeId} {g cap:Nat} {xs:List α} (h:∀M w cs x,GT.rep M w cs x↔∃b,cs=enc b∧val b=x) (H:HI M0 w0 w l) (hi:l[i]? =some (own w0.heap.size e (.slice (some ⟨g,0,none⟩) xs.length cap) xs)):
  ∃bs:List β,bs.map val=xs∧HoldsK enc (GT.size α) w g 0 bs.toArray∧g<w.heap.size∧
   ∀(ds:List β) n os,ds.length=bs.length→HI M0 w0 (sortWorldK enc (GT.size α) w g 0 n ds.toArray os) (l.set i (own w0.heap.size e (.slice (some ⟨g,0,none⟩) xs.length cap) (ds.map val))):=by
 have hk:∀x:β,(enc x).length=GT.size α:=fun x=>GT.len ((h (fun _=>True) w (enc x) (val x)).2 ⟨x,rfl,rfl⟩)
 have hp:0<GT.size α:=GT.pos
 have AZ:=dJ hi
 obtain⟨cs,⟨hl,ho⟩,hc⟩:=H.all _ AZ
 obtain⟨bs,rfl,rfl⟩:=G0 h hc
 have hblk:=H.ji _ AZ g J
 rcases ho with ⟨ho, -⟩|⟨g',alN,cur,ho,h1,h2,h3,h4,h5,h6⟩
 ·cases ho
 cases ho
 have hlen:(bs.flatMap enc).length=bs.length*GT.size α:=CK hk bs
 have pq:bs.length*GT.size α≤cur.size:=by rw[h5];exact ank _ (by simpa using h3)
 refine⟨bs,J,?_,hblk.2,?_⟩
 ·intro j hj
  rw[GL hk hp] at hj ⊢
  have qV:j<bs.length*GT.size α:=by simpa [hlen] using hj
  have xa:j<cur.size:=by omega
  have e1:(bs.flatMap enc)[j]? =some cur[j]:=by
   rw[←h6,amL,aml (by simpa using qV)];simp[xa]
  constructor
  ·simp only[World.cell?,h2,am2,Option.isSome_none]
   rw[apn _ j (by simpa [hlen] using qV)]
   have e2:(bs.flatMap enc)[j]'aq=cur[j]:=amo ((eP _).symm.trans e1)
   simp[e2,xa]
  ·simp[World.frozen?,h2]
 ·intro ds n os SC
  have hW:(sortWorldK enc (GT.size α) w g 0 n ds.toArray os).heap=(mapBlock (Go.Sort.ahead w n) g (putCells id 0 (ds.flatMap enc).toArray)).heap++os:=by
   simp only[sortWorldK,putRowK,putRow,grow,GL hk hp]
  have hms:(mapBlock (Go.Sort.ahead w n) g (putCells id 0 (ds.flatMap enc).toArray)).heap.size=w.heap.size:=by simp[mapBlock,Go.Sort.ahead]
  have tX:∀c,c<w.heap.size→(sortWorldK enc (GT.size α) w g 0 n ds.toArray os).heap[c]? =(mapBlock (Go.Sort.ahead w n) g (putCells id 0 (ds.flatMap enc).toArray)).heap[c]?:=by
   intro c hc
   rw[hW,an9 aq]
  refine H.vc i hi J J J (by rw[hW,apl];omega) (by simp[sortWorldK,putRowK,putRow,grow,mapBlock,Go.Sort.ahead]) (fun c hcw gE=>?_) (fun b hb=>?_) ?_
  ·rw[tX c hcw]
   exact HD (w:=Go.Sort.ahead w n) fun e=>gE (by rw[e];rfl)
  ·cases hb
   exact⟨by rw[hW,apl];exact amO hblk.2 aq,.inl rfl⟩
  ·refine⟨ds.flatMap enc,⟨?_,.inr ⟨g,cap,putCells id 0 (ds.flatMap enc).toArray cur,by simp[SC],h1,?_,by simpa [SC] using h3,h4,by simpa [putCells] using h5,?_⟩⟩,GW h ds⟩
   ·rw[CK hk,amS]
   ·rw[tX g hblk.2]
    exact JA (w:=Go.Sort.ahead w n) h2
   ·apply amQ
    intro j
    have nL:(ds.flatMap enc).length=ds.length*GT.size α:=CK hk ds
    rw[amL,amS]
    split
    ·rename_i hj
     have xa:j<cur.size:=by rw[SC] at hj;omega
     have hjf:j<(ds.flatMap enc).length:=by omega
     clear hW hms tX
     generalize ds.flatMap enc=F at hjf ⊢
     simp[putCells,xa,hjf]
    ·rw[amv aq]
theorem Ext.grow {w w':World} (h:Ext w w'):∃q os',w'=Go.Sort.grow (w.drewN q) os':=by
 refine⟨w'.drawn-w.drawn,w'.heap.extract w.heap.size w'.heap.size,?_⟩
 have hh:w'.heap=w.heap++w'.heap.extract w.heap.size w'.heap.size:=by
  apply Array.ext_getElem?
  intro c
  by_cases hc:c<w.heap.size
  ·rw[an9 hc,h.block c hc]
  ·rw[Array.getElem?_append_right aq,Array.getElem?_extract]
   split
   ·congr 1;omega
   ·exact Array.getElem?_eq_none aq
 have hd:=h.drawn
 obtain⟨h1,h2,h3,h4⟩:_∧_∧_∧_:=⟨h.os,h.tape,h.output,hh⟩
 cases w';cases w
 simp only[Go.Sort.grow,World.drewN] at *
 subst h1 h2 h3
 congr 1
 omega
end Go.Ew
namespace Go.Ew
open Go.RowKit Go.Sort Go.Proofs
def BG:Type:={x:dU //aK x.1∧aK x.2.1∧aK x.2.2}
instance :Inhabited BG:=⟨⟨(0,0,0),by simp[aK],by simp[aK],by simp[aK]⟩⟩
def Qv (x:BG):List Value:=[.int .i64 x.1.1,.int .i64 x.1.2.1,.int .i64 x.1.2.2]
def ltE (x y:dU):Bool:=decide (xr x y<0)
theorem HV (a b:Int):(fA a b<0↔a<b)∧(fA a b=0↔a=b):=by
 unfold fA;constructor<;>cases h:decide (a<b)<;>cases k:decide (b<a)<;>simp at h k ⊢<;>omega
theorem OK (x y:dU):xr x y<0↔x.1<y.1∨x.1=y.1∧(x.2.1<y.2.1∨x.2.1=y.2.1∧x.2.2<y.2.2):=by
 have h1:=HV x.1 y.1
 have h2:=HV x.2.1 y.2.1
 have h3:=HV x.2.2 y.2.2
 simp only[xr,Cd]
 repeat' split
 all_goals omega
theorem VJ (M:Nat→Prop) (w:World) (cs:List Value) (x:dU):GT.rep M w cs x↔∃b:BG,cs=Qv b∧b.1=x:=by
 obtain⟨a,b,c⟩:=x
 constructor
 ·rintro⟨c1,c2,rfl,⟨rfl,h1⟩,d1,d2,rfl,⟨rfl,h2⟩,rfl,h3⟩
  exact⟨⟨(a,b,c),h1,h2,h3⟩,J,J⟩
 ·rintro⟨⟨⟨a',b',c'⟩,h1,h2,h3⟩,rfl,e⟩
  cases e
  exact⟨[_],[_,_],J,⟨J,h1⟩,[_],[_],J,⟨J,h2⟩,J,h3⟩
theorem aah:SWO (ltOf fun x y:BG=>xr x.1 y.1):=by
 refine⟨fun x=>?_,fun x y z=>?_,fun x y z=>?_⟩<;>simp only[ltOf,amj,amy,OK]<;>omega
theorem agQ (x y:BG) (h:(ltOf fun x y:BG=>xr x.1 y.1) x y=false) (k:(ltOf fun x y:BG=>xr x.1 y.1) y x=false):x=y:=by
 simp only[ltOf,amy,OK] at h k
 obtain⟨⟨a,b,c⟩,hx⟩:=x
 obtain⟨⟨a',b',c'⟩,hy⟩:=y
 have e:((a,b,c):dU)=(a',b',c'):=by
  simp only[am0]
  simp only at h k
  omega
 exact Subtype.ext e
def vQ (l:List dU):List dU:=l.mergeSort fun x y=>!ltE y x
theorem Q_:vQ []=[]:=by unfold vQ;simp
theorem Q' (bs:List BG):vQ (bs.map fun b=>b.1)=(bs.mergeSort fun x y=>!(ltOf fun x y:BG=>xr x.1 y.1) y x).map fun b=>b.1:=by
 refine(List.map_mergeSort fun a _ b _=>?_).symm
 rfl
end Go.Ew
namespace Go.Ew
structure Wu (I:List aH) (U:List Int) (n:Int) (rs:Rows) (e:dU):Prop where
 r0:0≤e.2.2
 r1:e.2.2<((U.length:Nat):Int)
 fr:U[e.2.2.toNat]? =some e.2.1
 w0:0≤e.2.1
 ne:e.1≠e.2.1
 ah:e.1∈aZ (iE I (rl I e.2.1)) (eL n rs e.2.2)
def Db (I:List aH) (U:List Int) (n:Int) (rs:Rows) (es:List dU):Prop:=es.length≤4096*U.length∧∀e,e∈es↔Wu I U n rs e
section
variable (I:List aH) (U:List Int) (n:Int) (rs:Rows)
def BC (w r:Int) (l:List Int):List dU:=(l.filter fun x=>!decide (x=w)).map fun x=>(x,w,r)
def CR (r:Nat):List dU:=if U.getD r (-1)<0 then [] else BC (U.getD r (-1)) ((r:Nat):Int) (aZ (iE I (rl I (U.getD r (-1)))) (eL n rs ((r:Nat):Int)))
def ue (j:Nat):List dU:=(List.range j).flatMap (CR I U n rs)
def cE:List dU:=vQ (ue I U n rs U.length)
end
section
variable {I:List aH} {U:List Int} {n:Int} {rs:Rows} {j q:Nat} {w x v:Int} {es Oz:List dU}
theorem CQ:ue I U n rs (j+1)=ue I U n rs j++CR I U n rs j:=by
 unfold ue;rw[anQ,an2];simp
theorem Tf (hw:U[((j:Nat):Int).toNat]? =some w):U.getD j (-1)=w:=by
 rw[dZ] at hw;rw[gZ,hw];rfl
theorem acS (h:es=ue I U n rs j) (hw:U[((j:Nat):Int).toNat]? =some w) (h0:w<0):es=ue I U n rs (j+1):=by
 rw[CQ,CR,Tf hw,aml h0,anR];exact h
theorem Zx (hv:v=rl I w) (h:es=ue I U n rs j) (h2:Oz=es++BC w ((j:Nat):Int) ((aZ (iE I v) (eL n rs ((j:Nat):Int))).take q)) (hw:U[((j:Nat):Int).toNat]? =some w) (h0:¬w<0) (hq:(aZ (iE I v) (eL n rs ((j:Nat):Int))).length≤q):Oz=ue I U n rs (j+1):=by
 rw[CQ,CR,Tf hw,amn h0,h2,amr hq,h,hv]
theorem VK {l:List Int} {r:Int} (h:Oz=es++BC w r (l.take q)) (hx:l[((q:Nat):Int).toNat]? =some x) (he:x=w):Oz=es++BC w r (l.take (q+1)):=by
 rw[dZ] at hx
 rw[h,amW,hx];unfold BC;simp[he]
theorem Zw {l:List Int} {r:Int} (h:Oz=es++BC w r (l.take q)) (hx:l[((q:Nat):Int).toNat]? =some x) (he:¬x=w):Oz++[(x,w,r)]=es++BC w r (l.take (q+1)):=by
 rw[dZ] at hx
 rw[h,amW,hx];unfold BC;simp[he]
theorem Ma (hr:bF n rs=true):(ue I U n rs j).length≤4096*j:=by
 induction j with
 |zero=>simp[ue]
 |succ j ih=>
  rw[CQ,gf]
  have:(CR I U n rs j).length≤4096:=by
   unfold CR
   split
   ·simp
   ·unfold BC aZ
    rw[amS]
    exact Nat.le_trans (anh _ _)<|Nat.le_trans (anh _ _)<|uA hr _
  omega
theorem Jc:(ue I U n rs U.length).length=(cE I U n rs).length:=by unfold cE vQ;rw[List.length_mergeSort]
theorem qE (hr:bF n rs=true):Db I U n rs (cE I U n rs):=by
 refine⟨by rw[←Jc];exact Ma hr,fun e=>?_⟩
 unfold cE vQ
 rw[List.mem_mergeSort]
 unfold ue
 rw[apt]
 constructor
 ·rintro⟨r,hr,h⟩
  have hr:=amm.1 hr
  unfold CR at h
  split at h
  ·cases h
  ·rename_i h0
   unfold BC at h
   rw[am5] at h
   obtain⟨x,hx,rfl⟩:=h
   rw[amA] at hx
   refine⟨by simp only;omega,by simp only;omega,?_,by simp only;omega,by simpa using hx.2,hx.1⟩
   simp only[dZ]
   rw[gZ,eP hr];rfl
 ·intro h
  obtain⟨a,b,r⟩:=e
  obtain⟨r0,r1,fr,w0,ne,ah⟩:=h
  simp only at r0 r1 fr w0 ne ah
  refine⟨r.toNat,amm.2 aq,?_⟩
  have e1:U.getD r.toNat (-1)=b:=by rw[gZ,fr];rfl
  have e2:((r.toNat:Nat):Int)=r:=by omega
  unfold CR BC
  rw[e1,e2,amn aq,am5]
  exact⟨a,amA.2 ⟨ah,by simpa using ne⟩,J⟩
end
end Go.Ew
namespace Go.Ew
open Go.RowKit
section
variable {κ ν:Type} [DecidableEq κ]
def fH:List (κ×ν)→κ→Option ν
 |[],_=>none
 |x::xs,k=>if k=x.1 then some x.2 else fH xs k
def lB:List (κ×ν)→κ→ν→List (κ×ν)
 |[],k,v=>[(k,v)]
 |x::xs,k,v=>if k=x.1 then (k,v)::xs else x::lB xs k v
def nN:List (κ×Value)→κ→Nat→Option (Nat×Value)
 |[],_,_=>none
 |x::xs,k,i=>if k=x.1 then some (i,x.2) else nN xs k (i+1)
def ml (ek:κ→Value) (es:List MapEntry) (m:List (κ×Value)):Prop:=es.map (fun e=>(e.key,e.val))=m.map fun x=>(ek x.1,x.2)
def mc (ev:ν→Value) (m:List (κ×ν)):List (κ×Value):=m.map fun x=>(x.1,ev x.2)
theorem Ja (ev:ν→Value):∀(m:List (κ×ν)) (k:κ) (i:Nat),(nN (mc ev m) k i).map (·.2)=(fH m k).map ev
 |[],_,_=>rfl
 |x::xs,k,i=>by
  simp only[mc,amJ]
  unfold nN fH
  by_cases h:k=x.1
  ·simp[h]
  ·rw[amn h,amn h];exact Ja ev xs k (i+1)
theorem GQ (ek:κ→Value) (ev:ν→Value):∀(m:List (κ×ν)) (es:List MapEntry) (k:κ) (i j:Nat) (v:Value),ml ek es (mc ev m)→nN (mc ev m) k i=some (j,v)→
  ∃q e,j=i+q∧es[q]? =some e∧e.key=ek k∧∀(u:ν),ml ek (es.modify q fun e=>{e with key:=ek k,val:=ev u}) (mc ev (lB m k u))
 |[],_,_,_,_,_,_,h=>by cases h
 |x::xs,es,k,i,j,v,hr,h=>by
  match es,hr with
  |[],hr=>simp[ml,mc] at hr
  |e::es,hr=>
   simp only[ml,mc,amJ,ann,am0] at hr
   obtain⟨⟨h1,h2⟩,h3⟩:=hr
   simp only[mc,amJ] at h
   unfold nN at h
   split at h
   ·rename_i hk
    simp only[amu,am0] at h
    refine⟨0,e,h.1.symm,J,by rw[h1,hk],fun u=>?_⟩
    unfold lB
    rw[aml hk]
    simp[ml,mc] at h3 ⊢
    exact h3
   ·rename_i hk
    obtain⟨q,e',IW,nn,D5,D4⟩:=GQ ek ev xs es k (i+1) j v h3 h
    refine⟨q+1,e',by omega,by simpa using nn,D5,fun u=>?_⟩
    have:=D4 u
    unfold lB
    rw[amn hk]
    simp only[ml,mc,List.modify_succ_cons,amJ,ann,am0]
    exact⟨⟨h1,h2⟩,this⟩
theorem GR (ek:κ→Value) (ev:ν→Value):∀(m:List (κ×ν)) (es:List MapEntry) (k:κ) (i:Nat),ml ek es (mc ev m)→nN (mc ev m) k i=none→∀(c:Nat) (u:ν),ml ek (es++[⟨ek k,ev u,c⟩]) (mc ev (lB m k u))
 |[],es,k,_,hr,_,c,u=>by
  have:es=[]:=by simpa [ml,mc] using hr
  subst this;simp[ml,mc,lB]
 |x::xs,es,k,i,hr,h,c,u=>by
  match es,hr with
  |[],hr=>simp[ml,mc] at hr
  |e::es,hr=>
   simp only[ml,mc,amJ,ann,am0] at hr
   obtain⟨⟨h1,h2⟩,h3⟩:=hr
   simp only[mc,amJ] at h
   unfold nN at h
   split at h
   ·cases h
   ·rename_i hk
    have:=GR ek ev xs es k (i+1) h3 h c u
    unfold lB
    rw[amn hk]
    simp only[ml,mc,aoz,amJ,ann,am0]
    exact⟨⟨h1,h2⟩,this⟩
theorem VC (m:List (κ×ν)) (k k':κ) (v:ν):fH (lB m k v) k'=if k'=k then some v else fH m k':=by
 induction m with
 |nil=>simp[lB,fH]
 |cons x xs ih=>
  unfold lB
  by_cases h:k=x.1
  ·subst h
   simp only[anV,fH]
   by_cases h':k'=x.1<;>simp[h']
  ·rw[amn h]
   simp only[fH,ih]
   by_cases h':k'=x.1
   ·rw[aml h',aml h',amn (by rw[h'];exact fun e=>h e.symm)]
   ·rw[amn h',amn h']
theorem Zo {m:List (κ×ν)} {iv:ν→Prop} (h:∀x∈m,iv x.2) {k:κ} {v:ν} (hv:fH m k=some v):iv v:=by
 induction m with
 |nil=>cases hv
 |cons x xs ih=>
  unfold fH at hv
  split at hv
  ·cases hv;exact h x (by simp)
  ·exact ih (fun y hy=>h y (by simp[hy])) hv
theorem NP {m:List (κ×ν)} {iv:ν→Prop} (h:∀x∈m,iv x.2) (k:κ) {v:ν} (hv:iv v):∀x∈lB m k v,iv x.2:=by
 induction m with
 |nil=>intro x hx;simp[lB] at hx;subst hx;exact hv
 |cons y ys ih=>
  intro x hx
  unfold lB at hx
  split at hx
  ·rcases amz.1 hx with rfl|hx
   ·exact hv
   ·exact h x<|by simp[hx]
  ·rcases amz.1 hx with rfl|hx
   ·exact h x<|by simp
   ·exact ih (fun z hz=>h z (by simp[hz])) x hx
def Ck (ek:κ→Value) (ev:ν→Value) (iv:ν→Prop) (b:Nat) (m:List (κ×ν)):Item:=
 ⟨some b,fun _ w=>∃es clock,w.heap[b]? =some (.map es clock)∧ml ek es.toList (mc ev m)∧∀x∈m,iv x.2,fun h _ hb=>by
  obtain⟨es,c,h1,h2⟩:=h
  exact⟨es,c,(hb b rfl).trans h1,h2⟩⟩
end
structure QM (P:Program) (kt:TypeId) {κ:Type} [DecidableEq κ] (ek:κ→Value):Prop where
 BE:∀e a w,(Instr.checkKey e 10000 kt (ek a)).run P w=.ok () w
 find:∀(k:κ) (w:World) (m:List (κ×Value)) (es:List MapEntry),ml ek es m→(Instr.findKey kt (ek k) es).run P w=.ok (nN m k 0) w
 stays:∀k w,(Instr.keyThatStays (ek k) (ek k)).run P w=.ok (ek k) w
structure He (P:Program) (T:TypeId) {κ ν:Type} [DecidableEq κ] (ek:κ→Value) (ev:ν→Value) (z:ν):Prop where
 h:∃kt et,P.underlying T=some (.map kt et)∧QM P kt ek∧∀w,(zeroValue et).run P w=.ok (ev z) w
abbrev sR (b:Nat) (m:List (ByteArray×Int)):Item:=Ck (fun s=>Value.string s) (fun v=>Value.int .i64 v) aK b m
abbrev bR (b:Nat) (m:List ((Int×Int)×Bool)):Item:=Ck K2 Value.bool (fun _=>True) b m
section
variable {P:Program}
theorem Mx {kt:TypeId} (F:C4 P kt) (k:Int×Int) (w:World):∀(m:List ((Int×Int)×Value)) (es:List MapEntry) (i:Nat),ml K2 es m→(Instr.findAsking kt (K2 k) es i).run P w=.ok (nN m k i) w
 |[],es,i,h=>by
  have:es=[]:=by simpa [ml] using h
  subst this;simp[Instr.findAsking,nN]
 |x::xs,es,i,h=>by
  match es,h with
  |e::es,h=>
   simp only[ml,amJ,ann,am0] at h
   obtain⟨⟨h1,h2⟩,h3⟩:=h
   have ih:=Mx F k w xs es (i+1) h3
   by_cases hk:k=x.1
   ·simp[Instr.findAsking,nN,h1,h2,F.eq,hk]
   ·simp[Instr.findAsking,nN,h1,h2,F.eq,hk,ih]
  |[],h=>simp[ml] at h
theorem Vb {kt:TypeId} (F:C4 P kt):QM P kt K2 where
 BE:=F.BE
 find k w m es h:=by
  obtain⟨d,hd⟩:=F.u
  cases es with
  |nil=>
   have:m=[]:=by simpa [ml] using h.symm
   subst this
   simp[Instr.findKey,run_underlying hd,Result.andThen,Instr.findNow,nN]
  |cons e es=>
   have h0:Instr.findNow d (K2 k) (e::es) 0=none:=Ec d _ e es 0
   simp[Instr.findKey,run_underlying hd,Result.andThen,h0,Mx F k w m _ 0 h]
 stays k w:=by simp[Instr.keyThatStays,Instr.sameBits]
theorem Wh (s t:ByteArray):(s==t)=decide (s=t):=by
 rw[amE]
 rcases s with ⟨a⟩
 rcases t with ⟨b⟩
 show (a==b)=true↔_
 simp
theorem N2 (k:ByteArray):∀(m:List (ByteArray×Value)) (es:List MapEntry) (i:Nat),ml (fun s=>Value.string s) es m→Instr.findNow .string (.string k) es i=some (nN m k i)
 |[],es,i,h=>by
  have:es=[]:=by simpa [ml] using h
  subst this;rfl
 |x::xs,es,i,h=>by
  match es,h with
  |e::es,h=>
   simp only[ml,amJ,ann,am0] at h
   obtain⟨⟨h1,h2⟩,h3⟩:=h
   have ih:=N2 k xs es (i+1) h3
   unfold Instr.findNow nN
   rw[h1,h2]
   by_cases hk:k=x.1
   ·simp[Instr.sameNow,Wh,hk]
   ·simp[Instr.sameNow,Wh,hk,ih]
  |[],h=>simp[ml] at h
theorem Vc {kt:TypeId} (hd:P.underlying kt=some .string):QM P kt (fun s=>Value.string s) where
 BE e a w:=by
  rw[show (10000:Nat)=9999+1 from rfl]
  generalize 9999=q
  simp[Instr.checkKey,run_underlying hd,Result.andThen]
 find k w m es h:=by simp[Instr.findKey,run_underlying hd,Result.andThen,N2 k m es 0 h]
 stays k w:=by simp[Instr.keyThatStays,Instr.sameBits,Wh]
theorem W5 {T kt et:TypeId} {κ ν:Type} [DecidableEq κ] {ek:κ→Value} {ev:ν→Value} {z:ν} {v:Value} {k b:Nat} {a:Bool} (h:P.underlying T=some (.map kt et)) (K:QM P kt ek) (F:eh P et k a b v) (hv:v=ev z):He P T ek ev z:=⟨kt,et,h,K,hv▸F.tL⟩
variable {κ ν:Type} [DecidableEq κ] {ek:κ→Value} {ev:ν→Value} {z:ν} {iv:ν→Prop}
variable {n:Nat} {ops:Array Oper} {f:aS} {w:World} {K:aS→World→Prop} {x y c:Operand} {d:Nat} {ty T:TypeId} {ps:String} {af:Array Edge} {M0:Nat→Prop} {w0:World} {l:List Item} {m:List (κ×ν)} {b:Nat}
theorem mmG (H:HI M0 w0 w l) (h:∀b w',Ext w w'→HI M0 w0 w' (Ck ek ev iv b []::l)→K (b9 f d (.map (some b))) w'):SO P n ops ⟨some d,.makeMap T none,ty,ps,af,none⟩ f w K:=
 SO.value (v:=.map (some w.heap.size)) (w':=w.alloc (.map #[] 0)) (by simp[execOp,run_makeMap]) (h _ _ (Ext.alloc w _)
  (H.new (Ext.alloc w _) w.heap.size rfl (amk _) (by simp) ⟨#[],0,heap_alloc_new w _,rfl,fun _ h=>(by cases h)⟩))
theorem aaZ {k:κ} {Tp:Bool} (F:He P T ek ev z) (hz:iv z) (H:HI M0 w0 w l) (i:Nat) (hi:l[i]? =some (Ck ek ev iv b m)) (ox:bG n x=true) (oy:bG n y=true) (hx:Go.Ew.ev f x=.map (some b)) (hy:Go.Ew.ev f y=ek k)
  (h:iv ((fH m k).getD z)→K (b9 f d (if Tp then .tuple #[ev ((fH m k).getD z),.bool (fH m k).isSome] else ev ((fH m k).getD z))) w):SO P n ops ⟨some d,.lookup T x y Tp,ty,ps,af,none⟩ f w K:=by
 obtain⟨kt,et,h1,h2,h3⟩:=F.h
 obtain⟨es,clock,g1,g2,g3⟩:=H.at_ i hi
 have hI:iv ((fH m k).getD z):=by
  cases hg:fH m k with
  |none=>exact hz
  |some v=>exact Zo g3 hg
 refine SO.value (v:=if Tp then .tuple #[ev ((fH m k).getD z),.bool (fH m k).isSome] else ev ((fH m k).getD z)) (w':=w) ?_<|h hI
 have hf:=Ja ev m k 0
 have hr:=h2.find k w (mc ev m) es.toList g2
 simp only[execOp,aO ox,aO oy,hx,hy,Instr.lookup,Sem.run_bind,run_underlying h1,get_map g1,h2.BE,hr,Result.andThen_ok,Sem.run_pure]
 cases hq:nN (mc ev m) k 0 with
 |none=>
  have hg:fH m k=none:=by rw[hq] at hf;simpa using hf.symm
  simp[hq,hg,h3 w]
 |some p=>
  obtain⟨j,v⟩:=p
  rw[hq] at hf
  cases hg:fH m k with
  |none=>rw[hg] at hf;cases hf
  |some u=>
   rw[hg] at hf
   simp only[anD,amu] at hf
   subst hf
   simp
theorem aaV {dd:Option Nat} {k:κ} {v:ν} (F:He P T ek ev z) (H:HI M0 w0 w l) (i:Nat) (hi:l[i]? =some (Ck ek ev iv b m)) (ox:bG n x=true) (oy:bG n y=true) (oc:bG n c=true) (hx:Go.Ew.ev f x=.map (some b)) (hy:Go.Ew.ev f y=ek k) (hc:Go.Ew.ev f c=ev v) (hv:iv v)
  (h:∀w',HI M0 w0 w' (l.set i (Ck ek ev iv b (lB m k v)))→K (cU f dd undef) w'):SO P n ops ⟨dd,.mapUpdate T x y c,ty,ps,af,none⟩ f w K:=by
 obtain⟨kt,et,h1,h2,h3⟩:=F.h
 obtain⟨es,clock,g1,g2,g3⟩:=H.at_ i hi
 have hr:=h2.find k w (mc ev m) es.toList g2
 have eM:b<w.heap.size:=(amN.1 g1).1
 have fin:∀(o:Obj),(∀M w',w'.heap[b]? =some o→(Ck ek ev iv b (lB m k v)).holds M w')→
   HI M0 w0 {w with heap:=w.heap.setIfInBounds b o} (l.set i (Ck ek ev iv b (lB m k v))):=by
  intro o ho
  refine H.vc i hi J J J (by simp) (amk _) (fun q hq gE=>?_) (fun q hq=>?_)<|ho _ _ (Au g1).1
  ·exact(Au g1).2 q fun e=>gE (by rw[e];rfl)
  ·cases hq
   exact⟨by simpa using eM,.inl rfl⟩
 cases hq:nN (mc ev m) k 0 with
 |none=>
  refine SO.skip (w':={w with heap:=w.heap.setIfInBounds b (.map (es.push ⟨ek k,ev v,clock⟩) (clock+1))}) ?_ (h _<|fin _ ?_)
  ·simp[execOp,aO ox,aO oy,aO oc,hx,hy,hc,Instr.mapUpdate,run_underlying h1,get_map g1,h2.BE,hr,hq,Dh _ g1]
  ·intro M w' hw
   exact⟨_,_,hw,by rw[Array.toList_push];exact GR ek ev m es.toList k 0 g2 hq clock v,NP g3 k hv⟩
 |some p=>
  obtain⟨j,u⟩:=p
  obtain⟨q,e,IW,nn,D5,D4⟩:=GQ ek ev m es.toList k 0 j u g2 hq
  obtain rfl:j=q:=by omega
  have he:es[j]? =some e:=by simpa using nn
  have hsb:(Instr.keyThatStays e.key (ek k)).run P w=.ok (ek k) w:=by rw[D5];exact h2.stays k w
  refine SO.skip (w':={w with heap:=w.heap.setIfInBounds b (.map (es.modify j fun e=>{e with key:=ek k,val:=ev v}) clock)}) ?_ (h _<|fin _ ?_)
  ·simp[execOp,aO ox,aO oy,aO oc,hx,hy,hc,Instr.mapUpdate,run_underlying h1,get_map g1,h2.BE,hr,hq,he,hsb,Dh _ g1]
  ·intro M w' hw
   exact⟨_,_,hw,by rw[Array.toList_modify];exact D4 v,NP g3 k hv⟩
end
section
variable {P:Program} {n:Nat} {ops:Array Oper} {f:aS} {w:World} {K:aS→World→Prop} {x y c:Operand} {d:Nat} {dd:Option Nat} {ty T:TypeId} {ps:String} {af:Array Edge} {M0:Nat→Prop} {w0:World} {l:List Item} {b:Nat}
abbrev QJ (P:Program) (T:TypeId):Prop:=He P T K2 Value.bool false
abbrev QI (P:Program) (T:TypeId):Prop:=He P T (fun s=>Value.string s) (fun v=>Value.int .i64 v) (0:Int)
theorem mmP (H:HI M0 w0 w l) (h:∀b w',Ext w w'→HI M0 w0 w' (bR b []::l)→K (b9 f d (.map (some b))) w'):SO P n ops ⟨some d,.makeMap T none,ty,ps,af,none⟩ f w K:=mmG H h
theorem mmS (H:HI M0 w0 w l) (h:∀b w',Ext w w'→HI M0 w0 w' (sR b []::l)→K (b9 f d (.map (some b))) w'):SO P n ops ⟨some d,.makeMap T none,ty,ps,af,none⟩ f w K:=mmG H h
theorem ag3 {m:List ((Int×Int)×Bool)} {k:Int×Int} (F:QJ P T) (H:HI M0 w0 w l) (i:Nat) (hi:l[i]? =some (bR b m)) (ox:bG n x=true) (oy:bG n y=true) (hx:Go.Ew.ev f x=.map (some b)) (hy:Go.Ew.ev f y=K2 k)
  (h:K (b9 f d (.bool ((fH m k).getD false))) w):SO P n ops ⟨some d,.lookup T x y false,ty,ps,af,none⟩ f w K:=aaZ (Tp:=false) F trivial H i hi ox oy hx hy fun _=>h
theorem ag2 {m:List (ByteArray×Int)} {k:ByteArray} (F:QI P T) (H:HI M0 w0 w l) (i:Nat) (hi:l[i]? =some (sR b m)) (ox:bG n x=true) (oy:bG n y=true) (hx:Go.Ew.ev f x=.map (some b)) (hy:Go.Ew.ev f y=.string k)
  (h:aK ((fH m k).getD 0)→K (b9 f d (.tuple #[.int .i64 ((fH m k).getD 0),.bool (fH m k).isSome])) w):SO P n ops ⟨some d,.lookup T x y true,ty,ps,af,none⟩ f w K:=aaZ (Tp:=true) F (by unfold aK;omega) H i hi ox oy hx hy h
theorem ag1 {m:List ((Int×Int)×Bool)} {k:Int×Int} {v:Bool} (F:QJ P T) (H:HI M0 w0 w l) (i:Nat) (hi:l[i]? =some (bR b m)) (ox:bG n x=true) (oy:bG n y=true) (oc:bG n c=true) (hx:Go.Ew.ev f x=.map (some b)) (hy:Go.Ew.ev f y=K2 k) (hc:Go.Ew.ev f c=.bool v)
  (h:∀w',HI M0 w0 w' (l.set i (bR b (lB m k v)))→K (cU f dd undef) w'):SO P n ops ⟨dd,.mapUpdate T x y c,ty,ps,af,none⟩ f w K:=aaV F H i hi ox oy oc hx hy hc trivial h
theorem ag0 {m:List (ByteArray×Int)} {k:ByteArray} {v:Int} (F:QI P T) (H:HI M0 w0 w l) (i:Nat) (hi:l[i]? =some (sR b m)) (ox:bG n x=true) (oy:bG n y=true) (oc:bG n c=true) (hx:Go.Ew.ev f x=.map (some b)) (hy:Go.Ew.ev f y=.string k) (hc:Go.Ew.ev f c=.int .i64 v) (hv:aK v)
  (h:∀w',HI M0 w0 w' (l.set i (sR b (lB m k v)))→K (cU f dd undef) w'):SO P n ops ⟨dd,.mapUpdate T x y c,ty,ps,af,none⟩ f w K:=aaV F H i hi ox oy oc hx hy hc hv h
end
end Go.Ew
namespace Go.Ew
section
variable {α σ:Type} (st:σ→α→Bool×σ)
def gi:σ→List α→List α×σ
 |s,[]=>([],s)
 |s,x::l=>if (st s x).1 then gi (st s x).2 l else (x::(gi (st s x).2 l).1,(gi (st s x).2 l).2)
theorem Nj (s:σ) (l r:List α):gi st s (l++r)=((gi st s l).1++(gi st (gi st s l).2 r).1,(gi st (gi st s l).2 r).2):=by
 induction l generalizing s with
 |nil=>simp[gi]
 |cons x l ih=>
  rw[aoz,gi,gi]
  split
  ·exact ih _
  ·rw[ih];rfl
theorem VQ (s:σ) (x:α):gi st s [x]=if (st s x).1 then ([],(st s x).2) else ([x],(st s x).2):=by simp[gi]
theorem VR (s:σ) (l:List α):(gi st s l).1.length≤l.length:=by
 induction l generalizing s with
 |nil=>simp[gi]
 |cons x l ih=>
  rw[gi]
  split
  ·exact Nat.le_trans (ih _)<|apu _
  ·simp only[iB];exact Nat.succ_le_succ (ih _)
theorem VO (s:σ) (l:List α):∀x∈(gi st s l).1,x∈l∧∃s',(st s' x).1=false:=by
 induction l generalizing s with
 |nil=>intro x h;cases h
 |cons y l ih=>
  intro x h
  rw[gi] at h
  split at h
  ·obtain⟨h1,h2⟩:=ih _ x h;exact⟨amM _ h1,h2⟩
  ·rename_i hy
   rcases amz.1 h with rfl|h
   ·exact⟨by simp,s,by simpa using hy⟩
   ·obtain⟨h1,h2⟩:=ih _ x h;exact⟨amM _ h1,h2⟩
def ML (s:σ) (xs:List α) (ix:Int) (s':σ):Prop:=(ix= -1∧gi st s xs=(xs,s'))∨∃j:Nat,ix=((j:Nat):Int)∧j<xs.length∧gi st s (xs.take (j+1))=(xs.take j,s')
variable {st} {s s':σ} {xs ys:List α} {x:α} {j k:Nat} {q:Int}
theorem VE:gi st s (xs.take 0)=(xs.take 0,s):=by simp[gi]
theorem Dv (hx:xs[k]? =some x):gi st s (xs.take (k+1))=if (st (gi st s (xs.take k)).2 x).1 then ((gi st s (xs.take k)).1,(st (gi st s (xs.take k)).2 x).2) else ((gi st s (xs.take k)).1++[x],(st (gi st s (xs.take k)).2 x).2):=by
 rw[amW,hx,Nj,show (some x).toList=[x] from rfl,VQ]
 split<;>simp
theorem Zp (h:gi st s (xs.take j)=(xs.take j,s')) (hx:xs[((j:Nat):Int).toNat]? =some x) (hp:(st s' x).1=false):gi st s (xs.take (j+1))=(xs.take (j+1),(st s' x).2):=by
 rw[dZ] at hx
 rw[Dv hx,h]
 show (if (st s' x).1=true then _ else _)=_
 rw[amn (by rw[hp];decide),amW,hx];rfl
theorem acI (h:gi st s (xs.take j)=(xs.take j,s')) (hj:j<xs.length) (hx:xs[((j:Nat):Int).toNat]? =some x) (hp:(st s' x).1=true):ML st s xs ((j:Nat):Int) (st s' x).2:=by
 rw[dZ] at hx
 refine .inr ⟨j,J,hj,?_⟩
 rw[Dv hx,h]
 show (if (st s' x).1=true then _ else _)=_
 rw[aml hp]
theorem acJ (h:gi st s (xs.take j)=(xs.take j,s')) (hj:xs.length≤j):ML st s xs (-1) s':=by
 rw[amr hj] at h;exact .inl ⟨rfl,h⟩
def DS (st:σ→α→Bool×σ) (s:σ) (xs ys:List α) (q:Int) (k:Nat) (s':σ):Prop:=0≤q∧q<((k:Nat):Int)∧ys.length=xs.length∧gi st s (xs.take k)=(ys.take q.toNat,s')∧ys.drop k=xs.drop k
theorem OE (h:ML st s xs q s') (hq:q= -1):gi st s xs=(xs,s'):=by
 rcases h with ⟨_,h⟩|⟨j,h,_⟩
 ·exact h
 ·omega
theorem VL (h:ML st s xs q s') (hq:¬q= -1):q.toNat<xs.length∧DS st s xs xs q (q.toNat+1) s':=by
 rcases h with ⟨h,_⟩|⟨j,rfl,h1,h2⟩
 ·omega
 ·refine⟨by omega,by omega,by omega,J,?_,J⟩
  rw[dZ];exact h2
theorem X4 (h:DS st s xs ys q k s') (hx:ys[k]? =some x):xs[k]? =some x:=by
 have:=amh (fun l=>l[0]?) h.2.2.2.2
 simp only[amY,amX] at this
 rw[←this];exact hx
theorem Zz (h:DS st s xs ys q k s') (hx:ys[((k:Nat):Int).toNat]? =some x) (hp:(st s' x).1=true):DS st s xs ys q (k+1) (st s' x).2:=by
 rw[dZ] at hx
 have pT:=X4 h hx
 obtain⟨h0,h1,h2,h3,h4⟩:=h
 refine⟨h0,by omega,h2,?_,?_⟩
 ·rw[Dv pT,h3]
  show (if (st s' x).1=true then _ else _)=_
  rw[aml hp]
 ·rw[←anc,h4,anc]
theorem Zy (h:DS st s xs ys q k s') (hx:ys[((k:Nat):Int).toNat]? =some x) (hp:(st s' x).1=false):DS st s xs (ys.set q.toNat x) (q+1) (k+1) (st s' x).2:=by
 rw[dZ] at hx
 have pT:=X4 h hx
 have hk:=(ef.1 hx).1
 obtain⟨h0,h1,h2,h3,h4⟩:=h
 refine⟨by omega,by omega,by rw[ami];exact h2,?_,?_⟩
 ·rw[Dv pT,h3]
  show (if (st s' x).1=true then _ else _)=_
  rw[amn (by rw[hp];decide),show (q+1).toNat=q.toNat+1 from by omega,amW,List.take_set_of_le (amk _),amC aq]
  rfl
 ·rw[List.drop_set_of_lt aq,←anc,h4,anc]
theorem Tk (h:DS st s xs ys q k s') (hk:xs.length≤k) (zS:k≤xs.length) (r:List α):(ys.take q.toNat++r).take q.toNat=(gi st s xs).1∧s'=(gi st s xs).2:=by
 obtain⟨h0,h1,h2,h3,h4⟩:=h
 rw[amr hk] at h3
 rw[h3]
 exact⟨by rw[anG (by simp;omega),anN,Nat.min_self],J⟩
end
def eR (n:Int) (rs:Rows) (kp:List Int) (met:List ((Int×Int)×Bool)) (e:dU):Bool×List ((Int×Int)×Bool):=
 bif (fH met (e.1,e.2.1)).getD false||(eC n rs e.1 e.2.1||!(kp.any fun z_=>decide (e.2.2=z_))) then (true,met) else (false,lB met (e.1,e.2.1) true)
def gz (n:Int) (rs:Rows) (kp:List Int) (es:List dU):List dU:=(gi (eR n rs kp) [] es).1
theorem CH {n:Int} {rs:Rows} {kp:List Int} {es:List dU} {e:dU} (h:e∈gz n rs kp es):e∈es∧eC n rs e.1 e.2.1=false∧e.2.2∈kp:=by
 obtain⟨h1,s',h2⟩:=VO _ _ _ e h
 refine⟨h1,?_⟩
 unfold eR at h2
 cases ha:(fH s' (e.1,e.2.1)).getD false<;>cases hb:eC n rs e.1 e.2.1<;>cases hc:(kp.any fun z_=>decide (e.2.2=z_))<;>simp[ha,hb,hc] at h2
 obtain⟨z,hz,hz2⟩:=amR.1 hc
 exact⟨J,by rw[show e.2.2=z by simpa using hz2];exact hz⟩
theorem SZ {n:Int} {rs:Rows} {kp:List Int} {es:List dU} (h:gz n rs kp es=[]) {e:dU} (he:e∈es) (hk:e.2.2∈kp):eC n rs e.1 e.2.1=true:=by
 have key:∀es:List dU,(gi (eR n rs kp) [] es).1=[]→∀e∈es,e.2.2∈kp→eC n rs e.1 e.2.1=true:=by
  intro es
  induction es with
  |nil=>intro _ e h;cases h
  |cons x l ih=>
   intro h e he hk
   rw[gi] at h
   split at h
   ·rename_i hx
    have hs:(eR n rs kp [] x).2=[]:=by
     unfold eR at hx ⊢
     cases hb:eC n rs x.1 x.2.1<;>cases hc:(kp.any fun z_=>decide (x.2.2=z_))<;>simp[fH,hb,hc] at hx ⊢
    rw[hs] at h
    rcases amz.1 he with rfl|he
    ·unfold eR at hx
     have hc:(kp.any fun z_=>decide (e.2.2=z_))=true:=amR.2 ⟨_,hk,by simp⟩
     cases hb:eC n rs e.1 e.2.1<;>simp[fH,hb,hc] at hx
     rfl
    ·exact ih h e he hk
   ·cases h
 exact key es h e he hk
theorem S0 (n:Int) (rs:Rows) (kp:List Int) (es:List dU):(gz n rs kp es).length≤es.length:=VR _ _ _
end Go.Ew
namespace Go.Ew
def lT (n:Int) (rs:Rows) (l:List dU):Rows:=l.foldl (fun m e=>gQ n m e.1 e.2.1) rs
def TrP (n:Nat) (p:Nat→Nat→Bool):Prop:=∀i j k,i<n→j<n→k<n→p i j=true→p j k=true→p i k=true
def Th (es:List dU) (a b:Nat):Bool:=es.any fun e=>decide (e.1=((a:Nat):Int))&&decide (e.2.1=((b:Nat):Int))
def n5 (n:Nat) (es:List dU):Prop:=∀e∈es,kg ((n:Nat):Int) [e.1,e.2.1]=true
theorem QA (n:Nat) (p:Nat→Nat→Bool):TrP n (cl n p):=fun i j k _ hj _ h1 h2=>A9 hj h1 h2
theorem Bc {n:Int} {rs:Rows} {l:List dU} {e:dU}:lT n rs (l++[e])=gQ n (lT n rs l) e.1 e.2.1:=by unfold lT;rw[aoa];rfl
theorem ac1 {n:Nat} {p q:Nat→Nat→Bool} {a b:Nat} (ha:a<n) (hb:b<n):cl n (fun x y=>cl n p x y||q x y) a b=cl n (fun x y=>p x y||q x y) a b:=by
 rw[amE,qG ha hb,qG ha hb]
 constructor
 ·intro h
  refine h.least (fun x y hx hy h=>?_) fun x y z _ _ _=>TC.trans
  rcases amt _ _▸h with h|h
  ·exact((qG hx hy).1 h).mono fun _ _ _ _ h=>by simp[h]
  ·exact .one hx hy (by simp[h])
 ·intro h
  refine h.mono fun x y hx hy h=>?_
  rcases amt _ _▸h with h|h
  ·simp[xw h]
  ·simp[h]
theorem MB {n:Nat} {p:Nat→Nat→Bool} (h:TrP n p):∀{es:List dU},n5 n es→lT ((n:Nat):Int) (cB n p) es=cB n (cl n fun a b=>p a b||Th es a b):=by
 have key:∀(k:Nat) (es:List dU),es.length=k→n5 n es→lT ((n:Nat):Int) (cB n p) es=cB n (cl n fun a b=>p a b||Th es a b):=by
  intro k
  induction k with
  |zero=>
   intro es hl _
   rw[ani.1 hl]
   refine dy fun a b ha hb=>?_
   rw[amE,qG ha hb]
   constructor
   ·intro h;exact .one ha hb (by simp[h])
   ·intro k
    refine k.least (ai:=fun x y=>p x y=true) (fun x y _ _ h=>by simpa [Th] using h) fun x y z hx hy hz=>h x y z hx hy hz
  |succ k ih=>
   intro es hl Bw
   obtain⟨l,e,rfl⟩:∃l e,es=l++[e]:=⟨es.dropLast,es.getLast (by intro h;rw[h] at hl;simp at hl),(List.dropLast_concat_getLast _).symm⟩
   have hi:=Bw e<|by simp
   have hr:=ja.1 hi
   rw[Bc,ih l (by simpa using hl) (fun x hx=>Bw x (by simp[hx])),QH hi (QA n _)]
   refine dy fun a b ha hb=>?_
   rw[ac1 ha hb]
   refine Fz (fun x y _ _=>?_) ha hb
   rw[Bool.or_assoc]
   congr 1
   unfold Th
   rw[List.any_append]
   congr 1
   simp only[List.any_cons,List.any_nil,anM]
   rw[amE]
   simp only[eQ,amj]
   omega
 intro es Bw
 exact key _ es J Bw
theorem zd {n:Nat} {rs:Rows} {es:List dU} (h:bF ((n:Nat):Int) rs=true) (Bw:n5 n es):bF ((n:Nat):Int) (lT ((n:Nat):Int) rs es)=true:=by
 have key:∀(k:Nat) (es:List dU),es.length=k→n5 n es→bF ((n:Nat):Int) (lT ((n:Nat):Int) rs es)=true:=by
  intro k
  induction k with
  |zero=>intro es hl _;rw[ani.1 hl];exact h
  |succ k ih=>
   intro es hl Bw
   obtain⟨l,e,rfl⟩:∃l e,es=l++[e]:=⟨es.dropLast,es.getLast (by intro h;rw[h] at hl;simp at hl),(List.dropLast_concat_getLast _).symm⟩
   rw[Bc]
   have:=Np (i:=e.1) (j:=e.2.1)<|ih l (by simpa using hl)<|fun x hx=>Bw x (by simp[hx])
   unfold gX at this
   rwa [aml (Bw e (by simp))] at this
 exact key _ es J Bw
def Me (n:Nat) (p:Nat→Nat→Bool):Nat:=(List.range (n*n)).countP fun k=>p (k/n) (k%n)
theorem ZJ (n:Nat) (p:Nat→Nat→Bool):Me n p≤n*n:=by
 unfold Me;exact Nat.le_trans List.countP_le_length (by simp)
theorem Jd {α:Type} {p q:α→Bool}:∀{l:List α},(∀x∈l,p x=true→q x=true)→(∃x∈l,p x=false∧q x=true)→l.countP p<l.countP q
 |[],_,h=>by obtain⟨x,hx,_⟩:=h;cases hx
 |a::l,h,⟨x,hx,h1,h2⟩=>by
  have hm:l.countP p≤l.countP q:=List.countP_mono_left fun y hy=>h y (by simp[hy])
  rw[List.countP_cons,List.countP_cons]
  rcases amz.1 hx with rfl|hx
  ·rw[h1,h2];simp;omega
  ·have ih:=Jd (l:=l) (fun y hy=>h y (by simp[hy])) ⟨x,hx,h1,h2⟩
   have:=h a<|by simp
   cases hp:p a<;>cases hq:q a<;>simp_all<;>omega
theorem ZI {n:Nat} {p q:Nat→Nat→Bool} (h:∀a b,a<n→b<n→p a b=true→q a b=true) {a b:Nat} (ha:a<n) (hb:b<n) (h1:p a b=false) (h2:q a b=true):Me n p<Me n q:=by
 have hn:0<n:=by omega
 refine Jd (fun k hk hp=>h _ _ ?_ (Nat.mod_lt _ hn) hp) ⟨a*n+b,?_,?_,?_⟩
 ·exact(Nat.div_lt_iff_lt_mul hn).2 (amm.1 hk)
 ·rw[amm]
  calc a*n+b<a*n+n:=by omega
   _=(a+1)*n:=by rw[am8,Nat.one_mul]
   _≤n*n:=ank _ ha
 ·rw[show (a*n+b)/n=a by rw[aoI,Nat.mul_add_div hn,aou hb,amX],show (a*n+b)%n=b by rw[aoI,Nat.mul_add_mod,aot hb]];exact h1
 ·rw[show (a*n+b)/n=a by rw[aoI,Nat.mul_add_div hn,aou hb,amX],show (a*n+b)%n=b by rw[aoI,Nat.mul_add_mod,aot hb]];exact h2
structure MM (I:List aH) (U:List Int) (p:Nat→Nat→Prop) (a b r:Nat):Prop where
 a1:a<I.length
 r1:r<I.length
 fr:U[r]? =some ((b:Nat):Int)
 ne:a≠b
 wr:iE I (rl I ((b:Nat):Int)) ((a:Nat):Int)=false
 ah:p a r
theorem A6 {I:List aH} {U:List Int} {p:Nat→Nat→Bool} (eo:U.length=I.length) {e:dU} (h:Wu I U ((I.length:Nat):Int) (cB I.length p) e):∃a b r:Nat,e=(((a:Nat):Int),((b:Nat):Int),((r:Nat):Int))∧MM I U (fun x y=>p x y=true) a b r:=by
 obtain⟨a,b,r⟩:=e
 obtain⟨r0,r1,fr,w0,ne,ah⟩:=h
 simp only at r0 r1 fr w0 ne ah
 unfold aZ at ah
 rw[amA] at ah
 obtain⟨ah,wr⟩:=ah
 unfold eL at ah
 rw[aml aq,wg,dZ] at ah
 obtain⟨k,hk,hp,rfl⟩:=ah
 refine⟨k,b.toNat,r.toNat,by rw[show ((b.toNat:Nat):Int)=b by omega,show ((r.toNat:Nat):Int)=r by omega],hk,by omega,by rw[fr];congr 1;omega,fun e=>ne aq,?_,?_⟩
 ·rw[show ((b.toNat:Nat):Int)=b by omega];simpa using wr
 ·rw[ju hk aq] at hp;exact hp
theorem OC {I:List aH} {U:List Int} {p:Nat→Nat→Bool} (eo:U.length=I.length) {a b r:Nat} (h:MM I U (fun x y=>p x y=true) a b r):Wu I U ((I.length:Nat):Int) (cB I.length p) (((a:Nat):Int),((b:Nat):Int),((r:Nat):Int)):=by
 obtain⟨a1,r1,fr,ne,wr,ah⟩:=h
 refine⟨by simp only;omega,by simp only;omega,by simpa using fr,by simp only;omega,by simp only;omega,?_⟩
 simp only
 unfold aZ
 rw[amA]
 refine⟨?_,by rw[wr];rfl⟩
 unfold eL
 rw[aml aq,wg,dZ]
 exact⟨a,a1,by rw[dZ,ju a1 r1];exact ah,J⟩
theorem DB {I:List aH} {U:List Int} {p:Nat→Nat→Bool} {es:List dU} (eo:U.length=I.length) (fE:∀x∈U,x<((I.length:Nat):Int)) (h:Db I U ((I.length:Nat):Int) (cB I.length p) es):n5 I.length es:=by
 intro e he
 obtain⟨a,b,r,rfl,k⟩:=A6 eo ((h.2 e).1 he)
 have:=fE _<|dJ k.fr
 have:=k.a1
 exact ja.2<|by simp only;omega
structure OZ (I:List aH) (U:List Int) (o:Int) (ai:Nat→Nat→Prop):Prop where
 base:∀a b,a<I.length→b<I.length→pB I U a b=true→((a:Nat):Int)∈bL ((I.length:Nat):Int) (cp I U) o→((b:Nat):Int)∈bL ((I.length:Nat):Int) (cp I U) o→ai a b
 trans:∀a b c,a<I.length→b<I.length→c<I.length→ai a b→ai b c→ai a c
 Ph:∀a b r,((r:Nat):Int)∈lO I o→MM I U ai a b r→ai a b
noncomputable def Bj (I:List aH) (U:List Int) (o:Int) (a b:Nat):Bool:=@decide (∀ai,OZ I U o ai→ai a b) (Classical.propDecidable _)
noncomputable def cQ (I:List aH) (U:List Int) (o:Int):Rows:=cB I.length (Bj I U o)
theorem pF {I:List aH} {U:List Int} {o:Int} {a b:Nat}:Bj I U o a b=true↔∀ai,OZ I U o ai→ai a b:=by unfold Bj;exact @decide_eq_true_iff _ (Classical.propDecidable _)
theorem aal (I:List aH) (U:List Int) (o:Int):OZ I U o (fun a b=>Bj I U o a b=true) where
 base a b ha hb hc h1 h2:=pF.2 fun ai hR=>hR.base a b ha hb hc h1 h2
 trans a b c ha hb hc h1 h2:=pF.2 fun ai hR=>hR.trans a b c ha hb hc (pF.1 h1 ai hR) (pF.1 h2 ai hR)
 Ph a b r hr h:=pF.2 fun ai hR=>hR.Ph a b r hr ⟨h.a1,h.r1,h.fr,h.ne,h.wr,pF.1 h.ah ai hR⟩
structure SnQ (I:List aH) (U:List Int) (o:Int) (p:Nat→Nat→Bool):Prop where
 tr:TrP I.length p
 base:∀a b,a<I.length→b<I.length→pB I U a b=true→((a:Nat):Int)∈bL ((I.length:Nat):Int) (cp I U) o→((b:Nat):Int)∈bL ((I.length:Nat):Int) (cp I U) o→p a b=true
 le:∀ai,OZ I U o ai→∀a b,a<I.length→b<I.length→p a b=true→ai a b
def Jo (I:List aH) (U:List Int) (o:Int) (n:Int) (rs:Rows):Prop:=n=((I.length:Nat):Int)∧∃p,rs=cB I.length p∧SnQ I U o p
def HU (I:List aH) (rs:Rows):Nat:=Me I.length (fX rs)
section
variable {I:List aH} {U:List Int} {o n:Int} {rs:Rows} {es:List dU}
theorem Ug (I:List aH) (U:List Int) (o:Int):Jo I U o ((I.length:Nat):Int) (gj ((I.length:Nat):Int) (cp I U) (bL ((I.length:Nat):Int) (cp I U) o)):=by
 have hm:∀a b,a<I.length→b<I.length→(Nv (fX (cp I U)) (bL ((I.length:Nat):Int) (cp I U) o) a b=true↔pB I U a b=true∧((a:Nat):Int)∈bL ((I.length:Nat):Int) (cp I U) o∧((b:Nat):Int)∈bL ((I.length:Nat):Int) (cp I U) o):=by
  intro a b ha hb
  unfold Nv
  rw[show fX (cp I U) a b=pB I U a b from ju ha hb]
  simp only[eQ,amj]
 refine⟨J,_,by unfold gj;rw[dZ],?_,?_,?_⟩
 ·intro i j k hi hj hk h1 h2
  obtain⟨a1,a2,a3⟩:=(hm i j hi hj).1 h1
  obtain⟨b1,b2,b3⟩:=(hm j k hj hk).1 h2
  exact(hm i k hi hk).2 ⟨A9 hj a1 b1,a2,b3⟩
 ·intro a b ha hb h1 h2 h3
  exact(hm a b ha hb).2 ⟨h1,h2,h3⟩
 ·intro ai hR a b ha hb h
  obtain⟨h1,h2,h3⟩:=(hm a b ha hb).1 h
  exact hR.base a b ha hb h1 h2 h3
theorem Kz (h:Jo I U o n rs) (hn:I.length≤4096):bF n rs=true:=by
 obtain⟨rfl,p,rfl,_⟩:=h;exact ll hn
theorem WO (h:Jo I U o n rs) (eo:U.length=I.length) (fE:∀x∈U,x<((I.length:Nat):Int)) (he:Db I U n rs es) {kp:List Int}:n5 I.length (gz n rs kp es):=by
 obtain⟨rfl,p,rfl,_⟩:=h
 exact fun e hm=>DB eo fE he e (CH hm).1
theorem YC (h:Jo I U o n rs) (eo:U.length=I.length) (fE:∀x∈U,x<((I.length:Nat):Int)) (he:Db I U n rs es):
  Jo I U o n (lT n rs (gz n rs (lO I o) es))∧(gz n rs (lO I o) es≠[]→HU I rs<HU I (lT n rs (gz n rs (lO I o) es))):=by
 have sg:=WO h eo fE he (kp:=lO I o)
 obtain⟨rfl,p,rfl,q⟩:=h
 rw[MB q.tr sg]
 refine⟨⟨J,_,J,QA _ _,?_,?_⟩,?_⟩
 ·intro a b ha hb h1 h2 h3
  exact xw<|by simp[q.base a b ha hb h1 h2 h3]
 ·intro ai hR a b ha hb h
  refine((qG ha hb).1 h).least (fun x y hx hy hp=>?_) fun x y z hx hy hz=>hR.trans x y z hx hy hz
  rcases amt _ _▸hp with hp|hp
  ·exact q.le ai hR x y hx hy hp
  ·obtain⟨e,SA,yj⟩:=amR.1 hp
   obtain⟨m1,m2,m3⟩:=CH SA
   obtain⟨a',b',r',rfl,k⟩:=A6 eo ((he.2 e).1 m1)
   simp only[eQ,amj] at yj
   obtain⟨e1,e2⟩:=yj
   obtain rfl:a'=x:=by omega
   obtain rfl:b'=y:=by omega
   exact hR.Ph a' b' r' m3 ⟨k.a1,k.r1,k.fr,k.ne,k.wr,q.le ai hR a' r' k.a1 k.r1 k.ah⟩
 ·intro gE
  obtain⟨e,SA⟩:=List.exists_mem_of_ne_nil _ gE
  obtain⟨m1,m2,m3⟩:=CH SA
  have hi:=sg e SA
  obtain⟨a',b',r',rfl,k⟩:=A6 eo ((he.2 e).1 m1)
  have hr:=ja.1 hi
  simp only at hr m2
  have hb:b'<I.length:=by omega
  rw[ub k.a1 hb] at m2
  unfold HU
  refine ZI (a:=a') (b:=b') (fun a b ha hb h=>?_) k.a1 hb ?_ ?_
  ·rw[ju ha hb] at h ⊢
   exact xw<|by simp[h]
  ·rw[ju k.a1 hb];exact m2
  ·rw[ju k.a1 hb]
   refine xw ?_
   rw[amt]
   exact .inr (amR.2 ⟨_,SA,by simp⟩)
theorem aak (h:Jo I U o n rs) (eo:U.length=I.length) (fE:∀x∈U,x<((I.length:Nat):Int)) (he:Db I U n rs es) (hz:gz n rs (lO I o) es=[]):rs=cQ I U o:=by
 obtain⟨rfl,p,rfl,q⟩:=h
 have hR:OZ I U o (fun a b=>p a b=true):=by
  refine⟨q.base,q.tr,fun a b r hr k=>?_⟩
  have hb:=fE _<|dJ k.fr
  have hh:=SZ hz ((he.2 _).2 (OC eo k)) hr
  simp only at hh
  rw[ub k.a1 aq] at hh
  exact hh
 refine dy fun a b ha hb=>?_
 rw[amE,pF]
 exact⟨fun h ai hR=>q.le ai hR a b ha hb h,fun h=>h _ hR⟩
theorem KB (rs:Rows) (I:List aH):HU I rs≤I.length*I.length:=ZJ _ _
end
theorem AU {I:List aH} (h:gL I) (hn:I.length≤64) {o:Int} (ho:0≤o∧o<((I.length:Nat):Int)):(aZ (fV I) (cx I o)).length≤64:=by
 unfold aZ
 refine Nat.le_trans (anh _ _) ?_
 unfold cx
 rw[aml ho,amS,an']
 have h1:=RI h ho.1 ho.2
 unfold cx at h1
 rw[aml ho,amS,an'] at h1
 have h2:=(gL.back h o.toNat aq).1
 omega
theorem Bd {n n2:Int} {rs m2:Rows} {l:List dU} {q:Nat} {x:dU} (h:n2=n∧m2=lT n rs (l.take q)) (hx:l[((q:Nat):Int).toNat]? =some x) (hi:kg n [x.1,x.2.1]=true):
  gX n2 x.1 x.2.1=n∧gQ n2 m2 x.1 x.2.1=lT n rs (l.take (q+1)):=by
 obtain⟨rfl,rfl⟩:=h
 rw[dZ] at hx
 refine⟨by unfold gX;rw[aml hi],?_⟩
 rw[amW,hx,show (some x).toList=[x] from rfl,Bc]
theorem aaj {I:List aH} {U:List Int} {o n n2:Int} {rs m2:Rows} {l:List dU} {q:Nat} (h:Jo I U o n rs) (hn:I.length≤4096) (he:n5 I.length l) (h2:n2=n∧m2=lT n rs (l.take q)):bF n2 m2=true:=by
 obtain⟨rfl,rfl⟩:=h2
 have hr:=Kz h hn
 rw[h.1] at hr ⊢
 exact zd hr fun e SB=>he e (anz SB)
theorem KA {I:List aH} {n:Int} {l:List dU} {x:dU} {q:Nat} (h:n=((I.length:Nat):Int)) (he:n5 I.length l) (hx:l[((q:Nat):Int).toNat]? =some x):kg n [x.1,x.2.1]=true:=by
 rw[h];exact he x (dJ hx)
end Go.Ew
namespace Go.Ew
abbrev vN:=Int×Int×Int×Int×Int
structure T0 (k r a b o:Int):Prop where
 k:aK k
 r:aK r
 a:aK a
 b:aK b
 o:aK o
def p9 (x:Option vN) (k r a b o:Int):Prop:=T0 k r a b o∧∀y,x=some y→y=(k,r,a,b,o)
theorem tJ {x:Option vN} {k r a b o:Int} (h:x=none) (i:T0 k r a b o):p9 x k r a b o:=⟨i,fun y hy=>by rw[h] at hy;cases hy⟩
theorem zh {x:Option vN} {k r a b o:Int} (h:x=some (k,r,a,b,o)) (i:T0 k r a b o):p9 x k r a b o:=⟨i,fun y hy=>by rw[h] at hy;exact(amo hy).symm⟩
section
variable (I:List aH) (U:List Int)
def oT (kd:Int):Option vN:=if 0≤eF (fun z_=>decide ((-2)=z_)) U then some (kd,eF (fun z_=>decide ((-2)=z_)) U, -1, -1, -1) else none
def j0 (n:Int) (rs:Rows) (kd:Int):Option vN:=(cM n rs).map fun i=>(kd, -1, -1, -1,((i:Nat):Int))
def pP (n:Int) (rs:Rows) (kd:Int):Option vN:=(z7 I U n rs).map fun r=>(kd,((r:Nat):Int),(db I n rs ((r:Nat):Int)).headD 0, -1, -1)
def pQ (n:Int) (rs:Rows) (kd:Int):Option vN:=(FC I U n rs).map fun r=>(kd,((r:Nat):Int),U.getD r 0,(za I U n rs r).getD 0, -1)
noncomputable def Jg (a b:Nat):Bool:=pB I U a b||@decide (∃r,MM I U (fun x y=>pB I U x y=true) a b r) (Classical.propDecidable _)
noncomputable def Aa:Rows:=cB I.length (cl I.length (Jg I U))
def BU (n:Int) (rs:Rows) (r:Int):Bool:=decide (U.getD r.toNat 0= -1)&&decide (0<(((db I n rs r).length:Nat):Int))
def DP (n:Int) (rs:Rows) (o:Int):Option Int:=(lO I o).find? (BU I U n rs)
noncomputable def Iy (o:Nat):Bool:=(DP I U ((I.length:Nat):Int) (cQ I U ((o:Nat):Int)) ((o:Nat):Int)).isSome
noncomputable def Iz:Option Nat:=(List.range I.length).find? (Iy I U)
noncomputable def r6 (kd:Int):Option vN:=(Iz I U).map fun o=>(kd,(DP I U ((I.length:Nat):Int) (cQ I U ((o:Nat):Int)) ((o:Nat):Int)).getD 0,(db I ((I.length:Nat):Int) (cQ I U ((o:Nat):Int)) ((DP I U ((I.length:Nat):Int) (cQ I U ((o:Nat):Int)) ((o:Nat):Int)).getD 0)).headD 0, -1,((o:Nat):Int))
noncomputable def WN (o:Nat):Bool:=(cM ((I.length:Nat):Int) (cQ I U ((o:Nat):Int))).isSome
noncomputable def It:Option Nat:=(List.range I.length).find? (WN I U)
noncomputable def r5 (kd:Int):Option vN:=(It I U).map fun o=>(kd, -1,(((cM ((I.length:Nat):Int) (cQ I U ((o:Nat):Int))).getD 0:Nat):Int), -1,((o:Nat):Int))
noncomputable def jL (kd:Int):Option vN:=
 if kd=1 then oT U kd else if kd=2 then j0 ((I.length:Nat):Int) (cp I U) kd else if kd=3 then pP I U ((I.length:Nat):Int) (cp I U) kd else if kd=4 then pQ I U ((I.length:Nat):Int) (cp I U) kd
 else if kd=5 then j0 ((I.length:Nat):Int) (Aa I U) kd else if kd=6 then r6 I U kd else r5 I U kd
noncomputable def fN (lv:Int):Option vN:=(dq lv).findSome? (jL I U)
noncomputable def eK:List (Int×Rows):=(List.range I.length).map fun o=>(((I.length:Nat):Int),cQ I U ((o:Nat):Int))
end
section
variable {I:List aH} {U:List Int}
theorem Aw:(eK I U).length=I.length:=by unfold eK;simp
theorem NK {j:Nat} {x:Int×Rows} (h:(eK I U)[((j:Nat):Int).toNat]? =some x):j<I.length∧x=(((I.length:Nat):Int),cQ I U ((j:Nat):Int)):=by
 rw[dZ] at h
 have hl:=(ef.1 h).1
 rw[Aw] at hl
 unfold eK at h
 rw[amx,ang hl] at h
 exact⟨hl,(amo h).symm⟩
theorem Rj {j:Nat} (hj:j<I.length):(eK I U).take j++[(((I.length:Nat):Int),cQ I U ((j:Nat):Int))]=(eK I U).take (j+1):=by
 have h:(eK I U)[j]? =some (((I.length:Nat):Int),cQ I U ((j:Nat):Int)):=by unfold eK;rw[amx,ang hj];rfl
 rw[amW,h];rfl
theorem afb {es:List dU} (eo:U.length=I.length) (fE:∀x∈U,x<((I.length:Nat):Int)) (h:Db I U ((I.length:Nat):Int) (cp I U) es):lT ((I.length:Nat):Int) (cp I U) es=Aa I U:=by
 unfold cp at h ⊢
 rw[MB (p:=pB I U) (QA I.length (Mb I U)) (DB eo fE h)]
 unfold Aa
 refine dy fun a b ha hb=>Fz (fun x y hx hy=>?_) ha hb
 rw[amE]
 unfold Jg Th
 rw[amt,amt,amR,@decide_eq_true_iff _ (Classical.propDecidable _)]
 refine or_congr Iff.rfl ⟨?_,?_⟩
 ·rintro⟨e,he,h2⟩
  simp only[eQ,amj] at h2
  obtain⟨a',b',r',rfl,k⟩:=A6 eo ((h.2 e).1 he)
  obtain rfl:a'=x:=by simp only at h2;omega
  obtain rfl:b'=y:=by simp only at h2;omega
  exact⟨r',k⟩
 ·rintro⟨r,k⟩
  exact⟨_,(h.2 _).2 (OC eo k),by simp⟩
theorem Zr {α β:Type} {l:List α} {f:α→Option β} {j:Nat} {x:α} (hs:∀y∈l.take j,f y=none) (hx:l[((j:Nat):Int).toNat]? =some x) (h:f x=none):∀y∈l.take (j+1),f y=none:=by
 rw[dZ] at hx
 intro y hy
 rw[amW,hx] at hy
 rcases amH.1 hy with hy|hy
 ·exact hs y hy
 ·simp at hy;rw[hy];exact h
theorem Zq {α β:Type} {l:List α} {f:α→Option β} {j:Nat} {x:α} {y:β} (hs:∀y∈l.take j,f y=none) (hx:l[((j:Nat):Int).toNat]? =some x) (h:f x=some y):l.findSome? f=some y:=by
 rw[dZ] at hx
 have e:l=l.take j++x::l.drop (j+1):=by
  rw[←(ef.1 hx).2,aoT,ant]
 rw[e,aoZ,aoA.2 hs,List.findSome?_cons,h];rfl
theorem acK {α β:Type} {l:List α} {f:α→Option β} {j:Nat} (hs:∀y∈l.take j,f y=none) (hj:l.length≤j):l.findSome? f=none:=by
 rw[amr hj] at hs
 exact aoA.2 hs
theorem Ln {lv x:Int} (h:x∈dq lv):x=1∨x=2∨x=3∨x=4∨x=5∨x=6∨x=7:=by
 unfold dq at h
 cases h1:decide (lv=1)<;>cases h2:decide (lv=2)<;>cases h3:decide (lv=3)<;>simp[h1,h2,h3] at h<;>omega
end
theorem rj:aK (-1):=by unfold aK;omega
theorem E9:aK 0:=by unfold aK;omega
theorem HE {j:Nat} (h:j≤9223372036854775807):aK ((j:Nat):Int):=by unfold aK;omega
theorem Nw:T0 0 0 0 0 0:=⟨E9,E9,E9,E9,E9⟩
section
variable {I:List aH} {U:List Int} {n kd:Int} {rs:Rows} {j:Nat} {x a:Int}
theorem wiN (h:aK kd):T0 kd (-1) (-1) (-1) (-1):=⟨h,rj,rj,rj,rj⟩
theorem NA:decide (0≤eF (fun z_=>decide ((-2)=z_)) U)=(oT U kd).isSome:=by
 unfold oT;split<;>simp_all
theorem aae (hk:aK kd) (hl:U.length≤9223372036854775807):p9 (oT U kd) kd (eF (fun z_=>decide ((-2)=z_)) U) (-1) (-1) (-1):=by
 have h:=vV (p:=fun z_=>decide ((-2)=z_)) (r:=U)
 refine⟨⟨hk,by unfold aK;omega,rj,rj,rj⟩,fun y hy=>?_⟩
 unfold oT at hy
 split at hy
 ·exact(amo hy).symm
 ·cases hy
theorem BY:(cM n rs).isSome=(j0 n rs kd).isSome:=by unfold j0;simp
theorem Lh {i:Nat} (h:cM n rs=some i):i<n.toNat:=by
 unfold cM at h;exact amm.1 (aoE h)
theorem Pl (hk:aK kd) (hn:n≤9223372036854775807) (h:(cM n rs).isSome=true):p9 (j0 n rs kd) kd (-1) (-1) (-1) (((cM n rs).getD 0:Nat):Int):=by
 obtain⟨i,hi⟩:=amG.1 h
 have hl:=Lh hi
 unfold j0
 rw[hi]
 exact zh J ⟨hk,rj,rj,rj,HE (by simp only[aoW];omega)⟩
theorem Pm (hk:aK kd) (h:(cM n rs).isSome=false):p9 (j0 n rs kd) kd (-1) (-1) (-1) (-1):=
 tJ (by unfold j0;cases e:cM n rs<;>simp_all) (wiN hk)
theorem acT (h:z7 I U n rs=some j):true=(pP I U n rs kd).isSome:=by unfold pP;rw[h];rfl
theorem Tg (h:z7 I U n rs=none):pP I U n rs kd=none:=by unfold pP;rw[h];rfl
theorem afa (hk:aK kd) (h:z7 I U n rs=some j) (hj:j≤9223372036854775807) (hx:(db I n rs ((j:Nat):Int))[(0:Int).toNat]? =some x) (ix:aK x):p9 (pP I U n rs kd) kd ((j:Nat):Int) x (-1) (-1):=by
 refine zh ?_ ⟨hk,HE hj,ix,rj,rj⟩
 unfold pP;rw[h];show some (kd,_,(db I n rs ((j:Nat):Int)).headD 0,_,_)=_
 rw[LP hx]
theorem ac4 (h:FC I U n rs=some j):true=(pQ I U n rs kd).isSome:=by unfold pQ;rw[h];rfl
theorem TD (h:FC I U n rs=none):pQ I U n rs kd=none:=by unfold pQ;rw[h];rfl
theorem afc (hk:aK kd) (h:FC I U n rs=some j) (hb:za I U n rs j=some x) (ha:U.getD j 0=a) (hj:j≤9223372036854775807) (ia:aK a) (ix:aK x):p9 (pQ I U n rs kd) kd ((j:Nat):Int) a x (-1):=by
 refine zh ?_ ⟨hk,HE hj,ia,ix,rj⟩
 unfold pQ;rw[h];show some (kd,_,U.getD j 0,(za I U n rs j).getD 0,_)=_
 rw[hb,ha];rfl
end
theorem MA {I:List aH} {n r:Int} {rs:Rows} {k:Nat} {x:Int} (h:bF n rs=true) (hx:(db I n rs r)[k]? =some x):aK x:=by
 have hm:=dJ hx
 unfold db aZ at hm
 have hm:=(amA.1 hm).1
 unfold eL at hm
 split at hm
 ·obtain⟨k,hk,_,rfl⟩:=wg.1 hm
  have:=(bO h).2.2.1
  unfold aK;omega
 ·cases hm
section
variable {I:List aH} {U:List Int} {cn n2 kd:Int} {cr m2:Rows} {es:List dU} {q:Nat}
theorem X7 (eo:U.length=I.length) (fE:∀x∈U,x<((I.length:Nat):Int)) (nY:cn=((I.length:Nat):Int)) (pw:cr=cp I U) (h:Db I U cn cr es):n5 I.length es:=by
 subst nY pw;exact DB eo fE h
theorem Tu (hn:I.length≤4096) (nY:cn=((I.length:Nat):Int)) (pw:cr=cp I U) (he:n5 I.length es) (h2:n2=cn∧m2=lT cn cr (es.take q)):bF n2 m2=true:=by
 obtain⟨rfl,rfl⟩:=h2
 subst nY pw
 exact zd (pc U hn) fun e SB=>he e (anz SB)
theorem ac2 (eo:U.length=I.length) (fE:∀x∈U,x<((I.length:Nat):Int)) (nY:cn=((I.length:Nat):Int)) (pw:cr=cp I U) (h:Db I U cn cr es) (h2:n2=cn∧m2=lT cn cr (es.take q)) (hq:es.length≤q):n2=((I.length:Nat):Int)∧m2=Aa I U:=by
 obtain⟨rfl,rfl⟩:=h2
 subst nY pw
 rw[amr hq]
 exact⟨J,afb eo fE h⟩
theorem NL {N:Int} {ai:Rows} (h:n2=N∧m2=ai):(cM n2 m2).isSome=(j0 N ai kd).isSome:=by obtain⟨rfl,rfl⟩:=h;exact BY
theorem aaA {N:Int} {ai:Rows} (h:n2=N∧m2=ai) (hk:aK kd) (hn:N≤9223372036854775807) (h1:(cM n2 m2).isSome=true):p9 (j0 N ai kd) kd (-1) (-1) (-1) (((cM n2 m2).getD 0:Nat):Int):=by obtain⟨rfl,rfl⟩:=h;exact Pl hk hn h1
theorem aaB {N:Int} {ai:Rows} (h:n2=N∧m2=ai) (hk:aK kd) (h1:(cM n2 m2).isSome=false):p9 (j0 N ai kd) kd (-1) (-1) (-1) (-1):=by obtain⟨rfl,rfl⟩:=h;exact Pm hk h1
end
end Go.Ew
namespace Go.Ew
section
variable {α:Type} {l:List α} {p:α→Bool} {j:Nat} {x:α}
theorem XZ (hs:∀y∈l.take j,p y=false) (hx:l[((j:Nat):Int).toNat]? =some x) (h:p x=false):∀y∈l.take (j+1),p y=false:=by
 rw[dZ] at hx
 intro y hy
 rw[amW,hx] at hy
 rcases amH.1 hy with hy|hy
 ·exact hs y hy
 ·simp at hy;rw[hy];exact h
theorem acM (hs:∀y∈l.take j,p y=false) (hx:l[((j:Nat):Int).toNat]? =some x) (h:p x=true):l.find? p=some x:=by
 rw[dZ] at hx
 have e:l=l.take j++x::l.drop (j+1):=by
  rw[←(ef.1 hx).2,aoT,ant]
 rw[e,List.find?_append,anK.2 (fun y hy=>by rw[hs y hy];exact aoM),List.find?_cons,h];rfl
theorem Zb {l:List Int} {p:Int→Bool} {j:Nat} {x:Int} (h:(aZ p l)[((j:Nat):Int).toNat]? =some x):∃q:Nat,l[q]? =some x:=by
 have h1:=dJ h
 unfold aZ at h1
 exact ao5 (amA.1 h1).1
theorem acN (hs:∀y∈l.take j,p y=false) (hj:l.length≤j):l.find? p=none:=by
 rw[amr hj] at hs
 exact anK.2 fun y hy=>by rw[hs y hy];exact aoM
end
section
variable {I:List aH} {U:List Int} {kd:Int} {j:Nat} {r y x:Int} {X:Int×Rows}
theorem FZ (hn:I.length≤64) (hj:j<I.length):bF ((I.length:Nat):Int) (cQ I U ((j:Nat):Int))=true:=by
 unfold cQ;exact ll aq
theorem YD (h:(lO I ((j:Nat):Int)).find? (BU I U ((I.length:Nat):Int) (cQ I U ((j:Nat):Int)))=none):Iy I U j=false:=by
 unfold Iy DP;rw[h];rfl
theorem aap (h:(lO I ((j:Nat):Int)).find? (BU I U ((I.length:Nat):Int) (cQ I U ((j:Nat):Int)))=some r):Iy I U j=true:=by
 unfold Iy DP;rw[h];rfl
theorem ad8 (h:Iz I U=some j):true=(r6 I U kd).isSome:=by unfold r6;rw[h];rfl
theorem WQ (h:Iz I U=none):r6 I U kd=none:=by unfold r6;rw[h];rfl
theorem agV (hk:aK kd) (h:Iz I U=some j) (h2:(lO I ((j:Nat):Int)).find? (BU I U ((I.length:Nat):Int) (cQ I U ((j:Nat):Int)))=some r) (hj:j≤9223372036854775807) (hr:aK r)
  (hx:(db I ((I.length:Nat):Int) (cQ I U ((j:Nat):Int)) r)[(0:Int).toNat]? =some x) (ix:aK x):p9 (r6 I U kd) kd r x (-1) ((j:Nat):Int):=by
 refine zh ?_ ⟨hk,hr,ix,rj,HE hj⟩
 unfold r6;rw[h]
 have e:DP I U ((I.length:Nat):Int) (cQ I U ((j:Nat):Int)) ((j:Nat):Int)=some r:=h2
 show some (kd,(DP I U ((I.length:Nat):Int) (cQ I U ((j:Nat):Int)) ((j:Nat):Int)).getD 0,(db I ((I.length:Nat):Int) (cQ I U ((j:Nat):Int)) ((DP I U ((I.length:Nat):Int) (cQ I U ((j:Nat):Int)) ((j:Nat):Int)).getD 0)).headD 0,_,_)=_
 rw[e]
 show some (kd,r,(db I ((I.length:Nat):Int) (cQ I U ((j:Nat):Int)) r).headD 0,_,_)=_
 rw[LP hx]
theorem adT (h:It I U=some j):true=(r5 I U kd).isSome:=by unfold r5;rw[h];rfl
theorem WM (h:It I U=none):r5 I U kd=none:=by unfold r5;rw[h];rfl
theorem agP (hk:aK kd) (h:It I U=some j) (hj:j<I.length) (hn:I.length≤64) (h2:(cM ((I.length:Nat):Int) (cQ I U ((j:Nat):Int))).isSome=true):
  p9 (r5 I U kd) kd (-1) (((cM ((I.length:Nat):Int) (cQ I U ((j:Nat):Int))).getD 0:Nat):Int) (-1) ((j:Nat):Int):=by
 obtain⟨i,hi⟩:=amG.1 h2
 have hl:=Lh hi
 refine zh ?_ ⟨hk,rj,HE (by rw[hi,aoW];omega),rj,HE aq⟩
 unfold r5;rw[h];rfl
end
section
variable {I:List aH} {U:List Int} {lv x:Int} {j:Nat} {P:Option vN} {k r a b o:Int}
theorem UJ:jL I U 1=oT U 1:=by unfold jL;exact aml rfl
theorem UI:jL I U 2=j0 ((I.length:Nat):Int) (cp I U) 2:=by unfold jL;rw[amn aw];exact aml rfl
theorem UH:jL I U 3=pP I U ((I.length:Nat):Int) (cp I U) 3:=by unfold jL;rw[amn aw,amn aw];exact aml rfl
theorem UG:jL I U 4=pQ I U ((I.length:Nat):Int) (cp I U) 4:=by unfold jL;rw[amn aw,amn aw,amn aw];exact aml rfl
theorem UF:jL I U 5=j0 ((I.length:Nat):Int) (Aa I U) 5:=by unfold jL;rw[amn aw,amn aw,amn aw,amn aw];exact aml rfl
theorem UE:jL I U 6=r6 I U 6:=by unfold jL;rw[amn aw,amn aw,amn aw,amn aw,amn aw];exact aml rfl
theorem UD:jL I U 7=r5 I U 7:=by unfold jL;rw[amn aw,amn aw,amn aw,amn aw,amn aw];exact amn aw
theorem AE (hs:∀y∈(dq lv).take j,jL I U y=none) (hx:(dq lv)[((j:Nat):Int).toNat]? =some x) (e:jL I U x=P) (h:P.isSome=false):∀y∈(dq lv).take (j+1),jL I U y=none:=
 Zr hs hx (by rw[e];cases P<;>simp_all)
theorem nI (hs:∀y∈(dq lv).take j,jL I U y=none) (hx:(dq lv)[((j:Nat):Int).toNat]? =some x) (e:jL I U x=P) (h:P.isSome=true):fN I U lv=P:=by
 obtain⟨y,rfl⟩:=amG.1 h
 exact Zq hs hx e
theorem NQ (hs:∀y∈(dq lv).take j,jL I U y=none) (h:(dq lv).length≤j):fN I U lv=none:=acK hs h
noncomputable def dL (I:List aH) (U:List Int) (lv:Int):Int:=if (fN I U lv).isSome=true then 0 else 8
theorem rZ (e:fN I U lv=P) (h:P.isSome=true):0=dL I U lv:=by unfold dL;rw[aml (by rw[e];exact h)]
theorem ZH (e:fN I U lv=none):8=dL I U lv:=by unfold dL;rw[amn (by rw[e];exact aoM)]
theorem wu (e:fN I U lv=P) (h:p9 P k r a b o):p9 (fN I U lv) k r a b o:=by rw[e];exact h
theorem Va (h:lv=1∨lv=2∨lv=3):dq lv≠[]:=by
 rcases h with rfl|rfl|rfl<;>simp[dq]
theorem R9:(dq lv).length≤6:=by
 unfold dq
 cases h1:decide (lv=1)<;>cases h2:decide (lv=2)<;>cases h3:decide (lv=3)<;>simp
end
end Go.Ew
namespace Go.Ew
def JK (a b:Row) (j:Nat):Bool:=!decide ((a.getD j 0#64 &&& b.getD j 0#64)=0#64)
def oB (a b:Row):Bool:=(List.range a.length).any (JK a b)
theorem adm {p:Nat→Bool} {n j:Nat} (hj:j<n) (h:p j=true):true=(List.range n).any p:=(amR.2 ⟨j,amm.2 hj,h⟩).symm
theorem ZV {p:Nat→Bool} {n j:Nat} (hs:∀q,q<j→p q=false) (hj:n≤j):false=(List.range n).any p:=by
 symm
 rw[aob]
 intro q hq
 rw[hs q (by have:=amm.1 hq;omega)]
 exact aoM
theorem Zg {α:Type} {p:α→Bool} {r:List α} (h:0≤eF p r):eF p r<((r.length:Nat):Int):=by
 unfold eF at h ⊢
 cases e:r.findIdx? p with
 |none=>rw[e] at h;exact absurd h aw
 |some i=>
  have:=(amP.1 e).1
  show ((i:Nat):Int)<_
  omega
def Bh (n:Int) (r:Row):Prop:=r.length=words n∧∀x∈cR r,0≤x∧x<n
theorem Y8 {n:Int}:Bh n (dX n):=by
 refine⟨by unfold dX;simp,fun x hx=>?_⟩
 have:=uG.1 hx
 rw[E2] at this;cases this
theorem Y7 {n x:Int} {r:Row} (h:Bh n r) (h0:0≤x) (h1:x<n):Bh n (dY r x):=by
 refine⟨by rw[←h.1];unfold dY;split<;>simp,fun y hy=>?_⟩
 have:=uG.1 hy
 rw[CD,amt] at this
 rcases this with h2|h2
 ·exact h.2 y<|uG.2 h2
 ·simp only[eQ,amj] at h2
  rw[h2.1];exact⟨h0,h1⟩
theorem Y9 {n:Int} {r:Row} {q:Nat} {x y:BitVec 64} (h:Bh n r) (hx:r[q]? =some x):Bh n (r.set q (x &&& ~~~y)):=by
 refine⟨by rw[ami];exact h.1,fun z hz=>?_⟩
 have h1:=uG.1 hz
 refine h.2 z<|uG.2 ?_
 unfold fe at h1 ⊢
 rw[eQ] at h1 ⊢
 refine⟨h1.1,?_⟩
 have h2:=h1.2
 rw[gZ,anC] at h2
 split at h2
 ·rename_i e
  rw[←e,gZ,hx]
  split at h2
  ·simp only[aoW,aoo,eQ] at h2
   exact h2.1
  ·simp at h2
 ·rwa [←gZ] at h2
theorem aa3 {n x:Int} {r:Row} {q:Nat} (h:Bh n r) (hx:(cR r)[q]? =some x):0≤x∧x<n:=h.2 x (dJ hx)
theorem U9 {n x:Int} {r:Row} (h:Bh n r) (h0:0≤x) (h1:x<n):x<64*((r.length:Nat):Int):=by
 rw[h.1];unfold words;omega
def Kr (T:Rows) (lf:Row) (x:Int):Bool:=!(oB (T.getD x.toNat []) lf)
def ac0 (lf:Row) (x:Int):Row:=lf.set (x/64).toNat (lf.getD (x/64).toNat 0#64 &&& ~~~((1#64) <<< ((BitVec.ofInt 64 (x%64)).toNat:Int).toNat))
def Ap (T:Rows):Nat→Row→List Int→List Int×Int
 |0,_,os=>(os,0)
 |k+1,lf,os=>if eF (Kr T lf) (cR lf)<0 then ([],7) else Ap T k (ac0 lf ((cR lf).getD (eF (Kr T lf) (cR lf)).toNat 0)) (os++[(cR lf).getD (eF (Kr T lf) (cR lf)).toNat 0])
def qN (n:Int):List Int→Row→Option Row
 |[],lf=>some lf
 |x::r,lf=>if x<0∨n≤x∨fe lf x=true then none else qN n r (dY lf x)
def du (n:Int) (rs:Rows) (nd:List Int):List Int×Int:=match qN n nd (dX n) with
 |none=>([],1)
 |some lf=>Ap (gF n rs) nd.length lf []
section
variable {n:Int} {rs T:Rows} {nd os:List Int} {lf:Row} {j:Nat} {x:Int} {y:BitVec 64}
theorem YA (h:qN n nd (dX n)=qN n (nd.drop j) lf) (hx:nd[((j:Nat):Int).toNat]? =some x) (h0:0≤x) (h1:x<n) (h2:fe lf x=false):qN n nd (dX n)=qN n (nd.drop (j+1)) (dY lf x):=by
 rw[dZ] at hx
 obtain⟨hj,pT⟩:=ef.1 hx
 rw[h,anb hj,pT]
 show (if _ then _ else _)=_
 rw[amn (by rintro(h3|h3|h3);omega;omega;rw[h2] at h3;cases h3)]
theorem Kv (h:qN n nd (dX n)=qN n (nd.drop j) lf) (hx:nd[((j:Nat):Int).toNat]? =some x) (h1:x<0∨n≤x∨fe lf x=true):du n rs nd=([],1):=by
 rw[dZ] at hx
 obtain⟨hj,pT⟩:=ef.1 hx
 rw[anb hj,pT] at h
 have:qN n nd (dX n)=none:=by
  rw[h];show (if _ then _ else _)=_;rw[aml h1]
 unfold du;rw[this]
theorem Ue (h:qN n nd (dX n)=qN n (nd.drop j) lf) (hj:nd.length≤j):du n rs nd=Ap (gF n rs) (nd.length-([]:List Int).length) lf []:=by
 rw[List.drop_of_length_le hj] at h
 unfold du;rw[h];rfl
theorem adU (h:du n rs nd=Ap (gF n rs) (nd.length-os.length) lf os) (hl:os.length<nd.length) (hi:eF (Kr (gF n rs) lf) (cR lf)<0):du n rs nd=([],7):=by
 rw[h,show nd.length-os.length=(nd.length-os.length-1)+1 from by omega]
 show (if _ then _ else _)=_
 rw[aml hi]
theorem Yz (h:du n rs nd=Ap (gF n rs) (nd.length-os.length) lf os) (hl:os.length<nd.length) (hi:¬eF (Kr (gF n rs) lf) (cR lf)<0) (hx:(cR lf)[(eF (Kr (gF n rs) lf) (cR lf)).toNat]? =some x) (hy:lf[(x/64).toNat]? =some y):
  du n rs nd=Ap (gF n rs) (nd.length-(os++[x]).length) (lf.set (x/64).toNat (y &&& ~~~((1#64) <<< ((BitVec.ofInt 64 (x%64)).toNat:Int).toNat))) (os++[x]):=by
 have e1:(cR lf).getD (eF (Kr (gF n rs) lf) (cR lf)).toNat 0=x:=by rw[gZ,hx];rfl
 have e2:lf.getD (x/64).toNat 0#64=y:=by rw[gZ,hy];rfl
 rw[h,show nd.length-os.length=(nd.length-os.length-1)+1 from by omega]
 show (if _ then _ else _)=_
 rw[amn hi,e1,gf,iB,gm,show nd.length-(os.length+(0+1))=nd.length-os.length-1 from by omega]
 unfold ac0
 rw[e2]
theorem aaf (h:du n rs nd=Ap (gF n rs) (nd.length-os.length) lf os) (hl:nd.length≤os.length):du n rs nd=(os,0):=by
 rw[h,show nd.length-os.length=0 from by omega];rfl
theorem Kt:∀(k:Nat) (lf:Row) (os:List Int),(Ap T k lf os).1.length≤os.length+k
 |0,_,_=>amk _
 |k+1,lf,os=>by
  show (if _ then _ else _:List Int×Int).1.length≤_
  split
  ·exact anB _
  ·refine Nat.le_trans (Kt k _ _) ?_
   rw[gf,iB,gm];omega
theorem Ku:(du n rs nd).1.length≤nd.length:=by
 unfold du
 split
 ·exact anB _
 ·refine Nat.le_trans (Kt _ _ _) ?_
  simp
end
theorem ad5 {I:List aH} {U:List Int} {o:Int} (hn:I.length≤64):bF ((I.length:Nat):Int) (cQ I U o)=true:=by
 unfold cQ;exact ll aq
theorem Za {l:List Int} {p:Int→Bool}:(aZ p l).length≤l.length:=by unfold aZ;exact anh _ _
theorem uk {n:Int} {rs:Rows} (h:bF n rs=true) (o:Int) (p:Int→Bool):(aZ p (bL n rs o)).length≤4096:=Nat.le_trans Za (um h o)
theorem Q4 {n:Int} {rs:Rows} (h:bF n rs=true) (o:Int) (p:Int→Bool):(du n rs (aZ p (bL n rs o))).1.length≤4096:=Nat.le_trans Ku (uk h o p)
theorem HX {I:List aH} {mn n2:Int} {rs m2:Rows} {es:List dU} {q:Nat} (Bt:mn=((I.length:Nat):Int)) (h:bF mn rs=true) (he:n5 I.length es) (h2:n2=mn∧m2=lT mn rs (es.take q)):bF n2 m2=true:=by
 obtain⟨rfl,rfl⟩:=h2
 subst Bt
 exact zd h fun e SB=>he e (anz SB)
theorem Rq:bF 0 []=true:=by decide
end Go.Ew
namespace Go.Ew
def pf (n:Nat) (p:Nat→Nat→Bool):Nat→Nat→Nat→List Nat→Prop
 |0,a,b,w=>a=b∧w=[a]
 |L+1,a,b,w=>∃k v,k<n∧p a k=true∧pf n p L k b v∧w=a::v
def IP:List Nat→List Nat→Prop
 |a::x,b::y=>a<b∨(a=b∧IP x y)
 |_,_=>False
def slt (x y:List Nat):Prop:=x.length<y.length∨(x.length=y.length∧IP x y)
def sle (x y:List Nat):Prop:=x=y∨slt x y
section
variable {n:Nat} {p:Nat→Nat→Bool}
theorem Gi:∀x,¬IP x x
 |[],h=>h
 |a::x,h=>by
  rcases h with h|⟨-,h⟩
  ·exact an7 _ h
  ·exact Gi x h
theorem IN:∀{x y z:List Nat},IP x y→IP y z→IP x z
 |a::x,b::y,c::z,h,k=>by
  rcases h with h|⟨rfl,h⟩
  ·rcases k with k|⟨rfl,k⟩
   ·exact .inl (apr h k)
   ·exact .inl h
  ·rcases k with k|⟨rfl,k⟩
   ·exact .inl k
   ·exact .inr ⟨J,IN h k⟩
 |[],_,_,h,_=>h.elim
 |_::_,[],_,h,_=>h.elim
 |_::_,_::_,[],_,k=>k.elim
theorem AS:∀{x y:List Nat} {a b:Nat},x.length=y.length→(IP x y∨(x=y∧a<b))→IP (x++[a]) (y++[b])
 |[],[],a,b,_,h=>by
  rcases h with h|⟨-,h⟩
  ·exact h.elim
  ·exact .inl h
 |c::x,d::y,a,b,hl,h=>by
  have hl':x.length=y.length:=by simpa using hl
  rcases h with (h|⟨rfl,h⟩)|⟨h,k⟩
  ·exact .inl h
  ·exact .inr ⟨J,AS hl' (.inl h)⟩
  ·cases h;exact .inr ⟨rfl,AS hl' (.inr ⟨rfl,k⟩)⟩
theorem Pa (x:List Nat):¬slt x x:=by
 rintro(h|⟨-,h⟩)
 ·exact an7 _ h
 ·exact Gi x h
theorem Iw {x y z:List Nat} (h:slt x y) (k:slt y z):slt x z:=by
 rcases h with h|⟨h1,h2⟩<;>rcases k with k|⟨k1,k2⟩
 ·exact .inl aq
 ·exact .inl aq
 ·exact .inl aq
 ·exact .inr ⟨by omega,IN h2 k2⟩
theorem BS {x y z:List Nat} (h:sle x y) (k:sle y z):sle x z:=by
 rcases h with rfl|h
 ·exact k
 ·rcases k with rfl|k
  ·exact .inr h
  ·exact .inr (Iw h k)
theorem KE {x y:List Nat} (h:sle x y) (k:sle y x):x=y:=by
 rcases h with rfl|h
 ·rfl
 ·rcases k with rfl|k
  ·rfl
  ·exact absurd (Iw h k)<|Pa _
theorem KC {x y:List Nat} (a b:Nat) (h:slt x y):slt (x++[a]) (y++[b]):=by
 rcases h with h|⟨h1,h2⟩
 ·exact .inl (by simp;omega)
 ·exact .inr ⟨by simp;omega,AS h1 (.inl h2)⟩
theorem Uh {x:List Nat} {a b:Nat} (h:a<b):slt (x++[a]) (x++[b]):=.inr ⟨by simp,AS rfl (.inr ⟨rfl,h⟩)⟩
theorem KD {x y:List Nat} (a:Nat) (h:sle x y):sle (x++[a]) (y++[a]):=by
 rcases h with rfl|h
 ·exact .inl rfl
 ·exact .inr (KC a a h)
theorem ND {x y:List Nat} (h:sle x y):x.length≤y.length:=by
 rcases h with rfl|h|⟨h, -⟩<;>omega
theorem Uj {x y:List Nat} (a:Nat) (h:sle x y):sle (a::x) (a::y):=by
 rcases h with rfl|h|⟨h1,h2⟩
 ·exact .inl rfl
 ·exact .inr (.inl (by simp;omega))
 ·exact .inr (.inr ⟨by simp;omega,.inr ⟨J,h2⟩⟩)
theorem kS:∀{L a b:Nat} {w:List Nat},pf n p L a b w→w.length=L+1
 |0,a,b,w,h=>by rw[h.2];rfl
 |L+1,a,b,w,h=>by
  obtain⟨k,v,_,_,h,rfl⟩:=h
  rw[iB,kS h]
theorem Al:∀{L a b:Nat} {w:List Nat},pf n p L a b w→w[0]? =some a
 |0,a,b,w,h=>by rw[h.2];rfl
 |L+1,a,b,w,h=>by
  obtain⟨k,v,_,_,h,rfl⟩:=h
  rfl
theorem wx:∀{L a b:Nat} {w:List Nat},pf n p L a b w→w[L]? =some b
 |0,a,b,w,h=>by rw[h.2,h.1];rfl
 |L+1,a,b,w,h=>by
  obtain⟨k,v,_,_,h,rfl⟩:=h
  have:=wx h
  simpa using this
theorem EB:∀{L a b c:Nat} {w:List Nat},pf n p L a b w→c<n→p b c=true→pf n p (L+1) a c (w++[c])
 |0,a,b,c,w,h,hc,hp=>by
  obtain⟨rfl,rfl⟩:=h
  exact⟨c,[c],hc,hp,⟨J,J⟩,J⟩
 |L+1,a,b,c,w,h,hc,hp=>by
  obtain⟨k,v,h1,h2,h,rfl⟩:=h
  exact⟨k,v++[c],h1,h2,EB h hc hp,J⟩
theorem sC:∀{L a c:Nat} {w:List Nat},pf n p (L+1) a c w→∃b v,pf n p L a b v∧p b c=true∧c<n∧w=v++[c]
 |0,a,c,w,h=>by
  obtain⟨k,v,h1,h2,⟨rfl,rfl⟩,rfl⟩:=h
  exact⟨a,[a],⟨J,J⟩,h2,h1,J⟩
 |L+1,a,c,w,h=>by
  obtain⟨k,v,h1,h2,h,rfl⟩:=h
  obtain⟨b,u,h3,h4,h5,rfl⟩:=sC h
  exact⟨b,a::u,⟨k,u,h1,h2,h3,J⟩,h4,h5,J⟩
theorem Dc {L a b:Nat} {w:List Nat} (h:pf n p L a b w) (ha:a<n):∀x∈w,x<n:=by
 induction L generalizing a w with
 |zero=>obtain⟨rfl,rfl⟩:=h;simpa using ha
 |succ L ih=>
  obtain⟨k,v,h1,h2,h,rfl⟩:=h
  intro x hx
  rcases amz.1 hx with rfl|hx
  ·exact ha
  ·exact ih h h1 x hx
theorem BI:∀{L a b t:Nat} {w:List Nat} {x:Nat},pf n p L a b w→w[t]? =some x→(∃u,pf n p t a x u)∧∃v,pf n p (L-t) x b v
 |L,a,b,0,w,x,h,hx=>by
  rw[Al h] at hx;cases hx
  exact⟨⟨[a],J,J⟩,w,h⟩
 |0,a,b,t+1,w,x,h,hx=>by obtain⟨rfl,rfl⟩:=h;simp at hx
 |L+1,a,b,t+1,w,x,h,hx=>by
  obtain⟨k,v,h1,h2,h,rfl⟩:=h
  obtain⟨⟨u,hu⟩,v',hv⟩:=BI h (by simpa using hx)
  exact⟨⟨a::u,k,u,h1,h2,hu,J⟩,v',by rwa [show L+1-(t+1)=L-t from by omega]⟩
theorem Kh:∀{L M a b c:Nat} {u v:List Nat},pf n p L a b u→pf n p M b c v→∃w,pf n p (L+M) a c w
 |0,M,a,b,c,u,v,h,k=>by obtain⟨rfl,rfl⟩:=h;exact⟨v,by rwa [am2]⟩
 |L+1,M,a,b,c,u,v,h,k=>by
  obtain⟨x,u',h1,h2,h,rfl⟩:=h
  obtain⟨w,hw⟩:=Kh h k
  exact⟨a::w,by rw[show L+1+M=(L+M)+1 from by omega];exact⟨x,w,h1,h2,hw,J⟩⟩
def U {α:Type} (f:Nat→Option α):Nat→Option α
 |0=>none
 |k+1=>match U f k with
  |some x=>some x
  |none=>f k
theorem Dw {α:Type} {f:Nat→Option α} {x:α}:∀{n:Nat},U f n=some x→∃k,k<n∧f k=some x∧∀j,j<k→f j=none
 |k+1,h=>by
  unfold U at h
  have oC:∀m,U f m=none→∀j,j<m→f j=none:=by
   intro m
   induction m with
   |zero=>intro _ j hj;omega
   |succ m ih=>
    intro hm j hj
    unfold U at hm
    cases h1:U f m with
    |some y=>rw[h1] at hm;cases hm
    |none=>
     rw[h1] at hm
     rcases anX.1 hj with hj|rfl
     ·exact ih h1 j hj
     ·exact hm
  cases h1:U f k with
  |some y=>
   rw[h1] at h;cases h
   obtain⟨j,h2,h3,h4⟩:=Dw h1
   exact⟨j,by omega,h3,h4⟩
  |none=>rw[h1] at h;exact⟨k,by omega,h,oC k h1⟩
theorem HN {α:Type} {f:Nat→Option α}:∀{n:Nat},U f n=none→∀j,j<n→f j=none
 |m+1,hm,j,hj=>by
  unfold U at hm
  cases h1:U f m with
  |some y=>rw[h1] at hm;cases hm
  |none=>
   rw[h1] at hm
   rcases anX.1 hj with hj|rfl
   ·exact HN h1 j hj
   ·exact hm
theorem ae_ {α:Type} {f:Nat→Option α} {x:α} {n k:Nat} (hk:k<n) (h:f k=some x) (hj:∀j,j<k→f j=none):U f n=some x:=by
 cases h1:U f n with
 |none=>rw[HN h1 k hk] at h;cases h
 |some y=>
  obtain⟨m,_,h3,h4⟩:=Dw h1
  rcases aoR m k with hm|rfl|hm
  ·rw[hj m hm] at h3;cases h3
  ·rw[h3] at h;rw[h]
  ·rw[h4 k hm] at h;cases h
def wl (n:Nat) (p:Nat→Nat→Bool):Nat→Nat→Nat→Option (List Nat)
 |0,a,b=>if a=b then some [a] else none
 |L+1,a,b=>U (fun k=>if p a k=true then (wl n p L k b).map (a::·) else none) n
theorem Dd:∀{L a b:Nat},wl n p L a b=none→∀w,¬pf n p L a b w
 |0,a,b,h,w,hw=>by obtain⟨rfl,rfl⟩:=hw;unfold wl at h;simp at h
 |L+1,a,b,h,w,hw=>by
  obtain⟨k,v,h1,h2,h3,rfl⟩:=hw
  have h4:=HN h k h1
  rw[aml h2,Option.map_eq_none_iff] at h4
  exact Dd h4 v h3
theorem zi:∀{L a b:Nat} {w:List Nat},wl n p L a b=some w→pf n p L a b w∧∀v,pf n p L a b v→sle w v
 |0,a,b,w,h=>by
  unfold wl at h
  split at h
  ·rename_i e;cases h;exact⟨⟨e,rfl⟩,fun v hv=>.inl hv.2.symm⟩
  ·cases h
 |L+1,a,b,w,h=>by
  obtain⟨k,h1,h2,h3⟩:=Dw h
  have hp:p a k=true:=by
   cases hp:p a k with
   |true=>rfl
   |false=>rw[hp] at h2;simp at h2
  rw[aml hp,amI] at h2
  obtain⟨u,h2,rfl⟩:=h2
  obtain⟨h4,h5⟩:=zi h2
  refine⟨⟨k,u,h1,hp,h4,J⟩,?_⟩
  rintro v ⟨m,v,k1,k2,k3,rfl⟩
  rcases aoR m k with hm|rfl|hm
  ·have:=h3 m hm
   rw[aml k2,Option.map_eq_none_iff] at this
   exact absurd k3<|Dd this v
  ·exact Uj a<|h5 v k3
  ·refine .inr (.inr ⟨by simp[kS h4,kS k3],.inr ⟨J,?_⟩⟩)
   have e1:=Al h4;have e2:=Al k3
   cases u with
   |nil=>simp at e1
   |cons x u=>
    cases v with
    |nil=>simp at e2
    |cons y v=>
     simp at e1 e2
     subst e1;subst e2
     exact .inl hm
def Ek (n:Nat) (p:Nat→Nat→Bool) (a b:Nat):Option (List Nat):=U (fun L=>wl n p (L+1) a b) n
def Il (n:Nat) (p:Nat→Nat→Bool) (a b:Nat) (w:List Nat):Prop:=(∃L,pf n p (L+1) a b w)∧∀L v,pf n p (L+1) a b v→sle w v
theorem La:∀{n:Nat} {l:List Nat},l.Nodup→(∀x∈l,x<n)→l.length≤n
 |0,l,_,h=>by
  cases l with
  |nil=>simp
  |cons x l=>exact absurd (h x am4) aq
 |n+1,l,hd,h=>by
  have h1:(l.filter (fun x=>decide (x≠n))).length≤n:=La (aoK List.filter_sublist hd) fun x hx=>by
   have:=amA.1 hx
   have h2:=h x this.1
   have h3:=am3 this.2
   omega
  have h2:∀l:List Nat,l.Nodup→l.length≤(l.filter (fun x=>decide (x≠n))).length+1:=by
   intro l
   induction l with
   |nil=>simp
   |cons a l ih=>
    intro hd
    have hd:=anm.1 hd
    by_cases ha:a=n
    ·subst ha
     have hf:l.filter (fun x=>decide (x≠a))=l:=ao9.2 (fun x hx=>amp (fun (e:x=a)=>hd.1 (by rw[←e];exact hx)))
     rw[List.filter_cons_of_neg (by simp),hf]
     simp
    ·rw[List.filter_cons_of_pos (by simpa using ha)]
     have:=ih hd.2
     simp only[iB];omega
  have:=h2 l hd
  omega
theorem Wf {a b:Nat} {w:List Nat} (h:Il n p a b w) {s t x:Nat} (qq:s<t) (hs:w[s]? =some x) (ht:w[t]? =some x):s=0∧t+1=w.length:=by
 obtain⟨⟨L,hw⟩,hl⟩:=h
 have hlen:=kS hw
 have Oj:t<w.length:=(ef.1 ht).1
 obtain⟨⟨u,hu⟩, -⟩:=BI hw hs
 obtain⟨-,v,hv⟩:=BI hw ht
 obtain⟨y,hy⟩:=Kh hu hv
 refine amZ fun hc=>?_
 have Cu:∃M,s+(L+1-t)=M+1:=⟨s+(L+1-t)-1,by omega⟩
 obtain⟨M,hM⟩:=Cu
 rw[hM] at hy
 have h1:=ND<|hl _ _ hy
 have h2:=kS hy
 omega
theorem FD {a b:Nat} {w:List Nat} (h:Il n p a b w) (ha:a<n):w.length≤n+1:=by
 have h0:=h
 obtain⟨⟨L,hw⟩,hl⟩:=h
 have hlen:=kS hw
 have hm:=Dc hw ha
 have hd:w.dropLast.Nodup:=by
  rw[List.nodup_iff_pairwise_ne,List.pairwise_iff_getElem]
  intro i j hi hj I4 e
  rw[List.length_dropLast] at hi hj
  rw[List.getElem_dropLast,List.getElem_dropLast] at e
  have:=Wf h0 I4 (eP aq)<|by rw[e];exact eP aq
  omega
 have:=La hd fun x hx=>hm x (List.dropLast_subset _ hx)
 rw[List.length_dropLast] at this
 omega
theorem Wg {a b:Nat} {w:List Nat} (h:Il n p a b w) (ha:a<n):Ek n p a b=some w:=by
 have hlen:=FD h ha
 have h0:=h
 obtain⟨⟨L,hw⟩,hl⟩:=h
 have hwl:=kS hw
 have aek:wl n p (L+1) a b=some w:=by
  cases h1:wl n p (L+1) a b with
  |none=>exact absurd hw (Dd h1 w)
  |some v=>
   obtain⟨h2,h3⟩:=zi h1
   rw[KE (h3 _ hw) (hl _ _ h2)]
 refine ae_ (k:=L) aq aek fun j hj=>?_
 cases h1:wl n p (j+1) a b with
 |none=>rfl
 |some v=>
  have h2:=ND<|hl _ _ (zi h1).1
  have h3:=kS (zi h1).1
  omega
theorem FB {a b:Nat} {w:List Nat} (h:Ek n p a b=some w):Il n p a b w:=by
 obtain⟨L,h1,h2,h3⟩:=Dw h
 obtain⟨h4,h5⟩:=zi h2
 refine⟨⟨L,h4⟩,fun M v hv=>?_⟩
 rcases aoR M L with hm|rfl|hm
 ·exact absurd hv<|Dd (h3 M hm) v
 ·exact h5 v hv
 ·exact .inr (.inl (by rw[kS h4,kS hv];omega))
theorem ac9 {a b:Nat} (h:∀L w,¬pf n p (L+1) a b w):Ek n p a b=none:=by
 cases h1:Ek n p a b with
 |none=>rfl
 |some w=>obtain⟨⟨L,h2⟩,_⟩:=FB h1;exact absurd h2 (h L w)
end
end Go.Ew
namespace Go.Ew
structure Bk (bs:List Int) (i j:Int) (w:List Int):Prop where
 head:w[0]? =some i
 last:w[w.length-1]? =some j
 len:2≤w.length
 Jj:∀t x y,w[t]? =some x→w[t+1]? =some y→bs[y.toNat]? =some x
 ne:∀t,1≤t→t+1<w.length→w[t]?≠some i
 rng:∀x∈w,0≤x∧x<(bs.length:Int)
theorem afd {bs:List Int} {i j:Int} {w v:List Int} (h:Bk bs i j w) (k:Bk bs i j v):w=v:=by
 have key:∀s,s<w.length→s<v.length→w[w.length-1-s]? =v[v.length-1-s]?:=by
  intro s
  induction s with
  |zero=>intro _ _;rw[ao1,ao1,h.last,k.last]
  |succ s ih=>
   intro h1 h2
   have e:=ih aq aq
   have a1:w[w.length-1-(s+1)]? =some w[w.length-1-(s+1)]:=eP aq
   have a2:v[v.length-1-(s+1)]? =some v[v.length-1-(s+1)]:=eP aq
   have b1:w[w.length-1-s]? =some w[w.length-1-s]:=eP aq
   have b2:v[v.length-1-s]? =some v[v.length-1-s]:=eP aq
   have c1:=h.Jj _ _ _ a1<|by rw[show w.length-1-(s+1)+1=w.length-1-s from by omega];exact b1
   have c2:=k.Jj _ _ _ a2<|by rw[show v.length-1-(s+1)+1=v.length-1-s from by omega];exact b2
   rw[b1,b2] at e
   rw[amo e,c2] at c1
   rw[a1,a2,c1]
 have hl:w.length=v.length:=by
  refine amZ fun gE=>?_
  have l1:=h.len;have l2:=k.len
  rcases Nat.lt_or_gt_of_ne gE with hc|hc
  ·have:=key (w.length-1) aq aq
   rw[anj,h.head] at this
   exact k.ne _ aq aq this.symm
  ·have:=key (v.length-1) aq aq
   rw[anj,k.head] at this
   exact h.ne _ aq aq this
 apply amQ
 intro s
 by_cases hs:s<w.length
 ·have:=key (w.length-1-s) aq aq
  rwa [show w.length-1-(w.length-1-s)=s from by omega,show v.length-1-(w.length-1-s)=s from by omega] at this
 ·rw[amv aq,amv aq]
open Classical in
noncomputable def u1 (bs:List Int) (i j:Int):List Int:=if h:∃w,Bk bs i j w then Classical.choose h else []
theorem ac7 {bs:List Int} {i j:Int} {w:List Int} (h:Bk bs i j w):u1 bs i j=w:=by
 have hh:∃w,Bk bs i j w:=⟨w,h⟩
 unfold u1
 rw[dif_pos hh]
 exact afd (Classical.choose_spec hh) h
section
variable {bs:List Int} {i j:Int} {w:List Int} (h:Bk bs i j w)
include h
theorem V6 {x:Int} (hx:bs[j.toNat]? =some x):w[w.length-1-1]? =some x:=by
 have l1:=h.len
 have a1:w[w.length-1-1]? =some w[w.length-1-1]:=eP aq
 have:=h.Jj _ _ _ a1<|by rw[show w.length-1-1+1=w.length-1 from by omega];exact h.last
 rw[hx] at this
 rw[a1,amo this]
theorem ZM:[j]=(w.drop (w.length-1)).reverse:=by
 have l1:=h.len
 have h2:=h.last
 rw[eP aq] at h2
 rw[anb aq,show w.length-1+1=w.length from by omega,List.drop_length,amo h2];rfl
theorem OQ {t:Nat} {x:Int} {l:List Int} (ht:1≤t) (Oj:t<w.length) (hx:w[t-1]? =some x) (hl:l=(w.drop t).reverse):l++[x]=(w.drop (t-1)).reverse:=by
 have h1:t-1<w.length:=by omega
 rw[eP h1] at hx
 rw[anb h1,show t-1+1=t from by omega,List.reverse_cons,←hl,amo hx]
theorem ZL {t:Nat} {x:Int} (ht:1≤t) (Oj:t<w.length) (hx:w[t-1]? =some x) (e:x=i):t=1:=by
 refine amZ fun gE=>?_
 exact h.ne (t-1) aq aq<|by rw[hx,e]
theorem ac6 {t:Nat} {x:Int} {l:List Int} (ht:1≤t) (Oj:t<w.length) (hx:w[t-1]? =some x) (e:x=i) (hl:l=(w.drop t).reverse):(l++[x]).reverse=w:=by
 have h1:=ZL h ht Oj hx e
 rw[OQ h ht Oj hx hl,List.reverse_reverse,h1];rfl
theorem X8 {t:Nat} {x:Int} (ht:1≤t) (hx:w[t-1]? =some x) (e:¬x=i):1≤t-1:=by
 refine amZ fun gE=>?_
 rw[show t-1=0 from by omega,h.head] at hx
 exact e (amo hx).symm
theorem ZN {t:Nat} {x y:Int} (ht:1≤t) (Oj:t<w.length) (hx:w[t-1]? =some x) (e:¬x=i) (hy:bs[x.toNat]? =some y):w[t-1-1]? =some y:=by
 have h1:=X8 h ht hx e
 have a1:w[t-1-1]? =some w[t-1-1]:=eP aq
 have:=h.Jj _ _ _ a1<|by rw[show t-1-1+1=t-1 from by omega];exact hx
 rw[hy] at this
 rw[a1,amo this]
theorem TF {t:Nat} {x:Int} (hx:w[t]? =some x):0≤x∧x<(bs.length:Int):=h.rng x (dJ hx)
end
def oU (n:Nat) (p:Nat→Nat→Bool) (a:Nat):List Nat:=(List.range n).filter (p a)
def jX (w:List Nat) (k:Nat):Prop:=w.getLast?=some k
def Dn (n:Nat) (p:Nat→Nat→Bool) (E:List (List Nat)) (c t:Nat) (u:List Nat) (k:Nat):Prop:=
 ∃a,jX u a∧k∈oU n p a∧((∃s,s<c∧E[s]? =some u)∨(E[c]? =some u∧k∈(oU n p a).take t))
structure Tr (n:Nat) (p:Nat→Nat→Bool) (i:Nat) (bs:List Int) (w:List Nat):Prop where
 wk:∃L b,pf n p L i b w
 Jj:∀s x y,w[s]? =some x→w[s+1]? =some y→bs[y]? =some ((x:Nat):Int)
 ne:∀s x,1≤s→w[s]? =some x→x≠i
structure u9 (n:Nat) (p:Nat→Nat→Bool) (i j:Nat) (bs:List Int) (E:List (List Nat)) (c t:Nat):Prop where
 len:bs.length=n
 hd:E[0]? =some [i]
 X6:c≤E.length
 inc:∀(s u:Nat) (a b:List Nat),s<u→E[s]? =some a→E[u]? =some b→slt a b
 tr:∀w∈E,Tr n p i bs w
 dn:∀w∈E,w=[i]∨∃u k,w=u++[k]∧Dn n p E c t u k
 al:∀u k,Dn n p E c t u k→k≠j∧(k≠i→∃w∈E,jX w k∧sle w (u++[k]))
 OP:∀k v,bs[k]? =some v→v≠ -1→k≠j∧(k≠i→∃w∈E,jX w k)
section
variable {n:Nat} {p:Nat→Nat→Bool} {i j:Nat} {bs:List Int} {E:List (List Nat)} {c t:Nat}
theorem tT {a k:Nat}:k∈oU n p a↔k<n∧p a k=true:=by unfold oU;simp[amA]
theorem YB {a s u x y:Nat} (hsu:s<u) (hx:(oU n p a)[s]? =some x) (hy:(oU n p a)[u]? =some y):x<y:=by
 have h0:(oU n p a).Pairwise (·<·):=List.Pairwise.filter _ List.pairwise_lt_range
 have h1:=(ef.1 hx);have h2:=(ef.1 hy)
 have:=(List.pairwise_iff_getElem.1 h0) s u h1.1 h2.1 hsu
 rw[h1.2,h2.2] at this;exact this
theorem Gr (u:List Nat) (k:Nat):jX (u++[k]) k:=by unfold jX;simp
theorem yc {L a b:Nat} {w:List Nat} (h:pf n p L a b w):jX w b:=by
 unfold jX
 rw[List.getLast?_eq_getElem?,kS h]
 exact wx h
theorem se {w:List Nat} {a b:Nat} (h:jX w a) (k:jX w b):a=b:=by unfold jX at h k;rw[h] at k;exact amo k
theorem TH (hi:i<n):u9 n p i j (List.replicate n (-1)) [[i]] 0 0 where
 len:=by simp
 hd:=rfl
 X6:=by simp
 inc:=by
  intro s u a b hsu ha hb
  have h2:=(ef.1 hb).1
  simp at h2;omega
 tr:=by
  intro w hw
  rw[anw.1 hw]
  refine⟨⟨0,i,J,J⟩,?_,?_⟩
  ·intro s x y _ hy;simp at hy
  ·intro s x hs hx
   have h2:=(ef.1 hx).1
   simp at h2;omega
 dn:=by intro w hw;exact .inl (anw.1 hw)
 al:=by
  rintro u k ⟨a,_,_,⟨s,hs,_⟩|⟨_,hk⟩⟩
  ·omega
  ·simp at hk
 OP:=by
  intro k v hk hv
  have h2:=ef.1 hk
  obtain⟨h3,h4⟩:=h2
  simp at h4
  exact absurd h4.symm hv
theorem Wa {u:List Nat} {a:Nat} (h:u9 n p i j bs E c t) (hu:E[c]? =some u) (ha:jX u a) (ht:(oU n p a).length≤t):u9 n p i j bs E (c+1) 0:=by
 have hD:∀v k,Dn n p E (c+1) 0 v k↔Dn n p E c t v k:=by
  intro v k
  constructor
  ·rintro⟨b,h1,h2,⟨s,hs,h3⟩|⟨_,h3⟩⟩
   ·rcases anX.1 hs with hs|rfl
    ·exact⟨b,h1,h2,.inl ⟨s,hs,h3⟩⟩
    ·rw[hu] at h3;cases h3
     obtain rfl:=se ha h1
     exact⟨a,h1,h2,.inr ⟨hu,by rwa [amr ht]⟩⟩
   ·simp at h3
  ·rintro⟨b,h1,h2,⟨s,hs,h3⟩|⟨h3,_⟩⟩
   ·exact⟨b,h1,h2,.inl ⟨s,by omega,h3⟩⟩
   ·exact⟨b,h1,h2,.inl ⟨c,by omega,h3⟩⟩
 refine⟨h.len,h.hd,(ef.1 hu).1,h.inc,h.tr,?_,?_,h.OP⟩
 ·intro w hw
  rcases h.dn w hw with e|⟨v,k,e,hd⟩
  ·exact .inl e
  ·exact .inr ⟨v,k,e,(hD v k).2 hd⟩
 ·intro v k hd
  exact h.al v k<|(hD v k).1 hd
theorem TI {u w:List Nat} {a k:Nat} (h:u9 n p i j bs E c t) (hu:E[c]? =some u) (ha:jX u a) (hk:(oU n p a)[t]? =some k) (hw:w∈E):slt w (u++[k]):=by
 have hul:0<u.length:=by
  cases u with
  |nil=>unfold jX at ha;simp at ha
  |cons x u=>simp
 rcases h.dn w hw with rfl|⟨v,m,rfl,b,h1,h2,⟨s,hs,h3⟩|⟨h3,h4⟩⟩
 ·exact .inl (by simp;omega)
 ·exact KC _ _<|h.inc s c v u hs h3 hu
 ·rw[hu] at h3;cases h3
  obtain rfl:=se ha h1
  obtain⟨s,hs⟩:=amB.1 h4
  have qq:s<t:=by
   have:=(ef.1 hs).1
   rw[ij] at this;omega
  rw[amL,aml qq] at hs
  exact Uh<|YB qq hs hk
theorem HR {u v:List Nat} {a k m:Nat} (hu:E[c]? =some u) (ha:jX u a) (hk:(oU n p a)[t]? =some k) (h:Dn n p E c (t+1) v m):Dn n p E c t v m∨(v=u∧m=k):=by
 obtain⟨b,h1,h2,h3|⟨h3,h4⟩⟩:=h
 ·exact .inl ⟨b,h1,h2,.inl h3⟩
 ·rw[hu] at h3;cases h3
  obtain rfl:=se ha h1
  rw[amW,hk] at h4
  rcases amH.1 h4 with h4|h4
  ·exact .inl ⟨a,h1,h2,.inr ⟨hu,h4⟩⟩
  ·exact .inr ⟨J,by simpa using h4⟩
theorem Qw {u:List Nat} {m:Nat} (h:Dn n p E c t u m):Dn n p E c (t+1) u m:=by
 obtain⟨b,h1,h2,h3|⟨h3,h4⟩⟩:=h
 ·exact⟨b,h1,h2,.inl h3⟩
 ·exact⟨b,h1,h2,.inr ⟨h3,by
   obtain⟨s,hs⟩:=amB.1 h4
   have qq:s<t:=by
    have:=(ef.1 hs).1
    rw[ij] at this;omega
   rw[amL,aml qq] at hs
   exact amB.2 ⟨s,by rw[amL,aml aq];exact hs⟩⟩⟩
theorem V7 {u:List Nat} {a k:Nat} {v:Int} (h:u9 n p i j bs E c t) (hu:E[c]? =some u) (ha:jX u a) (hk:(oU n p a)[t]? =some k) (hv:bs[k]? =some v) (kB:v≠ -1):u9 n p i j bs E c (t+1):=by
 refine⟨h.len,h.hd,h.X6,h.inc,h.tr,?_,?_,h.OP⟩
 ·intro w hw
  rcases h.dn w hw with e|⟨v,m,e,hd⟩
  ·exact .inl e
  ·exact .inr ⟨v,m,e,Qw hd⟩
 ·intro v' m hd
  rcases HR hu ha hk hd with hd|⟨rfl,rfl⟩
  ·exact h.al v' m hd
  ·obtain⟨h1,h2⟩:=h.OP m v hv kB
   refine⟨h1,fun hi=>?_⟩
   obtain⟨w,hw,hwl⟩:=h2 hi
   exact⟨w,hw,hwl,.inr (TI h hu ha hk hw)⟩
theorem FX {k:Nat} {x:Int} {w:List Nat} (h:Tr n p i bs w) (hk:bs[k]? =some (-1)):Tr n p i (bs.set k x) w:=by
 refine⟨h.wk,?_,h.ne⟩
 intro s a b ha hb
 have h1:=h.Jj s a b ha hb
 rw[anC]
 split
 ·rename_i e;subst e
  rw[hk] at h1
  have:=amo h1
  omega
 ·exact h1
theorem aff {u:List Nat} {a:Nat} (h:u9 n p i j bs E c t) (I4:i≠j) (hu:E[c]? =some u) (ha:jX u a) (hk:(oU n p a)[t]? =some i) (hv:bs[i]? =some (-1)):u9 n p i j (bs.set i ((a:Nat):Int)) E c (t+1):=by
 refine⟨by rw[ami];exact h.len,h.hd,h.X6,h.inc,fun w hw=>FX (h.tr w hw) hv,?_,?_,?_⟩
 ·intro w hw
  rcases h.dn w hw with e|⟨v,m,e,hd⟩
  ·exact .inl e
  ·exact .inr ⟨v,m,e,Qw hd⟩
 ·intro v m hd
  rcases HR hu ha hk hd with hd|⟨rfl,rfl⟩
  ·exact h.al v m hd
  ·exact⟨I4,fun hi=>absurd rfl hi⟩
 ·intro m v hm kB
  by_cases e:m=i
  ·exact⟨by rw[e];exact I4,fun hi=>absurd e hi⟩
  ·rw[amU aq] at hm
   exact h.OP m v hm kB
theorem Yy {u:List Nat} {a k:Nat} (h:Tr n p i bs u) (ha:jX u a) (hk:k∈oU n p a) (hv:bs[k]? =some (-1)) (zR:k≠i):Tr n p i (bs.set k ((a:Nat):Int)) (u++[k]):=by
 obtain⟨L,b,hw⟩:=h.wk
 obtain rfl:=se ha (yc hw)
 obtain⟨fD,zS⟩:=tT.1 hk
 have hlen:=kS hw
 have h2:=FX (x:=((a:Nat):Int)) h hv
 refine⟨⟨L+1,k,EB hw fD zS⟩,?_,?_⟩
 ·intro s x y hx hy
  have hs:s+1<(u++[k]).length:=(ef.1 hy).1
  rw[gf,an5] at hs
  rw[qK aq] at hx
  by_cases gH:s+1<u.length
  ·rw[qK gH] at hy
   exact h2.Jj s x y hx hy
  ·rw[oR aq,show s+1-u.length=0 from by omega] at hy
   simp at hy;subst hy
   rw[show s=L from by omega,wx hw] at hx
   cases hx
   rw[amC (by have:=(ef.1 hv).1;omega)]
 ·intro s x hs hx
  by_cases gH:s<u.length
  ·rw[qK gH] at hx
   exact h.ne s x hs hx
  ·rw[oR aq] at hx
   have:=(ef.1 hx).1
   simp at this
   rw[show s-u.length=0 from by omega] at hx
   simp at hx;rw[←hx];exact zR
theorem V8 {u:List Nat} {a k:Nat} (h:u9 n p i j bs E c t) (hu:E[c]? =some u) (ha:jX u a) (hk:(oU n p a)[t]? =some k) (hv:bs[k]? =some (-1)) (zR:k≠i) (Om:k≠j):
  u9 n p i j (bs.set k ((a:Nat):Int)) (E++[u++[k]]) c (t+1):=by
 have ru:c<E.length:=(ef.1 hu).1
 have hE:∀s v,s≤c→((E++[u++[k]])[s]? =some v↔E[s]? =some v):=fun s v hs=>by rw[qK aq]
 have hD:∀v m tt,Dn n p (E++[u++[k]]) c tt v m↔Dn n p E c tt v m:=by
  intro v m tt
  constructor
  ·rintro⟨b,h1,h2,⟨s,hs,h3⟩|⟨h3,h4⟩⟩
   ·exact⟨b,h1,h2,.inl ⟨s,hs,(hE s v aq).1 h3⟩⟩
   ·exact⟨b,h1,h2,.inr ⟨(hE c v aq).1 h3,h4⟩⟩
  ·rintro⟨b,h1,h2,⟨s,hs,h3⟩|⟨h3,h4⟩⟩
   ·exact⟨b,h1,h2,.inl ⟨s,hs,(hE s v aq).2 h3⟩⟩
   ·exact⟨b,h1,h2,.inr ⟨(hE c v aq).2 h3,h4⟩⟩
 have I2:k∈oU n p a:=dJ hk
 refine⟨by rw[ami];exact h.len,by rw[qK aq];exact h.hd,by rw[gf];omega,?_,?_,?_,?_,?_⟩
 ·intro s m x y hsm hx hy
  by_cases hm:m<E.length
  ·rw[qK aq] at hx
   rw[qK hm] at hy
   exact h.inc s m x y hsm hx hy
  ·have h1:=(ef.1 hy).1
   rw[gf,an5] at h1
   rw[oR aq,show m-E.length=0 from by omega] at hy
   simp at hy;subst hy
   rw[qK aq] at hx
   exact TI h hu ha hk<|dJ hx
 ·intro w hw
  rcases amH.1 hw with hw|hw
  ·exact FX (h.tr w hw) hv
  ·rw[anw.1 hw]
   exact Yy (h.tr u<|dJ hu) ha I2 hv zR
 ·intro w hw
  rcases amH.1 hw with hw|hw
  ·rcases h.dn w hw with e|⟨v,m,e,hd⟩
   ·exact .inl e
   ·exact .inr ⟨v,m,e,(hD _ _ _).2 (Qw hd)⟩
  ·refine .inr ⟨u,k,anw.1 hw,(hD _ _ _).2 ⟨a,ha,I2,.inr ⟨hu,?_⟩⟩⟩
   exact amB.2 ⟨t,by rw[amL,aml aq];exact hk⟩
 ·intro v m hd
  rcases HR hu ha hk ((hD _ _ _).1 hd) with hd|⟨rfl,rfl⟩
  ·obtain⟨h1,h2⟩:=h.al v m hd
   refine⟨h1,fun hi=>?_⟩
   obtain⟨w,hw,Se⟩:=h2 hi
   exact⟨w,anA _ hw,Se⟩
  ·exact⟨Om,fun _=>⟨v++[m],anu _ (anw.2 J),Gr _ _,.inl rfl⟩⟩
 ·intro m v hm kB
  by_cases e:m=k
  ·subst e
   exact⟨Om,fun _=>⟨u++[m],anu _ (anw.2 J),Gr _ _⟩⟩
  ·rw[amU aq] at hm
   obtain⟨h1,h2⟩:=h.OP m v hm kB
   refine⟨h1,fun hi=>?_⟩
   obtain⟨w,hw,Se⟩:=h2 hi
   exact⟨w,anA _ hw,Se⟩
theorem Mm {u:List Nat} (h:u9 n p i j bs E c t) (hu:E[c]? =some u):∀L b w,pf n p L i b w→sle u w∨∃s v,s<c∧E[s]? =some v∧jX v b∧sle v w
 |0,b,w,hw=>by
  obtain⟨rfl,rfl⟩:=hw
  rcases apf c with rfl|hc
  ·rw[h.hd] at hu;cases hu
   exact .inl (.inl rfl)
  ·exact .inr ⟨0,[i],hc,h.hd,J,.inl rfl⟩
 |L+1,b,w,hw=>by
  obtain⟨d,x,h1,h2,h3,rfl⟩:=sC hw
  have eM:slt x (x++[b]):=.inl (by simp)
  rcases Mm h hu L d x h1 with h4|⟨s,v,hs,hv,Sg,hvx⟩
  ·exact .inl (BS h4<|.inr eM)
  ·obtain⟨h5,h6⟩:=h.al v b ⟨d,Sg,tT.2 ⟨h3,h2⟩,.inl ⟨s,hs,hv⟩⟩
   by_cases xb:b=i
   ·subst xb
    exact .inr ⟨0,[b],by omega,h.hd,J,.inr (.inl (by simp[kS h1]))⟩
   ·obtain⟨y,hy,zJ,hyv⟩:=h6 xb
    have Xb:sle y (x++[b]):=BS hyv (KD b hvx)
    obtain⟨m,hm⟩:=amB.1 hy
    rcases aoR m c with hmc|rfl|hmc
    ·exact .inr ⟨m,y,hmc,hm,zJ,Xb⟩
    ·rw[hu] at hm;cases hm
     exact .inl Xb
    ·exact .inl (BS (.inr (h.inc c m u y hmc hu hm)) Xb)
theorem TJ {u:List Nat} {a:Nat} (h:u9 n p i j bs E c t) (hu:E[c]? =some u) (ha:jX u a) (hk:(oU n p a)[t]? =some j):Il n p i j (u++[j]):=by
 obtain⟨L,b,hw⟩:=(h.tr u (dJ hu)).wk
 obtain rfl:=se ha (yc hw)
 obtain⟨h1,h2⟩:=tT.1 (dJ hk)
 refine⟨⟨L,EB hw h1 h2⟩,fun M v hv=>?_⟩
 obtain⟨d,x,k1,k2,k3,rfl⟩:=sC hv
 rcases Mm h hu M d x k1 with h4|⟨s,y,hs,hy,zJ,Xb⟩
 ·exact KD j h4
 ·exact absurd J (h.al y j ⟨d,zJ,tT.2 ⟨k3,k2⟩,.inl ⟨s,hs,hy⟩⟩).1
theorem OR (h:u9 n p i j bs E E.length 0):∀L b w,pf n p L i b w→∃v∈E,jX v b
 |0,b,w,hw=>by obtain⟨rfl,rfl⟩:=hw;exact⟨[i],dJ h.hd,rfl⟩
 |L+1,b,w,hw=>by
  obtain⟨d,x,h1,h2,h3,rfl⟩:=sC hw
  obtain⟨v,hv,Sg⟩:=OR h L d x h1
  obtain⟨s,hs⟩:=amB.1 hv
  obtain⟨h5,h6⟩:=h.al v b ⟨d,Sg,tT.2 ⟨h3,h2⟩,.inl ⟨s,(ef.1 hs).1,hs⟩⟩
  by_cases xb:b=i
  ·subst xb;exact⟨[b],dJ h.hd,rfl⟩
  ·obtain⟨y,hy,zJ,_⟩:=h6 xb
   exact⟨y,hy,zJ⟩
theorem V9 (h:u9 n p i j bs E E.length 0):Ek n p i j=none:=ac9 fun L w hw=>by
 obtain⟨d,x,h1,h2,h3,rfl⟩:=sC hw
 obtain⟨v,hv,Sg⟩:=OR h L d x h1
 obtain⟨s,hs⟩:=amB.1 hv
 exact(h.al v j ⟨d,Sg,tT.2 ⟨h3,h2⟩,.inl ⟨s,(ef.1 hs).1,hs⟩⟩).1 rfl
end
end Go.Ew
namespace Go.Ew
theorem VT {ys:List Int} {q:Nat} (h:q≤ys.length):(Fv ys q).length=ys.length:=by unfold Fv;simp;omega
theorem IB {xs zs:List Int} {m:Nat} (hx:xs.length=1) (hm:1≤m) (hz:zs.length=m):(xs++zs.drop xs.length).length=m∧(xs++zs.drop xs.length).take 1=List.replicate 1 (xs.headD 0):=by
 obtain⟨a,rfl⟩:=List.length_eq_one_iff.1 hx
 exact⟨by simp;omega,by simp⟩
theorem Uu {ys:List Int} {q m:Nat} {v:Int} (h:ys.take q=List.replicate q v) (hl:ys.length=m) (hq:q<m):(Fv ys q).take (q+min q (ys.length-q))=List.replicate (q+min q (ys.length-q)) v:=by
 unfold Fv
 rw[h,List.take_replicate,←ana,List.replicate_append_replicate,show min (ys.length-q) q=min q (ys.length-q) from Nat.min_comm _ _]
 exact ao4<|by simp
theorem YO {ys:List Int} {q m:Nat} {v:Int} (h:ys.take q=List.replicate q v) (hl:ys.length=m) (hq:q≤m) (hm:m≤q):ys=List.replicate m v:=by
 rw[amr aq] at h
 rw[h,show q=m from by omega]
theorem Hn {n:Int} (h0:0≤n) (h1:n≤4096):(BitVec.ofInt 64 n).toNat=n.toNat:=by
 rw[an4]
 congr 1
 exact Int.emod_eq_of_lt h0<|by show n<18446744073709551616;omega
theorem Y2 {x y:BitVec 64} (h:x=1#64):
  (x >>> 32)*(y >>> 32)+(((x >>> 32)*(y &&& 4294967295#64)+((x &&& 4294967295#64)*(y &&& 4294967295#64)) >>> 32) >>> 32)+(((((x >>> 32)*(y &&& 4294967295#64)+((x &&& 4294967295#64)*(y &&& 4294967295#64)) >>> 32) &&& 4294967295#64)+(x &&& 4294967295#64)*(y >>> 32)) >>> 32)=0#64:=by
 subst h
 have e1:(1#64:BitVec 64) &&& 4294967295#64=1#64:=by decide
 have e2:(1#64:BitVec 64) >>> 32=0#64:=by decide
 have e3:∀z:BitVec 64,1#64*z=z:=fun z=>BitVec.one_mul z
 have e4:∀z:BitVec 64,0#64*z=0#64:=fun z=>BitVec.zero_mul
 have e5:(y &&& 4294967295#64) >>> 32=0#64:=by
  apply anW
  rw[aoj,BitVec.toNat_and,aoc]
  have:=Nat.and_lt_two_pow y.toNat<|show (4294967295#64).toNat<2^32 by decide
  rw[aou this];rfl
 have e6:(y >>> 32) >>> 32=0#64:=by
  apply anW
  rw[aoj,aoj,aoc,aoc]
  have:=y.isLt
  show y.toNat/4294967296/4294967296=0
  omega
 have e7:(0#64:BitVec 64) >>> 32=0#64:=by decide
 have e8:(0#64:BitVec 64) &&& 4294967295#64=0#64:=by decide
 have e9:∀z:BitVec 64,0#64+z=z:=fun z=>BitVec.zero_add z
 rw[e1,e2,e4,e4,e3,e3,e5,e9,e9,e7,e8,e9,e9,e6]
def qL (E:List (List Nat)) (c:Nat):List Int:=(E.drop c).map fun w=>((w.getLastD 0:Nat):Int)
def O0 (n:Nat) (p:Nat→Nat→Bool) (i j:Int) (bs td:List Int):Prop:=∃E c,u9 n p i.toNat j.toNat bs E c 0∧td=qL E c
def Ev (n:Nat) (p:Nat→Nat→Bool) (i j:Int) (bs td:List Int) (x:Int) (q:Nat):Prop:=
 ∃E c u a,u9 n p i.toNat j.toNat bs E c q∧E[c]? =some u∧jX u a∧x=((a:Nat):Int)∧td=qL E (c+1)
section
variable {n:Nat} {p:Nat→Nat→Bool} {i j:Int} {bs td:List Int} {x k v:Int} {q:Nat}
theorem WV {E:List (List Nat)} {c:Nat} (h:(qL E c)[0]? =some x):∃u,E[c]? =some u∧x=((u.getLastD 0:Nat):Int):=by
 unfold qL at h
 rw[amx,amY,amX,amI] at h
 obtain⟨u,h1,h2⟩:=h
 exact⟨u,h1,h2.symm⟩
theorem Oa {w:List Nat} {a:Nat} (h:jX w a):w.getLastD 0=a:=by
 unfold jX at h
 rw[List.getLastD_eq_getLast?,h];rfl
theorem Mn {c t:Nat} {E:List (List Nat)} {u:List Nat} {i j:Nat} (hi:i<n) (h:u9 n p i j bs E c t) (hu:u∈E):∃a,jX u a∧a<n:=by
 obtain⟨L,b,hw⟩:=(h.tr u hu).wk
 exact⟨b,yc hw,Dc hw hi b (dJ<|wx hw)⟩
theorem TL (h0:0≤i) (h1:i.toNat<n):O0 n p i j (List.replicate n (-1)) [i]:=⟨[[i.toNat]],0,TH h1,by simp[qL,amT h0]⟩
theorem ac8 (hi:i.toNat<n) (h:O0 n p i j bs td) (hx:td[0]? =some x):0≤x∧x.toNat<n:=by
 obtain⟨E,c,hb,rfl⟩:=h
 obtain⟨u,hu,rfl⟩:=WV hx
 obtain⟨a,ha,SH⟩:=Mn hi hb (dJ hu)
 rw[Oa ha]
 exact⟨by omega,by omega⟩
theorem ZQ (hi:i.toNat<n) (h:O0 n p i j bs td) (hx:td[0]? =some x):Ev n p i j bs (td.drop 1) x 0:=by
 obtain⟨E,c,hb,rfl⟩:=h
 obtain⟨u,hu,rfl⟩:=WV hx
 obtain⟨a,ha,SH⟩:=Mn hi hb (dJ hu)
 exact⟨E,c,u,a,hb,hu,ha,by rw[Oa ha],by unfold qL;rw[←List.map_drop,anc]⟩
theorem Dm {x:Int} (hk:(vy n (p x.toNat))[q]? =some k):(oU n p x.toNat)[q]? =some k.toNat∧0≤k∧k.toNat<n:=by
 unfold vy rh at hk
 rw[amx,amI] at hk
 obtain⟨m,h1,rfl⟩:=hk
 refine⟨by simpa [oU] using h1,by omega,?_⟩
 have:=(tT.1<|show m∈oU n p x.toNat from dJ h1).1
 omega
theorem Wb (h:Ev n p i j bs td x q) (hk:(vy n (p x.toNat))[q]? =some k) (hv:bs[k.toNat]? =some v) (kB:¬v= -1):Ev n p i j bs td x (q+1):=by
 obtain⟨E,c,u,a,hb,hu,ha,rfl,ht⟩:=h
 obtain⟨h1,h2,h3⟩:=Dm hk
 rw[dZ] at h1
 exact⟨E,c,u,a,V7 hb hu ha h1 hv kB,hu,ha,J,ht⟩
theorem afg (h:Ev n p i j bs td x q) (hk:(vy n (p x.toNat))[q]? =some k) (hv:bs[k.toNat]? =some v) (kB:v= -1) (Om:¬k=j) (zR:k=i) (hj:0≤j):Ev n p i j (bs.set k.toNat x) td x (q+1):=by
 obtain⟨E,c,u,a,hb,hu,ha,rfl,ht⟩:=h
 obtain⟨h1,h2,h3⟩:=Dm hk
 rw[dZ] at h1
 subst zR;subst kB
 exact⟨E,c,u,a,aff hb aq hu ha h1 hv,hu,ha,J,ht⟩
theorem Wc (h:Ev n p i j bs td x q) (hk:(vy n (p x.toNat))[q]? =some k) (hv:bs[k.toNat]? =some v) (kB:v= -1) (Om:¬k=j) (zR:¬k=i) (hj:0≤j) (hi:0≤i):Ev n p i j (bs.set k.toNat x) (td++[k]) x (q+1):=by
 obtain⟨E,c,u,a,hb,hu,ha,rfl,ht⟩:=h
 obtain⟨h1,h2,h3⟩:=Dm hk
 rw[dZ] at h1
 subst kB
 have ru:=(ef.1 hu).1
 refine⟨E++[u++[k.toNat]],c,u,a,V8 hb hu ha h1 hv aq aq,by rw[qK ru];exact hu,ha,J,?_⟩
 unfold qL at ht ⊢
 rw[ao8 aq,anZ,←ht]
 simp only[amJ,List.map_nil,List.getLastD_concat]
 rw[amT h2]
theorem Wd (h:Ev n p i j bs td x q) (hq:(vy n (p x.toNat)).length≤q):O0 n p i j bs td:=by
 obtain⟨E,c,u,a,hb,hu,ha,rfl,ht⟩:=h
 refine⟨E,c+1,Wa hb hu ha ?_,ht⟩
 rw[dZ] at hq
 unfold vy rh at hq
 rw[amS] at hq
 exact hq
theorem OS (h:O0 n p i j bs td) (ht:td=[]):Ek n p i.toNat j.toNat=none:=by
 obtain⟨E,c,hb,rfl⟩:=h
 unfold qL at ht
 rw[List.map_eq_nil_iff,List.drop_eq_nil_iff] at ht
 have hc:c=E.length:=Nat.le_antisymm hb.X6 ht
 subst hc
 exact V9 hb
theorem wc {w:List Nat} {t:Nat}:(rh w)[t]? =some x↔∃m,w[t]? =some m∧x=((m:Nat):Int):=by
 unfold rh
 rw[amx,amI]
 exact⟨fun ⟨m,h1,h2⟩=>⟨m,h1,h2.symm⟩,fun ⟨m,h1,h2⟩=>⟨m,h1,h2.symm⟩⟩
theorem TK (hi:0≤i∧i.toNat<n) (h:Ev n p i j bs td x q) (hk:(vy n (p x.toNat))[q]? =some k) (hv:bs[k.toNat]? =some v) (kB:v= -1) (Om:k=j) (hj:0≤j):
  ∃w,Bk (bs.set k.toNat x) i j (rh w)∧Ek n p i.toNat j.toNat=some w:=by
 obtain⟨E,c,u,a,hb,hu,ha,rfl,ht⟩:=h
 obtain⟨h1,h2,h3⟩:=Dm hk
 rw[dZ] at h1
 subst kB;subst Om
 have hB:=TJ hb hu ha h1
 refine⟨u++[k.toNat],?_,Wg hB hi.2⟩
 have hT:=hb.tr u<|dJ hu
 obtain⟨L,b,hw⟩:=hT.wk
 obtain rfl:=se ha (yc hw)
 have hT2:=FX (x:=((a:Nat):Int)) hT hv
 have hlen:=kS hw
 have zQ:=(ef.1 hv).1
 have Gy:(rh (u++[k.toNat])).length=L+2:=by unfold rh;simp[hlen]
 refine⟨?_,?_,by omega,?_,?_,?_⟩
 ·rw[wc]
  exact⟨i.toNat,by rw[qK aq];exact Al hw,(amT hi.1).symm⟩
 ·rw[Gy,wc]
  exact⟨k.toNat,by rw[oR aq,show L+2-1-u.length=0 from by omega];rfl,(amT h2).symm⟩
 ·intro t y z hy hz
  obtain⟨m,hm,rfl⟩:=wc.1 hy
  obtain⟨r,hr,rfl⟩:=wc.1 hz
  rw[dZ]
  have hs:t+1<(u++[k.toNat]).length:=(ef.1 hr).1
  rw[gf,an5] at hs
  rw[qK aq] at hm
  by_cases gH:t+1<u.length
  ·rw[qK gH] at hr
   exact hT2.Jj t m r hm hr
  ·rw[oR aq,show t+1-u.length=0 from by omega] at hr
   simp only[amw,amu] at hr;subst hr
   rw[show t=L from by omega,wx hw] at hm
   cases hm
   rw[amC zQ]
 ·intro t ht1 Si hc
  rw[Gy] at Si
  obtain⟨m,hm,e⟩:=wc.1 hc
  rw[qK aq] at hm
  exact hT.ne t m ht1 hm aq
 ·intro z hz
  obtain⟨t,ht⟩:=amB.1 hz
  obtain⟨m,hm,rfl⟩:=wc.1 ht
  obtain⟨L2,Se⟩:=hB.1
  have:=Dc Se hi.2 m<|dJ hm
  rw[ami,hb.len]
  omega
theorem R0 {k:Nat} (hv:bs[k]? =some v) (kB:v= -1) (hx:0≤x):(bs.set k x).count (-1)+1=bs.count (-1):=by
 subst kB
 obtain⟨h1,h2⟩:=ef.1 hv
 have Cu:0<bs.count (-1):=List.count_pos_iff.2 (dJ hv)
 rw[List.count_set h1,h2]
 have gE:(x==(-1:Int))=false:=by rw[beq_eq_false_iff_ne];omega
 rw[gE]
 simp
 omega
end
theorem zo {n:Int} {rs:Rows} (h:bF n rs=true) {x:Nat} {r:Row} (hx:rs[x]? =some r):cR r=vy n.toNat (fX rs x):=by rw[oV h hx,xZ]
theorem Gc {bs td:List Int} {k v x:Int} {z:Nat} (hv:bs[k.toNat]? =some v) (kB:v= -1) (hx:0≤x) (hz:bs.count (-1)+td.length≤z):(bs.set k.toNat x).count (-1)+td.length≤z∧(bs.set k.toNat x).count (-1)+(td++[k]).length≤z:=by
 have h:=R0 hv kB hx
 exact⟨by omega,by rw[gf,an5];omega⟩
def fj (n:Int) (rs:Rows) (i j:Int):Option (List Int):=if 0≤i∧i<n∧0≤j∧j<n then (Ek n.toNat (fX rs) i.toNat j.toNat).map rh else none
theorem r8 {n:Int} {rs:Rows} {i j:Int} (h:i<0∨n≤i∨j<0∨n≤j):fj n rs i j=none:=by unfold fj;rw[amn aq]
theorem zw {n:Int} {rs:Rows} {i j:Int} (h:0≤i∧i<n∧0≤j∧j<n):fj n rs i j=(Ek n.toNat (fX rs) i.toNat j.toNat).map rh:=by unfold fj;rw[aml h]
end Go.Ew
namespace Go.Ew
section
variable {n:Nat} {p:Nat→Nat→Bool} {j k s t q i:Nat} {d:List Int} {x y:Int}
variable {a:Nat} {b:Int}
variable {out:List Int} {at_:Int}
end
section
variable {n:Int} {rs:Rows} {l:List Int} {q:Nat} {x y:Int}
end
end Go.Ew
namespace Go.Ew
section
variable {n:Int} {rs:Rows} {a b c x y:Int} (h:bF n rs=true) (ha:0≤a∧a<n) (hb:0≤b∧b<n)
include h ha hb
theorem ID (hs:(fj n rs a b).isSome=true):∃w,(fj n rs a b).getD []=rh w∧Il n.toNat (fX rs) a.toNat b.toNat w∧a.toNat<n.toNat:=by
 rw[zw ⟨ha.1,ha.2,hb.1,hb.2⟩] at hs ⊢
 cases hf:Ek n.toNat (fX rs) a.toNat b.toNat with
 |none=>rw[hf] at hs;cases hs
 |some w=>exact⟨w,rfl,FB hf,by omega⟩
theorem UC (hs:(fj n rs a b).isSome=true):2≤((fj n rs a b).getD []).length∧(((fj n rs a b).getD []).length:Int)≤n+1:=by
 obtain⟨w,e,hB,SH⟩:=ID h ha hb hs
 have h2:=FD hB SH
 obtain⟨L,hL⟩:=hB.1
 have h1:=kS hL
 rw[e];unfold rh;rw[amS]
 omega
end
end Go.Ew
namespace Go.Ew
section
variable {n a b:Int} {rs:Rows}
theorem AG (hs:(fj n rs a b).isSome=true):(0≤a∧a<n)∧0≤b∧b<n:=by
 unfold fj at hs
 split at hs
 ·omega
 ·cases hs
theorem UA (h:bF n rs=true) (hs:(fj n rs a b).isSome=true):2≤((fj n rs a b).getD []).length∧(((fj n rs a b).getD []).length:Int)≤n+1:=UC h (AG hs).1 (AG hs).2 hs
theorem UB (h:bF n rs=true) (hs:(fj n rs a b).isSome=true) {q:Nat} {x:Int} (hx:((fj n rs a b).getD [])[q]? =some x):0≤x∧x<n:=by
 obtain⟨w,hw,⟨⟨L,hb⟩, -⟩,hn⟩:=ID h (AG hs).1 (AG hs).2 hs
 rw[hw] at hx
 unfold rh at hx
 rw[amx] at hx
 cases hq:w[q]? with
 |none=>rw[hq] at hx;cases hx
 |some y=>
  rw[hq] at hx
  have:=Dc hb hn y<|dJ hq
  have e:((y:Nat):Int)=x:=amo hx
  omega
end
end Go.Ew
namespace Go.Ew
section
variable (I:List aH) (U:List Int)
def Ih (k:Int):Prop:=
 (k=1∧∃r:Nat,U[r]? =some (-2))∨
 (k=2∧∃i,i<I.length∧pB I U i i=true)∨
 (k=3∧∃r a,r<I.length∧a<I.length∧U[r]? =some (-1)∧iE I (rl I ((r:Nat):Int)) ((a:Nat):Int)=false∧pB I U a r=true)∨
 (k=4∧∃r a b,r<I.length∧a<I.length∧b<I.length∧U[r]? =some ((b:Nat):Int)∧a≠b∧iE I (rl I ((r:Nat):Int)) ((a:Nat):Int)=false∧pB I U a r=true∧pB I U b a=true)∨
 (k=5∧∃i,i<I.length∧cl I.length (Jg I U) i i=true)∨
 (k=6∧∃o r a,o<I.length∧r<I.length∧a<I.length∧((r:Nat):Int)∈lO I ((o:Nat):Int)∧U[r]? =some (-1)∧iE I (rl I ((r:Nat):Int)) ((a:Nat):Int)=false∧Bj I U ((o:Nat):Int) a r=true)∨
 (k=7∧∃o i,o<I.length∧i<I.length∧Bj I U ((o:Nat):Int) i i=true)
end
section
variable {I:List aH} {U:List Int} {n:Nat} {p:Nat→Nat→Bool}
theorem nE {α:Type} {l:List α} {q:α→Bool}:(l.find? q).isSome=true↔∃x∈l,q x=true:=by
 rw[List.find?_isSome]
theorem AQ:(cM ((n:Nat):Int) (cB n p)).isSome=true↔∃i,i<n∧p i i=true:=by
 unfold cM
 rw[nE,dZ]
 constructor
 ·rintro⟨i,hi,h⟩
  have hi:=amm.1 hi
  rw[ub hi hi] at h
  exact⟨i,hi,h⟩
 ·rintro⟨i,hi,h⟩
  exact⟨i,amm.2 hi,by rw[ub hi hi];exact h⟩
theorem sy {r:Nat} (hr:r<n) {z:Int}:z∈db I ((n:Nat):Int) (cB n p) ((r:Nat):Int)↔∃a,a<n∧p a r=true∧iE I (rl I ((r:Nat):Int)) ((a:Nat):Int)=false∧z=((a:Nat):Int):=by
 unfold db aZ
 rw[amA]
 unfold eL
 rw[aml aq,wg,dZ]
 constructor
 ·rintro⟨⟨a,ha,h,rfl⟩,h2⟩
  refine⟨a,by omega,?_,by simpa using h2,J⟩
  rw[dZ,ju aq hr] at h
  exact h
 ·rintro⟨a,ha,h,h2,rfl⟩
  refine⟨⟨a,by omega,?_,J⟩,by rw[h2];rfl⟩
  rw[dZ,ju ha hr]
  exact h
theorem zI {l:List Int}:decide (0<((l.length:Nat):Int))=true↔∃z,z∈l:=by
 rw[amj]
 cases l with
 |nil=>simp
 |cons a l=>simp only[iB];exact⟨fun _=>⟨a,by simp⟩,fun _=>by omega⟩
theorem vX {r:Nat} (hl:U.length=I.length) (hr:r<I.length) {x d:Int}:U.getD r d=x↔U[r]? =some x:=by
 rw[gZ,eP aq]
 simp
theorem Ud {k:Int}:(oT U k).isSome=true↔∃r:Nat,U[r]? =some (-2):=by
 rw[←NA,amj]
 have h:=wW (p:=fun z_:Int=>decide ((-2)=z_)) (r:=U)
 rw[←amj (p:=0≤_),h,amR]
 simp only[amj]
 constructor
 ·rintro⟨x,hx,rfl⟩
  obtain⟨r,hr⟩:=ao5 hx
  exact⟨r,hr⟩
 ·rintro⟨r,hr⟩
  exact⟨_,dJ hr,J⟩
theorem vR {n:Nat} {q:Nat→Bool}:((List.range n).find? q).isSome=true↔∃i,i<n∧q i=true:=by
 rw[nE]
 simp only[amm]
theorem Hx (hl:U.length=I.length) (eM:∀x∈U,x<((I.length:Nat):Int)) {k:Int} (hk:k=1∨k=2∨k=3∨k=4∨k=5∨k=6∨k=7):(jL I U k).isSome=true↔Ih I U k:=by
 unfold jL Ih
 rcases hk with rfl|rfl|rfl|rfl|rfl|rfl|rfl
 ·simp[Ud]
 ·simp only[Int.reduceEq,anV,am9,ape,apm,apo,aoG]
  rw[←BY]
  exact AQ
 ·simp only[Int.reduceEq,anV,am9,ape,apm,apo,aoG]
  unfold pP z7
  rw[aoQ,vR,hl]
  constructor
  ·rintro⟨r,hr,h⟩
   unfold u0 at h
   rw[eQ,amj,vX hl hr] at h
   obtain⟨z,hz⟩:=zI.1 h.2
   unfold cp at hz
   obtain⟨a,ha,h1,h2,_⟩:=(sy hr).1 hz
   exact⟨r,a,hr,ha,h.1,h2,h1⟩
  ·rintro⟨r,a,hr,ha,h1,h2,h3⟩
   refine⟨r,hr,?_⟩
   unfold u0
   rw[eQ,amj,vX hl hr]
   exact⟨h1,zI.2 ⟨((a:Nat):Int),(sy hr).2 ⟨a,ha,h3,h2,J⟩⟩⟩
 ·simp only[Int.reduceEq,anV,am9,ape,apm,apo,aoG]
  unfold pQ FC
  rw[aoQ,vR,hl]
  constructor
  ·rintro⟨r,hr,h⟩
   unfold vq za at h
   rw[eQ,nE] at h
   obtain⟨h0,z,hz,hq⟩:=h
   have h0:¬U.getD r 0<0:=by simpa using h0
   unfold cp at hz
   obtain⟨a,ha,h1,h2,rfl⟩:=(sy hr).1 hz
   have hb:U[r]? =some (((U.getD r 0).toNat:Nat):Int):=by
    rw[←vX hl hr (d:=0)];omega
   have By:=eM _<|dJ hb
   unfold y' at hq
   rw[eQ] at hq
   obtain⟨IW,nn⟩:=hq
   have gE:¬((a:Nat):Int)=U.getD r 0:=by simpa using IW
   have hcc:((((U.getD r 0).toNat:Nat)):Int)=U.getD r 0:=by omega
   rw[←hcc] at nn
   unfold cp at nn
   rw[ub aq ha] at nn
   exact⟨r,a,(U.getD r 0).toNat,hr,ha,by omega,hb,by omega,h2,h1,nn⟩
  ·rintro⟨r,a,b,hr,ha,hb,h1,h2,h3,h4,h5⟩
   refine⟨r,hr,?_⟩
   have h1':=(vX hl hr (d:=0)).2 h1
   unfold vq za
   rw[eQ,nE,h1']
   refine⟨by simp,((a:Nat):Int),(sy hr).2 ⟨a,ha,h4,h3,J⟩,?_⟩
   unfold y' cp
   rw[eQ,ub hb ha]
   exact⟨by simp;omega,h5⟩
 ·simp only[Int.reduceEq,anV,am9,ape,apm,apo,aoG]
  rw[←BY]
  exact AQ
 ·simp only[Int.reduceEq,anV,am9,ape,apm,apo,aoG]
  unfold r6 Iz
  rw[aoQ,vR]
  constructor
  ·rintro⟨o,ho,h⟩
   unfold Iy DP at h
   obtain⟨z,hz,hq⟩:=nE.1 h
   have hz2:z∈cx I ((o:Nat):Int):=by
    unfold lO aZ at hz
    exact(amA.1 hz).1
   unfold BU at hq
   rw[eQ,amj] at hq
   obtain⟨h1,h2⟩:=hq
   have hzn:0≤z∧z<((I.length:Nat):Int):=by
    by_cases hz0:0≤z∧z<((I.length:Nat):Int)
    ·exact hz0
    ·exfalso
     rw[zI] at h2
     obtain⟨y,hy⟩:=h2
     unfold db aZ eL at hy
     rw[amn hz0] at hy
     simp at hy
   obtain⟨r,rfl⟩:∃r:Nat,z=((r:Nat):Int):=⟨z.toNat,by omega⟩
   have hr:r<I.length:=by omega
   rw[dZ,vX hl hr] at h1
   obtain⟨y,hy⟩:=zI.1 h2
   unfold cQ at hy
   obtain⟨a,ha,h3,h4,_⟩:=(sy hr).1 hy
   exact⟨o,r,a,ho,hr,ha,hz,h1,h4,h3⟩
  ·rintro⟨o,r,a,ho,hr,ha,h1,h2,h3,h4⟩
   refine⟨o,ho,?_⟩
   unfold Iy DP
   refine nE.2 ⟨((r:Nat):Int),h1,?_⟩
   unfold BU
   rw[eQ,amj,dZ,vX hl hr]
   exact⟨h2,zI.2 ⟨((a:Nat):Int),(sy hr).2 ⟨a,ha,h4,h3,J⟩⟩⟩
 ·simp only[Int.reduceEq,anV,am9,ape,apm,apo,aoG]
  unfold r5 It
  rw[aoQ,vR]
  constructor
  ·rintro⟨o,ho,h⟩
   unfold WN at h
   obtain⟨i,hi,h⟩:=AQ.1 h
   exact⟨o,i,ho,hi,h⟩
  ·rintro⟨o,i,ho,hi,h⟩
   exact⟨o,ho,AQ.2 ⟨i,hi,h⟩⟩
end
structure Ju (ki:List aH) (uS:List Int) (I:List aH) (U:List Int) (g:Nat→Nat):Prop where
 lt:∀a,a<ki.length→g a<I.length
 inj:∀a b,a<ki.length→b<ki.length→g a=g b→a=b
 ah:∀a b,a<ki.length→b<ki.length→G9 ki a b=true→G9 I (g a) (g b)=true
 fr:∀r x,uS[r]? =some x→U[g r]? =some (if 0≤x then ((g x.toNat:Nat):Int) else x)
 wr:∀a r,a<ki.length→r<ki.length→iE ki (rl ki ((r:Nat):Int)) ((a:Nat):Int)=false→iE I (rl I ((g r:Nat):Int)) ((g a:Nat):Int)=false
 kp:∀o r,o<ki.length→r<ki.length→((r:Nat):Int)∈lO ki ((o:Nat):Int)→((g r:Nat):Int)∈lO I ((g o:Nat):Int)
section
variable {ki I:List aH} {uS U:List Int} {g:Nat→Nat}
theorem Ju.ed (E:Ju ki uS I U g) (hl:uS.length=ki.length) (nL:U.length=I.length) {a b:Nat} (ha:a<ki.length) (hb:b<ki.length) (h:Mb ki uS a b=true):Mb I U (g a) (g b)=true:=by
 unfold Mb at h ⊢
 rw[amt] at h ⊢
 rcases h with h|h
 ·exact .inl (E.ah a b ha hb h)
 ·refine .inr ?_
  unfold KS at h ⊢
  rw[amj,vX hl hb] at h
  have:=E.fr b _ h
  rw[aml aq,dZ] at this
  rw[amj,vX nL (E.lt b hb)]
  exact this
theorem Ju.co (E:Ju ki uS I U g) (hl:uS.length=ki.length) (nL:U.length=I.length) {a b:Nat} (ha:a<ki.length) (hb:b<ki.length) (h:pB ki uS a b=true):pB I U (g a) (g b)=true:=by
 unfold pB at h
 refine((qG ha hb).1 h).least (ai:=fun x y=>pB I U (g x) (g y)=true) (fun x y hx hy hp=>xw (E.ed hl nL hx hy hp)) fun x y z hx hy hz h1 h2=>A9 (E.lt y hy) h1 h2
theorem Ju.cf (E:Ju ki uS I U g) (eM:∀x∈uS,x<((ki.length:Nat):Int)) {p' p:Nat→Nat→Prop} (hp:∀a b,a<ki.length→b<ki.length→p' a b→p (g a) (g b)) {a b r:Nat} (h:MM ki uS p' a b r):MM I U p (g a) (g b) (g r):=by
 have hb:=eM _<|dJ h.fr
 have hf:=E.fr r _ h.fr
 rw[aml aq,dZ] at hf
 exact⟨E.lt a h.a1,E.lt r h.r1,hf,fun e=>h.ne (E.inj a b h.a1 aq e),E.wr a b h.a1 aq h.wr,hp a r h.a1 h.r1 h.ah⟩
theorem AO {I:List aH} {U:List Int} {o a:Nat} (ho:o<I.length) (ha:a<I.length):((a:Nat):Int)∈bL ((I.length:Nat):Int) (cp I U) ((o:Nat):Int)↔pB I U a o=true∨a=o:=by
 unfold bL
 rw[aml aq,wg,dZ,dZ]
 constructor
 ·rintro⟨k,hk,h,e⟩
  obtain rfl:k=a:=by omega
  rw[amt,amj] at h
  unfold cp at h
  rw[ju hk ho] at h
  exact h
 ·intro h
  refine⟨a,ha,?_,J⟩
  rw[amt,amj]
  unfold cp
  rw[ju ha ho]
  exact h
theorem Ju.sn (E:Ju ki uS I U g) (hl:uS.length=ki.length) (nL:U.length=I.length) (eM:∀x∈uS,x<((ki.length:Nat):Int)) {o a b:Nat} (ho:o<ki.length) (ha:a<ki.length) (hb:b<ki.length) (h:Bj ki uS ((o:Nat):Int) a b=true):Bj I U ((g o:Nat):Int) (g a) (g b)=true:=by
 have hR:=aal I U ((g o:Nat):Int)
 have key:OZ ki uS ((o:Nat):Int) (fun x y=>x<ki.length→y<ki.length→Bj I U ((g o:Nat):Int) (g x) (g y)=true):=by
  refine⟨fun x y hx hy hc h1 h2 _ _=>?_,fun x y z hx hy hz h1 h2 _ _=>?_,fun x y r hr k hx hy=>?_⟩
  ·rw[AO ho hx] at h1
   rw[AO ho hy] at h2
   refine hR.base _ _ (E.lt x hx) (E.lt y hy) (E.co hl nL hx hy hc) ((AO (E.lt o ho)<|E.lt x hx).2 ?_)<|(AO (E.lt o ho)<|E.lt y hy).2 ?_
   ·exact h1.imp (E.co hl nL hx ho)<|amh g
   ·exact h2.imp (E.co hl nL hy ho)<|amh g
  ·exact hR.trans _ _ _ (E.lt x hx) (E.lt y hy) (E.lt z hz) (h1 hx hy) (h2 hy hz)
  ·exact hR.Ph _ _ (g r) (E.kp o r ho k.r1 hr)<|E.cf eM (p:=fun x y=>Bj I U ((g o:Nat):Int) x y=true) (fun a b ha hb hp=>hp ha hb) k
 exact pF.1 h _ key ha hb
end
structure Da (I:List aH) (U:List Int) (t:Nat→Nat):Prop where
 inj:∀a b,a<I.length→b<I.length→t a=t b→a=b
 ah:∀a b,a<I.length→b<I.length→G9 I a b=true→t a<t b
 thin:∀r:Nat,U[r]?≠some (-2)
 rf:∀(r b:Nat),r<I.length→b<I.length→U[r]? =some ((b:Nat):Int)→t b<t r∧rl I ((b:Nat):Int)=rl I ((r:Nat):Int)
 last:∀(r a b:Nat),r<I.length→a<I.length→b<I.length→U[r]? =some ((b:Nat):Int)→iE I (rl I ((r:Nat):Int)) ((a:Nat):Int)=false→t a<t r→a≠b→t a<t b
 init:∀(r a:Nat),r<I.length→a<I.length→U[r]? =some (-1)→iE I (rl I ((r:Nat):Int)) ((a:Nat):Int)=false→¬t a<t r
section
variable {I:List aH} {U:List Int} {t:Nat→Nat}
theorem Da.co (E:Da I U t) (hl:U.length=I.length) {a b:Nat} (ha:a<I.length) (hb:b<I.length) (h:pB I U a b=true):t a<t b:=by
 refine((qG ha hb).1 h).least (ai:=fun x y=>t x<t y) (fun x y hx hy hp=>?_) fun x y z _ _ _ h1 h2=>apr h1 h2
 unfold Mb at hp
 rw[amt] at hp
 rcases hp with hp|hp
 ·exact E.ah x y hx hy hp
 ·unfold KS at hp
  rw[amj,vX hl hy] at hp
  exact(E.rf y x hy hx hp).1
theorem Da.cf (E:Da I U t) (eM:∀x∈U,x<((I.length:Nat):Int)) {p:Nat→Nat→Prop} {a b r:Nat} (h:MM I U p a b r) (hp:p a r→t a<t r):t a<t b:=by
 have hb:=eM _<|dJ h.fr
 have hw:=h.wr
 rw[(E.rf r b h.r1 aq h.fr).2] at hw
 exact E.last r a b h.r1 h.a1 aq h.fr hw (hp h.ah) h.ne
theorem Da.sn (E:Da I U t) (hl:U.length=I.length) (eM:∀x∈U,x<((I.length:Nat):Int)) {o:Int} {a b:Nat} (ha:a<I.length) (hb:b<I.length) (h:Bj I U o a b=true):t a<t b:=by
 refine pF.1 h (fun x y=>t x<t y) ⟨fun x y hx hy hc _ _=>E.co hl hx hy hc,fun x y z _ _ _ h1 h2=>apr h1 h2,fun x y r _ k=>E.cf eM k id⟩
theorem Da.none (E:Da I U t) (hl:U.length=I.length) (eM:∀x∈U,x<((I.length:Nat):Int)) {k:Int}:¬Ih I U k:=by
 unfold Ih
 rintro(⟨h0,r,hr⟩|⟨h0,i,hi,h⟩|⟨h0,r,a,hr,ha,h1,h2,h3⟩|⟨h0,r,a,b,hr,ha,hb,h1,h2,h3,h4,h5⟩|⟨h0,i,hi,h⟩|⟨h0,o,r,a,ho,hr,ha,h1,h2,h3,h4⟩|⟨h0,o,i,ho,hi,h⟩)
 ·exact E.thin r hr
 ·exact an7 _<|E.co hl hi hi h
 ·exact E.init r a hr ha h1 h2<|E.co hl ha hr h3
 ·have:=E.last r a b hr ha hb h1 h3 (E.co hl ha hr h4) h2
  have:=E.co hl hb ha h5
  omega
 ·refine an7 (t i)<|((qG hi hi).1 h).least (ai:=fun x y=>t x<t y) (fun x y hx hy hp=>?_) fun x y z _ _ _ h1 h2=>apr h1 h2
  unfold Jg at hp
  rw[amt,@decide_eq_true_iff _ (Classical.propDecidable _)] at hp
  rcases hp with hp|⟨r,hp⟩
  ·exact E.co hl hx hy hp
  ·exact E.cf eM hp fun h=>E.co hl hp.a1 hp.r1 h
 ·exact E.init r a hr ha h2 h3<|E.sn hl eM ha hr h4
 ·exact an7 _<|E.sn hl eM hi hi h
end
section
variable {I ki:List aH} {U uS:List Int}
theorem BB (hl:U.length=I.length) (eM:∀x∈U,x<((I.length:Nat):Int)) {lv:Int}:fN I U lv=none↔∀k∈dq lv,¬Ih I U k:=by
 unfold fN
 rw[aoA]
 refine forall_congr' fun k=>forall_congr' fun hk=>?_
 rw[←Hx hl eM (Ln hk)]
 cases jL I U k<;>simp
theorem IE {k:Int} {x:vN} (h:jL I U k=some x):x.1=k:=by
 unfold jL at h
 split at h
 ·unfold oT at h;split at h
  ·cases h;rfl
  ·cases h
 ·split at h
  ·unfold j0 at h;obtain⟨_,_,rfl⟩:=amI.1 h;rfl
  ·split at h
   ·unfold pP at h;obtain⟨_,_,rfl⟩:=amI.1 h;rfl
   ·split at h
    ·unfold pQ at h;obtain⟨_,_,rfl⟩:=amI.1 h;rfl
    ·split at h
     ·unfold j0 at h;obtain⟨_,_,rfl⟩:=amI.1 h;rfl
     ·split at h
      ·unfold r6 at h;obtain⟨_,_,rfl⟩:=amI.1 h;rfl
      ·unfold r5 at h;obtain⟨_,_,rfl⟩:=amI.1 h;rfl
theorem CN:(fN I U 1).isSome=true→fN I U 2=fN I U 1:=by
 intro h
 have e1:dq 1=[1,2,3,4]:=rfl
 have e2:dq 2=[1,2,3,4]++[5]:=rfl
 unfold fN at h ⊢
 rw[e1] at h ⊢
 rw[e2,aoZ]
 cases e:List.findSome? (jL I U) [1,2,3,4] with
 |none=>rw[e] at h;cases h
 |some x=>rfl
theorem z1:(fN I U 1).isSome=true→fN I U 3=fN I U 1:=by
 intro h
 have e1:dq 1=[1,2,3,4]:=rfl
 have e2:dq 3=[1,2,3,4]++[6,7]:=rfl
 unfold fN at h ⊢
 rw[e1] at h ⊢
 rw[e2,aoZ]
 cases e:List.findSome? (jL I U) [1,2,3,4] with
 |none=>rw[e] at h;cases h
 |some x=>rfl
end
end Go.Ew
namespace Go.Ew
section
variable {xs ys:List dU} {q k:Nat} {x:dU} {z:dU}
theorem ZG (h:ys.length=xs.length) (hq:q≤ys.length):((ys.take q++List.replicate (ys.length-q) z).take ((q:Nat):Int).toNat).length≤xs.length:=by
 simp only[dZ,ij,gf,nX];omega
theorem ZF (h:∀x∈ys,x∈xs) (hq:q≤ys.length):∀x∈(ys.take q++List.replicate (ys.length-q) z).take ((q:Nat):Int).toNat,x∈xs:=by
 rw[dZ,anG (by rw[ij];omega),amr (by rw[ij];omega)]
 exact fun x hx=>h x (anz hx)
theorem ZE (h:ys.length=xs.length∧∀x∈ys,x∈xs) {i:Nat} (hx:ys[i]? =some x):(ys.set k x).length=xs.length∧∀y∈ys.set k x,y∈xs:=by
 refine⟨by rw[ami];exact h.1,fun y hy=>?_⟩
 rcases am7 hy with hy|rfl
 ·exact h.2 y hy
 ·exact h.2 _<|dJ hx
end
theorem Te {I:List aH} {U:List Int} {n:Int} {rs:Rows} (hn:n=((I.length:Nat):Int)) (hr:bF n rs=true) (eo:U.length=I.length) (fE:∀x∈U,x<((I.length:Nat):Int)):n5 I.length (cE I U n rs):=by
 subst hn
 have h:=qE (I:=I) (U:=U) hr
 obtain⟨m,p,e,hm,rfl⟩:=lW hr
 obtain rfl:m=I.length:=by omega
 exact DB eo fE h
theorem HT {I:List aH} {U:List Int} {lv:Int} (h:¬dL I U lv=0):fN I U lv=none:=by
 unfold dL at h
 split at h
 ·exact absurd J h
 ·cases e:fN I U lv<;>simp_all
theorem OJ {I:List aH} {U:List Int} {lv:Int} (h:dL I U lv=0):(fN I U lv).isSome=true:=by
 unfold dL at h
 split at h
 ·assumption
 ·cases h
theorem Zt {I:List aH} {U:List Int} {lv k r a b o:Int} (h:p9 (fN I U lv) k r a b o) (hc:dL I U lv=0) (hk:k=6∨k=7):0≤o∧o<((I.length:Nat):Int):=by
 obtain⟨y,hy⟩:=amG.1 (OJ hc)
 have e:=h.2 y hy
 subst e
 unfold fN at hy
 obtain⟨q,hq,hp⟩:=List.exists_of_findSome?_eq_some hy
 have e:=IE hp
 simp only at e
 subst e
 rcases hk with rfl|rfl
 ·have hp:r6 I U 6=some (6,r,a,b,o):=hp
  unfold r6 at hp
  obtain⟨o',h1,h2⟩:=amI.1 hp
  simp only[am0] at h2
  unfold Iz at h1
  have:=amm.1<|aoE h1
  omega
 ·have hp:r5 I U 7=some (7,r,a,b,o):=hp
  unfold r5 at hp
  obtain⟨o',h1,h2⟩:=amI.1 hp
  simp only[am0] at h2
  unfold It at h1
  have:=amm.1<|aoE h1
  omega
end Go.Ew
namespace Go.Ew
open Go.RowKit
def pd (s:ByteArray):List (BitVec 8):=s.data.toList.map fun b=>b.toBitVec
def su (s:ByteArray) (i:Int):Int:=((s[i.toNat]?).map fun c=>((c.toNat:Nat):Int)).getD 0
theorem ac3 {s:ByteArray} {i:Int} {c:UInt8} (h:s[i.toNat]? =some c):su s i=((c.toNat:Nat):Int):=by unfold su;rw[h];rfl
theorem Fq {s:ByteArray} {i j:Nat} (h:i≤j) (h2:j≤s.size):(s.extract i j).size=j-i:=by rw[ByteArray.size_extract];omega
theorem CO (s:ByteArray) (i j:Nat):(s.extract i j).size≤s.size:=by rw[ByteArray.size_extract];omega
theorem ug (s:ByteArray):(pd s).length=s.size:=by unfold pd;rw[amS,am1];rfl
section
variable {P:Program} {n:Nat} {ops:Array Oper} {f:aS} {w:World} {K:aS→World→Prop} {x y:Operand} {d:Nat} {ty T T2 e:TypeId} {ps:String} {af:Array Edge} {M M0:Nat→Prop} {w0:World} {l:List Item} {B:Nat} {a:Option Addr} {k c:Nat} {s:ByteArray} {lo hi:Int} {qT oK:Operand}
theorem Pb (ox:bG n x=true) (ol:bG n qT=true) (oh:bG n oK=true) (hx:ev f x=.string s) (hl:ev f qT=.int .i64 lo) (hh:ev f oK=.int .i64 hi) (hb:0≤lo∧lo≤hi∧hi≤(s.size:Int)) (hu:P.underlying T=some .string) (h:K (b9 f d (.string (s.extract lo.toNat hi.toNat))) w):
  SO P n ops ⟨some d,.slice T x (some qT) (some oK) none,ty,ps,af,none⟩ f w K:=by
 refine SO.value (v:=.string (s.extract lo.toNat hi.toNat)) (w':=w) ?_ h
 simp[execOp,aO ox,aO ol,aO oh,hx,hl,hh,Instr.sliceAt,gC hu,run_slice_string (P:=P) w T s .i64 .i64 lo hi hu hb.1 hb.2.1 hb.2.2]
theorem Uk (ox:bG n x=true) (ol:bG n qT=true) (hx:ev f x=.string s) (hl:ev f qT=.int .i64 lo) (hb:0≤lo∧lo≤(s.size:Int)) (hu:P.underlying T=some .string) (h:K (b9 f d (.string (s.extract lo.toNat s.size))) w):
  SO P n ops ⟨some d,.slice T x (some qT) none none,ty,ps,af,none⟩ f w K:=by
 refine SO.value (v:=.string (s.extract lo.toNat s.size)) (w':=w) ?_ h
 simp[execOp,aO ox,aO ol,hx,hl,Instr.sliceAt,gC hu,run_slice_string_l (P:=P) w T s hu .i64 lo hb.1 hb.2]
theorem agT (ox:bG n x=true) (oh:bG n oK=true) (hx:ev f x=.string s) (hh:ev f oK=.int .i64 hi) (hb:0≤hi∧hi≤(s.size:Int)) (hu:P.underlying T=some .string) (h:K (b9 f d (.string (s.extract 0 hi.toNat))) w):
  SO P n ops ⟨some d,.slice T x none (some oK) none,ty,ps,af,none⟩ f w K:=by
 refine SO.value (v:=.string (s.extract 0 hi.toNat)) (w':=w) ?_ h
 simp[execOp,aO ox,aO oh,hx,hh,Instr.sliceAt,gC hu,run_slice_string_h (P:=P) w T s hu .i64 hi hb.1 hb.2]
theorem MV (s:ByteArray) (cap i:Nat) {b:BitVec 8} (h:(pd s)[i]? =some b):(bytesRow s cap)[i]? =some (U8 b):=by
 have hi:=(ef.1 h).1
 rw[ug] at hi
 unfold pd at h
 rw[amx,anv] at h
 unfold bytesRow
 have tz:i<s.data.size:=hi
 rw[an9 (by simpa using tz),Array.getElem?_map]
 rw[Array.getElem?_eq_getElem tz] at h ⊢
 simp only[anD,amu] at h ⊢
 rw[←h]
 rfl
theorem aiz (H:HI M0 w0 w l) (ox:bG n x=true) (hx:ev f x=.string s) (pq:s.size≤maxLen) (hs:P.underlying T=some .string) (hd:P.underlying T2=some (.slice e)) (he:P.underlying e=some (.int .u8))
  (h:∀a c w',Ext w w'→HI M0 w0 w' (sU (.slice a (pd s).length c) (pd s)::l)→K (b9 f d (.slice a (pd s).length c)) w'):
  SO P n ops ⟨some d,.convert T T2 x,ty,ps,af,none⟩ f w K:=by
 have hr:=run_bytes_of_string (P:=P) w T T2 e s hs hd he
 have hX:Ext w (w.drew.alloc (.cells (bytesRow s (grownCap w s.size 0 e)) e ((bytesRow s (grownCap w s.size 0 e)).size,(bytesRow s (grownCap w s.size 0 e)).size+1))):=(Ext.drew w).trans (Ext.alloc _ _)
 have hk:K (b9 f d (.slice (some ⟨w.heap.size,0,none⟩) (pd s).length (grownCap w s.size 0 e))) _:=h _ _ _ hX ((H.ext hX).put rfl (RV.list.2 ⟨_,_,_,rfl,rfl,by rw[ug];exact grownCap_ge w s.size 0 e,grownCap_le_maxLen w s.size 0 e pq,.inr ⟨_,rfl,fun i b hb=>?_⟩⟩))
 ·refine SO.value (v:=.slice (some ⟨w.heap.size,0,none⟩) s.size (grownCap w s.size 0 e)) ?_<|by rw[ug] at hk;exact hk
  simp[execOp,aO ox,hx,hr]
 ·have kV:(⟨w.heap.size,0,none⟩:Addr).add (i*GT.size (BitVec 8))=⟨w.heap.size,i,none⟩:=by show Addr.add _ (i*1)=_;rw[FH,aop]
  rw[kV]
  refine⟨[U8 b],J,fun hM=>?_,fun j v hj=>?_⟩
  ·exact absurd (H.mb _ hM)<|an7 _
  ·cases j with
   |succ j=>simp at hj
   |zero=>
    simp only[amw,amu] at hj
    subst hj
    rw[show ((⟨w.heap.size,i,none⟩:Addr).add 0)=⟨w.heap.size,i,none⟩ from by unfold Addr.add;simp]
    have hg:(w.drew.alloc (.cells (bytesRow s (grownCap w s.size 0 e)) e ((bytesRow s (grownCap w s.size 0 e)).size,(bytesRow s (grownCap w s.size 0 e)).size+1))).heap[w.heap.size]? =some (.cells (bytesRow s (grownCap w s.size 0 e)) e ((bytesRow s (grownCap w s.size 0 e)).size,(bytesRow s (grownCap w s.size 0 e)).size+1)):=by
     show (w.heap.push _)[w.heap.size]? =_
     simp
    rw[cell_of_row _ w.heap.size _ _ e _ hg]
    exact MV s _ i hb
theorem W8 {kk:IntKind} {i:Int} (ox:bG n x=true) (oy:bG n y=true) (hx:ev f x=.string s) (hy:ev f y=.int kk i) (hi:0≤i∧i<(s.size:Int)) (hu:P.underlying T=some .string)
  (h:K (b9 f d (.int .u8 (su s i))) w):SO P n ops ⟨some d,.index T x y,ty,ps,af,none⟩ f w K:=
 ixS ox oy hx hy hi hu fun c hc=>by rw[←ac3 hc];exact h
theorem agS {i j:Int} (ox:bG n x=true) (oy:bG n y=true) (hx:ev f x=.int .u8 i) (hy:ev f y=.int .u8 j) (hi:0≤i-j∧i-j≤255) (h:K (b9 f d (.int .u8 (i-j))) w):SO P n ops ⟨some d,.binOp .sub T x y T2,ty,ps,af,none⟩ f w K:=
 bin ox oy hx hy (by simp[binOp,Op.intArith,(w8 hi.1 hi.2).1]) h
theorem Hj (b:BitVec 64):IntKind.i64.wrap (b.toNat:Int)=b.toInt:=by
 have:=b.isLt
 unfold IntKind.wrap
 rw[aoC]
 simp[IntKind.bits,IntKind.signed]
 split<;>split<;>omega
theorem cvT {e:TypeDesc} {b:BitVec 64} (ox:bG n x=true) (hx:ev f x=aj b) (h1:P.underlying T=some e) (h2:P.underlying T2=some (.int .i64)) (h:K (b9 f d (.int .i64 b.toInt)) w):
  SO P n ops ⟨some d,.convert T T2 x,ty,ps,af,none⟩ f w K:=
 cv ox hx h1 h2 (by rw[Hj];exact h)
end
end Go.Ew
namespace Go.Ew
structure QN (cs:ByteArray):Prop where
 two:2≤cs.size
 low:cs.size<4294967281
 asc:∀(j:Nat) b,cs.data.toList[j]? =some b→b.toNat<128
def trimB (s cs:ByteArray):ByteArray:=⟨(Go.Lib.trimS s.data.toList cs.data.toList).toArray⟩
def BP (s cs:ByteArray):ByteArray:=⟨(Go.Lib.trimLeftS s.data.toList cs.data.toList).toArray⟩
abbrev rV:ByteArray:=⟨#[97,98,99,100,101,102,103,104,105,106,107,108,109,110,111,112,113,114,115,116,117,118,119,120,121,122]⟩
abbrev pK:ByteArray:=⟨#[48,49,50,51,52,53,54,55,56,57]⟩
theorem No:QN rV:=⟨by decide,by decide,fun j b h=>by
 have:∀b∈rV.data.toList,b.toNat<128:=by decide
 exact this b (dJ h)⟩
theorem G8:QN pK:=⟨by decide,by decide,fun j b h=>by
 have:∀b∈pK.data.toList,b.toNat<128:=by decide
 exact this b (dJ h)⟩
theorem dropWhile_nil {α:Type} {p:α→Bool}:∀{l:List α},l.dropWhile p=[]↔l.all p=true
 |[]=>by simp
 |a::l=>by
  rw[List.dropWhile_cons,List.all_cons]
  cases h:p a
  ·simp
  ·simp only[anV,ane];exact dropWhile_nil
theorem Q2 {l cs:List UInt8}:Go.Lib.trimS l cs=[]↔l.all (cs.contains ·)=true:=by
 unfold Go.Lib.trimS Go.Lib.trimLeftS Go.Lib.trimRightS
 rw[dropWhile_nil]
 constructor
 ·intro h
  have h1:(l.reverse.dropWhile (cs.contains ·)).all (cs.contains ·)=true:=by rw[←aoY];exact h
  have h2:l.reverse.dropWhile (cs.contains ·)=[]:=by
   cases e:l.reverse.dropWhile (cs.contains ·) with
   |nil=>rfl
   |cons a t=>
    rw[e,List.all_cons,eQ] at h1
    have:=List.head?_dropWhile_not (cs.contains ·) l.reverse
    rw[e] at this
    simp only[List.head?_cons] at this
    rw[h1.1] at this;cases this
  have:=dropWhile_nil.1 h2
  rwa [aoY] at this
 ·intro h
  rw[aoY]
  have:l.reverse.dropWhile (cs.contains ·)=[]:=dropWhile_nil.2 (by rw[aoY];exact h)
  rw[this];rfl
theorem Iu {s cs:ByteArray}:trimB s cs=⟨#[]⟩↔s.data.toList.all (cs.data.toList.contains ·)=true:=by
 rw[←Q2]
 unfold trimB
 constructor
 ·intro h
  have:=amh (fun x:ByteArray=>x.data.toList) h
  simpa using this
 ·intro h;rw[h]
theorem DO (s cs:ByteArray):(BP s cs).size≤s.size:=by
 show (Go.Lib.trimLeftS s.data.toList cs.data.toList).toArray.size≤s.data.size
 rw[anO,←am1]
 exact(List.dropWhile_sublist _).length_le
theorem Ng (c:UInt8):rV.data.toList.contains c=vv c:=by
 have:∀n:Fin 256,rV.data.toList.contains (UInt8.ofNat n.1)=vv (UInt8.ofNat n.1):=by decide +kernel
 have:=this ⟨c.toNat,c.toNat_lt⟩
 simpa using this
theorem E4 {s:ByteArray}:mg s=(bif !decide (s=⟨#[]⟩) then (bif decide ((s.size:Int)≤8) then decide (trimB s rV=⟨#[]⟩) else false) else false):=by
 have h1:decide (trimB s rV=⟨#[]⟩)=s.data.toList.all vv:=by
  rw[amE,amj,Iu]
  rw[show (fun x=>rV.data.toList.contains x)=vv from funext Ng]
 have h2:(!decide (s=⟨#[]⟩))=decide (1≤s.size):=by
  rw[amE]
  simp only[anq,amy,amj]
  constructor
  ·intro h
   rcases apf s.size with h0|h0
   ·exact absurd (by cases s with|mk a=>exact amh ByteArray.mk (an0 h0)) h
   ·exact h0
  ·rintro h rfl
   exact absurd h aw
 have h3:decide ((s.size:Int)≤8)=decide (s.size≤8):=by rw[anx];omega
 rw[h1,h2,h3]
 unfold mg
 cases s.data.toList.all vv<;>cases decide (1≤s.size)<;>cases decide (s.size≤8)<;>rfl
theorem DR {h:dv}:jt h=(bif decide ((h.flatten.length:Int)≤4096) then !(h.flatten.any (fun (x_:kM)=>!(mg x_.2.1))) else false):=by
 unfold jt
 have h1:(!(h.flatten.any (fun (x_:kM)=>!(mg x_.2.1))))=h.flatten.all zD:=by
  rw[←List.not_all_eq_any_not,Bool.not_not];rfl
 have h2:decide ((h.flatten.length:Int)≤4096)=decide (h.flatten.length≤4096):=by rw[anx];omega
 rw[h1,h2]
 cases h.flatten.all zD<;>cases decide (h.flatten.length≤4096)<;>rfl
def Bg (vs:List ByteArray) (m:List (ByteArray×Int)):Prop:=∀s,fH m s=if ie vs s<0 then none else some (ie vs s)
theorem U5:Bg [] []:=fun s=>rfl
theorem Qs (vs:List ByteArray) (a s:ByteArray):ie (vs++[a]) s=if ie vs s<0 then (if a=s then (vs.length:Int) else -1) else ie vs s:=by
 unfold ie eF
 rw[ao6]
 cases e:vs.findIdx? (Sa s) with
 |some i=>show ((i:Nat):Int)=if ((i:Nat):Int)<0 then _ else ((i:Nat):Int);rw[amn aq]
 |none=>
  simp only[Option.none_or,List.findIdx?_cons,List.findIdx?_nil]
  unfold Sa
  by_cases h:a=s<;>simp[h]
theorem U6 {vs:List ByteArray} {m:List (ByteArray×Int)} {s:ByteArray} (h:Bg vs m) (hs:(fH m s).isSome=true):(fH m s).getD 0=ie vs s∧¬ie vs s<0:=by
 rw[h s] at hs ⊢
 by_cases h0:ie vs s<0
 ·rw[aml h0] at hs;cases hs
 ·rw[amn h0];exact⟨rfl,h0⟩
theorem IL {vs:List ByteArray} {m:List (ByteArray×Int)} {s:ByteArray} (h:Bg vs m) (hs:(fH m s).isSome=false):ie vs s<0:=by
 rw[h s] at hs
 by_cases h0:ie vs s<0
 ·exact h0
 ·rw[amn h0] at hs;cases hs
theorem U4 {vs:List ByteArray} {m:List (ByteArray×Int)} {s:ByteArray} (h:Bg vs m) (hs:(fH m s).isSome=false):Bg (vs++[s]) (lB m s ((vs.length:Nat):Int)):=by
 intro t
 have h0:=IL h hs
 rw[VC,Qs,h t]
 by_cases e:t=s
 ·subst e
  rw[aml rfl,aml h0,aml rfl,amn aq]
 ·have e2:¬s=t:=fun k=>e k.symm
  rw[amn e]
  by_cases h1:ie vs t<0
  ·simp only[h1,e2,anV,am9];rfl
  ·simp only[h1,am9]
section
variable {h:dv} {i q:Nat} {vs:List ByteArray} {aG:List aH} {m:List (ByteArray×Int)} {x0:List kM} {x1:kM}
theorem Of (h1:vs=(jG i (jy h i) (h.getD i []) q).1) (h2:aG=(jG i (jy h i) (h.getD i []) q).2) (hm:Bg vs m) (aQ:h[((i:Nat):Int).toNat]? =some x0) (cP:x0[((q:Nat):Int).toNat]? =some x1) (hs:(fH m x1.2.1).isSome=false):
  vs++[x1.2.1]=(jG i (jy h i) (h.getD i []) (q+1)).1∧aG++[(((i:Nat):Int),((q:Nat):Int),x1.1,((vs.length:Nat):Int),x1.2.2)]=(jG i (jy h i) (h.getD i []) (q+1)).2:=by
 have hf:=IL hm hs
 subst h1 h2
 rw[fl aQ] at *
 exact wF cP hf
theorem Oe (h1:vs=(jG i (jy h i) (h.getD i []) q).1) (h2:aG=(jG i (jy h i) (h.getD i []) q).2) (hm:Bg vs m) (aQ:h[((i:Nat):Int).toNat]? =some x0) (cP:x0[((q:Nat):Int).toNat]? =some x1) (hs:(fH m x1.2.1).isSome=true):
  vs=(jG i (jy h i) (h.getD i []) (q+1)).1∧aG++[(((i:Nat):Int),((q:Nat):Int),x1.1,(fH m x1.2.1).getD 0,x1.2.2)]=(jG i (jy h i) (h.getD i []) (q+1)).2:=by
 obtain⟨e,hf⟩:=U6 hm hs
 rw[e]
 subst h1 h2
 rw[fl aQ] at *
 exact wE cP hf
end
theorem S4 {α:Type} (h:List (List α)) (j:Nat):((h.take j).flatten).length≤h.flatten.length:=by
 conv=>rhs;rw[←ant j h]
 rw[List.flatten_append,gf];omega
end Go.Ew
namespace Go.Ew
def jF (s p:ByteArray):Bool:=bif decide ((p.size:Int)≤(s.size:Int)) then decide (s.extract 0 (p.size:Int).toNat=p) else false
def eA (s p:ByteArray):ByteArray:=bif jF s p then s.extract (p.size:Int).toNat s.size else s
abbrev jI:ByteArray:=⟨#[45]⟩
def gr (s:ByteArray) (a:Int):Int:=bif decide (a<0)||decide ((s.size:Int)≤a) then 0 else ((s.extract a.toNat s.size).size:Int)-((BP (eA (s.extract a.toNat s.size) jI) pK).size:Int)
theorem qM (s p:ByteArray):(eA s p).size≤s.size:=by
 unfold eA
 cases jF s p
 ·exact amk _
 ·exact CO _ _ _
theorem Uf {s:ByteArray} {a:Int} (h:0≤a∧a≤(s.size:Int)):0≤gr s a∧a+gr s a≤(s.size:Int):=by
 unfold gr
 cases e:(decide (a<0)||decide ((s.size:Int)≤a)) with
 |true=>show (0:Int)≤0∧a+0≤_;omega
 |false=>
  show (0:Int)≤_-_∧a+(_-_)≤_
  have h1:=qM (s.extract a.toNat s.size) jI
  have h2:=DO (eA (s.extract a.toNat s.size) jI) pK
  have h3:=Fq (s:=s) (i:=a.toNat) (j:=s.size) aq<|amk _
  omega
def mJ (m:Nat):List UInt8→Nat→Option Nat
 |[],n=>some n
 |c::l,n=>if (m-(c.toNat-48))/10<n then none else mJ m l (10*n+(c.toNat-48))
def A8 (s:ByteArray):ByteArray:=eA s jI
def lC (s:ByteArray):Bool:=decide (eA s jI=⟨#[]⟩)||(!decide (trimB (eA s jI) pK=⟨#[]⟩)||(decide (su (eA s jI) 0=48)&&!decide (s=⟨#[48]⟩)))
def oz (s:ByteArray):Nat:=bif jF s jI then 9223372036854775808 else 9223372036854775807
def gh (s:ByteArray):Int×Int:=bif lC s then (0,2) else match mJ (oz s) (A8 s).data.toList 0 with
 |none=>(0,3)
 |some n=>(bif jF s jI then -((n:Nat):Int) else ((n:Nat):Int),0)
theorem De {m:Nat} (h9:9≤m):∀{l:List UInt8} {n k:Nat},(∀c∈l,48≤c.toNat∧c.toNat≤57)→n≤m→mJ m l n=some k→k≤m
 |[],n,k,_,hn,h=>by cases h;exact hn
 |c::l,n,k,hl,hn,h=>by
  unfold mJ at h
  split at h
  ·cases h
  ·rename_i hc
   have:=hl c<|by simp
   exact De h9 (fun x hx=>hl x (by simp[hx])) aq h
theorem vY {s:ByteArray} (h:trimB s pK=⟨#[]⟩):∀c∈s.data.toList,48≤c.toNat∧c.toNat≤57:=by
 intro c hc
 have h1:=amq.1 (Iu.1 h) c hc
 have:∀n:Fin 256,pK.data.toList.contains (UInt8.ofNat n.1)=true→48≤(UInt8.ofNat n.1).toNat∧(UInt8.ofNat n.1).toNat≤57:=by decide +kernel
 have:=this ⟨c.toNat,c.toNat_lt⟩
 simp only[UInt8.ofNat_toNat] at this
 exact this h1
theorem EZ (s:ByteArray):aK (gh s).1∧0≤(gh s).2∧(gh s).2≤3:=by
 unfold gh
 cases hb:lC s with
 |true=>show aK 0∧(0:Int)≤2∧(2:Int)≤3;exact⟨by unfold aK;decide,by decide,by decide⟩
 |false=>
  show aK (Prod.fst (match mJ (oz s) (A8 s).data.toList 0 with|none=>_|some n=>_))∧_
  cases e:mJ (oz s) (A8 s).data.toList 0 with
  |none=>show aK 0∧(0:Int)≤3∧(3:Int)≤3;exact⟨by unfold aK;decide,by decide,by decide⟩
  |some n=>
   have hd:trimB (A8 s) pK=⟨#[]⟩:=by
    unfold lC at hb
    simp only[aof,aoL,amj] at hb
    exact hb.2.1
   refine⟨?_,by show (0:Int)≤0;decide,by show (0:Int)≤3;decide⟩
   show aK (bif jF s jI then -((n:Nat):Int) else ((n:Nat):Int))
   have hle:=De (m:=oz s) (by unfold oz;cases jF s jI<;>decide) (vY hd) (anB _) e
   unfold oz at hle
   unfold aK
   cases h:jF s jI<;>rw[h] at hle
   ·have hle:n≤9223372036854775807:=hle
    show -9223372036854775808≤((n:Nat):Int)∧((n:Nat):Int)≤9223372036854775807
    omega
   ·have hle:n≤9223372036854775808:=hle
    show -9223372036854775808≤ -((n:Nat):Int)∧ -((n:Nat):Int)≤9223372036854775807
    omega
section
variable {s dg:ByteArray} {m nv:BitVec 64} {x:BitVec 8} {j:Nat}
theorem Ia (h:(pd dg)[((j:Nat):Int).toNat]? =some x):∃c:UInt8,dg.data.toList[j]? =some c∧c.toBitVec=x:=by
 rw[dZ] at h
 unfold pd at h
 rw[amx] at h
 exact amI.1 h
theorem Tm (h:trimB dg pK=⟨#[]⟩) (hx:(pd dg)[((j:Nat):Int).toNat]? =some x):48≤x.toNat∧x.toNat≤57:=by
 obtain⟨c,h1,rfl⟩:=Ia hx
 exact vY h c<|dJ h1
theorem OF (h:48≤x.toNat∧x.toNat≤57):(BitVec.ofInt 64 (((x.toNat:Nat):Int)-48)).toNat=x.toNat-48:=by
 rw[an4]
 show (((x.toNat:Int)-48)%18446744073709551616).toNat=_
 omega
theorem OG (h:48≤x.toNat∧x.toNat≤57) (hm:9≤m.toNat):((m-BitVec.ofInt 64 (((x.toNat:Nat):Int)-48))/10#64).toNat=(m.toNat-(x.toNat-48))/10:=by
 rw[BitVec.toNat_udiv,BitVec.toNat_sub,OF h]
 have:=m.isLt
 show (2^64-(x.toNat-48)+m.toNat)%2^64/10=_
 congr 1
 omega
theorem YZ {L:List UInt8} (h:48≤x.toNat∧x.toNat≤57) (hm:9≤m.toNat) (hx:∃c:UInt8,L[j]? =some c∧c.toBitVec=x) (hs:mJ m.toNat L 0=mJ m.toNat (L.drop j) nv.toNat) (hc:decide (((m-BitVec.ofInt 64 (((x.toNat:Nat):Int)-48))/10#64).toNat<nv.toNat)=true):mJ m.toNat L 0=none:=by
 obtain⟨c,h1,rfl⟩:=hx
 rw[amj,OG h hm] at hc
 rw[hs,anb (ef.1 h1).1,(ef.1 h1).2]
 unfold mJ
 exact aml hc
theorem US {L:List UInt8} (h:48≤x.toNat∧x.toNat≤57) (hm:9≤m.toNat) (hx:∃c:UInt8,L[j]? =some c∧c.toBitVec=x) (hs:mJ m.toNat L 0=mJ m.toNat (L.drop j) nv.toNat) (hc:decide (((m-BitVec.ofInt 64 (((x.toNat:Nat):Int)-48))/10#64).toNat<nv.toNat)=false):mJ m.toNat L 0=mJ m.toNat (L.drop (j+1)) (10#64*nv+BitVec.ofInt 64 (((x.toNat:Nat):Int)-48)).toNat:=by
 obtain⟨c,h1,rfl⟩:=hx
 rw[amy,OG h hm] at hc
 have e:(10#64*nv+BitVec.ofInt 64 (((c.toBitVec.toNat:Nat):Int)-48)).toNat=10*nv.toNat+(c.toBitVec.toNat-48):=by
  rw[BitVec.toNat_add,BitVec.toNat_mul,OF h]
  have:=m.isLt
  show (10*nv.toNat%2^64+(c.toBitVec.toNat-48))%2^64=_
  omega
 rw[hs,anb (ef.1 h1).1,(ef.1 h1).2,e]
 conv=>lhs;unfold mJ
 exact amn hc
theorem N1 {L:List UInt8} (hs:mJ m.toNat L 0=mJ m.toNat (L.drop j) nv.toNat) (hj:L.length≤j):mJ m.toNat L 0=some nv.toNat:=by
 rw[hs,List.drop_of_length_le hj];rfl
theorem Y1 (s:ByteArray):9≤oz s:=by unfold oz;cases jF s jI<;>decide
theorem OU (h:lC s=false):trimB (eA s jI) pK=⟨#[]⟩:=by
 unfold lC at h
 simp only[aof,aoL,amj] at h
 exact h.2.1
theorem ZD (h:¬eA s jI=⟨#[]⟩):(0:Int)<((eA s jI).size:Int):=by
 rcases apf (eA s jI).size with h0|h0
 ·exfalso
  refine h ?_
  cases e:eA s jI with
  |mk a=>rw[e] at h0;exact amh ByteArray.mk (an0 h0)
 ·omega
theorem E1 (h:lC s=true):gh s=(0,2):=by unfold gh;rw[h];rfl
theorem UZ (h:lC s=false) (hv:mJ (oz s) (A8 s).data.toList 0=none):gh s=(0,3):=by unfold gh;rw[h,hv];rfl
theorem UY (h:lC s=false) (hp:jF s jI=true) (hv:mJ (oz s) (A8 s).data.toList 0=some nv.toNat):gh s=((-nv).toInt,0):=by
 have hr:=De (m:=oz s) (by unfold oz;cases jF s jI<;>decide) (vY (by
  unfold lC at h
  simp only[aof,aoL,amj] at h
  exact h.2.1)) (anB _) hv
 unfold oz at hr
 rw[hp] at hr
 have hr:nv.toNat≤9223372036854775808:=hr
 unfold gh
 rw[h,hv,hp]
 show (-((nv.toNat:Nat):Int),(0:Int))=_
 congr 1
 rw[aoC,BitVec.toNat_neg]
 have:=nv.isLt
 by_cases h0:nv.toNat=0
 ·simp[h0]
 ·rw[aot aq]
  split<;>omega
theorem UX (h:lC s=false) (hp:jF s jI=false) (hv:mJ (oz s) (A8 s).data.toList 0=some nv.toNat):gh s=(nv.toInt,0):=by
 have hr:=De (m:=oz s) (by unfold oz;cases jF s jI<;>decide) (vY (by
  unfold lC at h
  simp only[aof,aoL,amj] at h
  exact h.2.1)) (anB _) hv
 unfold oz at hr
 rw[hp] at hr
 have hr:nv.toNat≤9223372036854775807:=hr
 unfold gh
 rw[h,hv,hp]
 show (((nv.toNat:Nat):Int),(0:Int))=_
 congr 1
 rw[aoC]
 split<;>omega
end
def cA (s:ByteArray) (a e b:Int):Bool:=bif decide (e=0) then (bif decide (a<(s.size:Int)) then decide (su s a=b) else false) else false
def eH (s:ByteArray) (a e b:Int):Int:=bif cA s a e b then a+1 else a
def cg (e x:Int):Int:=bif decide (e=0) then x else e
def AN (s:ByteArray) (a e b:Int):Int×Int:=bif cA s a e b then (a+1,e) else (a,cg e 2)
def Lb (s:ByteArray):Nat→Int→Int
 |0,a=>a
 |k+1,a=>bif (bif decide (a<(s.size:Int)) then (bif decide (97≤su s a) then decide (su s a≤122) else false) else false) then Lb s k (a+1) else a
def zN (s:ByteArray) (a e:Int) (j:Nat):Int:=bif decide (e=0) then Lb s (8-j) (a+((j:Nat):Int)) else a+((j:Nat):Int)
def JI (s:ByteArray) (a e:Int):Int×Int×ByteArray:=(zN s a e 0,(bif decide (zN s a e 0=a) then cg e 2 else e),s.extract a.toNat (zN s a e 0).toNat)
def K9 (s:ByteArray) (a e:Int):Int×Int×Int:=bif !decide (e=0) then (a,e,0) else bif !decide ((gh (s.extract a.toNat (a+gr s a).toNat)).2=0) then (a,cg e (gh (s.extract a.toNat (a+gr s a).toNat)).2,0) else (a+gr s a,e,(gh (s.extract a.toNat (a+gr s a).toNat)).1)
def IH (s:ByteArray) (a on e:Int):Int:=bif (bif decide (on=4096) then (bif cA s a e 119 then true else cA s a e 114) else false) then cg e 3 else e
def IG (s:ByteArray) (a e:Int):Int×Int:=bif cA s a e 119 then (eH s a e 119,e) else AN s (eH s a e 119) e 114
def zC (s:ByteArray) (a on e:Int):Int×Int×kM:=
 let e1:=IH s a on e
 let m1:=IG s a e1
 let m2:=AN s m1.1 m1.2 58
 let nm:=JI s m2.1 m2.2
 let m3:=AN s nm.1 nm.2.1 61
 let nb:=K9 s m3.1 m3.2
 (nb.1,nb.2.1,cA s a e1 119,nm.2.2,nb.2.2)
def AJ (s:ByteArray):Nat→Int→Int→Int→List kM→Int×Int×Int×List kM
 |0,a,on,e,l=>(a,on,e,l)
 |k+1,a,on,e,l=>bif cA s a e 32 then AJ s k (zC s (eH s a e 32) on e).1 (on+1) (zC s (eH s a e 32) on e).2.1 (l++[(zC s (eH s a e 32) on e).2.2]) else (a,on,e,l)
def ya (s:ByteArray) (a on e:Int):Int×Int×Int×List kM:=
 bif cA s a e 10 then (eH s a e 10,on,e,[]) else
  let o:=zC s (eH s a e 10) on e
  let L:=AJ s (s.size+1) o.1 (on+1) o.2.1 [o.2.2]
  let m:=AN s (eH s L.1 L.2.2.1 32) L.2.2.1 10
  (m.1,L.2.1,m.2,L.2.2.2)
def po (s:ByteArray):Nat→Int→Int→Int→dv→Int×Int×Int×dv
 |0,a,on,e,h=>(a,on,e,h)
 |k+1,a,on,e,h=>bif (bif decide (e=0) then decide (a<(s.size:Int)) else false) then po s k (ya s a on e).1 (ya s a on e).2.1 (ya s a on e).2.2.1 (h++[(ya s a on e).2.2.2]) else (a,on,e,h)
def ko (s:ByteArray):dv×Int×Int:=
 bif !decide ((po s (s.size+1) 0 0 0 []).2.2.1=0) then ([],(po s (s.size+1) 0 0 0 []).1,(po s (s.size+1) 0 0 0 []).2.2.1) else ((po s (s.size+1) 0 0 0 []).2.2.2,0,0)
section
variable {s:ByteArray} {a e b x:Int} {j:Nat}
theorem Hr (h:cA s a e b=true):e=0∧a<(s.size:Int)∧su s a=b:=by
 unfold cA at h
 cases h1:decide (e=0)<;>rw[h1] at h
 ·cases h
 ·cases h2:decide (a<(s.size:Int))<;>rw[h2] at h
  ·cases h
  ·exact⟨am3 h1,am3 h2,am3 h⟩
theorem ck (h:0≤a∧a≤(s.size:Int)):a≤eH s a e b∧eH s a e b≤(s.size:Int)∧eH s a e b≤a+1:=by
 unfold eH
 cases h1:cA s a e b
 ·show a≤a∧a≤_∧a≤a+1;omega
 ·have:=Hr h1
  show a≤a+1∧a+1≤_∧a+1≤a+1;omega
theorem kW (h:0≤e∧e≤3) (hx:0≤x∧x≤3):0≤cg e x∧cg e x≤3:=by
 unfold cg
 cases decide (e=0)
 ·exact h
 ·exact hx
theorem zf {p:Int} (hp:p=a+((j:Nat):Int)) (h:(bif decide (e=0) then (bif decide (p-a<8) then (bif decide (p<(s.size:Int)) then (bif decide (97≤su s p) then decide (su s p≤122) else false) else false) else false) else false)=false):zN s a e j=p:=by
 subst hp
 unfold zN
 cases h1:decide (e=0)
 ·rfl
 ·rw[h1] at h
  show Lb s (8-j) _=_
  have h:(bif decide (a+((j:Nat):Int)-a<8) then _ else false)=false:=h
  cases h2:decide (a+((j:Nat):Int)-a<8)
  ·have:8-j=0:=by have:=anU h2;omega
   rw[this];rfl
  ·rw[h2] at h
   obtain⟨k,hk⟩:∃k,8-j=k+1:=⟨8-j-1,by have:=am3 h2;omega⟩
   rw[hk]
   show (bif _ then _ else _)=_
   have h:(bif decide (a+((j:Nat):Int)<(s.size:Int)) then (bif decide (97≤su s (a+((j:Nat):Int))) then decide (su s (a+((j:Nat):Int))≤122) else false) else false)=false:=h
   rw[h];rfl
theorem Ym {p:Int} (hp:p=a+((j:Nat):Int)) (h0:decide (e=0)=true) (h1:decide (p-a<8)=true) (h2:decide (p<(s.size:Int))=true) (h3:decide (97≤su s p)=true) (h4:decide (su s p≤122)=true):zN s a e j=zN s a e (j+1):=by
 subst hp
 unfold zN
 rw[h0]
 obtain⟨k,hk⟩:∃k,8-j=k+1:=⟨8-j-1,by have:=am3 h1;omega⟩
 rw[hk,show 8-(j+1)=k from by omega]
 show Lb s (k+1) _=Lb s k _
 conv=>lhs;unfold Lb
 rw[h2,h3,h4]
 show Lb s k _=_
 congr 1
 push_cast
 omega
theorem U1 (h:(!cA s a e b)=false):e=0→e=0∧eH s a e b=a+1:=fun h0=>⟨h0,by unfold eH;rw[show cA s a e b=true by simpa using h];rfl⟩
theorem Oy (h:cg e 2=0):False:=by
 unfold cg at h
 cases h1:decide (e=0)<;>rw[h1] at h
 ·exact anU h1 h
 ·exact absurd (show (2:Int)=0 from h) aw
theorem VI (hx:¬x=0) (h:cg e x=0):False:=by
 unfold cg at h
 cases h1:decide (e=0)<;>rw[h1] at h
 ·exact anU h1 h
 ·exact hx h
section
variable {k:Nat} {p n a2 e2:Int} {l:List kM} {o:kM} {Z:Int×Int×Int×List kM} {h:dv}
theorem UQ (hs:Z=AJ s k p n e l) (hk:1≤k) (h:cA s p e 32=true) (ho:zC s (eH s p e 32) n e=(a2,e2,o)):Z=AJ s (k-1) a2 (n+1) e2 (l++[o]):=by
 obtain⟨q,rfl⟩:∃q,k=q+1:=⟨k-1,by omega⟩
 rw[hs]
 conv=>lhs;unfold AJ
 rw[h,ho];rfl
theorem UP (hs:Z=AJ s k p n e l) (h:cA s p e 32=false):Z=(p,n,e,l):=by
 rw[hs]
 cases k with
 |zero=>rfl
 |succ k=>unfold AJ;rw[h];rfl
theorem PH {n2:Int} {Y:Int×Int×Int×dv} (hs:Y=po s k p n e h) (hk:1≤k) (h1:decide (e=0)=true) (h2:decide (p<(s.size:Int))=true) (ho:ya s p n e=(a2,n2,e2,l)):Y=po s (k-1) a2 n2 e2 (h++[l]):=by
 obtain⟨q,rfl⟩:∃q,k=q+1:=⟨k-1,by omega⟩
 rw[hs]
 conv=>lhs;unfold po
 rw[h1,h2,ho];rfl
theorem Gm {Y:Int×Int×Int×dv} (hs:Y=po s k p n e h) (hc:(bif decide (e=0) then decide (p<(s.size:Int)) else false)=false):Y=(p,n,e,h):=by
 rw[hs]
 cases k with
 |zero=>rfl
 |succ k=>unfold po;rw[hc];rfl
end
end
end Go.Ew
namespace Go.Ew
def adD (h:dv) (s p:Nat) (o:kM):Prop:=∃l,h[s]? =some l∧l[p]? =some o
theorem adD.lt {h:dv} {s p:Nat} {o:kM} (a:adD h s p o):s<h.length:=by
 obtain⟨l,h1,h2⟩:=a
 exact(ef.1 h1).1
section
variable {h:dv} {s p s' p':Nat} {op op':kM}
end
section
variable {h:dv} {s p s' p':Nat} {op op':kM}
end
end Go.Ew
namespace Go.Ew
section
variable {h:dv} {s n:Nat} {l:List kM} {o:kM}
end
section
variable {h g:dv} {σ σ':Nat→Nat} {ρ:ByteArray→ByteArray}
end
end Go.Ew
namespace Go.Ew
def sd (lv:Int):Bool:=decide (0<(((dq lv).length:Nat):Int))
def oO (h:dv) (lv:Int):Int:=bif decide (k0 h=0) then (bif sd lv then (dz (cN h)).2.2 else 1) else 1
def mz (h:dv) (lv:Int):Int×Int:=bif decide (k0 h=0) then (bif sd lv then ((dz (cN h)).1,(dz (cN h)).2.1) else (0,0)) else (0,0)
def sW (h:dv) (lv:Int):Int:=bif decide (oO h lv=0) then lv else 0
noncomputable def kC (h:dv) (lv:Int):Bool:=bif decide (oO h lv=0) then !decide (dL (cN h) (gG (cN h)) lv=0) else false
noncomputable def dN (h:dv) (lv:Int):vN:=bif decide (oO h lv=0) then (fN (cN h) (gG (cN h)) lv).getD (0,0,0,0,0) else (0,0,0,0,0)
section
variable {h:dv} {lv:Int}
theorem W6 (hl:sd lv=true):lv=1∨lv=2∨lv=3:=by
 by_cases h1:lv=1
 ·exact .inl h1
 by_cases h2:lv=2
 ·exact .inr (.inl h2)
 by_cases h3:lv=3
 ·exact .inr (.inr h3)
 unfold sd dq at hl
 rw[ams h1,ams h2,ams h3] at hl
 cases hl
theorem aec (hl:lv=1∨lv=2∨lv=3):sd lv=true:=by rcases hl with rfl|rfl|rfl<;>rfl
theorem Xi (he:k0 h=0) (hl:sd lv=true) (hc:(dz (cN h)).2.2=0):oO h lv=0∧mz h lv=(0,0)∧sW h lv=lv∧kC h lv=(!decide (dL (cN h) (gG (cN h)) lv=0))∧dN h lv=(fN (cN h) (gG (cN h)) lv).getD (0,0,0,0,0):=by
 have e1:oO h lv=0:=by unfold oO;rw[amp he,hl];exact hc
 refine⟨e1,?_,?_,?_,?_⟩
 ·unfold mz;rw[amp he,hl]
  show ((dz (cN h)).1,(dz (cN h)).2.1)=_
  rw[(OL hc).1,(OL hc).2]
 ·unfold sW;rw[e1];rfl
 ·unfold kC;rw[e1];rfl
 ·unfold dN;rw[e1];rfl
theorem PU {e:Int} (he:oO h lv=e) (h0:¬e=0):sW h lv=0∧kC h lv=false∧dN h lv=(0,0,0,0,0):=by
 subst he
 unfold sW kC dN
 rw[ams h0]
 exact⟨J,J,J⟩
theorem Sk (hx:decide (k0 h=0)=false∨sd lv=false):oO h lv=1∧mz h lv=(0,0):=by
 unfold oO mz
 rcases hx with hx|hx<;>rw[hx]
 ·exact⟨J,J⟩
 ·cases decide (k0 h=0)<;>exact⟨rfl,rfl⟩
theorem abr (he:k0 h=0) (hl:sd lv=true):oO h lv=(dz (cN h)).2.2∧mz h lv=((dz (cN h)).1,(dz (cN h)).2.1):=by
 unfold oO mz;rw[amp he,hl];exact⟨rfl,rfl⟩
theorem L4 (hc:(dz (cN h)).2.2=0):∀x∈gG (cN h),x<(((cN h).length:Nat):Int):=by rw[HM hc];exact L3
theorem Z5 {k r a b o:Int} (hw:p9 (fN (cN h) (gG (cN h)) lv) k r a b o) (hc:dL (cN h) (gG (cN h)) lv=0):(fN (cN h) (gG (cN h)) lv).getD (0,0,0,0,0)=(k,r,a,b,o):=by
 obtain⟨y,hy⟩:=amG.1 (OJ hc)
 rw[hy,hw.2 y hy];rfl
theorem Z3 (hc:¬dL (cN h) (gG (cN h)) lv=0):(fN (cN h) (gG (cN h)) lv).getD (0,0,0,0,0)=(0,0,0,0,0):=by rw[HT hc];rfl
theorem wY (ho:fF h=true) (hl:lv=1∨lv=2∨lv=3):oO h lv=0∧mz h lv=(0,0)∧sW h lv=lv∧kC h lv=(fN (jD h) (ka h) lv).isNone∧dN h lv=(fN (jD h) (ka h) lv).getD (0,0,0,0,0):=by
 have hy:=Dk ho
 unfold fF at ho
 rw[eQ,amj] at ho
 obtain⟨h1,h2,h3,h4,h5⟩:=Xi (lv:=lv) (xU ho.1).2.2 (aec hl) ho.2
 refine⟨h1,h2,h3,?_,?_⟩
 ·rw[h4,hy.2.1,hy.2.2,HM ho.2]
  unfold dL
  cases fN (cN h) (jl (cN h)) lv<;>rfl
 ·rw[h5,hy.2.1,hy.2.2,HM ho.2]
end
theorem VY {α0 α1 α2 α3 α4 α5 α6 α7 α8 α9 ZY β:Type} (f:α0→α1→α2→α3→α4→α5→α6→α7→α8→α9→ZY→β) {x0 y0:α0} {x1 y1:α1} {x2 y2:α2} {x3 y3:α3} {x4 y4:α4} {x5 y5:α5} {x6 y6:α6} {x7 y7:α7} {x8 y8:α8} {x9 y9:α9} {x10 y10:ZY} (h0:x0=y0) (h1:x1=y1) (h2:x2=y2) (h3:x3=y3) (h4:x4=y4) (h5:x5=y5) (h6:x6=y6) (h7:x7=y7) (h8:x8=y8) (h9:x9=y9) (h10:x10=y10):f x0 x1 x2 x3 x4 x5 x6 x7 x8 x9 x10=f y0 y1 y2 y3 y4 y5 y6 y7 y8 y9 y10:=by
 subst h0;subst h1;subst h2;subst h3;subst h4;subst h5;subst h6;subst h7;subst h8;subst h9;subst h10;rfl
def DL (s:ByteArray) (lv:Int):Bool:=bif sd lv then decide ((ko s).2.2=0) else false
def uq (s:ByteArray) (lv:Int):Int:=bif sd lv then (bif decide ((ko s).2.2=0) then oO (ko s).1 lv else (ko s).2.2) else 1
def zn (s:ByteArray) (lv:Int):Int:=bif sd lv then (bif decide ((ko s).2.2=0) then 0 else (ko s).2.1) else 0
def sF (s:ByteArray) (lv:Int):Int×Int:=bif DL s lv then mz (ko s).1 lv else (0,0)
def zm (s:ByteArray) (lv:Int):Int:=bif DL s lv then sW (ko s).1 lv else 0
noncomputable def qU (s:ByteArray) (lv:Int):Bool:=bif DL s lv then kC (ko s).1 lv else false
noncomputable def kn (s:ByteArray) (lv:Int):vN:=bif DL s lv then dN (ko s).1 lv else (0,0,0,0,0)
section
variable {s:ByteArray} {lv a e:Int} {h:dv}
theorem adS (hl:sd lv=false):uq s lv=1∧zn s lv=0∧sF s lv=(0,0)∧zm s lv=0∧qU s lv=false∧kn s lv=(0,0,0,0,0):=by
 have hr:DL s lv=false:=by unfold DL;rw[hl];rfl
 refine⟨?_,?_,?_,?_,?_,?_⟩
 ·unfold uq;rw[hl];rfl
 ·unfold zn;rw[hl];rfl
 ·unfold sF;rw[hr];rfl
 ·unfold zm;rw[hr];rfl
 ·unfold qU;rw[hr];rfl
 ·unfold kn;rw[hr];rfl
theorem aac (hl:sd lv=true) (ht:ko s=(h,a,e)) (he:¬e=0):uq s lv=e∧zn s lv=a∧sF s lv=(0,0)∧zm s lv=0∧qU s lv=false∧kn s lv=(0,0,0,0,0):=by
 have hd:decide ((ko s).2.2=0)=false:=by rw[ht];exact ams he
 have hr:DL s lv=false:=by unfold DL;rw[hl,hd];rfl
 refine⟨?_,?_,?_,?_,?_,?_⟩
 ·unfold uq;rw[hl,hd,ht];rfl
 ·unfold zn;rw[hl,hd,ht];rfl
 ·unfold sF;rw[hr];rfl
 ·unfold zm;rw[hr];rfl
 ·unfold qU;rw[hr];rfl
 ·unfold kn;rw[hr];rfl
theorem O8 (hl:sd lv=true) (ht:ko s=(h,a,e)) (he:e=0):uq s lv=oO h lv∧zn s lv=0∧sF s lv=mz h lv∧zm s lv=sW h lv∧qU s lv=kC h lv∧kn s lv=dN h lv:=by
 have hd:decide ((ko s).2.2=0)=true:=by rw[ht];exact amp he
 have hr:DL s lv=true:=by unfold DL;rw[hl,hd];rfl
 refine⟨?_,?_,?_,?_,?_,?_⟩
 ·unfold uq;rw[hl,hd,ht];rfl
 ·unfold zn;rw[hl,hd];rfl
 ·unfold sF;rw[hr,ht];rfl
 ·unfold zm;rw[hr,ht];rfl
 ·unfold qU;rw[hr,ht];rfl
 ·unfold kn;rw[hr,ht];rfl
end
end Go.Ew
namespace Go.Ew
set_option maxRecDepth 100000
abbrev Jm:ByteArray:=⟨#[119,58,120,61,49,32,114,58,120,61,50,10,119,58,120,61,50,32,114,58,120,61,49,10]⟩
def Ya:dv:=[[(true,⟨#[120]⟩,1),(false,⟨#[120]⟩,2)],[(true,⟨#[120]⟩,2),(false,⟨#[120]⟩,1)]]
def kK:List aH:=[(0,0,true,0,1),(0,1,false,0,2),(1,0,true,0,2),(1,1,false,0,1)]
def na:List Int:=[-3,2, -3,0]
theorem Ib:ko Jm=(Ya,0,0):=by decide +kernel
theorem TP:fF Ya=true:=by decide +kernel
theorem adj:jD Ya=kK:=by decide +kernel
theorem adk:ka Ya=na:=by decide +kernel
theorem G7:∀x∈na,x<((kK.length:Nat):Int):=by decide
def yB (o:Int) (a b:Nat):Bool:=(decide (o=1)&&((a,b)==(0,1)||(a,b)==(2,1)||(a,b)==(0,2)))||(decide (o=3)&&((a,b)==(2,3)||(a,b)==(0,3)||(a,b)==(2,0)))
theorem adg:∀r:Nat,¬na[r]? =some (-2):=by
 intro r h
 have:(-2:Int)∈na:=dJ h
 exact absurd this aw
theorem TQ:∀r:Nat,¬na[r]? =some (-1):=by
 intro r h
 have:(-1:Int)∈na:=dJ h
 exact absurd this aw
theorem adf:∀i,i<4→pB kK na i i=false:=by decide +kernel
theorem tj {p:Nat→Bool} (h:(List.range 4).all p=true) {i:Nat} (hi:i<4):p i=true:=amq.1 h i (amm.2 hi)
def Oi (a b:Bool):Bool:=!a||b
theorem imp {a b:Bool} (h:Oi a b=true) (ha:a=true):b=true:=by unfold Oi at h;rw[ha] at h;simpa using h
theorem afk:((List.range 4).all fun r=>(List.range 4).all fun a=>(List.range 4).all fun b=>Oi (decide (na[r]? =some ((b:Nat):Int))&&(decide (a≠b)&&(!(iE kK (rl kK ((r:Nat):Int)) ((a:Nat):Int))&&pB kK na a r))) (!(pB kK na b a)))=true:=by decide +kernel
theorem ade:∀r,r<4→∀a,a<4→∀b,b<4→na[r]? =some ((b:Nat):Int)→a≠b→iE kK (rl kK ((r:Nat):Int)) ((a:Nat):Int)=false→pB kK na a r=true→pB kK na b a=false:=by
 intro r hr a ha b hb h1 h2 h3 h4
 have:=imp (tj (tj (tj afk hr) ha) hb)<|by rw[amp h1,amp h2,h3,h4];rfl
 simpa using this
theorem afj:((List.range 4).all fun o=>(List.range 4).all fun a=>(List.range 4).all fun b=>Oi (pB kK na a b&&(decide (((a:Nat):Int)∈bL ((kK.length:Nat):Int) (cp kK na) ((o:Nat):Int))&&decide (((b:Nat):Int)∈bL ((kK.length:Nat):Int) (cp kK na) ((o:Nat):Int)))) (yB ((o:Nat):Int) a b))=true:=by decide +kernel
theorem ZS:∀o,o<4→∀a,a<4→∀b,b<4→pB kK na a b=true→((a:Nat):Int)∈bL ((kK.length:Nat):Int) (cp kK na) ((o:Nat):Int)→((b:Nat):Int)∈bL ((kK.length:Nat):Int) (cp kK na) ((o:Nat):Int)→yB ((o:Nat):Int) a b=true:=by
 intro o ho a ha b hb h1 h2 h3
 exact imp (tj (tj (tj afj ho) ha) hb)<|by rw[h1,amp h2,amp h3];rfl
theorem afh:((List.range 4).all fun o=>(List.range 4).all fun a=>(List.range 4).all fun b=>(List.range 4).all fun c=>Oi (yB ((o:Nat):Int) a b&&yB ((o:Nat):Int) b c) (yB ((o:Nat):Int) a c))=true:=by decide +kernel
theorem Wk:∀o,o<4→∀a,a<4→∀b,b<4→∀c,c<4→yB ((o:Nat):Int) a b=true→yB ((o:Nat):Int) b c=true→yB ((o:Nat):Int) a c=true:=by
 intro o ho a ha b hb c hc h1 h2
 exact imp (tj (tj (tj (tj afh ho) ha) hb) hc)<|by rw[h1,h2];rfl
theorem afi:((List.range 4).all fun o=>(List.range 4).all fun a=>(List.range 4).all fun b=>(List.range 4).all fun r=>Oi (decide (((r:Nat):Int)∈lO kK ((o:Nat):Int))&&(decide (na[r]? =some ((b:Nat):Int))&&(decide (a≠b)&&(!(iE kK (rl kK ((b:Nat):Int)) ((a:Nat):Int))&&yB ((o:Nat):Int) a r)))) (yB ((o:Nat):Int) a b))=true:=by decide +kernel
theorem ZR:∀o,o<4→∀a,a<4→∀b,b<4→∀r,r<4→((r:Nat):Int)∈lO kK ((o:Nat):Int)→na[r]? =some ((b:Nat):Int)→a≠b→iE kK (rl kK ((b:Nat):Int)) ((a:Nat):Int)=false→yB ((o:Nat):Int) a r=true→yB ((o:Nat):Int) a b=true:=by
 intro o ho a ha b hb r hr h1 h2 h3 h4 h5
 exact imp (tj (tj (tj (tj afi ho) ha) hb) hr)<|by rw[amp h1,amp h2,amp h3,h4,h5];rfl
theorem adh:∀o,o<4→∀i,i<4→yB ((o:Nat):Int) i i=false:=by decide +kernel
theorem adb:∀o i,o<4→i<4→¬Bj kK na ((o:Nat):Int) i i=true:=by
 intro o i ho hi h
 have:=pF.1 h (fun a b=>yB ((o:Nat):Int) a b=true) ⟨fun a b ha hb=>ZS o ho a ha b hb,fun a b c ha hb hc=>Wk o ho a ha b hb c hc,fun a b r hr k=>by
  have hb:=G7 _<|dJ k.fr
  have hb:b<4:=by have:kK.length=4:=rfl;omega
  exact ZR o ho a k.a1 b hb r k.r1 hr k.fr k.ne k.wr k.ah⟩
 rw[adh o ho i hi] at this
 cases this
theorem X':fN kK na 3=none:=by
 rw[BB rfl G7]
 intro k hk
 unfold Ih
 rintro(⟨h0,r,hr⟩|⟨h0,i,hi,h⟩|⟨h0,r,a,hr,ha,h1,h2,h3⟩|⟨h0,r,a,b,hr,ha,hb,h1,h2,h3,h4,h5⟩|⟨h0,i,hi,h⟩|⟨h0,o,r,a,ho,hr,ha,h1,h2,h3,h4⟩|⟨h0,o,i,ho,hi,h⟩)
 ·exact adg r hr
 ·rw[adf i hi] at h;cases h
 ·exact TQ r h1
 ·rw[ade r hr a ha b hb h1 h2 h3 h4] at h5;cases h5
 ·subst h0;exact absurd hk aw
 ·exact TQ r h2
 ·exact adb o i ho hi h
theorem adi:∃y,fN kK na 2=some y∧y.1=5:=by
 have h5:(jL kK na 5).isSome=true:=by
  rw[Hx rfl G7 aq]
  refine .inr (.inr (.inr (.inr (.inl ⟨J,0,by decide,?_⟩))))
  have e1:Jg kK na 0 2=true:=by
   unfold Jg
   rw[amt,@decide_eq_true_iff _ (Classical.propDecidable _)]
   exact .inr ⟨1,by decide,by decide,J,by decide,by decide +kernel,by decide +kernel⟩
  have e2:Jg kK na 2 0=true:=by
   unfold Jg
   rw[amt,@decide_eq_true_iff _ (Classical.propDecidable _)]
   exact .inr ⟨3,by decide,by decide,J,by decide,by decide +kernel,by decide +kernel⟩
  exact A9 (b:=2) aw (xw e1)<|xw e2
 have hn:∀k,k=1∨k=2∨k=3∨k=4→jL kK na k=none:=by
  intro k hk
  have:¬(jL kK na k).isSome=true:=by
   rw[Hx rfl G7 aq]
   have:=(BB (I:=kK) (U:=na) (lv:=3) J G7).1 X' k
   refine this ?_
   rcases hk with rfl|rfl|rfl|rfl<;>decide
  cases e:jL kK na k with
  |none=>rfl
  |some x=>rw[e] at this;exact absurd rfl this
 obtain⟨y,hy⟩:=amG.1 h5
 refine⟨y,?_,IE hy⟩
 unfold fN
 rw[show dq 2=[1,2,3,4,5] from rfl]
 simp only[List.findSome?_cons,hn 1 aq,hn 2 aq,hn 3 aq,hn 4 aq,hy]
theorem TR:(ko Jm).2.2=0→(ko Jm).1.flatten.length≤64:=by rw[Ib];decide
theorem FE:uq Jm 3=0∧qU Jm 3=true:=by
 obtain⟨h1,_,_,_,h2,_⟩:=O8 (lv:=3) rfl Ib rfl
 obtain⟨k1,_,_,k2,_⟩:=wY (lv:=3) TP aq
 rw[h1,h2,k1,k2,adj,adk,X']
 exact⟨J,J⟩
theorem zc:uq Jm 2=0∧qU Jm 2=false∧(kn Jm 2).1=5:=by
 obtain⟨h1,_,_,_,h2,h3⟩:=O8 (lv:=2) rfl Ib rfl
 obtain⟨k1,_,_,k2,k3⟩:=wY (lv:=2) TP aq
 obtain⟨y,e1,e2⟩:=adi
 rw[h1,h2,h3,k1,k2,k3,adj,adk,e1]
 exact⟨J,J,e2⟩
end Go.Ew
namespace Go.Ew
def zX (h:dv) (m:Int):List ByteArray:=bif iF h m then sP h else []
def oD (h:dv) (m:Int):List aH:=bif iF h m then jD h else []
def oE (h:dv) (m:Int):List Int:=bif iF h m then ka h else []
theorem ae9 {h:dv} {m:Int} (hk:(iF h m&&fF h)=true):oD h m=jD h∧oE h m=ka h∧fF h=true∧(h.flatten.length:Int)≤m:=by
 rw[eQ] at hk
 unfold oD oE
 rw[hk.1]
 exact⟨J,J,hk.2,(Iv.1 hk.1).2.1⟩
section
variable {h:dv}
theorem HH (ho:fF h=true) {lv:Int} (hl:lv=1∨lv=2∨lv=3):kC h lv=true↔fN (jD h) (ka h) lv=none:=by
 rw[(wY ho hl).2.2.2.1,Option.isNone_iff_eq_none]
theorem qP (ho:fF h=true) (hc:kC h 2=true):kC h 1=true:=by
 rw[HH ho aq] at hc ⊢
 cases e:fN (jD h) (ka h) 1 with
 |none=>rfl
 |some y=>rw[CN (by rw[e];rfl),e] at hc;cases hc
theorem nK (ho:fF h=true) (hc:kC h 3=true):kC h 1=true:=by
 rw[HH ho aq] at hc ⊢
 cases e:fN (jD h) (ka h) 1 with
 |none=>rfl
 |some y=>rw[z1 (by rw[e];rfl),e] at hc;cases hc
theorem jv (ho:fF h=true) {I:List aH} {U:List Int} (e1:I=jD h) (e2:U=ka h):(decide (dL I U 1=8)==kC h 1)=true:=by
 rw[e1,e2,(wY ho aq).2.2.2.1]
 unfold dL
 cases fN (jD h) (ka h) 1<;>rfl
theorem tV (ho:fF h=true) (hc:kC h 1=false):dN h 2=dN h 1∧dN h 3=dN h 1:=by
 have hn:(fN (jD h) (ka h) 1).isSome=true:=by
  cases e:fN (jD h) (ka h) 1 with
  |none=>rw[(HH ho aq).2 e] at hc;cases hc
  |some y=>rfl
 rw[(wY ho (lv:=2) aq).2.2.2.2,(wY ho (lv:=1) aq).2.2.2.2,(wY ho (lv:=3) aq).2.2.2.2,CN hn,z1 hn]
 exact⟨J,J⟩
theorem qF {x y:vN} (h:y=x):(decide (x.1=y.1)&&(decide (x.2.1=y.2.1)&&(decide (x.2.2.1=y.2.2.1)&&(decide (x.2.2.2.1=y.2.2.2.1)&&decide (x.2.2.2.2=y.2.2.2.2)))))=true:=by subst h;simp
end
end Go.Ew
namespace Go.Ew
def sJ {α:Type} (xs:List α) (q:Nat):List α:=xs.mapIdx fun i x=>if i<q∨xs.length-q≤i then (xs[xs.length-1-i]?).getD x else x
theorem uu {α:Type} (xs:List α) (q:Nat):(sJ xs q).length=xs.length:=by unfold sJ;simp
theorem wH {α:Type} (xs:List α) (q i:Nat) (hi:i<xs.length):(sJ xs q)[i]? =if i<q∨xs.length-q≤i then xs[xs.length-1-i]? else xs[i]?:=by
 unfold sJ
 rw[List.getElem?_mapIdx,eP hi]
 simp only[anD]
 split
 ·rw[eP aq];rfl
 ·rfl
theorem Pp {α:Type} (xs:List α):xs=sJ xs 0:=by
 apply amQ
 intro i
 by_cases hi:i<xs.length
 ·rw[wH xs 0 i hi,amn aq]
 ·rw[amv aq,amv (by rw[uu];omega)]
theorem Pq {α:Type} {xs ys:List α} {q:Nat} {x y:α} (hs:ys=sJ xs q) (h:q+q+1<xs.length) (hx:ys[xs.length-1-q]? =some x) (hy:ys[q]? =some y):(ys.set q x).set (xs.length-1-q) y=sJ xs (q+1):=by
 subst hs
 rw[wH _ _ _ aq,amn aq] at hx hy
 apply amQ
 intro i
 by_cases hi:i<xs.length
 ·rw[wH xs (q+1) i hi,anC,anC,ami,uu]
  by_cases e1:xs.length-1-q=i
  ·subst e1
   rw[aml rfl,aml aq,aml aq,show xs.length-1-(xs.length-1-q)=q from by omega,hy]
  ·rw[amn e1]
   by_cases e2:q=i
   ·subst e2
    rw[aml rfl,aml aq,aml aq,hx]
   ·rw[amn e2,wH xs q i hi]
    by_cases e3:i<q∨xs.length-q≤i
    ·rw[aml e3,aml aq]
    ·rw[amn e3,amn aq]
 ·rw[amv (by rw[ami,ami,uu];omega),amv (by rw[uu];omega)]
theorem MY {xs ys:List Int} {q:Nat} {x y:Int} {i:Int} (hs:ys=sJ xs q) (h:q+q+1<xs.length) (hx:ys[i.toNat]? =some x) (hi:i.toNat=xs.length-1-q:=by omega) (hy:ys[((q:Nat):Int).toNat]? =some y):(ys.set ((q:Nat):Int).toNat x).set i.toNat y=sJ xs (q+1):=by
 rw[hi] at hx ⊢
 exact Pq hs h hx hy
theorem Rt {α:Type} {xs ys:List α} {q:Nat} (hs:ys=sJ xs q) (h:xs.length≤q+q+1):ys=xs.reverse:=by
 subst hs
 apply amQ
 intro i
 by_cases hi:i<xs.length
 ·rw[wH xs q i hi,List.getElem?_reverse hi]
  by_cases e:i<q∨xs.length-q≤i
  ·rw[aml e]
  ·rw[amn e];congr 1;omega
 ·rw[amv (by rw[uu];omega),amv (by rw[List.length_reverse];omega)]
end Go.Ew
namespace Go.Ew
open Go.RowKit
theorem Ta (w:World) (q:Nat):Ext w (w.drewN q):=by
 induction q with
 |zero=>exact Ext.refl w
 |succ q ih=>exact ih.trans (Ext.drew _)
theorem Hh (z:Array Value) (n:Nat):(Builtin.zeroCells z n).size=n*z.size:=by unfold Builtin.zeroCells;simp
theorem SQ {α:Type} [GT α] {M:Nat→Prop} {w:World} {e:TypeId} {z:Value} (hz:z.cells.size=GT.size α) {m:Nat} (hm:m≤1048576):
  bj M e w ([]:List α) (.slice (some ⟨w.heap.size,0,none⟩) ([]:List α).length (grownCap w (0+m) 0 e)) (w.drew.alloc (.cells (([]:List Value).toArray++Builtin.zeroCells z.cells (0+m-0)++Builtin.zeroCells z.cells (grownCap w (0+m) 0 e-(0+m))) e)):=by
 have h1:=grownCap_ge w (0+m) 0 e
 have h2:=grownCap_le_maxLen w (0+m) 0 e<|by simp only[maxLen];omega
 have hg:(w.drew.alloc (.cells (([]:List Value).toArray++Builtin.zeroCells z.cells (0+m-0)++Builtin.zeroCells z.cells (grownCap w (0+m) 0 e-(0+m))) e)).heap[w.heap.size]? =some (.cells (([]:List Value).toArray++Builtin.zeroCells z.cells (0+m-0)++Builtin.zeroCells z.cells (grownCap w (0+m) 0 e-(0+m))) e):=by
  show (w.heap.push _)[w.heap.size]? =_
  simp
 refine⟨(Ext.drew w).trans (Ext.alloc _ _),fun b hb=>?_,[],⟨by simp,.inr ⟨w.heap.size,_,_,J,amk _,hg,anB _,h2,?_,by simp⟩⟩,J⟩
 ·have hb:w.heap.size=b:=amo hb
  subst hb
  show _<(w.heap.push _).size
  simp
 ·simp only[apl,Hh,hz,anO,gm]
  rw[show 0+m-0=m from by omega,show 0+m=m from by omega] at *
  rw[am2,←am8]
  congr 1
  omega
end Go.Ew
namespace Go.Ew
open Go.RowKit Go.WideShapes Go.ChangeShapes
structure Ik (B:(H:Type)→DataW H→Nat):Prop where
 lit:∀(H:Type) l,1≤B H (.lit l)
 str:∀(H:Type) bs,bs.length+1≤B H (.lit (.string bs))
 nil:∀(H:Type),1≤B H .nil
 slice:∀(H:Type) (es sp:List (DataW H)),(es.map (B H)).sum+1≤B H (.slice es sp)
 agg:∀(H:Type) (ps:List (DataW H)),(ps.map (B H)).sum≤B H (.agg ps)
class Wt (α:Type) where
 wt:α→Nat
instance akK:Wt Int:=⟨fun _=>1⟩
instance ak':Wt (BitVec 64):=⟨fun _=>1⟩
instance ala:Wt (BitVec 8):=⟨fun _=>1⟩
instance aiL:Wt Bool:=⟨fun _=>1⟩
instance akJ:Wt ByteArray:=⟨fun s=>s.size+1⟩
instance aiK {α:Type} [Wt α]:Wt (List α):=⟨fun l=>(l.map Wt.wt).sum+1⟩
instance aiJ {α β:Type} [Wt α] [Wt β]:Wt (α×β):=⟨fun x=>Wt.wt x.1+Wt.wt x.2⟩
theorem QS {α:Type} [Wt α] (h1:∀x:α,1≤Wt.wt x):∀l:List α,l.length≤(l.map Wt.wt).sum
 |[]=>amk _
 |x::l=>by
  have:=QS h1 l
  have:=h1 x
  simp only[iB,amJ,aoV];omega
theorem Yn {α:Type} [Wt α] (h1:∀x:α,1≤Wt.wt x):∀h:List (List α),h.flatten.length≤Wt.wt h:=by
 intro h
 show _≤(h.map Wt.wt).sum+1
 induction h with
 |nil=>simp
 |cons l h ih=>
  have:=QS h1 l
  simp only[apk,gf,amJ,aoV]
  show _≤((l.map Wt.wt).sum+1)+(h.map Wt.wt).sum+1
  omega
theorem Nt {α β:Type} [Wt α] [Wt β] (h:∀x:β,1≤Wt.wt x):∀x:α×β,1≤Wt.wt x:=fun x=>by
 have:=h x.2
 show 1≤Wt.wt x.1+Wt.wt x.2
 omega
theorem Z4:∀x:Int,1≤Wt.wt x:=fun _=>amk _
def tk (B:(H:Type)→DataW H→Nat) (P:Program) (t:TypeId) (α:Type) [GT α] [Wt α]:Prop:=
 P.cellsOf t=GT.size α∧∀{H:Type} (enc:TypeId×Value→H) (W:World) (n:Nat) (cs:List Value) (x:DataW H×List MemPlace),
  DataW.trod enc P W 0 (fun _=>true) true n t cs=some x→∃y:α,GT.rep MG W cs y∧Wt.wt y≤B H x.1
section
variable {P:Program} {t e:TypeId} {B:(H:Type)→DataW H→Nat}
theorem PD (hB:Ik B) (hc:P.cellsOf t=1) (ht:P.underlying t=some (.int .i64)):tk B P t Int:=by
 refine⟨hc,fun {H} enc W n cs x h=>?_⟩
 obtain⟨k,rfl,rfl,hw⟩:=DataW.trod_int ht h
 exact⟨k,⟨J,bounds_i64 hw⟩,hB.lit H _⟩
theorem Nf (hB:Ik B) (hc:P.cellsOf t=1) (ht:P.underlying t=some .bool):tk B P t Bool:=by
 refine⟨hc,fun {H} enc W n cs x h=>?_⟩
 obtain⟨k,rfl,rfl⟩:=DataW.trod_bool ht h
 exact⟨k,J,hB.lit H _⟩
theorem Jy (hB:Ik B) (hc:P.cellsOf t=1) (ht:P.underlying t=some .string):tk B P t ByteArray:=by
 refine⟨hc,fun {H} enc W n cs x h=>?_⟩
 obtain⟨k,rfl,rfl,hk⟩:=DataW.trod_string ht h
 refine⟨k,⟨J,hk⟩,?_⟩
 have:=hB.str H k.data.toList
 rw[am1] at this
 exact this
theorem QR {α:Type} [Wt α] {D:Type} (g:D→Nat):∀(l:List α) (es:List D),l.length=es.length→(∀(i:Nat) (y:α) (x:D),l[i]? =some y→es[i]? =some x→Wt.wt y≤g x)→(l.map Wt.wt).sum≤(es.map g).sum
 |[],[],_,_=>amk _
 |[],_::_,h,_=>by simp at h
 |_::_,[],h,_=>by simp at h
 |y::l,x::es,h,k=>by
  have h1:=QR g l es (by simpa using h) fun i y x hy hx=>k (i+1) y x (by simpa using hy) (by simpa using hx)
  have h2:=k 0 y x J J
  simp only[amJ,aoV];omega
theorem Cf {α:Type} [GT α] [Wt α] (hB:Ik B) (hc:P.cellsOf t=1) (ht:P.underlying t=some (.slice e)) (O:tk B P e α):tk B P t (List α):=by
 refine⟨hc,fun {H} enc W n cs x h=>?_⟩
 rcases DataW.trod_slice ht h with ⟨rfl,rfl⟩|⟨a,len,cap,elems,rest,m,rfl,rfl,rfl, -,hl,hm,hlen,uN, -, -⟩
 ·exact⟨[],⟨_,J,F2 _ _⟩,hB.nil H⟩
 ·have one:∀i,i<len→∃y:α,At MG W (a.add (i*GT.size α)) y∧∀z,elems[i]? =some z→Wt.wt y≤B H z.1:=by
   intro i hi
   have h1:=uN i hi
   rw[eP (by omega:i<elems.length)] at h1
   simp only[aoP] at h1
   obtain⟨ds,hd,hx⟩:=h1
   obtain⟨y,hy,hw⟩:=O.2 enc W m ds _ hx
   rw[O.1] at hd
   refine⟨y,⟨ds,hy,fun h=>h,Ty hd⟩,fun z hz=>?_⟩
   rw[eP (by omega:i<elems.length)] at hz
   cases hz
   exact hw
  obtain⟨l,hl1,nL⟩:=Eg (Q:=fun i (y:α)=>At MG W (a.add (i*GT.size α)) y∧∀z,elems[i]? =some z→Wt.wt y≤B H z.1) len one
  refine⟨l,⟨_,J,some a,len,cap,J,hl1,hl,hm,?_⟩,?_⟩
  ·by_cases h0:len=0
   ·exact .inl h0
   ·exact .inr ⟨a,J,fun i y hy=>(nL i y hy).1⟩
  ·have h1:=QR (fun z:DataW H×List MemPlace=>B H z.1) l elems aq fun i y x hy hx=>(nL i y hy).2 x hx
   have h2:=hB.slice H (elems.map (·.1))<|rest.map (·.1)
   rw[List.map_map] at h2
   show (l.map Wt.wt).sum+1≤_
   exact Nat.le_trans (Nat.add_le_add_right h1 1) h2
def DE (B:(H:Type)→DataW H→Nat) (P:Program) (off total:Nat) (fs:List Field) (α:Type) [GT α] [Wt α]:Prop:=
 off+GT.size α=total∧∀{H:Type} (enc:TypeId×Value→H) (W:World) (n:Nat) (cs:List Value) (xs:List (DataW H×List MemPlace)),cs.length=total→xs.length=fs.length→
  (∀(i:Nat) f,fs[i]? =some f→DataW.trod enc P W 0 (fun _=>true) true n f.type ((cs.drop f.offset).take (P.cellsOf f.type))=xs[i]?)→∃y:α,GT.rep MG W (cs.drop off) y∧Wt.wt y≤((xs.map (·.1)).map (B H)).sum
theorem Nc {α:Type} [GT α] [Wt α] {f:Field} {off total:Nat} (ho:f.offset=off) (O:tk B P f.type α) (hs:off+GT.size α=total):DE B P off total [f] α:=by
 refine⟨hs,fun {H} enc W n cs xs hl hx h=>?_⟩
 match xs,hx,h with
 |[x],_,h=>
  have h1:=h 0 f J
  obtain⟨y,hy,hw⟩:=O.2 enc W n _ _ h1
  rw[O.1,ho,amr (by simp;omega)] at hy
  exact⟨y,hy,by simpa using hw⟩
theorem Ce {α β:Type} [GT α] [GT β] [Wt α] [Wt β] {f:Field} {fs:List Field} {off UR total:Nat} (ho:f.offset=off) (O:tk B P f.type α) (hs:off+GT.size α=UR) (ai:DE B P UR total fs β):DE B P off total (f::fs) (α×β):=by
 refine⟨by rw[←ai.1,←hs];show off+(GT.size α+GT.size β)=_;omega,fun {H} enc W n cs xs hl hx h=>?_⟩
 match xs,hx,h with
 |x::xs,hx,h=>
  have h1:=h 0 f J
  obtain⟨y,hy,hw⟩:=O.2 enc W n _ _ h1
  obtain⟨z,hz,hv⟩:=ai.2 enc W n cs xs hl (by simpa using hx) fun i g hg=>h (i+1) g (by simpa using hg)
  rw[O.1,ho] at hy
  refine⟨(y,z),⟨(cs.drop off).take (GT.size α),cs.drop UR,?_,hy,hz⟩,?_⟩
  ·rw[←hs,←anc]
   exact(ant _ _).symm
  ·simp only[amJ,aoV]
   exact Nat.add_le_add hw hv
theorem Jx {α:Type} [GT α] [Wt α] {fs:Array Field} (hB:Ik B) (ht:P.underlying t=some (.struct fs)) (hc:P.cellsOf t=GT.size α) (ai:DE B P 0 (P.cellsOf t) fs.toList α):tk B P t α:=by
 refine⟨hc,fun {H} enc W n cs x h=>?_⟩
 obtain⟨xs,m,rfl,rfl,hl,hx,hf⟩:=DataW.trod_struct ht h
 obtain⟨y,hy,hw⟩:=ai.2 enc W m cs xs hl (by simpa using hx) fun i f hf'=>hf i f (by rw[←anv];exact hf')
 exact⟨y,by simpa using hy,Nat.le_trans hw (hB.agg H _)⟩
section
variable {H:Type} {enc:TypeId×Value→H} {W:World} {base:Nat} {v:Value} {d:DataW H} {ps:List MemPlace}
theorem O' {α:Type} [GT α] [Wt α] (ht:P.underlying t=some (.slice e)) (O:tk B P t (List α)) (hv:Value.okWide P W .any base t v) (h:DataW.Trod enc P W 0 (fun _=>true) true t v d ps):
  ∃(y:List α) (a:Option Addr) (c:Nat),v=.slice a y.length c∧RV MG W (.slice a y.length c) y∧Wt.wt y≤B H d:=by
 obtain⟨a,n,c,rfl⟩:=okWide_slice ht hv
 obtain⟨m,h⟩:=h
 obtain⟨y,hy,hw⟩:=O.2 enc W m _ _ h
 obtain⟨a',c',e,hr⟩:=RS.explicit (RV.list.1 (⟨_,hy,rfl⟩:RV MG W (.slice a n c) y))
 injection e with e1 e2 e3
 subst e1 e2 e3
 exact⟨y,a,c,J,hr,hw⟩
end
end
end Go.Ew
