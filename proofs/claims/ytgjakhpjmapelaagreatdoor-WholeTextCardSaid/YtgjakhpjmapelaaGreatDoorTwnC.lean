/- Plain words and laws: hulls, as the program and the reference make them (law 4). -/
import Derived.Test.YtgjakhpjmapelaaGreatDoorTwnB
import Derived.Test.YtgjakhpjmapelaaGreatDoorTwnA
import Derived.Shelf.SlSortCmp.WholeK
import Derived.Shelf.SlSortCmp.NoneTotal
import Derived.Sort.LotA
import Derived.Laws.IdiomStrings
import Derived.Lib.SlTrimSet
set_option linter.unusedVariables false
set_option linter.unusedSimpArgs false
set_option linter.unusedSectionVars false
namespace Go.Ew
variable {n:Int} {q k:Nat} {x:Row}
theorem To {rs xs:Rows} (hs:xs=cJ n.toNat (wM (gi rs) q)) (hq:q≤n.toNat) (nt:n.toNat≤q):xs=fk n rs:=by
 obtain rfl:q=n.toNat:=by omega
 exact hs
section
variable {n:Int} {rs:Rows} (h:bI n rs=true)
include h
theorem Nn:rs=cJ n.toNat (wM (gi rs) 0):=Ce h
theorem pw {i:Nat} (hx:rs[i]? =some x):x=gV n.toNat (gi rs i):=by
 have h1:=Ce h
 have h2:(cJ n.toNat (gi rs))[i]? =some x:=by rw[←h1];exact hx
 exact(mK h2).2
theorem Rq {i:Nat} {j:Int} (hx:rs[i]? =some x) (hj:(de x)[q]? =some j):0≤j∧j<n∧j<((rs.length:Nat):Int):=by
 rw[pw h hx,yE] at hj
 obtain⟨k,hk, -,rfl⟩:=wW.1 (dN hj)
 have:=(bR h).1
 omega
end
def Aw (p:gU) (i j k a b:Nat):Bool:=if a<k then Bv p i j a b else p a b
section
variable {n:Int} {rs xs:Rows} {i j:Int} (h:bI n rs=true)
theorem G8 (hq:kA n [i,j]=false):ik n i j=0∧gY n rs i j=[]∧lB n i j=1:=by
 refine⟨(oH (rs:=rs) hq).1,?_,(oH (rs:=rs) hq).2.2⟩
 unfold gY;rw[amI (by rw[hq];decide)]
theorem aab (hq:kA n [i,j]=true) (hb:eL n rs i j=true):gY n rs i j=rs:=by unfold gY;rw[amF hq,amF hb]
include h
theorem Wq:rs=cJ n.toNat (Aw (gi rs) i.toNat j.toNat 0):=by
 rw[show cJ n.toNat (Aw (gi rs) i.toNat j.toNat 0)=cJ n.toNat (gi rs) from dJ fun a b _ _=>by unfold Aw;simp]
 exact Ce h
theorem TV (hs:xs=cJ n.toNat (Aw (gi rs) i.toNat j.toNat k)) (hx:xs[q]? =some x):x.length=words n:=by
 subst hs
 have:=(bR h).2.2.2.1
 rw[(mK hx).2,jC,anf this]
theorem TU {k:Nat} {x xj:Row} (hq:kA n [i,j]=true) (hs:xs=cJ n.toNat (Aw (gi rs) i.toNat j.toNat k)) (hx:xs[((k:Nat):Int).toNat]? =some x) (hj:rs[j.toNat]? =some xj)
  (hc:((k:Nat):Int)=i∨∃z,rs[((k:Nat):Int).toNat]? =some z∧fm z i=true):xs.set ((k:Nat):Int).toNat (jJ x (eo xj j))=cJ n.toNat (Aw (gi rs) i.toNat j.toNat (k+1)):=by
 have hr:=jg.1 hq
 have hn:((n.toNat:Nat):Int)=n:=by omega
 subst hs
 obtain⟨hk,hx⟩:=mK hx
 rw[dM] at hk ⊢
 rw[dM] at hx
 rw[hx,pw h hj,uW hr.2.1 aj,Hv,xE]
 have Ah:((decide (k=i.toNat))||gi rs k i.toNat)=true:=by
  rcases hc with hc|⟨z,hz,hb⟩
  ·simp[show k=i.toNat from by omega]
  ·rw[dM] at hz
   rw[pw h hz,iQ] at hb
   simp only[eW] at hb
   rw[hb.2];simp
 refine dJ fun a b ha hb=>?_
 unfold Aw
 by_cases e:a=k
 ·subst e
  rw[amF rfl,amI aj,amF aj]
  unfold Bv
  rw[Ah,anz]
  cases gi rs a b<;>cases gi rs j.toNat b<;>simp
 ·rw[amI e]
  by_cases e2:a<k
  ·rw[amF e2,amF aj]
  ·rw[amI e2,amI aj]
theorem afy {z:Row} (hq:kA n [i,j]=true) (hs:xs=cJ n.toNat (Aw (gi rs) i.toNat j.toNat k)) (gD:¬((k:Nat):Int)=i) (hz:rs[((k:Nat):Int).toNat]? =some z) (hb:fm z i=false):
  xs=cJ n.toNat (Aw (gi rs) i.toNat j.toNat (k+1)):=by
 have hr:=jg.1 hq
 rw[hs]
 refine dJ fun a b ha vk=>?_
 unfold Aw
 by_cases e2:a<k
 ·rw[amF e2,amF aj]
 ·by_cases e:a=k
  ·subst e
   rw[amI e2,amF aj]
   unfold Bv
   rw[pw h hz,iQ,dM] at hb
   have wq:gi rs a i.toNat=false:=by
    have h1:decide (0≤i)=true:=amC hr.1.1
    have h2:decide (i<((n.toNat:Nat):Int))=true:=amC aj
    rw[h1,h2] at hb
    simpa using hb
   rw[wq,amJ (show ¬a=i.toNat from by omega)];simp
  ·rw[amI e2,amI aj]
theorem adH (hq:kA n [i,j]=true) (hb:eL n rs i j=false) (hs:xs=cJ n.toNat (Aw (gi rs) i.toNat j.toNat k)) (hk:n.toNat≤k):xs=gY n rs i j:=by
 unfold gY
 rw[amF hq,amI (by rw[hb];decide),hs]
 exact dJ fun a b ha _=>by unfold Aw;rw[amF aj]
end
def Nu (p:gU) (l:aA) (a b:Nat):Bool:=p a b&&(decide (((a:Nat):Int)∈l)&&decide (((b:Nat):Int)∈l))
def gz (n:Int) (rs:Rows) (l:aA):Rows:=cJ n.toNat (Nu (gi rs) l)
def px (n:Nat) (l:aA):Row:=gV n fun b=>decide (((b:Nat):Int)∈l)
theorem UZ (h:0≤n) (l:aA):eb n=px n.toNat (l.take 0):=by
 have:=Cw n.toNat
 rw[anf h] at this
 rw[this]
 exact kH fun k _=>by simp
theorem Zc {l:aA} {x:Int} {mk:Row} (hs:mk=px n.toNat (l.take q)) (hx:l[((q:Nat):Int).toNat]? =some x) (h:x<n):eo mk x=px n.toNat (l.take (q+1)):=by
 subst hs
 rw[nG hx]
 by_cases h0:0≤x
 ·unfold px
  rw[uW h0 aj]
  refine kH fun k _=>?_
  rw[amU]
  simp only[amM,amB,am1,amV,apO,ao2]
  exact or_congr Iff.rfl ⟨fun e=>by omega,fun e=>by omega⟩
 ·rw[←YN aj]
  refine kH fun k _=>?_
  rw[amU]
  simp only[amB,am1,amV,apO,ao2]
  exact⟨.inl,fun e=>e.elim id fun e=>by omega⟩
theorem abf {l:aA} {x:Int} {mk:Row} (hs:mk=px n.toNat (l.take q)) (hx:l[((q:Nat):Int).toNat]? =some x) (h:n≤x):mk=px n.toNat (l.take (q+1)):=by
 rw[hs,nG hx]
 refine kH fun k hk=>?_
 rw[amU]
 simp only[amB,am1,amV,apO,ao2]
 exact⟨.inl,fun e=>e.elim id fun e=>by omega⟩
theorem IC (h:0≤n) (l:aA):(px n.toNat l).length=words n:=by unfold px;rw[jC,anf h]
def my (x m:Row) (k:Nat):Row:=(List.range x.length).map fun t=>if t<k then x.getD t 0#64 &&& m.getD t 0#64 else 0#64
theorem sT (x m:Row) (k:Nat):(my x m k).length=x.length:=by unfold my;simp
theorem QL (x m:Row):List.replicate x.length 0#64=my x m 0:=by
 unfold my
 apply aoc
 ·simp
 ·intro i h1 h2;simp
theorem QM {m:Row} {u v:bt} (hu:x[((k:Nat):Int).toNat]? =some u) (hv:m[((k:Nat):Int).toNat]? =some v):(my x m k).set ((k:Nat):Int).toNat (u &&& v)=my x m (k+1):=by
 have e1:=wY hu
 have e2:=wY hv
 rw[dM]
 apply aoc
 ·rw[amA,sT,sT]
 ·intro i h1 h2
  rw[api]
  simp only[my,List.getElem_map,ao5]
  by_cases e:k=i
  ·subst e;rw[amF rfl,amF aj,e1,e2]
  ·rw[amI e]
   by_cases h3:i<k
   ·rw[amF h3,amF aj]
   ·rw[amI h3,amI aj]
theorem TR {n:Nat} {p q:Nat→Bool} (h:(gV n p).length≤k):my (gV n p) (gV n q) k=gV n fun b=>p b&&q b:=by
 refine zP (by rw[sT,jC]) fun b=>?_
 have h1:∀r:Row,fm r ((b:Nat):Int)=(r.getD (b/64) 0#64).getLsbD (b%64):=by intro r;unfold fm;simp
 have e1:=iQ n p ((b:Nat):Int)
 have e2:=iQ n q ((b:Nat):Int)
 rw[h1] at e1 e2 ⊢
 by_cases hb:b/64<(gV n p).length
 ·have:(my (gV n p) (gV n q) k).getD (b/64) 0#64=(gV n p).getD (b/64) 0#64 &&& (gV n q).getD (b/64) 0#64:=by
   unfold my
   rw[im,amS,anL hb]
   show (if b/64<k then _ else _)=_
   rw[amF aj]
  rw[this,aoI,e1,e2]
  by_cases SD:b<n
  ·simp[SD]
  ·simp[SD]
 ·have SD:¬b<n:=by
   intro SD
   apply hb
   rw[jC,qt];omega
  have:(my (gV n p) (gV n q) k).getD (b/64) 0#64=0#64:=by
   rw[im,amQ (by rw[sT];omega)];rfl
  rw[this];simp[SD]
def xg (p:gU) (l:aA) (k a b:Nat):Bool:=if a<k then Nu p l a b else false
section
variable {n:Int} {rs xs:Rows} {l:aA} {mk:Row} {k:Nat} (h:bI n rs=true)
include h
theorem T_:List.replicate n.toNat (eb n)=cJ n.toNat (xg (gi rs) l 0):=by
 have h0:=kS h
 have:=yC n.toNat
 unfold vR at this
 rw[anf h0] at this
 rw[this]
 exact dJ fun a b _ _=>by unfold xg;simp
theorem Yx (hs:xs=cJ n.toNat (xg (gi rs) l k)) (hm:mk=px n.toNat l) (hk:k<n.toNat) (hb:fm mk ((k:Nat):Int)=false):xs=cJ n.toNat (xg (gi rs) l (k+1)):=by
 rw[hs]
 refine dJ fun a b ha vk=>?_
 unfold xg
 by_cases e2:a<k
 ·rw[amF e2,amF aj]
 ·by_cases e:a=k
  ·subst e
   rw[amI e2,amF aj]
   rw[hm] at hb
   unfold px at hb
   rw[iQ] at hb
   have XF:decide (((a:Nat):Int)∈l)=false:=by
    have h2:decide (((a:Nat):Int)<((n.toNat:Nat):Int))=true:=amC aj
    rw[h2] at hb
    simpa using hb
   unfold Nu
   rw[XF];simp
  ·rw[amI e2,amI aj]
theorem aea (hs:xs=cJ n.toNat (xg (gi rs) l k)) (hx:rs[((k:Nat):Int).toNat]? =some x):xs=xs.set k (my x mk 0):=by
 have qi:rs[k]? =some x:=hx
 have hk:k<n.toNat:=by have:=(dU.1 qi).1;have:=(bR h).1;omega
 have h0:=kS h
 have e:my x mk 0=eb n:=by
  rw[←QL]
  unfold eb
  rw[nH h qi]
 rw[e]
 apply ana
 intro a
 rw[anW]
 split
 ·rename_i e2;subst e2
  rw[amF (by rw[hs,lY];exact hk),hs,sl hk]
  congr 1
  have:=Cw n.toNat
  rw[anf h0] at this
  rw[this]
  exact kH fun b _=>by unfold xg;simp
 ·rfl
theorem Ke {r:Row} {ys:Rows} (hs:xs=cJ n.toNat (xg (gi rs) l k)) (hy:ys=xs.set k (my x mk q)) (hx:rs[((k:Nat):Int).toNat]? =some x) (hr:ys[((k:Nat):Int).toNat]? =some r):r=my x mk q:=by
 have qi:rs[k]? =some x:=hx
 have hk:k<n.toNat:=by have:=(dU.1 qi).1;have:=(bR h).1;omega
 rw[hy,dM,amX (by rw[hs,lY];exact hk)] at hr
 exact(amE hr).symm
theorem Yw {q:Nat} {x r:Row} {ys:Rows} {u v:bt} (hs:xs=cJ n.toNat (xg (gi rs) l k)) (hy:ys=xs.set k (my x mk q)) (hx:rs[((k:Nat):Int).toNat]? =some x) (hr:ys[((k:Nat):Int).toNat]? =some r)
  (hu:x[((q:Nat):Int).toNat]? =some u) (hv:mk[((q:Nat):Int).toNat]? =some v):ys.set ((k:Nat):Int).toNat (r.set ((q:Nat):Int).toNat (u &&& v))=xs.set k (my x mk (q+1)):=by
 rw[Ke h hs hy hx hr,hy,QM hu hv,dM,List.set_set]
theorem Yy {ys:Rows} (hs:xs=cJ n.toNat (xg (gi rs) l k)) (hy:ys=xs.set k (my x mk q)) (hx:rs[((k:Nat):Int).toNat]? =some x) (hm:mk=px n.toNat l) (hb:fm mk ((k:Nat):Int)=true) (hq:x.length≤q):ys=cJ n.toNat (xg (gi rs) l (k+1)):=by
 have qi:rs[k]? =some x:=hx
 have hk:k<n.toNat:=by have:=(dU.1 qi).1;have:=(bR h).1;omega
 rw[hy,hm,hs,pw h qi]
 unfold px
 rw[TR (by rw[pw h qi] at hq;exact hq),xE]
 rw[hm] at hb
 unfold px at hb
 rw[iQ] at hb
 simp only[eW] at hb
 refine dJ fun a b ha vk=>?_
 unfold xg
 by_cases e:a=k
 ·subst e
  rw[amF rfl,amF aj]
  unfold Nu
  have:decide (((a:Nat):Int)∈l)=true:=by simpa using hb.2
  rw[this,anz]
 ·rw[amI e]
  by_cases e2:a<k
  ·rw[amF e2,amF aj]
  ·rw[amI e2,amI aj]
theorem aak (hs:xs=cJ n.toNat (xg (gi rs) l k)) (hk:n.toNat≤k):xs=gz n rs l:=by
 rw[hs]
 exact dJ fun a b ha _=>by unfold xg;rw[amF aj]
end
theorem B0 {rs:Rows} (h:bI n rs=true) (l:aA):bI n (gz n rs l)=true:=by
 obtain⟨m,p,rfl,hm,rfl⟩:=lW h
 unfold gz;rw[dM];exact lC hm
end Go.Ew
namespace Go.Ew
structure Rch (n:Nat) (p:gU) (i:Nat) (sn:List Bool) (td:aA) (at_:Int) (j:Nat):Prop where
 len:sn.length=n
 snd:∀k,sn.getD k false=true→TC n p i k
 tdo:∀t∈td,∃k,t=((k:Nat):Int)∧k<n∧(k=i∨sn.getD k false=true)
 don:∀x,x<n→(x=i∨sn.getD x false=true)→((x:Nat):Int)∈td∨(((x:Nat):Int)=at_∧∀y,y<j→p x y=true→sn.getD y false=true)∨∀y,y<n→p x y=true→sn.getD y false=true
section
variable {n:Nat} {p:gU} {i j:Nat} {sn:List Bool} {td:aA} {at_:Int}
end
theorem NB {td:aA} (h:¬(0:Int)<((td.length:Nat):Int)):td=[]:=an3 aj
section
variable {n:Int} {rs:Rows} {i a j:Nat} {sn:List Bool} {td:aA} {x:Int} (rt:bI n rs=true) (e:x=((a:Nat):Int)) (h:Rch n.toNat (gi rs) i sn td x j) (SE:a<n.toNat) (hj:j<n.toNat)
include rt e h SE hj
end
section
variable {k:Int} {l:List (BitVec 8×BitVec 8)} {z:BitVec 8×BitVec 8} (hk:0<k) (h4:k≤4096)
include hk h4
end
end Go.Ew
namespace Go.Ew
section
variable {n:Int} {rs:Rows} (h:bI n rs=true)
include h
end
end Go.Ew
namespace Go.Ew
variable {n o:Int} {rs:Rows} {x:Row}
def eY (n:Int) (rs:Rows) (o:Int):aA:=if 0≤o∧o<n then wb n.toNat (fun a=>gi rs a o.toNat) else []
def bP (n:Int) (rs:Rows) (o:Int):aA:=if 0≤o∧o<n then wb n.toNat (fun a=>gi rs a o.toNat||decide (a=o.toNat)) else []
theorem KW (h:¬(0≤o∧o<n)):eY n rs o=[]:=by unfold eY;rw[amI h]
theorem Kc (h:¬(0≤o∧o<n)):bP n rs o=[]:=by unfold bP;rw[amI h]
theorem D2 (h:bI n rs=true) (h0:0≤o∧o<n) (hx:(gL n rs)[o.toNat]? =some x):x=gV n.toNat fun a=>gi rs a o.toNat:=by
 obtain⟨m,p,rfl,hm,rfl⟩:=lW h
 rw[Ij] at hx
 obtain⟨h1,rfl⟩:=mK hx
 rw[dM]
 exact kH fun a ha=>(jD ha h1).symm
theorem RD (h:bI n rs=true) (h0:0≤o∧o<n) (hx:(gL n rs)[o.toNat]? =some x):de x=eY n rs o:=by
 rw[D2 h h0 hx,yE];unfold eY;rw[amF h0]
theorem QY (h:bI n rs=true) (h0:0≤o∧o<n) (hx:(gL n rs)[o.toNat]? =some x):de (eo x o)=bP n rs o:=by
 rw[D2 h h0 hx,uW h0.1 aj,yE];unfold bP;rw[amF h0]
theorem xh (h:bI n rs=true) {i:Nat} (hx:(gL n rs)[i]? =some x):x.length≤64:=(bR (FX h)).2.2.2.2 _ (dN hx)
theorem u4 (h:bI n rs=true) (o:Int):(eY n rs o).length≤4096:=by
 have h4:=(bR h).2.2.1
 unfold eY;split
 ·have:=Oe n.toNat (fun a=>gi rs a o.toNat);omega
 ·simp
theorem uU (h:bI n rs=true) (o:Int):(bP n rs o).length≤4096:=by
 have h4:=(bR h).2.2.1
 unfold bP;split
 ·have:=Oe n.toNat (fun a=>gi rs a o.toNat||decide (a=o.toNat));omega
 ·simp
section
variable {n:Int} {rs:Rows} (h:bI n rs=true) {k:Int} (hk:0≤k∧k<n)
include h hk
end
end Go.Ew
namespace Go.Ew
def aY (p:Int→Bool) (xs:aA):aA:=xs.filter fun x=>!p x
def DF (p:Int→Bool) (xs ys:aA) (q:Int) (k:Nat):Prop:=ys.length=xs.length∧ys.take q.toNat=aY p (xs.take k)∧ys.drop k=xs.drop k
section
variable {p:Int→Bool} {xs ys:aA} {q x:Int} {k:Nat}
theorem ZO (h:eO p xs= -1):xs=aY p xs:=by
 have h1:=uB (p:=p) (r:=xs)
 rw[h,amJ aj] at h1
 unfold aY
 refine(apv.2 fun x hx=>?_).symm
 have:=aol.1 h1.symm x hx
 simpa using this
theorem VS (h:¬eO p xs= -1):0≤eO p xs∧(eO p xs).toNat<xs.length∧DF p xs xs (eO p xs) ((eO p xs).toNat+1):=by
 unfold eO at h ⊢
 cases hf:xs.findIdx? p with
 |none=>rw[hf] at h;exact absurd rfl h
 |some i=>
  rw[hf] at h
  obtain⟨h1,h2,h3⟩:=am3.1 hf
  refine⟨by show (0:Int)≤((i:Nat):Int);omega,h1,J,?_,J⟩
  show xs.take i=aY p (xs.take (i+1))
  unfold aY
  rw[am9,eR h1,anH]
  have e1:(xs.take i).filter (fun x=>!p x)=xs.take i:=by
   refine apv.2 fun y hy=>?_
   obtain⟨j,hj⟩:=amT.1 hy
   have wm:=(dU.1 hj).1
   rw[iu] at wm
   have h4:=h3 j aj
   rw[anQ aj,eR aj] at hj
   rw[←amE hj]
   simpa using h4
  rw[e1]
  simp[h2]
theorem QF (h:DF p xs ys q k) (hx:ys[k]? =some x):xs[k]? =some x:=by
 have h1:=h.2.2
 have:(ys.drop k)[0]? =some x:=by rw[ank];exact hx
 rw[h1,ank] at this
 exact this
theorem OO (hx:xs[k]? =some x):aY p (xs.take (k+1))=aY p (xs.take k)++(if p x=true then [] else [x]):=by
 unfold aY
 rw[am9,hx,anH]
 cases hp:p x<;>simp[hp]
theorem Mg (h:DF p xs ys q k):ys.drop (k+1)=xs.drop (k+1):=by
 have h1:=h.2.2
 rw[←anx,←anx,h1]
theorem ZQ (h:DF p xs ys q k) (hx:ys[k]? =some x) (hp:p x=true):DF p xs ys q (k+1):=
 ⟨h.1,by rw[OO (QF h hx),amF hp,anR];exact h.2.1,Mg h⟩
theorem ZP (h:DF p xs ys q k) (hx:ys[k]? =some x) (hp:p x=false) (h0:0≤q) (hq:q<((k:Nat):Int)):DF p xs (ys.set q.toNat x) (q+1) (k+1):=by
 have hk:=(dU.1 hx).1
 refine⟨by rw[amA];exact h.1,?_,?_⟩
 ·rw[OO (QF h hx),amI (by rw[hp];decide),←h.2.1,show (q+1).toNat=q.toNat+1 from by omega,am9,List.take_set_of_le (amD _),amX aj]
  rfl
 ·rw[List.drop_set_of_lt aj]
  exact Mg h
theorem adh (h:DF p xs ys q k) (hk:xs.length≤k) (h0:0≤q) (hq:q.toNat≤ys.length) (m:Nat):(ys.take q.toNat++(List.replicate m (0:Int)++[])).take q.toNat=aY p xs:=by
 rw[apq (by rw[iu];omega),h.2.1,amL hk]
end
def iM (aE:List aO) (v i:Int):Bool:=decide (i<0)||(match aE[i.toNat]? with
 |none=>true
 |some x=>!x.2.2.1||!decide (x.2.2.2.1=v))
def gf (aE:List aO) (i:Int):Bool:=((aE[i.toNat]?).map (fun x=>x.2.2.1)).getD false
section
variable {aE:List aO} {v i:Int} {x:aO}
theorem Yu (h:i<0):iM aE v i=true:=by unfold iM;rw[amC h];rfl
theorem Yt (h:((aE.length:Nat):Int)≤i):iM aE v i=true:=by
 unfold iM
 rw[amQ aj];simp
theorem QX (h0:¬i<0) (hx:aE[i.toNat]? =some x):iM aE v i=(!x.2.2.1||!decide (x.2.2.2.1=v)):=by
 unfold iM
 rw[amJ h0,hx];rfl
theorem aaj (hx:aE[i.toNat]? =some x):gf aE i=x.2.2.1:=by unfold gf;rw[hx];rfl
theorem Iz (o:hG aE) {t:Int} {q:Nat} {x:Int} (hx:(cF aE t)[q]? =some x):0≤x∧x<((aE.length:Nat):Int):=by
 by_cases h:0≤t∧t<(aE.length:Int)
 ·have:=YY o h.1 h.2 hx
  omega
 ·rw[←E7 h] at hx;simp at hx
end
end Go.Ew
namespace Go.Ew
abbrev cT:=Int×Int×Int×Int×Int
def rG (U:List aO) (i:Int):Int:=((U[i.toNat]?).map (fun x=>x.2.2.2.1)).getD 0
section
variable {U:List aO} {fo:aA}
end
end Go.Ew
namespace Go.Ew
section
variable {U:List aO} {fo:aA} {pre:List cT} {pl:List Bool} {kd fr to sa sb:Int}
end
end Go.Ew
namespace Go.Ew
variable {h:dR} {U:List aO} {fo:aA} {j n:Nat} {w:Int}
def gX (h:dR):Bool:=iN h&&decide ((da (cX h)).2.2=0)
def uw (h:dR):List bA:=if gX h then l7 h else []
def qE (h:dR):List aO:=if gX h then cX h else []
def qF (h:dR):aA:=if gX h then jP (cX h) else []
theorem z6 (hq:gX h=false):uw h=[]∧qE h=[]∧qF h=[]:=by unfold uw qE qF;simp[hq]
theorem DA (hq:gX h=true):uw h=l7 h∧qE h=cX h∧qF h=jP (cX h):=by unfold uw qE qF;simp[hq]
theorem Y6 {h:dR} (he:¬ly h=0):gX h=false:=by
 unfold gX
 cases hr:iN h with
 |false=>rfl
 |true=>exact absurd (r5 hr).2.2 he
theorem aes {h:dR} (he:ly h=0):iN h=true:=by
 cases hr:iN h with
 |true=>rfl
 |false=>rw[(xC hr).2.2] at he;cases he
theorem Y5 (he:¬(da (cX h)).2.2=0):gX h=false:=by unfold gX;rw[amJ he];simp
theorem aa7 (he:ly h=0) (hc:(da (cX h)).2.2=0):gX h=true:=by unfold gX;rw[aes he,amC hc];rfl
theorem VH {aE:List aO}:∀x∈jP aE,x<((aE.length:Nat):Int):=by
 intro x hx
 unfold jP at hx
 obtain⟨y,hy,rfl⟩:=anp.1 hx
 have:=(M_ (aE:=aE) (x:=y) J).2.2.2.1
 exact this
def KR (fo:aA) (a b:Nat):Bool:=decide (fo.getD b (-1)=((a:Nat):Int))
def oK (U:List aO) (fo:aA):Rows:=cJ U.length (KR fo)
def uv (n:Nat) (fo:aA) (j:Nat):Rows:=cJ n fun a b=>decide (b<j)&&KR fo a b
theorem YT (n:Nat) (fo:aA):vR ((n:Nat):Int)=uv n fo 0:=by
 rw[yC];exact dJ fun a b _ _=>by simp
theorem aaU (hl:fo.length=U.length) (hj:fo.length≤j):uv U.length fo j=oK U fo:=
 dJ fun a b _ hb=>by rw[amC (show b<j by omega)];rfl
theorem aeo (hw:fo[((j:Nat):Int).toNat]? =some w) (h:w<0):uv n fo j=uv n fo (j+1):=by
 refine dJ fun a b ha hb=>?_
 by_cases e:b=j
 ·subst e
  rw[dM] at hw
  unfold KR
  rw[im,hw,amJ (show ¬(some w).getD (-1)=((a:Nat):Int) by simp;omega)];simp
 ·have:decide (b<j)=decide (b<j+1):=by rw[anT];omega
  rw[this]
theorem aep (h0:0≤w) (hw:w<((n:Nat):Int)) (hj:j<n):kA ((n:Nat):Int) [w,((j:Nat):Int)]=true:=jg.2 aj
theorem aaS (hw:fo[((j:Nat):Int).toNat]? =some w) (h0:0≤w) (h1:w<((n:Nat):Int)) (hj:j<n):rz (uv n fo j) (w,((j:Nat):Int))=uv n fo (j+1):=by
 unfold uv
 rw[Ca (aep h0 h1 hj)]
 refine dJ fun a b ha hb=>?_
 rw[dM] at hw ⊢
 by_cases e:b=j
 ·subst e
  rw[amJ (aoF b),amC (an4 b),amC rfl]
  unfold KR
  rw[im,hw]
  show (false&&_||decide (a=w.toNat)&&true)=(true&&decide (w=((a:Nat):Int)))
  rw[apz,aot,apg,anz,anT]
  omega
 ·rw[amJ e,apA,an7]
  have:decide (b<j)=decide (b<j+1):=by rw[anT];omega
  rw[this]
theorem aaT {xs:Rows} {x:Row} (hs:xs=uv n fo j) (hw:fo[((j:Nat):Int).toNat]? =some w) (h0:0≤w) (h1:w<((n:Nat):Int)) (hj:j<n) (hx:xs[w.toNat]? =some x):xs.set w.toNat (eo x ((j:Nat):Int))=uv n fo (j+1):=by
 rw[Hn hx,hs];exact aaS hw h0 h1 hj
theorem Uq (n:Nat) (fo:aA) (j:Nat):(uv n fo j).length=n:=lY _ _
theorem YV (U:List aO) (fo:aA):(oK U fo).length=U.length:=lY _ _
theorem YU (h:n≤4096) (fo:aA) (j:Nat):(((uv n fo j).length:Nat):Int)=((n:Nat):Int)∧∀x∈uv n fo j,x.length≤1000000000:=⟨by rw[Uq],A3 h⟩
theorem Ge (h:n≤4096) (P:gU):(((cJ n P).length:Nat):Int)=((n:Nat):Int)∧∀x∈cJ n P,x.length≤1000000000:=⟨by rw[lY],A3 h⟩
def Me (U:List aO) (fo:aA) (a b:Nat):Bool:=G7 U a b||KR fo a b
def kn (U:List aO) (fo:aA):Rows:=cJ U.length (Me U fo)
theorem X8 (U:List aO) (fo:aA):tk ((U.length:Nat):Int) ((U.length:Nat):Int)=((U.length:Nat):Int)∧lX ((U.length:Nat):Int) (oN U) ((U.length:Nat):Int) (oK U fo)=kn U fo:=by
 refine⟨(zW (ar:=oN U) (br:=oK U fo) J).1,?_⟩
 rw[(zW rfl).2.1,dM]
 exact RO _ _
def pP (U:List aO) (fo:aA):gU:=cl U.length (Me U fo)
def cC (U:List aO) (fo:aA):Rows:=cJ U.length (pP U fo)
theorem VY (U:List aO) (fo:aA):fk ((U.length:Nat):Int) (kn U fo)=cC U fo:=Eu
theorem Mc (fo:aA) (h:U.length≤4096):bI ((U.length:Nat):Int) (kn U fo)=true:=lC h
theorem pB (fo:aA) (h:U.length≤4096):bI ((U.length:Nat):Int) (cC U fo)=true:=lC h
end Go.Ew
namespace Go.Ew
def dS (lv:Int):aA:=bif decide (lv=1) then [1,2,3,4] else bif decide (lv=2) then [1,2,3,4]++[5] else bif decide (lv=3) then [1,2,3,4]++[6,7] else []
section
variable (U:List aO) (fo:aA)
def lP (o:Int):aA:=aY (gf U) (cF U o)
end
section
variable {U:List aO} {fo:aA}
end
end Go.Ew
namespace Go.Ew
section
variable (U:List aO) (fo:aA)
end
section
variable {U:List aO} {fo:aA}
end
end Go.Ew
namespace Go.Ew
section
variable {U:List aO} {fo:aA} {l:List cT}
theorem jo {α:Type} {xs:List α} {j:Nat} {x z:α} (h:xs[((j:Nat):Int).toNat]? =some x):xs.getD j z=x:=by
 rw[dM] at h
 rw[im,h];rfl
end

section
variable {α:Type} {l:List α} {p:α→Bool} {q:Nat→Bool} {j n:Nat} {x:α}
end
section
variable {l:List cT} {j:Nat} {s:cT} {ys:List Bool} {x:Bool}
end
section
variable {U:List aO} {fo:aA} {l:List cT}
end
end Go.Ew
namespace Go.Ew
def fH (a b:Int):Int:=bif decide (a<b) then -1 else bif decide (b<a) then 1 else 0
def Ct:aA→Int
 |[]=>0
 |x::r=>if x=0 then Ct r else x
abbrev ew:=Int×Int×Int
def xX (x y:ew):Int:=Ct [fH x.1 y.1,fH x.2.1 y.2.1,fH x.2.2 y.2.2]
theorem NX:∀{l:aA} {j:Nat} {x:Int},(∀y∈l.take j,y=0)→l[j]? =some x→¬x=0→Ct l=x
 |[],j,x,_,h,_=>by simp at h
 |a::l,0,x,_,h,hx=>by
  simp only[amR,amO] at h
  subst h
  exact amI hx
 |a::l,j+1,x,hs,h,hx=>by
  simp only[amY] at h
  show (if a=0 then Ct l else a)=x
  rw[amF (hs a (by simp)),NX (fun y hy=>hs y (by simp[hy])) h hx]
theorem K6:∀{l:aA},(∀y∈l,y=0)→Ct l=0
 |[],_=>rfl
 |a::l,h=>by
  show (if a=0 then Ct l else a)=0
  rw[amF (h a (by simp)),K6 (fun y hy=>h y (by simp[hy]))]
theorem Yq {l:aA} {j:Nat} {x:Int} (hs:∀y∈l.take j,y=0) (hx:l[((j:Nat):Int).toNat]? =some x) (h:x=0):∀y∈l.take (j+1),y=0:=by
 rw[dM] at hx
 intro y hy
 rw[am9,hx] at hy
 rcases am1.1 hy with hy|hy
 ·exact hs y hy
 ·simp at hy;rw[hy];exact h
theorem FE (a b:Int):aL (fH a b):=by
 unfold fH aL
 cases decide (a<b)<;>cases decide (b<a)<;>simp
end Go.Ew
namespace Go.Ew
open Go.RowKit
def pA (a:Option Addr) (c lo:Nat):Option Addr:=if c=lo then a else a.map (·.add (lo*3))
theorem zy {α:Type} [GT α] {M:cb} {w:aG}:∀(k:Nat) {xs:List α} {cs:List Value},bB M w cs xs→bB M w (cs.take (k*GT.size α)) (xs.take k)∧bB M w (cs.drop (k*GT.size α)) (xs.drop k)
 |0,xs,cs,h=>⟨by rw[ao3,aoA,aoA];rfl,by simpa using h⟩
 |k+1,[],cs,h=>by
  rw[show cs=[] from h]
  exact⟨by simp[bB],by simp[bB]⟩
 |k+1,x::xs,cs,h=>by
  obtain⟨c1,c2,rfl,h2,h3⟩:=h
  obtain⟨i1,i2⟩:=zy k h3
  have e:=GT.len h2
  have e1:(k+1)*GT.size α=c1.length+k*GT.size α:=by rw[ant,e];omega
  refine⟨⟨c1,c2.take (k*GT.size α),?_,h2,i1⟩,?_⟩
  ·rw[e1,List.take_length_add_append]
  ·rw[e1,List.drop_length_add_append];exact i2
theorem ad' (n:Nat):(Builtin.zeroCells #[Value.int .i64 0,Value.int .i64 0,Value.int .i64 0] n).toList=List.replicate (n*3) (Value.int .i64 0):=by
 unfold Builtin.zeroCells
 apply ana
 intro i
 simp only[Array.toList_map,amS,Array.toList_range,aom]
 by_cases h:i<n*3
 ·rw[anL (by simpa using h),amF h]
  have:i%3=0∨i%3=1∨i%3=2:=by omega
  rcases this with h|h|h<;>simp[h]
 ·rw[amQ (by simpa using h),amI h];rfl
theorem Vf:aL 0:=by unfold aL;omega
theorem HT {M:cb} {w:aG}:∀n,bB M w (List.replicate (n*3) (Value.int .i64 0)) (List.replicate n ((0,0,0):ew))
 |0=>rfl
 |n+1=>⟨[.int .i64 0,.int .i64 0,.int .i64 0],List.replicate (n*3) (.int .i64 0),by rw[show (n+1)*3=n*3+1+1+1 by omega,anv,anv,anv];rfl,⟨[_],[_,_],rfl,⟨rfl,Vf⟩,[_],[_],rfl,⟨rfl,Vf⟩,rfl,Vf⟩,HT n⟩
section
variable {P:Program} {n:Nat} {ops:Array Oper} {f:aP} {w:aG} {K:aP→aG→Prop} {x y:Operand} {d:Nat} {ty T e:TypeId} {ps:String} {af:Array Edge} {v u:Value} {M M0:cb} {w0:aG} {l:List Item} {bytes:Nat} {z:Value} {B:Nat} {kk:IntKind} {agg:Bool} {xs ys:List ew} {a:Option Addr} {k c:Nat}
theorem wG (hO:(own B e (.slice a k c) xs).holds M w):k=xs.length∧xs.length≤c:=by
 obtain⟨cs,h1,h2⟩:=hO
 rcases h1.2 with ⟨h3,h4⟩|⟨g,cap,cur,h3,h4,h5,h6,h7⟩
 ·cases h3;omega
 ·cases h3;exact⟨rfl,h6⟩
theorem Ui {lo:Int} {rm:Operand} (hO:(own B e (.slice a k c) xs).holds M w) (ox:bJ n x=true) (ol:bJ n rm=true) (hx:ev f x=.slice a k c) (hl:ev f rm=.int kk lo) (hb:0≤lo∧lo≤xs.length) (hu:P.underlying T=some (.slice e)) (F:ey P e 3 agg bytes z)
  (h:K (cx f d (.slice (pA a c lo.toNat) (k-lo.toNat) (c-lo.toNat))) w):
  SO P n ops ⟨some d,.slice T x (some rm) none none,ty,ps,af,none⟩ f w K:=by
 obtain⟨hk,hc⟩:=wG hO
 refine SO.value (v:=.slice (pA a c lo.toNat) (k-lo.toNat) (c-lo.toNat)) (w':=w) ?_ h
 have xK:P.underlying T=some (.slice (P.elem T)):=by rw[hu];simp[Program.elem,hu]
 have uD:P.elem T=e:=by simp[Program.elem,hu]
 simp[execOp,aM ox,aM ol,hx,hl,Instr.sliceAt,gK hu]
 have:=run_slice_l (P:=P) (w:=w) T a k c xK kk lo hb.1 aj
 rw[uD,F.jm] at this
 simp[this,sliced,pA]
theorem ael {hi:Int} {pe:Operand} (hO:(own B e (.slice a k c) xs).holds M w) (ox:bJ n x=true) (oh:bJ n pe=true) (hx:ev f x=.slice a k c) (hh:ev f pe=.int kk hi) (hb:0≤hi∧hi≤xs.length) (hu:P.underlying T=some (.slice e)) (F:ey P e 3 agg bytes z)
  (h:K (cx f d (.slice (pA a c 0) hi.toNat c)) w):
  SO P n ops ⟨some d,.slice T x none (some pe) none,ty,ps,af,none⟩ f w K:=by
 obtain⟨hk,hc⟩:=wG hO
 refine SO.value (v:=.slice (pA a c 0) hi.toNat c) (w':=w) ?_ h
 have xK:P.underlying T=some (.slice (P.elem T)):=by rw[hu];simp[Program.elem,hu]
 have uD:P.elem T=e:=by simp[Program.elem,hu]
 simp[execOp,aM ox,aM oh,hx,hh,Instr.sliceAt,gK hu]
 have:=run_slice_h (P:=P) (w:=w) T a k c xK kk hi hb.1 aj
 rw[uD,F.jm] at this
 simp[this,sliced,pA]
theorem Re {hi:Int} {pe:Operand} (H:HI M0 w0 w l) (i:Nat) (pJ:l[i]? =some (own B e (.slice a k c) xs)) (ox:bJ n x=true) (oh:bJ n pe=true) (hx:ev f x=.slice a k c) (hh:ev f pe=.int kk hi) (hb:0≤hi∧hi≤xs.length) (hu:P.underlying T=some (.slice e)) (F:ey P e 3 agg bytes z)
  (h:HI M0 w0 w (l.set i (own B e (.slice a (xs.take hi.toNat).length c) (xs.take hi.toNat)))→K (cx f d (.slice a (xs.take hi.toNat).length c)) w):
  SO P n ops ⟨some d,.slice T x none (some pe) none,ty,ps,af,none⟩ f w K:=by
 have hO:=H.at_ i pJ
 have jK:=(dU.1 pJ).1
 have hlen:(xs.take hi.toNat).length=hi.toNat:=by simp;omega
 have Fo:pA a c 0=a:=by
  unfold pA
  split
  ·rfl
  ·obtain⟨cs,h1,h2⟩:=hO
   rcases h1.2 with ⟨h3,h4⟩|⟨g,cap,cur,h3,h4⟩
   ·cases h3;rfl
   ·cases h3
    show some (Addr.add _ (0*3))=_
    rw[FL]
 refine ael hO ox oh hx hh hb hu F ?_
 rw[Fo]
 rw[hlen] at h
 refine h ?_
 refine H.weaken ?_ ?_
 ·apply ana
  intro j
  rw[amS,amS]
  by_cases hj:i=j
  ·subst hj;rw[amX jK,pJ];cases a<;>rfl
  ·rw[anh hj]
 ·intro j it ns hj rp M Sv
  by_cases po:i=j
  ·subst po
   rw[amX jK] at rp
   rw[pJ] at hj
   cases hj;cases rp
   obtain⟨cs,h1,h2⟩:=Sv
   have rO:=bB.length h2
   have Ad:GT.size ew=3:=rfl
   have q:=(zy hi.toNat h2).1
   rw[Ad] at q rO
   refine⟨cs.take (hi.toNat*3),⟨by rw[hlen,Ad,iu];omega,?_⟩,q⟩
   rcases h1.2 with ⟨h3,h4⟩|⟨g,cap,cur,h3,h4,h5,h6,h7,h8,h9⟩
   ·cases h3
    refine .inl ⟨by rw[show hi.toNat=0 from by omega],by rw[hlen];omega⟩
   ·cases h3
    refine .inr ⟨g,c,cur,by rw[hlen],h4,h5,by omega,h7,h8,?_⟩
    rw[Ad] at h9
    rw[←h9,hlen,Ad,an8]
    congr 1
    omega
  ·rw[anh po,hj] at rp;cases rp;exact Sv
theorem clE (H:HI M0 w0 w l) (i:Nat) (hi:l[i]? =some (own B e (.slice a k c) xs)) (hB:B=w0.heap.size) (ox:bJ n x=true) {q:Nat} (hx:ev f x=.slice (pA a c q) (k-q) (c-q))
  (hu:P.underlying T=some (.slice e)) (F:ey P e 3 agg bytes (.agg #[.int .i64 0,.int .i64 0,.int .i64 0])) (hq:q≤xs.length)
  (h:∀w',HI M0 w0 w' (l.set i (own B e (.slice a k c) (xs.take q++List.replicate (xs.length-q) (0,0,0))))→K f w'):
  SO P n ops ⟨none,.call {callee:=.builtin .clear,args:=#[x],argTypes:=#[T]},ty,ps,af,none⟩ f w K:=by
 subst hB
 have hO:=H.at_ i hi
 have jK:=(dU.1 hi).1
 obtain⟨hk,hc⟩:=wG hO
 obtain⟨cs,h1,h2⟩:=hO
 have Ad:GT.size ew=3:=rfl
 by_cases nt:q=xs.length
 ·have hz:k-q=0:=by omega
  refine SO.value (d:=none) (v:=.tuple #[]) (w':=w) ?_<|h w ?_
  ·have Ae:(Builtin.clear_ #[T] ty #[.slice (pA a c q) 0 (c-q)]).run P w=.ok (.tuple #[]) w:=by
    cases hca:pA a c q<;>simp[Builtin.clear_,run_underlying hu]
   rw[hz] at hx
   simp[execOp,resolve,invoke,builtin,aM ox,hx,Ae]
  ·have e9:xs.take q++List.replicate (xs.length-q) (0,0,0)=xs:=by rw[nt];simp
   rw[e9]
   have:l.set i (own w0.heap.size e (.slice a k c) xs)=l:=by
    apply ana
    intro j
    by_cases hj:i=j
    ·subst hj;rw[amX jK,hi]
    ·rw[anh hj]
   rw[this];exact H
 ·rcases h1.2 with ⟨h0,h3⟩|⟨g',c1,cur,h0,h3,h4,h5,h6,h7,h8⟩
  ·omega
  ·cases h0
   have oQ:cur.size=c*3:=by rw[h7,Ad]
   have SC:pA (some ⟨g',0,none⟩) c q=some ⟨g',q*3,none⟩:=by unfold pA;rw[amI aj];show some (Addr.add _<|q*3)=_;rw[FL]
   rw[SC] at hx
   have rO:=bB.length h2
   rw[Ad] at rO h8
   have hz:bB (MS M0 l) w (List.replicate ((xs.length-q)*3) (Value.int .i64 0)) (List.replicate (xs.length-q) ((0,0,0):ew)):=HT _
   have qK:=run_storeCells_at P g' (q*3) e (List.replicate ((xs.length-q)*3)<|Value.int .i64 0) 0 cur w h4 (by rw[ot];omega)<|bB.AY hz
   refine SO.value (d:=none) (v:=.tuple #[]) (w':=w.setRow g' (cur.toList.take (q*3)++List.replicate ((xs.length-q)*3) (Value.int .i64 0)++cur.toList.drop (q*3+(List.replicate ((xs.length-q)*3)<|Value.int .i64 0).length)).toArray) ?_<|h _ ?_
   ·obtain⟨m,hm⟩:∃m,xs.length-q=m+1:=⟨xs.length-q-1,by omega⟩
    have Ae:(Builtin.clear_ #[T] ty #[.slice (some ⟨g',q*3,none⟩) (xs.length-q) (c-q)]).run P w=.ok (.tuple #[]) (w.setRow g' (cur.toList.take (q*3)++List.replicate ((xs.length-q)*3) (Value.int .i64 0)++cur.toList.drop (q*3+(List.replicate ((xs.length-q)*3) (Value.int .i64 0)).length)).toArray):=by
     have rP:(Builtin.zeroCells (Value.agg #[.int .i64 0,.int .i64 0,.int .i64 0]).cells (xs.length-q)).toList=List.replicate ((xs.length-q)*3) (Value.int .i64 0):=ad' _
     rw[ani] at qK
     rw[hm] at qK rP ⊢
     simp[Builtin.clear_,run_underlying hu,F.uk,rP,qK]
    simp[execOp,resolve,invoke,builtin,aM ox,hx,Ae]
   ·have Xq:(List.replicate ((xs.length-q)*3) (Value.int .i64 0)).length=(xs.length-q)*3:=ot
    have Gw:(xs.take q++List.replicate (xs.length-q) ((0,0,0):ew)).length=xs.length:=by simp;omega
    have aci:cur.toList.length=c*3:=by simpa using oQ
    refine H.vL i hi J J J (by simp) (amD _) (fun q' hq' gD=>setRow_other w g' q' _<|fun e=>gD<|by rw[e];rfl) ?_ ?_
    ·intro b hb
     refine⟨?_,.inl hb⟩
     rw[size_setRow]
     exact(H.jq _ (dN hi) b hb).2
    ·have qJ:Up (MS M0 l) w (MS M0 (l.set i (own w0.heap.size e (Value.slice (some ⟨g',0,none⟩) xs.length c) (xs.take q++List.replicate (xs.length-q) (0,0,0))))) (w.setRow g' (cur.toList.take (q*3)++List.replicate ((xs.length-q)*3) (Value.int .i64 0)++cur.toList.drop (q*3+(List.replicate ((xs.length-q)*3) (Value.int .i64 0)).length)).toArray):=by
      refine⟨by simp,fun b hb hM=>⟨setRow_other w g' b _ (fun e=>hM<|.inr ⟨_,dN hi,by rw[e];rfl⟩),?_⟩⟩
      rintro(CU|⟨it,hit,lZ⟩)
      ·exact hM<|.inl CU
      ·rcases anr hit with hit|rfl
       ·exact hM<|.inr ⟨it,hit,lZ⟩
       ·exact hM<|.inr ⟨_,dN hi,lZ⟩
     have qc:=(zy q h2).1
     rw[Ad] at qc
     refine⟨cs.take (q*3)++List.replicate ((xs.length-q)*3) (Value.int .i64 0),⟨by rw[Gw,Ad,fN,iu,Xq];omega,.inr ⟨g',c,_,by rw[Gw],h3,setRow_heap w g' cur _ e _ h4,by omega,h6,?_,?_⟩⟩,?_⟩
     ·simp only[an9,fN,iu,amZ,Ad,Xq]
      omega
     ·rw[Gw]
      show (cur.toList.take (q*3)++List.replicate ((xs.length-q)*3) (Value.int .i64 0)++cur.toList.drop (q*3+(List.replicate ((xs.length-q)*3) (Value.int .i64 0)).length)).take (xs.length*3)=_
      rw[an2 (by rw[fN,iu,Xq];omega),amL (by rw[fN,iu,Xq];omega),←h8,an8,anF aj]
     ·exact bB.append (bB.lift qJ qc)<|HT _
end
end Go.Ew
namespace Go.Ew
open Go.RowKit
section
variable {P:Program} {n:Nat} {ops:Array Oper} {f:aP} {w:aG} {K:aP→aG→Prop} {x y:Operand} {d:Nat} {ty T e:TypeId} {ps:String} {af:Array Edge} {v u:Value} {M M0:cb} {w0:aG} {l:List Item} {bytes:Nat} {z:Value} {B:Nat} {kk:IntKind} {agg:Bool} {xs ys:List ew} {a:Option Addr} {k c:Nat}
theorem Tl {q:Nat} {i:Int} (hO:(own B e (.slice a k c) xs).holds M w0) (hi:0≤i∧i<((k-q:Nat):Int)):
  ∃g,a=some ⟨g,0,none⟩∧pA a c q=some ⟨g,q*3,none⟩∧q+i.toNat<xs.length∧∀xv,xs[q+i.toNat]? =some xv→hQ M w0 ⟨g,q*3+i.toNat*3,none⟩ xv:=by
 obtain⟨hk,hc⟩:=wG hO
 have h0:=hO
 obtain⟨cs,h1,h2⟩:=hO
 rcases h1.2 with ⟨h3,h4⟩|⟨g',c1,cur,h3,h4⟩
 ·omega
 ·cases h3
  refine⟨g',J,?_,by omega,fun xv hx=>?_⟩
  ·unfold pA;rw[amI aj];show some (Addr.add _ (q*3))=_;rw[FL]
  ·have:=aaY h0 J hx
   rwa [show (q+i.toNat)*GT.size ew=q*3+i.toNat*3 from by show (q+i.toNat)*3=_;omega] at this
theorem Rv {K:aP→Prop} {rest:dw} {q:Nat} {i:Int} (hO:(own B e (.slice a k c) xs).holds M w0) (ox:bJ n x=true) (oy:bJ n y=true) (hx:ev f x=.slice (pA a c q) (k-q) (c-q)) (hy:ev f y=.int kk i) (hi:0≤i∧i<((k-q:Nat):Int)) (hu:P.underlying T=some (.slice e)) (F:ey P e 3 agg bytes z)
  (h:∀ad xv,xs[q+i.toNat]? =some xv→hQ M w0 ad xv→PW P n ops w0 K rest (cx f d (.pointer (some ad)))):PW P n ops w0 K (⟨some d,.indexAddr T x y,ty,ps,af,none⟩::rest) f:=by
 obtain⟨g,rfl,Fo,eZ,hat⟩:=Tl hO hi
 rw[Fo] at hx
 have lk:(⟨g,q*3,none⟩:Addr).add (i.toNat*3)=⟨g,q*3+i.toNat*3,none⟩:=by unfold Addr.add;split<;>simp_all
 refine⟨.pointer (some ⟨g,q*3+i.toNat*3,none⟩),fun w hw=>SO.value (v:=.pointer (some ⟨g,q*3+i.toNat*3,none⟩)) (w':=w) ?_ ⟨J,Ext.refl w⟩,h _ xs[q+i.toNat] (eR eZ) (hat _<|eR eZ)⟩
 have hb:0≤i∧i<((k-q:Nat):Int):=hi
 simp[execOp,aM ox,aM oy,hx,hy,Instr.indexAt,asIntOf,gK hu,hb,F.jm,lk]
theorem ahm {q:Nat} {i:Int} (hO:(own B e (.slice a k c) xs).holds M w) (ox:bJ n x=true) (oy:bJ n y=true) (hx:ev f x=.slice (pA a c q) (k-q) (c-q)) (hy:ev f y=.int kk i) (hi:0≤i∧i<((k-q:Nat):Int)) (hu:P.underlying T=some (.slice e)) (F:ey P e 3 agg bytes z)
  (h:∀ad xv,xs[q+i.toNat]? =some xv→hQ M w ad xv→K (cx f d (.pointer (some ad))) w):SO P n ops ⟨some d,.indexAddr T x y,ty,ps,af,none⟩ f w K:=by
 obtain⟨g,rfl,Fo,eZ,hat⟩:=Tl hO hi
 rw[Fo] at hx
 have lk:(⟨g,q*3,none⟩:Addr).add (i.toNat*3)=⟨g,q*3+i.toNat*3,none⟩:=by unfold Addr.add;split<;>simp_all
 refine SO.value (v:=.pointer (some ⟨g,q*3+i.toNat*3,none⟩)) (w':=w) ?_<|h _ xs[q+i.toNat] (eR eZ)<|hat _<|eR eZ
 have hb:0≤i∧i<((k-q:Nat):Int):=hi
 simp[execOp,aM ox,aM oy,hx,hy,Instr.indexAt,asIntOf,gK hu,hb,F.jm,lk]
end
end Go.Ew
namespace Go.Ew
variable {p:Nat→Bool} {j:Nat}
def dv (U:List aO) (n:Int) (rs:Rows) (r:Int):aA:=aY (iM U (rG U r)) (eY n rs r)
section
variable (U:List aO) (fo:aA) (n:Int) (rs:Rows)
def vB (r:Nat):Bool:=decide (fo.getD r 0= -1)&&decide (0<(((dv U n rs ((r:Nat):Int)).length:Nat):Int))
def Ap:Option Nat:=(List.range fo.length).find? (vB U fo n rs)
end
theorem DO {n:Nat} (hs:∀q,q<j→p q=false) (hj:j<n) (h:p j=true):(List.range n).find? p=some j:=by
 rw[List.find?_range_eq_some]
 refine⟨h,amH.2 hj,fun q hq=>?_⟩
 rw[hs q hq];rfl
theorem Bg {n:Nat} (hs:∀q,q<j→p q=false) (hj:n≤j):(List.range n).find? p=none:=by
 rw[an5]
 intro q hq
 rw[hs q (am8 (amH.1 hq) hj)];decide
theorem su (hs:∀q,q<j→p q=false) (h:p j=false):∀q,q<j+1→p q=false:=by
 intro q hq
 by_cases e:q=j
 ·rw[e];exact h
 ·exact hs q aj
theorem LU {l:aA} {x:Int} (h:l[(0:Int).toNat]? =some x):l.headD 0=x:=by
 cases l with
 |nil=>simp at h
 |cons a l=>simp at h;exact h
def zB (n:Int) (rs:Rows) (a k:Int):Bool:=!decide (k=a)&&eL n rs a k
section
variable (U:List aO) (fo:aA) (n:Int) (rs:Rows)
def zC (r:Nat):Option Int:=(dv U n rs ((r:Nat):Int)).find? (zB n rs (fo.getD r 0))
def vX (r:Nat):Bool:=!decide (fo.getD r 0<0)&&(zC U fo n rs r).isSome
def FI:Option Nat:=(List.range fo.length).find? (vX U fo n rs)
end
theorem Of {α:Type} {l:List α} {p:α→Bool} {x:α} (hs:∀y∈l.take j,p y=false) (hx:l[((j:Nat):Int).toNat]? =some x) (h:p x=false):∀y∈l.take (j+1),p y=false:=by
 rw[dM] at hx
 intro y hy
 rw[am9,hx] at hy
 rcases am1.1 hy with hy|hy
 ·exact hs y hy
 ·simp at hy;rw[hy];exact h
theorem abo {α:Type} {p:α→Bool}:∀{l:List α} {j:Nat} {x:α},(∀y∈l.take j,p y=false)→l[((j:Nat):Int).toNat]? =some x→p x=true→l.find? p=some x:=by
 intro l j x hs hx h
 rw[dM] at hx
 have hj:=(dU.1 hx).1
 have e:l=l.take j++x::l.drop (j+1):=by
  rw[←(dU.1 hx).2,apd,anZ]
 rw[e,List.find?_append,an5.2 (fun y hy=>by rw[hs y hy];decide),List.find?_cons_of_pos h];rfl
theorem Zl {α:Type} {l:List α} {p:α→Bool} (hs:∀y∈l.take j,p y=false) (hj:l.length≤j):l.find? p=none:=by
 rw[amL hj] at hs
 exact an5.2 fun y hy=>by rw[hs y hy];decide
theorem adu {U:List aO} {fo:aA} {n:Int} {rs:Rows} {j q:Nat} {a x:Int} (hs:∀q,q<j→vX U fo n rs q=false) (hj:j<fo.length) (aI:fo[((j:Nat):Int).toNat]? =some a) (h0:decide (a<0)=false)
  (gN:∀y∈(dv U n rs (j:Int)).take q,zB n rs a y=false) (bV:(dv U n rs (j:Int))[((q:Nat):Int).toNat]? =some x) (h1:decide (x=a)=false) (h2:eL n rs a x=true):
  FI U fo n rs=some j∧zC U fo n rs j=some x∧fo.getD j 0=a:=by
 have hq:zB n rs a x=true:=by unfold zB;rw[h1,h2];rfl
 have hk:zC U fo n rs j=some x:=by unfold zC;rw[jo aI];exact abo gN bV hq
 refine⟨DO hs hj ?_,hk,jo aI⟩
 unfold vX
 rw[jo aI,h0,hk];rfl
theorem adt {U:List aO} {fo:aA} {n:Int} {rs:Rows} {a:Int} (hs:∀q,q<j→vX U fo n rs q=false) (aI:fo[((j:Nat):Int).toNat]? =some a) (h0:decide (a<0)=true):∀q,q<j+1→vX U fo n rs q=false:=
 su hs (by unfold vX;rw[jo aI,h0];rfl)
theorem Wj {U:List aO} {fo:aA} {n:Int} {rs:Rows} {j q:Nat} {a:Int} (hs:∀q,q<j→vX U fo n rs q=false) (aI:fo[((j:Nat):Int).toNat]? =some a)
  (gN:∀y∈(dv U n rs (j:Int)).take q,zB n rs a y=false) (hq:(dv U n rs (j:Int)).length≤q):∀q,q<j+1→vX U fo n rs q=false:=
 su hs (by unfold vX zC;rw[jo aI,Zl gN hq];simp)
theorem QN {n:Int} {rs:Rows} (h:bI n rs=true) (U:List aO) (r:Int):(dv U n rs r).length≤4096:=by
 unfold dv aY
 exact amP (anB _ _)<|u4 h r
end Go.Ew
namespace Go.Ew
open Go.RowKit Go.Sort Go.Proofs
variable {w:aG} {g:Nat}
section
variable {β:Type} [Inhabited β] {enc:β→List Value} {k:Nat}
theorem SZ (hk:∀x,(enc x).length=k) (hp:0<k):∀(xs:List β) (t:Nat),t<xs.length*k→(xs.flatMap enc)[t]! =(enc xs[t/k]!)[t%k]!
 |[],t,h=>by simp at h
 |x::xs,t,h=>by
  rw[an']
  by_cases ht:t<k
  ·rw[aoP ht,aoO ht,List.getElem!_cons_zero,anY,anY,oY (by rw[hk];exact ht)]
  ·have h2:t-k<xs.length*k:=by rw[iB,ant] at h;omega
   have e1:t/k=(t-k)/k+1:=by rw[show t=(t-k)+k by omega,Nat.add_div_right _ hp];simp
   have e2:t%k=(t-k)%k:=by rw[show t=(t-k)+k by omega,Nat.add_mod_right];simp
   have ih:=SZ hk hp xs (t-k) h2
   rw[e1,e2,List.getElem!_cons_succ,←ih,anY,anY,oB (by rw[hk];omega),hk]
theorem CY (hk:∀x,(enc x).length=k):∀xs:List β,(xs.flatMap enc).length=xs.length*k
 |[]=>by simp
 |x::xs=>by rw[an',fN,CY hk xs,hk,iB,ant];omega
theorem GJ (hk:∀x,(enc x).length=k) (hp:0<k) (d:Array β):flatK enc k d=(d.toList.flatMap enc).toArray:=by
 apply Array.ext
 ·simp[CY hk]
 ·intro t h1 h2
  have h3:t<d.size*k:=by simpa using h1
  have e1:=get_flatK enc k d t h3
  have e2:=SZ hk hp d.toList t<|by simpa using h3
  rw[apJ (flatK enc k d) t h1] at e1
  rw[apJ (d.toList.flatMap enc) t (by simpa using h2)] at e2
  have e3:d.toList[t/k]! =d[t/k]!:=by
   rw[anY,an1,Array.getElem!_eq_getD,Array.getD_eq_getD_getElem?]
  rw[e1,List.getElem_toArray,e2,e3]
end
variable {α β:Type} [GT α] [Inhabited β] {val:β→α} {enc:β→List Value}
theorem GZ (h:∀M w cs x,GT.rep M w cs x↔∃b,cs=enc b∧val b=x) {M:cb} {w:aG}:∀{xs:List α} {cs:List Value},bB M w cs xs→∃bs:List β,bs.map val=xs∧cs=bs.flatMap enc
 |[],cs,hc=>⟨[],rfl,hc⟩
 |x::xs,cs,⟨c1,c2,e,h1,h2⟩=>by
  obtain⟨bs,e1,e2⟩:=GZ h h2
  obtain⟨b,e3,e4⟩:=(h _ _ _ _).1 h1
  exact⟨b::bs,by simp[e1,e4],by rw[e,e2,e3];rfl⟩
theorem GV (h:∀M w cs x,GT.rep M w cs x↔∃b,cs=enc b∧val b=x) {M:cb} {w:aG}:∀bs:List β,bB M w (bs.flatMap enc) (bs.map val)
 |[]=>rfl
 |b::bs=>⟨enc b,bs.flatMap enc,rfl,(h _ _ _ _).2 ⟨b,rfl,rfl⟩,GV h bs⟩
theorem Jt {f:Array Value→Array Value} {cur:Array Value} {e:TypeId} {z:Nat×Nat} (h:w.heap[g]? =some (.cells cur e z)):(mapBlock w g f).heap[g]? =some (.cells (f cur) e z):=by
 simp[mapBlock,Array.getElem?_modify,h,onCells]
theorem Hx {c:Nat} {f:Array Value→Array Value} (h:c≠g):(mapBlock w g f).heap[c]? =w.heap[c]?:=by
 simp[mapBlock,Array.getElem?_modify,Ne.symm h]
theorem Q9 {M0:cb} {w0:aG} {l:List Item} {i:Nat} {e:TypeId} {cap:Nat} {xs:List α} (h:∀M w cs x,GT.rep M w cs x↔∃b,cs=enc b∧val b=x) (H:HI M0 w0 w l) (hi:l[i]? =some (own w0.heap.size e (.slice (some ⟨g,0,none⟩) xs.length cap) xs)):
  ∃bs:List β,bs.map val=xs∧HoldsK enc (GT.size α) w g 0 bs.toArray∧g<w.heap.size∧
   ∀(ds:List β) n os,ds.length=bs.length→HI M0 w0 (sortWorldK enc (GT.size α) w g 0 n ds.toArray os) (l.set i (own w0.heap.size e (.slice (some ⟨g,0,none⟩) xs.length cap) (ds.map val))):=by
 have hk:∀x:β,(enc x).length=GT.size α:=fun x=>GT.len<|(h (fun _=>True) w (enc x)<|val x).2 ⟨x,J,J⟩
 have hp:0<GT.size α:=GT.pos
 have Bb:=dN hi
 obtain⟨cs,⟨hl,ho⟩,hc⟩:=H.all _ Bb
 obtain⟨bs,rfl,rfl⟩:=GZ h hc
 have hblk:=H.jq _ Bb g J
 rcases ho with ⟨ho, -⟩|⟨g',al3,cur,ho,h1,h2,h3,h4,h5,h6⟩
 ·cases ho
 cases ho
 have hlen:(bs.flatMap enc).length=bs.length*GT.size α:=CY hk bs
 have oQ:bs.length*GT.size α≤cur.size:=by rw[h5];exact anE _ (by simpa using h3)
 refine⟨bs,J,?_,hblk.2,?_⟩
 ·intro j hj
  rw[GJ hk hp] at hj ⊢
  have rp:j<bs.length*GT.size α:=by simpa [hlen] using hj
  have xJ:j<cur.size:=by omega
  have e1:(bs.flatMap enc)[j]? =some cur[j]:=by
   rw[←h6,am5,amF (by simpa using rp)];simp[xJ]
  constructor
  ·simp only[World.cell?,h2,ann,Option.isSome_none]
   rw[apJ _ j (by simpa [hlen] using rp)]
   have e2:(bs.flatMap enc)[j]'aj=cur[j]:=amE<|(eR _).symm.trans e1
   simp[e2,xJ]
  ·simp[World.frozen?,h2]
 ·intro ds n os Sz
  have hW:(sortWorldK enc (GT.size α) w g 0 n ds.toArray os).heap=(mapBlock (Go.Sort.ahead w n) g (putCells id 0 (ds.flatMap enc).toArray)).heap++os:=by
   simp only[sortWorldK,putRowK,putRow,grow,GJ hk hp]
  have hms:(mapBlock (Go.Sort.ahead w n) g (putCells id 0 (ds.flatMap enc).toArray)).heap.size=w.heap.size:=by simp[mapBlock,Go.Sort.ahead]
  have uC:∀c,c<w.heap.size→(sortWorldK enc (GT.size α) w g 0 n ds.toArray os).heap[c]? =(mapBlock (Go.Sort.ahead w n) g (putCells id 0 (ds.flatMap enc).toArray)).heap[c]?:=by
   intro c hc
   rw[hW,aou aj]
  refine H.vL i hi J J J (by rw[hW,apH];omega) (by simp[sortWorldK,putRowK,putRow,grow,mapBlock,Go.Sort.ahead]) (fun c hcw gD=>?_) (fun b hb=>?_) ?_
  ·rw[uC c hcw]
   exact Hx (w:=Go.Sort.ahead w n) fun e=>gD (by rw[e];rfl)
  ·cases hb
   exact⟨by rw[hW,apH];exact am8 hblk.2 aj,.inl rfl⟩
  ·refine⟨ds.flatMap enc,⟨?_,.inr ⟨g,cap,putCells id 0 (ds.flatMap enc).toArray cur,by simp[Sz],h1,?_,by simpa [Sz] using h3,h4,by simpa [putCells] using h5,?_⟩⟩,GV h ds⟩
   ·rw[CY hk,ane]
   ·rw[uC g hblk.2]
    exact Jt (w:=Go.Sort.ahead w n) h2
   ·apply ana
    intro j
    have pj:(ds.flatMap enc).length=ds.length*GT.size α:=CY hk ds
    rw[am5,ane]
    split
    ·rename_i hj
     have xJ:j<cur.size:=by rw[Sz] at hj;omega
     have hjf:j<(ds.flatMap enc).length:=by omega
     clear hW hms uC
     generalize ds.flatMap enc=F at hjf ⊢
     simp[putCells,xJ,hjf]
    ·rw[amQ aj]
theorem Ext.grow {w w':aG} (h:Ext w w'):∃q os',w'=Go.Sort.grow (w.drewN q) os':=by
 refine⟨w'.drawn-w.drawn,w'.heap.extract w.heap.size w'.heap.size,?_⟩
 have hh:w'.heap=w.heap++w'.heap.extract w.heap.size w'.heap.size:=by
  apply Array.ext_getElem?
  intro c
  by_cases hc:c<w.heap.size
  ·rw[aou hc,h.block c hc]
  ·rw[Array.getElem?_append_right aj,Array.getElem?_extract]
   split
   ·congr 1;omega
   ·exact Array.getElem?_eq_none aj
 have hd:=h.drawn
 obtain⟨h1,h2,h3,h4⟩:_∧_∧_∧_:=⟨h.os,h.tape,h.output,hh⟩
 cases w';cases w
 simp only[Go.Sort.grow,World.drewN] at *
 subst h1 h2 h3
 congr 1
 omega
end Go.Ew
namespace Go.Ew
open Go.RowKit Go.Sort Go.Proofs
def BW:Type:={x:ew //aL x.1∧aL x.2.1∧aL x.2.2}
instance :Inhabited BW:=⟨⟨(0,0,0),by simp[aL],by simp[aL],by simp[aL]⟩⟩
def QD (x:BW):List Value:=[.int .i64 x.1.1,.int .i64 x.1.2.1,.int .i64 x.1.2.2]
def ltE (x y:ew):Bool:=decide (xX x y<0)
theorem HS (a b:Int):(fH a b<0↔a<b)∧(fH a b=0↔a=b):=by
 unfold fH;constructor<;>cases h:decide (a<b)<;>cases k:decide (b<a)<;>simp at h k ⊢<;>omega
theorem OR (x y:ew):xX x y<0↔x.1<y.1∨x.1=y.1∧(x.2.1<y.2.1∨x.2.1=y.2.1∧x.2.2<y.2.2):=by
 have h1:=HS x.1 y.1
 have h2:=HS x.2.1 y.2.1
 have h3:=HS x.2.2 y.2.2
 simp only[xX,Ct]
 repeat' split
 all_goals omega
theorem VN (M:cb) (w:aG) (cs:List Value) (x:ew):GT.rep M w cs x↔∃b:BW,cs=QD b∧b.1=x:=by
 obtain⟨a,b,c⟩:=x
 constructor
 ·rintro⟨c1,c2,rfl,⟨rfl,h1⟩,d1,d2,rfl,⟨rfl,h2⟩,rfl,h3⟩
  exact⟨⟨(a,b,c),h1,h2,h3⟩,J,J⟩
 ·rintro⟨⟨⟨a',b',c'⟩,h1,h2,h3⟩,rfl,e⟩
  cases e
  exact⟨[_],[_,_],J,⟨J,h1⟩,[_],[_],J,⟨J,h2⟩,J,h3⟩
theorem aaw:SWO (ltOf fun x y:BW=>xX x.1 y.1):=by
 refine⟨fun x=>?_,fun x y z=>?_,fun x y z=>?_⟩<;>simp only[ltOf,amB,amN,OR]<;>omega
theorem ag8 (x y:BW) (h:(ltOf fun x y:BW=>xX x.1 y.1) x y=false) (k:(ltOf fun x y:BW=>xX x.1 y.1) y x=false):x=y:=by
 simp only[ltOf,amN,OR] at h k
 obtain⟨⟨a,b,c⟩,hx⟩:=x
 obtain⟨⟨a',b',c'⟩,hy⟩:=y
 have e:((a,b,c):ew)=(a',b',c'):=by
  simp only[anm]
  simp only at h k
  omega
 exact Subtype.ext e
def wE (l:List ew):List ew:=l.mergeSort fun x y=>!ltE y x
theorem Ra:wE []=[]:=by unfold wE;simp
theorem Rb (bs:List BW):wE (bs.map fun b=>b.1)=(bs.mergeSort fun x y=>!(ltOf fun x y:BW=>xX x.1 y.1) y x).map fun b=>b.1:=by
 refine(List.map_mergeSort fun a _ b _=>?_).symm
 rfl
end Go.Ew
namespace Go.Ew
structure Wz (U:List aO) (fo:aA) (n:Int) (rs:Rows) (e:ew):Prop where
 r0:0≤e.2.2
 r1:e.2.2<((fo.length:Nat):Int)
 fr:fo[e.2.2.toNat]? =some e.2.1
 w0:0≤e.2.1
 ne:e.1≠e.2.1
 ah:e.1∈aY (iM U (rG U e.2.1)) (eY n rs e.2.2)
def Dq (U:List aO) (fo:aA) (n:Int) (rs:Rows) (es:List ew):Prop:=es.length≤4096*fo.length∧∀e,e∈es↔Wz U fo n rs e
section
variable (U:List aO) (fo:aA) (n:Int) (rs:Rows)
def BS (w r:Int) (l:aA):List ew:=(l.filter fun x=>!decide (x=w)).map fun x=>(x,w,r)
def C5 (r:Nat):List ew:=if fo.getD r (-1)<0 then [] else BS (fo.getD r (-1)) ((r:Nat):Int) (aY (iM U (rG U (fo.getD r (-1)))) (eY n rs ((r:Nat):Int)))
def uL (j:Nat):List ew:=(List.range j).flatMap (C5 U fo n rs)
def cP:List ew:=wE (uL U fo n rs fo.length)
end
section
variable {U:List aO} {fo:aA} {n:Int} {rs:Rows} {j q:Nat} {w x v:Int} {es OH:List ew}
theorem C4:uL U fo n rs (j+1)=uL U fo n rs j++C5 U fo n rs j:=by
 unfold uL;rw[aoa,aon];simp
theorem Tb (hw:fo[((j:Nat):Int).toNat]? =some w):fo.getD j (-1)=w:=by
 rw[dM] at hw;rw[im,hw];rfl
theorem ada (h:es=uL U fo n rs j) (hw:fo[((j:Nat):Int).toNat]? =some w) (h0:w<0):es=uL U fo n rs (j+1):=by
 rw[C4,C5,Tb hw,amF h0,anR];exact h
theorem ZL (hv:v=rG U w) (h:es=uL U fo n rs j) (h2:OH=es++BS w ((j:Nat):Int) ((aY (iM U v) (eY n rs ((j:Nat):Int))).take q)) (hw:fo[((j:Nat):Int).toNat]? =some w) (h0:¬w<0) (hq:(aY (iM U v) (eY n rs ((j:Nat):Int))).length≤q):OH=uL U fo n rs (j+1):=by
 rw[C4,C5,Tb hw,amI h0,h2,amL hq,h,hv]
theorem VO {l:aA} {r:Int} (h:OH=es++BS w r (l.take q)) (hx:l[((q:Nat):Int).toNat]? =some x) (he:x=w):OH=es++BS w r (l.take (q+1)):=by
 rw[dM] at hx
 rw[h,am9,hx];unfold BS;simp[he]
theorem ZJ {l:aA} {r:Int} (h:OH=es++BS w r (l.take q)) (hx:l[((q:Nat):Int).toNat]? =some x) (he:¬x=w):OH++[(x,w,r)]=es++BS w r (l.take (q+1)):=by
 rw[dM] at hx
 rw[h,am9,hx];unfold BS;simp[he]
theorem Md (hr:bI n rs=true):(uL U fo n rs j).length≤4096*j:=by
 induction j with
 |zero=>simp[uL]
 |succ j ih=>
  rw[C4,fN]
  have:(C5 U fo n rs j).length≤4096:=by
   unfold C5
   split
   ·simp
   ·unfold BS aY
    rw[ane]
    exact amP (anB _ _)<|amP (anB _ _)<|u4 hr _
  omega
theorem I6:(uL U fo n rs fo.length).length=(cP U fo n rs).length:=by unfold cP wE;rw[List.length_mergeSort]
theorem qV (hr:bI n rs=true):Dq U fo n rs (cP U fo n rs):=by
 refine⟨by rw[←I6];exact Md hr,fun e=>?_⟩
 unfold cP wE
 rw[List.mem_mergeSort]
 unfold uL
 rw[apP]
 constructor
 ·rintro⟨r,hr,h⟩
  have hr:=amH.1 hr
  unfold C5 at h
  split at h
  ·cases h
  ·rename_i h0
   unfold BS at h
   rw[anp] at h
   obtain⟨x,hx,rfl⟩:=h
   rw[amW] at hx
   refine⟨by simp only;omega,by simp only;omega,?_,by simp only;omega,by simpa using hx.2,hx.1⟩
   simp only[dM]
   rw[im,eR hr];rfl
 ·intro h
  obtain⟨a,b,r⟩:=e
  obtain⟨r0,r1,fr,w0,ne,ah⟩:=h
  simp only at r0 r1 fr w0 ne ah
  refine⟨r.toNat,amH.2 aj,?_⟩
  have e1:fo.getD r.toNat (-1)=b:=by rw[im,fr];rfl
  have e2:((r.toNat:Nat):Int)=r:=by omega
  unfold C5 BS
  rw[e1,e2,amI aj,anp]
  exact⟨a,amW.2 ⟨ah,by simpa using ne⟩,J⟩
end
end Go.Ew
namespace Go.Ew
open Go.RowKit
section
variable {κ ν:Type} [DecidableEq κ]
def fO:List (κ×ν)→κ→Option ν
 |[],_=>none
 |x::xs,k=>if k=x.1 then some x.2 else fO xs k
def lJ:List (κ×ν)→κ→ν→List (κ×ν)
 |[],k,v=>[(k,v)]
 |x::xs,k,v=>if k=x.1 then (k,v)::xs else x::lJ xs k v
def nT:List (κ×Value)→κ→Nat→Option (Nat×Value)
 |[],_,_=>none
 |x::xs,k,i=>if k=x.1 then some (i,x.2) else nT xs k (i+1)
def mz (ek:κ→Value) (es:List MapEntry) (m:List (κ×Value)):Prop:=es.map (fun e=>(e.key,e.val))=m.map fun x=>(ek x.1,x.2)
def mo (ev:ν→Value) (m:List (κ×ν)):List (κ×Value):=m.map fun x=>(x.1,ev x.2)
theorem I3 (ev:ν→Value):∀(m:List (κ×ν)) (k:κ) (i:Nat),(nT (mo ev m) k i).map (·.2)=(fO m k).map ev
 |[],_,_=>rfl
 |x::xs,k,i=>by
  simp only[mo,am_]
  unfold nT fO
  by_cases h:k=x.1
  ·simp[h]
  ·rw[amI h,amI h];exact I3 ev xs k (i+1)
theorem GQ (ek:κ→Value) (ev:ν→Value):∀(m:List (κ×ν)) (es:List MapEntry) (k:κ) (i j:Nat) (v:Value),mz ek es (mo ev m)→nT (mo ev m) k i=some (j,v)→
  ∃q e,j=i+q∧es[q]? =some e∧e.key=ek k∧∀(u:ν),mz ek (es.modify q fun e=>{e with key:=ek k,val:=ev u}) (mo ev (lJ m k u))
 |[],_,_,_,_,_,_,h=>by cases h
 |x::xs,es,k,i,j,v,hr,h=>by
  match es,hr with
  |[],hr=>simp[mz,mo] at hr
  |e::es,hr=>
   simp only[mz,mo,am_,anI,anm] at hr
   obtain⟨⟨h1,h2⟩,h3⟩:=hr
   simp only[mo,am_] at h
   unfold nT at h
   split at h
   ·rename_i hk
    simp only[amO,anm] at h
    refine⟨0,e,h.1.symm,J,by rw[h1,hk],fun u=>?_⟩
    unfold lJ
    rw[amF hk]
    simp[mz,mo] at h3 ⊢
    exact h3
   ·rename_i hk
    obtain⟨q,e',IN,nt,Ei,Eh⟩:=GQ ek ev xs es k (i+1) j v h3 h
    refine⟨q+1,e',by omega,by simpa using nt,Ei,fun u=>?_⟩
    have:=Eh u
    unfold lJ
    rw[amI hk]
    simp only[mz,mo,List.modify_succ_cons,am_,anI,anm]
    exact⟨⟨h1,h2⟩,this⟩
theorem GR (ek:κ→Value) (ev:ν→Value):∀(m:List (κ×ν)) (es:List MapEntry) (k:κ) (i:Nat),mz ek es (mo ev m)→nT (mo ev m) k i=none→∀(c:Nat) (u:ν),mz ek (es++[⟨ek k,ev u,c⟩]) (mo ev (lJ m k u))
 |[],es,k,_,hr,_,c,u=>by
  have:es=[]:=by simpa [mz,mo] using hr
  subst this;simp[mz,mo,lJ]
 |x::xs,es,k,i,hr,h,c,u=>by
  match es,hr with
  |[],hr=>simp[mz,mo] at hr
  |e::es,hr=>
   simp only[mz,mo,am_,anI,anm] at hr
   obtain⟨⟨h1,h2⟩,h3⟩:=hr
   simp only[mo,am_] at h
   unfold nT at h
   split at h
   ·cases h
   ·rename_i hk
    have:=GR ek ev xs es k (i+1) h3 h c u
    unfold lJ
    rw[amI hk]
    simp only[mz,mo,aoU,am_,anI,anm]
    exact⟨⟨h1,h2⟩,this⟩
theorem VE (m:List (κ×ν)) (k k':κ) (v:ν):fO (lJ m k v) k'=if k'=k then some v else fO m k':=by
 induction m with
 |nil=>simp[lJ,fO]
 |cons x xs ih=>
  unfold lJ
  by_cases h:k=x.1
  ·subst h
   simp only[aod,fO]
   by_cases h':k'=x.1<;>simp[h']
  ·rw[amI h]
   simp only[fO,ih]
   by_cases h':k'=x.1
   ·rw[amF h',amF h',amI (by rw[h'];exact fun e=>h e.symm)]
   ·rw[amI h',amI h']
theorem ZB {m:List (κ×ν)} {iv:ν→Prop} (h:∀x∈m,iv x.2) {k:κ} {v:ν} (hv:fO m k=some v):iv v:=by
 induction m with
 |nil=>cases hv
 |cons x xs ih=>
  unfold fO at hv
  split at hv
  ·cases hv;exact h x (by simp)
  ·exact ih (fun y hy=>h y<|by simp[hy]) hv
theorem NQ {m:List (κ×ν)} {iv:ν→Prop} (h:∀x∈m,iv x.2) (k:κ) {v:ν} (hv:iv v):∀x∈lJ m k v,iv x.2:=by
 induction m with
 |nil=>intro x hx;simp[lJ] at hx;subst hx;exact hv
 |cons y ys ih=>
  intro x hx
  unfold lJ at hx
  split at hx
  ·rcases amV.1 hx with rfl|hx
   ·exact hv
   ·exact h x<|by simp[hx]
  ·rcases amV.1 hx with rfl|hx
   ·exact h x<|by simp
   ·exact ih (fun z hz=>h z<|by simp[hz]) x hx
def Cy (ek:κ→Value) (ev:ν→Value) (iv:ν→Prop) (b:Nat) (m:List (κ×ν)):Item:=
 ⟨some b,fun _ w=>∃es clock,w.heap[b]? =some (.map es clock)∧mz ek es.toList (mo ev m)∧∀x∈m,iv x.2,fun h _ hb=>by
  obtain⟨es,c,h1,h2⟩:=h
  exact⟨es,c,(hb b rfl).trans h1,h2⟩⟩
end
structure QT (P:Program) (kt:TypeId) {κ:Type} [DecidableEq κ] (ek:κ→Value):Prop where
 BT:∀e a w,(Instr.checkKey e 10000 kt (ek a)).run P w=.ok () w
 find:∀(k:κ) (w:aG) (m:List (κ×Value)) (es:List MapEntry),mz ek es m→(Instr.findKey kt (ek k) es).run P w=.ok (nT m k 0) w
 stays:∀k w,(Instr.keyThatStays (ek k) (ek k)).run P w=.ok (ek k) w
structure Hb (P:Program) (T:TypeId) {κ ν:Type} [DecidableEq κ] (ek:κ→Value) (ev:ν→Value) (z:ν):Prop where
 h:∃kt et,P.underlying T=some (.map kt et)∧QT P kt ek∧∀w,(zeroValue et).run P w=.ok (ev z) w
abbrev tp (b:Nat) (m:List (bA×Int)):Item:=Cy (fun s=>Value.string s) (fun v=>Value.int .i64 v) aL b m
abbrev bX (b:Nat) (m:List ((Int×Int)×Bool)):Item:=Cy K2 Value.bool (fun _=>True) b m
section
variable {P:Program}
theorem MD {kt:TypeId} (F:Dg P kt) (k:Int×Int) (w:aG):∀(m:List ((Int×Int)×Value)) (es:List MapEntry) (i:Nat),mz K2 es m→(Instr.findAsking kt (K2 k) es i).run P w=.ok (nT m k i) w
 |[],es,i,h=>by
  have:es=[]:=by simpa [mz] using h
  subst this;simp[Instr.findAsking,nT]
 |x::xs,es,i,h=>by
  match es,h with
  |e::es,h=>
   simp only[mz,am_,anI,anm] at h
   obtain⟨⟨h1,h2⟩,h3⟩:=h
   have ih:=MD F k w xs es (i+1) h3
   by_cases hk:k=x.1
   ·simp[Instr.findAsking,nT,h1,h2,F.eq,hk]
   ·simp[Instr.findAsking,nT,h1,h2,F.eq,hk,ih]
  |[],h=>simp[mz] at h
theorem Va {kt:TypeId} (F:Dg P kt):QT P kt K2 where
 BT:=F.BT
 find k w m es h:=by
  obtain⟨d,hd⟩:=F.u
  cases es with
  |nil=>
   have:m=[]:=by simpa [mz] using h.symm
   subst this
   simp[Instr.findKey,run_underlying hd,Result.andThen,Instr.findNow,nT]
  |cons e es=>
   have h0:Instr.findNow d (K2 k) (e::es) 0=none:=Es d _ e es 0
   simp[Instr.findKey,run_underlying hd,Result.andThen,h0,MD F k w m _ 0 h]
 stays k w:=by simp[Instr.keyThatStays,Instr.sameBits]
theorem Wm (s t:bA):(s==t)=decide (s=t):=by
 rw[amU]
 rcases s with ⟨a⟩
 rcases t with ⟨b⟩
 show (a==b)=true↔_
 simp
theorem N7 (k:bA):∀(m:List (bA×Value)) (es:List MapEntry) (i:Nat),mz (fun s=>Value.string s) es m→Instr.findNow .string (.string k) es i=some (nT m k i)
 |[],es,i,h=>by
  have:es=[]:=by simpa [mz] using h
  subst this;rfl
 |x::xs,es,i,h=>by
  match es,h with
  |e::es,h=>
   simp only[mz,am_,anI,anm] at h
   obtain⟨⟨h1,h2⟩,h3⟩:=h
   have ih:=N7 k xs es (i+1) h3
   unfold Instr.findNow nT
   rw[h1,h2]
   by_cases hk:k=x.1
   ·simp[Instr.sameNow,Wm,hk]
   ·simp[Instr.sameNow,Wm,hk,ih]
  |[],h=>simp[mz] at h
theorem Vb {kt:TypeId} (hd:P.underlying kt=some .string):QT P kt (fun s=>Value.string s) where
 BT e a w:=by
  rw[show (10000:Nat)=9999+1 from rfl]
  generalize 9999=q
  simp[Instr.checkKey,run_underlying hd,Result.andThen]
 find k w m es h:=by simp[Instr.findKey,run_underlying hd,Result.andThen,N7 k m es 0 h]
 stays k w:=by simp[Instr.keyThatStays,Instr.sameBits,Wm]
theorem W_ {T kt et:TypeId} {κ ν:Type} [DecidableEq κ] {ek:κ→Value} {ev:ν→Value} {z:ν} {v:Value} {k b:Nat} {a:Bool} (h:P.underlying T=some (.map kt et)) (K:QT P kt ek) (F:ey P et k a b v) (hv:v=ev z):Hb P T ek ev z:=⟨kt,et,h,K,hv▸F.uk⟩
variable {κ ν:Type} [DecidableEq κ] {ek:κ→Value} {ev:ν→Value} {z:ν} {iv:ν→Prop}
variable {n:Nat} {ops:Array Oper} {f:aP} {w:aG} {K:aP→aG→Prop} {x y c:Operand} {d:Nat} {ty T:TypeId} {ps:String} {af:Array Edge} {M0:cb} {w0:aG} {l:List Item} {m:List (κ×ν)} {b:Nat}
theorem mmG (H:HI M0 w0 w l) (h:∀b w',Ext w w'→HI M0 w0 w' (Cy ek ev iv b []::l)→K (cx f d (.map (some b))) w'):SO P n ops ⟨some d,.makeMap T none,ty,ps,af,none⟩ f w K:=
 SO.value (v:=.map (some w.heap.size)) (w':=w.alloc (.map #[] 0)) (by simp[execOp,run_makeMap]) (h _ _ (Ext.alloc w _)
  (H.new (Ext.alloc w _) w.heap.size rfl (amD _) (by simp) ⟨#[],0,heap_alloc_new w _,rfl,fun _ h=>(by cases h)⟩))
theorem abi {k:κ} {Tn:Bool} (F:Hb P T ek ev z) (hz:iv z) (H:HI M0 w0 w l) (i:Nat) (hi:l[i]? =some (Cy ek ev iv b m)) (ox:bJ n x=true) (oy:bJ n y=true) (hx:Go.Ew.ev f x=.map (some b)) (hy:Go.Ew.ev f y=ek k)
  (h:iv ((fO m k).getD z)→K (cx f d (if Tn then .tuple #[ev ((fO m k).getD z),.bool (fO m k).isSome] else ev ((fO m k).getD z))) w):SO P n ops ⟨some d,.lookup T x y Tn,ty,ps,af,none⟩ f w K:=by
 obtain⟨kt,et,h1,h2,h3⟩:=F.h
 obtain⟨es,clock,g1,g2,g3⟩:=H.at_ i hi
 have hI:iv ((fO m k).getD z):=by
  cases hg:fO m k with
  |none=>exact hz
  |some v=>exact ZB g3 hg
 refine SO.value (v:=if Tn then .tuple #[ev ((fO m k).getD z),.bool (fO m k).isSome] else ev ((fO m k).getD z)) (w':=w) ?_<|h hI
 have hf:=I3 ev m k 0
 have hr:=h2.find k w (mo ev m) es.toList g2
 simp only[execOp,aM ox,aM oy,hx,hy,Instr.lookup,Sem.run_bind,run_underlying h1,get_map g1,h2.BT,hr,Result.andThen_ok,Sem.run_pure]
 cases hq:nT (mo ev m) k 0 with
 |none=>
  have hg:fO m k=none:=by rw[hq] at hf;simpa using hf.symm
  simp[hq,hg,h3 w]
 |some p=>
  obtain⟨j,v⟩:=p
  rw[hq] at hf
  cases hg:fO m k with
  |none=>rw[hg] at hf;cases hf
  |some u=>
   rw[hg] at hf
   simp only[anX,amO] at hf
   subst hf
   simp
theorem abe {dd:Option Nat} {k:κ} {v:ν} (F:Hb P T ek ev z) (H:HI M0 w0 w l) (i:Nat) (hi:l[i]? =some (Cy ek ev iv b m)) (ox:bJ n x=true) (oy:bJ n y=true) (oc:bJ n c=true) (hx:Go.Ew.ev f x=.map (some b)) (hy:Go.Ew.ev f y=ek k) (hc:Go.Ew.ev f c=ev v) (hv:iv v)
  (h:∀w',HI M0 w0 w' (l.set i (Cy ek ev iv b (lJ m k v)))→K (dh f dd undef) w'):SO P n ops ⟨dd,.mapUpdate T x y c,ty,ps,af,none⟩ f w K:=by
 obtain⟨kt,et,h1,h2,h3⟩:=F.h
 obtain⟨es,clock,g1,g2,g3⟩:=H.at_ i hi
 have hr:=h2.find k w (mo ev m) es.toList g2
 have eZ:b<w.heap.size:=(am7.1 g1).1
 have fin:∀(o:Obj),(∀M w',w'.heap[b]? =some o→(Cy ek ev iv b (lJ m k v)).holds M w')→
   HI M0 w0 {w with heap:=w.heap.setIfInBounds b o} (l.set i (Cy ek ev iv b (lJ m k v))):=by
  intro o ho
  refine H.vL i hi J J J (by simp) (amD _) (fun q hq gD=>?_) (fun q hq=>?_)<|ho _ _ (AL g1).1
  ·exact(AL g1).2 q fun e=>gD (by rw[e];rfl)
  ·cases hq
   exact⟨by simpa using eZ,.inl rfl⟩
 cases hq:nT (mo ev m) k 0 with
 |none=>
  refine SO.skip (w':={w with heap:=w.heap.setIfInBounds b (.map (es.push ⟨ek k,ev v,clock⟩) (clock+1))}) ?_ (h _<|fin _ ?_)
  ·simp[execOp,aM ox,aM oy,aM oc,hx,hy,hc,Instr.mapUpdate,run_underlying h1,get_map g1,h2.BT,hr,hq,Dx _ g1]
  ·intro M w' hw
   exact⟨_,_,hw,by rw[Array.toList_push];exact GR ek ev m es.toList k 0 g2 hq clock v,NQ g3 k hv⟩
 |some p=>
  obtain⟨j,u⟩:=p
  obtain⟨q,e,IN,nt,Ei,Eh⟩:=GQ ek ev m es.toList k 0 j u g2 hq
  obtain rfl:j=q:=by omega
  have he:es[j]? =some e:=by simpa using nt
  have hsb:(Instr.keyThatStays e.key (ek k)).run P w=.ok (ek k) w:=by rw[Ei];exact h2.stays k w
  refine SO.skip (w':={w with heap:=w.heap.setIfInBounds b (.map (es.modify j fun e=>{e with key:=ek k,val:=ev v}) clock)}) ?_ (h _<|fin _ ?_)
  ·simp[execOp,aM ox,aM oy,aM oc,hx,hy,hc,Instr.mapUpdate,run_underlying h1,get_map g1,h2.BT,hr,hq,he,hsb,Dx _ g1]
  ·intro M w' hw
   exact⟨_,_,hw,by rw[Array.toList_modify];exact Eh v,NQ g3 k hv⟩
end
section
variable {P:Program} {n:Nat} {ops:Array Oper} {f:aP} {w:aG} {K:aP→aG→Prop} {x y c:Operand} {d:Nat} {dd:Option Nat} {ty T:TypeId} {ps:String} {af:Array Edge} {M0:cb} {w0:aG} {l:List Item} {b:Nat}
abbrev QQ (P:Program) (T:TypeId):Prop:=Hb P T K2 Value.bool false
abbrev QP (P:Program) (T:TypeId):Prop:=Hb P T (fun s=>Value.string s) (fun v=>Value.int .i64 v) (0:Int)
theorem mmP (H:HI M0 w0 w l) (h:∀b w',Ext w w'→HI M0 w0 w' (bX b []::l)→K (cx f d (.map (some b))) w'):SO P n ops ⟨some d,.makeMap T none,ty,ps,af,none⟩ f w K:=mmG H h
theorem mmS (H:HI M0 w0 w l) (h:∀b w',Ext w w'→HI M0 w0 w' (tp b []::l)→K (cx f d (.map (some b))) w'):SO P n ops ⟨some d,.makeMap T none,ty,ps,af,none⟩ f w K:=mmG H h
theorem ahj {m:List ((Int×Int)×Bool)} {k:Int×Int} (F:QQ P T) (H:HI M0 w0 w l) (i:Nat) (hi:l[i]? =some (bX b m)) (ox:bJ n x=true) (oy:bJ n y=true) (hx:Go.Ew.ev f x=.map (some b)) (hy:Go.Ew.ev f y=K2 k)
  (h:K (cx f d (.bool ((fO m k).getD false))) w):SO P n ops ⟨some d,.lookup T x y false,ty,ps,af,none⟩ f w K:=abi (Tn:=false) F trivial H i hi ox oy hx hy fun _=>h
theorem ahi {m:List (bA×Int)} {k:bA} (F:QP P T) (H:HI M0 w0 w l) (i:Nat) (hi:l[i]? =some (tp b m)) (ox:bJ n x=true) (oy:bJ n y=true) (hx:Go.Ew.ev f x=.map (some b)) (hy:Go.Ew.ev f y=.string k)
  (h:aL ((fO m k).getD 0)→K (cx f d (.tuple #[.int .i64 ((fO m k).getD 0),.bool (fO m k).isSome])) w):SO P n ops ⟨some d,.lookup T x y true,ty,ps,af,none⟩ f w K:=abi (Tn:=true) F (by unfold aL;omega) H i hi ox oy hx hy h
theorem ahh {m:List ((Int×Int)×Bool)} {k:Int×Int} {v:Bool} (F:QQ P T) (H:HI M0 w0 w l) (i:Nat) (hi:l[i]? =some (bX b m)) (ox:bJ n x=true) (oy:bJ n y=true) (oc:bJ n c=true) (hx:Go.Ew.ev f x=.map (some b)) (hy:Go.Ew.ev f y=K2 k) (hc:Go.Ew.ev f c=.bool v)
  (h:∀w',HI M0 w0 w' (l.set i (bX b (lJ m k v)))→K (dh f dd undef) w'):SO P n ops ⟨dd,.mapUpdate T x y c,ty,ps,af,none⟩ f w K:=abe F H i hi ox oy oc hx hy hc trivial h
theorem ahg {m:List (bA×Int)} {k:bA} {v:Int} (F:QP P T) (H:HI M0 w0 w l) (i:Nat) (hi:l[i]? =some (tp b m)) (ox:bJ n x=true) (oy:bJ n y=true) (oc:bJ n c=true) (hx:Go.Ew.ev f x=.map (some b)) (hy:Go.Ew.ev f y=.string k) (hc:Go.Ew.ev f c=.int .i64 v) (hv:aL v)
  (h:∀w',HI M0 w0 w' (l.set i (tp b (lJ m k v)))→K (dh f dd undef) w'):SO P n ops ⟨dd,.mapUpdate T x y c,ty,ps,af,none⟩ f w K:=abe F H i hi ox oy oc hx hy hc hv h
end
end Go.Ew
namespace Go.Ew
section
variable {α σ:Type} (st:σ→α→Bool×σ)
def gr:σ→List α→List α×σ
 |s,[]=>([],s)
 |s,x::l=>if (st s x).1 then gr (st s x).2 l else (x::(gr (st s x).2 l).1,(gr (st s x).2 l).2)
theorem Nl (s:σ) (l r:List α):gr st s (l++r)=((gr st s l).1++(gr st (gr st s l).2 r).1,(gr st (gr st s l).2 r).2):=by
 induction l generalizing s with
 |nil=>simp[gr]
 |cons x l ih=>
  rw[aoU,gr,gr]
  split
  ·exact ih _
  ·rw[ih];rfl
theorem VU (s:σ) (x:α):gr st s [x]=if (st s x).1 then ([],(st s x).2) else ([x],(st s x).2):=by simp[gr]
theorem VV (s:σ) (l:List α):(gr st s l).1.length≤l.length:=by
 induction l generalizing s with
 |nil=>simp[gr]
 |cons x l ih=>
  rw[gr]
  split
  ·exact amP (ih _)<|apS _
  ·simp only[iB];exact Nat.succ_le_succ (ih _)
theorem VT (s:σ) (l:List α):∀x∈(gr st s l).1,x∈l∧∃s',(st s' x).1=false:=by
 induction l generalizing s with
 |nil=>intro x h;cases h
 |cons y l ih=>
  intro x h
  rw[gr] at h
  split at h
  ·obtain⟨h1,h2⟩:=ih _ x h;exact⟨am6 _ h1,h2⟩
  ·rename_i hy
   rcases amV.1 h with rfl|h
   ·exact⟨by simp,s,by simpa using hy⟩
   ·obtain⟨h1,h2⟩:=ih _ x h;exact⟨am6 _ h1,h2⟩
def MR (s:σ) (xs:List α) (ix:Int) (s':σ):Prop:=(ix= -1∧gr st s xs=(xs,s'))∨∃j:Nat,ix=((j:Nat):Int)∧j<xs.length∧gr st s (xs.take (j+1))=(xs.take j,s')
variable {st} {s s':σ} {xs ys:List α} {x:α} {j k:Nat} {q:Int}
theorem VG:gr st s (xs.take 0)=(xs.take 0,s):=by simp[gr]
theorem DL (hx:xs[k]? =some x):gr st s (xs.take (k+1))=if (st (gr st s (xs.take k)).2 x).1 then ((gr st s (xs.take k)).1,(st (gr st s (xs.take k)).2 x).2) else ((gr st s (xs.take k)).1++[x],(st (gr st s (xs.take k)).2 x).2):=by
 rw[am9,hx,Nl,show (some x).toList=[x] from rfl,VU]
 split<;>simp
theorem ZC (h:gr st s (xs.take j)=(xs.take j,s')) (hx:xs[((j:Nat):Int).toNat]? =some x) (hp:(st s' x).1=false):gr st s (xs.take (j+1))=(xs.take (j+1),(st s' x).2):=by
 rw[dM] at hx
 rw[DL hx,h]
 show (if (st s' x).1=true then _ else _)=_
 rw[amI (by rw[hp];decide),am9,hx];rfl
theorem acY (h:gr st s (xs.take j)=(xs.take j,s')) (hj:j<xs.length) (hx:xs[((j:Nat):Int).toNat]? =some x) (hp:(st s' x).1=true):MR st s xs ((j:Nat):Int) (st s' x).2:=by
 rw[dM] at hx
 refine .inr ⟨j,J,hj,?_⟩
 rw[DL hx,h]
 show (if (st s' x).1=true then _ else _)=_
 rw[amF hp]
theorem acZ (h:gr st s (xs.take j)=(xs.take j,s')) (hj:xs.length≤j):MR st s xs (-1) s':=by
 rw[amL hj] at h;exact .inl ⟨rfl,h⟩
def DS (st:σ→α→Bool×σ) (s:σ) (xs ys:List α) (q:Int) (k:Nat) (s':σ):Prop:=0≤q∧q<((k:Nat):Int)∧ys.length=xs.length∧gr st s (xs.take k)=(ys.take q.toNat,s')∧ys.drop k=xs.drop k
theorem OL (h:MR st s xs q s') (hq:q= -1):gr st s xs=(xs,s'):=by
 rcases h with ⟨_,h⟩|⟨j,h,_⟩
 ·exact h
 ·omega
theorem VQ (h:MR st s xs q s') (hq:¬q= -1):q.toNat<xs.length∧DS st s xs xs q (q.toNat+1) s':=by
 rcases h with ⟨h,_⟩|⟨j,rfl,h1,h2⟩
 ·omega
 ·refine⟨by omega,by omega,by omega,J,?_,J⟩
  rw[dM];exact h2
theorem X9 (h:DS st s xs ys q k s') (hx:ys[k]? =some x):xs[k]? =some x:=by
 have:=amz (fun l=>l[0]?) h.2.2.2.2
 simp only[ank,ani] at this
 rw[←this];exact hx
theorem ZN (h:DS st s xs ys q k s') (hx:ys[((k:Nat):Int).toNat]? =some x) (hp:(st s' x).1=true):DS st s xs ys q (k+1) (st s' x).2:=by
 rw[dM] at hx
 have qi:=X9 h hx
 obtain⟨h0,h1,h2,h3,h4⟩:=h
 refine⟨h0,by omega,h2,?_,?_⟩
 ·rw[DL qi,h3]
  show (if (st s' x).1=true then _ else _)=_
  rw[amF hp]
 ·rw[←anx,h4,anx]
theorem ZM (h:DS st s xs ys q k s') (hx:ys[((k:Nat):Int).toNat]? =some x) (hp:(st s' x).1=false):DS st s xs (ys.set q.toNat x) (q+1) (k+1) (st s' x).2:=by
 rw[dM] at hx
 have qi:=X9 h hx
 have hk:=(dU.1 hx).1
 obtain⟨h0,h1,h2,h3,h4⟩:=h
 refine⟨by omega,by omega,by rw[amA];exact h2,?_,?_⟩
 ·rw[DL qi,h3]
  show (if (st s' x).1=true then _ else _)=_
  rw[amI (by rw[hp];decide),show (q+1).toNat=q.toNat+1 from by omega,am9,List.take_set_of_le (amD _),amX aj]
  rfl
 ·rw[List.drop_set_of_lt aj,←anx,h4,anx]
theorem Ti (h:DS st s xs ys q k s') (hk:xs.length≤k) (Ai:k≤xs.length) (r:List α):(ys.take q.toNat++r).take q.toNat=(gr st s xs).1∧s'=(gr st s xs).2:=by
 obtain⟨h0,h1,h2,h3,h4⟩:=h
 rw[amL hk] at h3
 rw[h3]
 exact⟨by rw[an2 (by simp;omega),an8,Nat.min_self],J⟩
end
def fb (n:Int) (rs:Rows) (kp:aA) (met:List ((Int×Int)×Bool)) (e:ew):Bool×List ((Int×Int)×Bool):=
 bif (fO met (e.1,e.2.1)).getD false||(eL n rs e.1 e.2.1||!(kp.any fun z_=>decide (e.2.2=z_))) then (true,met) else (false,lJ met (e.1,e.2.1) true)
def gH (n:Int) (rs:Rows) (kp:aA) (es:List ew):List ew:=(gr (fb n rs kp) [] es).1
theorem CV {n:Int} {rs:Rows} {kp:aA} {es:List ew} {e:ew} (h:e∈gH n rs kp es):e∈es∧eL n rs e.1 e.2.1=false∧e.2.2∈kp:=by
 obtain⟨h1,s',h2⟩:=VT _ _ _ e h
 refine⟨h1,?_⟩
 unfold fb at h2
 cases ha:(fO s' (e.1,e.2.1)).getD false<;>cases hb:eL n rs e.1 e.2.1<;>cases hc:(kp.any fun z_=>decide (e.2.2=z_))<;>simp[ha,hb,hc] at h2
 obtain⟨z,hz,hz2⟩:=anc.1 hc
 exact⟨J,by rw[show e.2.2=z by simpa using hz2];exact hz⟩
theorem SS {n:Int} {rs:Rows} {kp:aA} {es:List ew} (h:gH n rs kp es=[]) {e:ew} (he:e∈es) (hk:e.2.2∈kp):eL n rs e.1 e.2.1=true:=by
 have key:∀es:List ew,(gr (fb n rs kp) [] es).1=[]→∀e∈es,e.2.2∈kp→eL n rs e.1 e.2.1=true:=by
  intro es
  induction es with
  |nil=>intro _ e h;cases h
  |cons x l ih=>
   intro h e he hk
   rw[gr] at h
   split at h
   ·rename_i hx
    have hs:(fb n rs kp [] x).2=[]:=by
     unfold fb at hx ⊢
     cases hb:eL n rs x.1 x.2.1<;>cases hc:(kp.any fun z_=>decide (x.2.2=z_))<;>simp[fO,hb,hc] at hx ⊢
    rw[hs] at h
    rcases amV.1 he with rfl|he
    ·unfold fb at hx
     have hc:(kp.any fun z_=>decide (e.2.2=z_))=true:=anc.2 ⟨_,hk,by simp⟩
     cases hb:eL n rs e.1 e.2.1<;>simp[fO,hb,hc] at hx
     rfl
    ·exact ih h e he hk
   ·cases h
 exact key es h e he hk
theorem SU (n:Int) (rs:Rows) (kp:aA) (es:List ew):(gH n rs kp es).length≤es.length:=VV _ _ _
end Go.Ew
namespace Go.Ew
variable {n o:Int} {rs:Rows} {l:List ew} {p:gU} {a b q:Nat} {U:List aO} {fo:aA}
def lT (n:Int) (rs:Rows) (l:List ew):Rows:=l.foldl (fun m e=>gY n m e.1 e.2.1) rs
def TrP (n:Nat) (p:gU):Prop:=∀i j k,i<n→j<n→k<n→p i j=true→p j k=true→p i k=true
def Td (es:List ew) (a b:Nat):Bool:=es.any fun e=>decide (e.1=((a:Nat):Int))&&decide (e.2.1=((b:Nat):Int))
def oC (n:Nat) (es:List ew):Prop:=∀e∈es,kA ((n:Nat):Int) [e.1,e.2.1]=true
theorem QI (n:Nat) (p:gU):TrP n (cl n p):=fun i j k _ hj _ h1 h2=>Bl hj h1 h2
theorem Bs {e:ew}:lT n rs (l++[e])=gY n (lT n rs l) e.1 e.2.1:=by unfold lT;rw[aov];rfl
theorem adk {n:Nat} {q:gU} (ha:a<n) (hb:b<n):cl n (fun x y=>cl n p x y||q x y) a b=cl n (fun x y=>p x y||q x y) a b:=by
 rw[amU,qW ha hb,qW ha hb]
 constructor
 ·intro h
  refine h.least (fun x y hx hy h=>?_) fun x y z _ _ _=>TC.trans
  rcases amM _ _▸h with h|h
  ·exact((qW hx hy).1 h).mono fun _ _ _ _ h=>by simp[h]
  ·exact .one hx hy (by simp[h])
 ·intro h
  refine h.mono fun x y hx hy h=>?_
  rcases amM _ _▸h with h|h
  ·simp[xY h]
  ·simp[h]
theorem MH {n:Nat} {p:gU} (h:TrP n p):∀{es:List ew},oC n es→lT ((n:Nat):Int) (cJ n p) es=cJ n (cl n fun a b=>p a b||Td es a b):=by
 have key:∀(k:Nat) (es:List ew),es.length=k→oC n es→lT ((n:Nat):Int) (cJ n p) es=cJ n (cl n fun a b=>p a b||Td es a b):=by
  intro k
  induction k with
  |zero=>
   intro es hl _
   rw[anC.1 hl]
   refine dJ fun a b ha hb=>?_
   rw[amU,qW ha hb]
   constructor
   ·intro h;exact .one ha hb (by simp[h])
   ·intro k
    refine k.least (R:=fun x y=>p x y=true) (fun x y _ _ h=>by simpa [Td] using h) fun x y z hx hy hz=>h x y z hx hy hz
  |succ k ih=>
   intro es hl BK
   obtain⟨l,e,rfl⟩:∃l e,es=l++[e]:=⟨es.dropLast,es.getLast (by intro h;rw[h] at hl;simp at hl),(List.dropLast_concat_getLast _).symm⟩
   have hi:=BK e<|by simp
   have hr:=jg.1 hi
   rw[Bs,ih l (by simpa using hl) (fun x hx=>BK x (by simp[hx])),QO hi (QI n _)]
   refine dJ fun a b ha hb=>?_
   rw[adk ha hb]
   refine FF (fun x y _ _=>?_) ha hb
   rw[Bool.or_assoc]
   congr 1
   unfold Td
   rw[List.any_append]
   congr 1
   simp only[List.any_cons,List.any_nil,an7]
   rw[amU]
   simp only[eW,amB]
   omega
 intro es BK
 exact key _ es J BK
theorem zE {n:Nat} {rs:Rows} {es:List ew} (h:bI ((n:Nat):Int) rs=true) (BK:oC n es):bI ((n:Nat):Int) (lT ((n:Nat):Int) rs es)=true:=by
 have key:∀(k:Nat) (es:List ew),es.length=k→oC n es→bI ((n:Nat):Int) (lT ((n:Nat):Int) rs es)=true:=by
  intro k
  induction k with
  |zero=>intro es hl _;rw[anC.1 hl];exact h
  |succ k ih=>
   intro es hl BK
   obtain⟨l,e,rfl⟩:∃l e,es=l++[e]:=⟨es.dropLast,es.getLast (by intro h;rw[h] at hl;simp at hl),(List.dropLast_concat_getLast _).symm⟩
   rw[Bs]
   have:=Nr (i:=e.1) (j:=e.2.1)<|ih l (by simpa using hl)<|fun x hx=>BK x<|by simp[hx]
   unfold ik at this
   rwa [amF (BK e (by simp))] at this
 exact key _ es J BK
def Mi (n:Nat) (p:gU):Nat:=(List.range (n*n)).countP fun k=>p (k/n) (k%n)
theorem ZY (n:Nat) (p:gU):Mi n p≤n*n:=by
 unfold Mi;exact amP List.countP_le_length (by simp)
theorem I7 {α:Type} {p q:α→Bool}:∀{l:List α},(∀x∈l,p x=true→q x=true)→(∃x∈l,p x=false∧q x=true)→l.countP p<l.countP q
 |[],_,h=>by obtain⟨x,hx,_⟩:=h;cases hx
 |a::l,h,⟨x,hx,h1,h2⟩=>by
  have hm:l.countP p≤l.countP q:=List.countP_mono_left fun y hy=>h y (by simp[hy])
  rw[List.countP_cons,List.countP_cons]
  rcases amV.1 hx with rfl|hx
  ·rw[h1,h2];simp;omega
  ·have ih:=I7 (l:=l) (fun y hy=>h y<|by simp[hy]) ⟨x,hx,h1,h2⟩
   have:=h a<|by simp
   cases hp:p a<;>cases hq:q a<;>simp_all<;>omega
theorem ZX {n:Nat} {q:gU} (h:∀a b,a<n→b<n→p a b=true→q a b=true) (ha:a<n) (hb:b<n) (h1:p a b=false) (h2:q a b=true):Mi n p<Mi n q:=by
 have hn:0<n:=by omega
 refine I7 (fun k hk hp=>h _ _ ?_ (Nat.mod_lt _ hn) hp) ⟨a*n+b,?_,?_,?_⟩
 ·exact(Nat.div_lt_iff_lt_mul hn).2 (amH.1 hk)
 ·rw[amH]
  calc a*n+b<a*n+n:=by omega
   _=(a+1)*n:=by rw[ant,Nat.one_mul]
   _≤n*n:=anE _ ha
 ·rw[show (a*n+b)/n=a by rw[ao4,Nat.mul_add_div hn,aoP hb,ani],show (a*n+b)%n=b by rw[ao4,Nat.mul_add_mod,aoO hb]];exact h1
 ·rw[show (a*n+b)/n=a by rw[ao4,Nat.mul_add_div hn,aoP hb,ani],show (a*n+b)%n=b by rw[ao4,Nat.mul_add_mod,aoO hb]];exact h2
structure MT (U:List aO) (fo:aA) (p:Nat→cb) (a b r:Nat):Prop where
 a1:a<U.length
 r1:r<U.length
 fr:fo[r]? =some ((b:Nat):Int)
 ne:a≠b
 wr:iM U (rG U ((b:Nat):Int)) ((a:Nat):Int)=false
 ah:p a r
theorem Bi (eD:fo.length=U.length) {e:ew} (h:Wz U fo ((U.length:Nat):Int) (cJ U.length p) e):∃a b r:Nat,e=(((a:Nat):Int),((b:Nat):Int),((r:Nat):Int))∧MT U fo (fun x y=>p x y=true) a b r:=by
 obtain⟨a,b,r⟩:=e
 obtain⟨r0,r1,fr,w0,ne,ah⟩:=h
 simp only at r0 r1 fr w0 ne ah
 unfold aY at ah
 rw[amW] at ah
 obtain⟨ah,wr⟩:=ah
 unfold eY at ah
 rw[amF aj,wW,dM] at ah
 obtain⟨k,hk,hp,rfl⟩:=ah
 refine⟨k,b.toNat,r.toNat,by rw[show ((b.toNat:Nat):Int)=b by omega,show ((r.toNat:Nat):Int)=r by omega],hk,by omega,by rw[fr];congr 1;omega,fun e=>ne aj,?_,?_⟩
 ·rw[show ((b.toNat:Nat):Int)=b by omega];simpa using wr
 ·rw[jD hk aj] at hp;exact hp
theorem OJ (eD:fo.length=U.length) {r:Nat} (h:MT U fo (fun x y=>p x y=true) a b r):Wz U fo ((U.length:Nat):Int) (cJ U.length p) (((a:Nat):Int),((b:Nat):Int),((r:Nat):Int)):=by
 obtain⟨a1,r1,fr,ne,wr,ah⟩:=h
 refine⟨by simp only;omega,by simp only;omega,by simpa using fr,by simp only;omega,by simp only;omega,?_⟩
 simp only
 unfold aY
 rw[amW]
 refine⟨?_,by rw[wr];rfl⟩
 unfold eY
 rw[amF aj,wW,dM]
 exact⟨a,a1,by rw[dM,jD a1 r1];exact ah,J⟩
theorem DW {es:List ew} (eD:fo.length=U.length) (fK:∀x∈fo,x<((U.length:Nat):Int)) (h:Dq U fo ((U.length:Nat):Int) (cJ U.length p) es):oC U.length es:=by
 intro e he
 obtain⟨a,b,r,rfl,k⟩:=Bi eD ((h.2 e).1 he)
 have:=fK _<|dN k.fr
 have:=k.a1
 exact jg.2<|by simp only;omega
structure O5 (U:List aO) (fo:aA) (o:Int) (R:Nat→cb):Prop where
 base:∀a b,a<U.length→b<U.length→pP U fo a b=true→((a:Nat):Int)∈bP ((U.length:Nat):Int) (cC U fo) o→((b:Nat):Int)∈bP ((U.length:Nat):Int) (cC U fo) o→R a b
 trans:∀a b c,a<U.length→b<U.length→c<U.length→R a b→R b c→R a c
 Pq:∀a b r,((r:Nat):Int)∈lP U o→MT U fo R a b r→R a b
noncomputable def By (U:List aO) (fo:aA) (o:Int) (a b:Nat):Bool:=@decide (∀R,O5 U fo o R→R a b) (Classical.propDecidable _)
noncomputable def db (U:List aO) (fo:aA) (o:Int):Rows:=cJ U.length (By U fo o)
theorem pT:By U fo o a b=true↔∀R,O5 U fo o R→R a b:=by unfold By;exact @decide_eq_true_iff _ (Classical.propDecidable _)
theorem aaB (U:List aO) (fo:aA) (o:Int):O5 U fo o (fun a b=>By U fo o a b=true) where
 base a b ha hb hc h1 h2:=pT.2 fun R hR=>hR.base a b ha hb hc h1 h2
 trans a b c ha hb hc h1 h2:=pT.2 fun R hR=>hR.trans a b c ha hb hc (pT.1 h1 R hR) (pT.1 h2 R hR)
 Pq a b r hr h:=pT.2 fun R hR=>hR.Pq a b r hr ⟨h.a1,h.r1,h.fr,h.ne,h.wr,pT.1 h.ah R hR⟩
structure SnQ (U:List aO) (fo:aA) (o:Int) (p:gU):Prop where
 tr:TrP U.length p
 base:∀a b,a<U.length→b<U.length→pP U fo a b=true→((a:Nat):Int)∈bP ((U.length:Nat):Int) (cC U fo) o→((b:Nat):Int)∈bP ((U.length:Nat):Int) (cC U fo) o→p a b=true
 le:∀R,O5 U fo o R→∀a b,a<U.length→b<U.length→p a b=true→R a b
def Jh (U:List aO) (fo:aA) (o:Int) (n:Int) (rs:Rows):Prop:=n=((U.length:Nat):Int)∧∃p,rs=cJ U.length p∧SnQ U fo o p
def HR (U:List aO) (rs:Rows):Nat:=Mi U.length (gi rs)
section
variable {U:List aO} {fo:aA} {o n:Int} {rs:Rows} {es:List ew}
theorem Ud (U:List aO) (fo:aA) (o:Int):Jh U fo o ((U.length:Nat):Int) (gz ((U.length:Nat):Int) (cC U fo) (bP ((U.length:Nat):Int) (cC U fo) o)):=by
 have hm:∀a b,a<U.length→b<U.length→(Nu (gi (cC U fo)) (bP ((U.length:Nat):Int) (cC U fo) o) a b=true↔pP U fo a b=true∧((a:Nat):Int)∈bP ((U.length:Nat):Int) (cC U fo) o∧((b:Nat):Int)∈bP ((U.length:Nat):Int) (cC U fo) o):=by
  intro a b ha hb
  unfold Nu
  rw[show gi (cC U fo) a b=pP U fo a b from jD ha hb]
  simp only[eW,amB]
 refine⟨J,_,by unfold gz;rw[dM],?_,?_,?_⟩
 ·intro i j k hi hj hk h1 h2
  obtain⟨a1,a2,a3⟩:=(hm i j hi hj).1 h1
  obtain⟨b1,b2,b3⟩:=(hm j k hj hk).1 h2
  exact(hm i k hi hk).2 ⟨Bl hj a1 b1,a2,b3⟩
 ·intro a b ha hb h1 h2 h3
  exact(hm a b ha hb).2 ⟨h1,h2,h3⟩
 ·intro R hR a b ha hb h
  obtain⟨h1,h2,h3⟩:=(hm a b ha hb).1 h
  exact hR.base a b ha hb h1 h2 h3
theorem Kv (h:Jh U fo o n rs) (hn:U.length≤4096):bI n rs=true:=by
 obtain⟨rfl,p,rfl,_⟩:=h;exact lC hn
theorem WT (h:Jh U fo o n rs) (eD:fo.length=U.length) (fK:∀x∈fo,x<((U.length:Nat):Int)) (he:Dq U fo n rs es) {kp:aA}:oC U.length (gH n rs kp es):=by
 obtain⟨rfl,p,rfl,_⟩:=h
 exact fun e hm=>DW eD fK he e (CV hm).1
theorem YK (h:Jh U fo o n rs) (eD:fo.length=U.length) (fK:∀x∈fo,x<((U.length:Nat):Int)) (he:Dq U fo n rs es):
  Jh U fo o n (lT n rs (gH n rs (lP U o) es))∧(gH n rs (lP U o) es≠[]→HR U rs<HR U (lT n rs (gH n rs (lP U o) es))):=by
 have sJ:=WT h eD fK he (kp:=lP U o)
 obtain⟨rfl,p,rfl,q⟩:=h
 rw[MH q.tr sJ]
 refine⟨⟨J,_,J,QI _ _,?_,?_⟩,?_⟩
 ·intro a b ha hb h1 h2 h3
  exact xY<|by simp[q.base a b ha hb h1 h2 h3]
 ·intro R hR a b ha hb h
  refine((qW ha hb).1 h).least (fun x y hx hy hp=>?_) fun x y z hx hy hz=>hR.trans x y z hx hy hz
  rcases amM _ _▸hp with hp|hp
  ·exact q.le R hR x y hx hy hp
  ·obtain⟨e,Sx,yL⟩:=anc.1 hp
   obtain⟨m1,m2,m3⟩:=CV Sx
   obtain⟨a',b',r',rfl,k⟩:=Bi eD ((he.2 e).1 m1)
   simp only[eW,amB] at yL
   obtain⟨e1,e2⟩:=yL
   obtain rfl:a'=x:=by omega
   obtain rfl:b'=y:=by omega
   exact hR.Pq a' b' r' m3 ⟨k.a1,k.r1,k.fr,k.ne,k.wr,q.le R hR a' r' k.a1 k.r1 k.ah⟩
 ·intro gD
  obtain⟨e,Sx⟩:=List.exists_mem_of_ne_nil _ gD
  obtain⟨m1,m2,m3⟩:=CV Sx
  have hi:=sJ e Sx
  obtain⟨a',b',r',rfl,k⟩:=Bi eD ((he.2 e).1 m1)
  have hr:=jg.1 hi
  simp only at hr m2
  have hb:b'<U.length:=by omega
  rw[uH k.a1 hb] at m2
  unfold HR
  refine ZX (a:=a') (b:=b') (fun a b ha hb h=>?_) k.a1 hb ?_ ?_
  ·rw[jD ha hb] at h ⊢
   exact xY<|by simp[h]
  ·rw[jD k.a1 hb];exact m2
  ·rw[jD k.a1 hb]
   refine xY ?_
   rw[amM]
   exact .inr (anc.2 ⟨_,Sx,by simp⟩)
theorem aaA (h:Jh U fo o n rs) (eD:fo.length=U.length) (fK:∀x∈fo,x<((U.length:Nat):Int)) (he:Dq U fo n rs es) (hz:gH n rs (lP U o) es=[]):rs=db U fo o:=by
 obtain⟨rfl,p,rfl,q⟩:=h
 have hR:O5 U fo o (fun a b=>p a b=true):=by
  refine⟨q.base,q.tr,fun a b r hr k=>?_⟩
  have hb:=fK _<|dN k.fr
  have hh:=SS hz ((he.2 _).2 (OJ eD k)) hr
  simp only at hh
  rw[uH k.a1 aj] at hh
  exact hh
 refine dJ fun a b ha hb=>?_
 rw[amU,pT]
 exact⟨fun h R hR=>q.le R hR a b ha hb h,fun h=>h _ hR⟩
theorem Kx (rs:Rows) (U:List aO):HR U rs≤U.length*U.length:=ZY _ _
end
theorem A8 (h:hG U) (hn:U.length≤64) (ho:0≤o∧o<((U.length:Nat):Int)):(aY (gf U) (cF U o)).length≤64:=by
 unfold aY
 refine amP (anB _ _) ?_
 unfold cF
 rw[amF ho,ane,aoL]
 have h1:=RF h ho.1 ho.2
 unfold cF at h1
 rw[amF ho,ane,aoL] at h1
 have h2:=(hG.back h o.toNat aj).1
 omega
theorem Bt {n2:Int} {m2:Rows} {x:ew} (h:n2=n∧m2=lT n rs (l.take q)) (hx:l[((q:Nat):Int).toNat]? =some x) (hi:kA n [x.1,x.2.1]=true):
  ik n2 x.1 x.2.1=n∧gY n2 m2 x.1 x.2.1=lT n rs (l.take (q+1)):=by
 obtain⟨rfl,rfl⟩:=h
 rw[dM] at hx
 refine⟨by unfold ik;rw[amF hi],?_⟩
 rw[am9,hx,show (some x).toList=[x] from rfl,Bs]
theorem aaz {n2:Int} {m2:Rows} (h:Jh U fo o n rs) (hn:U.length≤4096) (he:oC U.length l) (h2:n2=n∧m2=lT n rs (l.take q)):bI n2 m2=true:=by
 obtain⟨rfl,rfl⟩:=h2
 have hr:=Kv h hn
 rw[h.1] at hr ⊢
 exact zE hr fun e Sy=>he e (anU Sy)
theorem Kw {x:ew} (h:n=((U.length:Nat):Int)) (he:oC U.length l) (hx:l[((q:Nat):Int).toNat]? =some x):kA n [x.1,x.2.1]=true:=by
 rw[h];exact he x (dN hx)
end Go.Ew
namespace Go.Ew
variable {r N:Int} {j:Nat} {R:Rows}
abbrev yc:=Int×Int×Int×Int×Int
structure TY (k r a b o:Int):Prop where
 k:aL k
 r:aL r
 a:aL a
 b:aL b
 o:aL o
def ql (x:Option yc) (k r a b o:Int):Prop:=TY k r a b o∧∀y,x=some y→y=(k,r,a,b,o)
theorem ui {x:Option yc} {k a b o:Int} (h:x=none) (i:TY k r a b o):ql x k r a b o:=⟨i,fun y hy=>by rw[h] at hy;cases hy⟩
theorem zI {x:Option yc} {k a b o:Int} (h:x=some (k,r,a,b,o)) (i:TY k r a b o):ql x k r a b o:=⟨i,fun y hy=>by rw[h] at hy;exact(amE hy).symm⟩
section
variable (U:List aO) (fo:aA)
def pt (kd:Int):Option yc:=if 0≤eO (fun z_=>decide ((-2)=z_)) fo then some (kd,eO (fun z_=>decide ((-2)=z_)) fo, -1, -1, -1) else none
def kb (n:Int) (rs:Rows) (kd:Int):Option yc:=(cW n rs).map fun i=>(kd, -1, -1, -1,((i:Nat):Int))
def qd (n:Int) (rs:Rows) (kd:Int):Option yc:=(Ap U fo n rs).map fun r=>(kd,((r:Nat):Int),(dv U n rs ((r:Nat):Int)).headD 0, -1, -1)
def qe (n:Int) (rs:Rows) (kd:Int):Option yc:=(FI U fo n rs).map fun r=>(kd,((r:Nat):Int),fo.getD r 0,(zC U fo n rs r).getD 0, -1)
noncomputable def I_ (a b:Nat):Bool:=pP U fo a b||@decide (∃r,MT U fo (fun x y=>pP U fo x y=true) a b r) (Classical.propDecidable _)
noncomputable def Ar:Rows:=cJ U.length (cl U.length (I_ U fo))
def B_ (n:Int) (rs:Rows) (r:Int):Bool:=decide (fo.getD r.toNat 0= -1)&&decide (0<(((dv U n rs r).length:Nat):Int))
def D5 (n:Int) (rs:Rows) (o:Int):Option Int:=(lP U o).find? (B_ U fo n rs)
noncomputable def Iq (o:Nat):Bool:=(D5 U fo ((U.length:Nat):Int) (db U fo ((o:Nat):Int)) ((o:Nat):Int)).isSome
noncomputable def Ir:Option Nat:=(List.range U.length).find? (Iq U fo)
noncomputable def sA (kd:Int):Option yc:=(Ir U fo).map fun o=>(kd,(D5 U fo ((U.length:Nat):Int) (db U fo ((o:Nat):Int)) ((o:Nat):Int)).getD 0,(dv U ((U.length:Nat):Int) (db U fo ((o:Nat):Int)) ((D5 U fo ((U.length:Nat):Int) (db U fo ((o:Nat):Int)) ((o:Nat):Int)).getD 0)).headD 0, -1,((o:Nat):Int))
noncomputable def WS (o:Nat):Bool:=(cW ((U.length:Nat):Int) (db U fo ((o:Nat):Int))).isSome
noncomputable def Ik:Option Nat:=(List.range U.length).find? (WS U fo)
noncomputable def sy (kd:Int):Option yc:=(Ik U fo).map fun o=>(kd, -1,(((cW ((U.length:Nat):Int) (db U fo ((o:Nat):Int))).getD 0:Nat):Int), -1,((o:Nat):Int))
noncomputable def kc (kd:Int):Option yc:=
 if kd=1 then pt fo kd else if kd=2 then kb ((U.length:Nat):Int) (cC U fo) kd else if kd=3 then qd U fo ((U.length:Nat):Int) (cC U fo) kd else if kd=4 then qe U fo ((U.length:Nat):Int) (cC U fo) kd
 else if kd=5 then kb ((U.length:Nat):Int) (Ar U fo) kd else if kd=6 then sA U fo kd else sy U fo kd
noncomputable def je (lv:Int):Option yc:=(dS lv).findSome? (kc U fo)
noncomputable def eX:List (Int×Rows):=(List.range U.length).map fun o=>(((U.length:Nat):Int),db U fo ((o:Nat):Int))
end
section
variable {U:List aO} {fo:aA}
theorem AN:(eX U fo).length=U.length:=by unfold eX;simp
theorem NL {x:Int×Rows} (h:(eX U fo)[((j:Nat):Int).toNat]? =some x):j<U.length∧x=(((U.length:Nat):Int),db U fo ((j:Nat):Int)):=by
 rw[dM] at h
 have hl:=(dU.1 h).1
 rw[AN] at hl
 unfold eX at h
 rw[amS,anL hl] at h
 exact⟨hl,(amE h).symm⟩
theorem Rh (hj:j<U.length):(eX U fo).take j++[(((U.length:Nat):Int),db U fo ((j:Nat):Int))]=(eX U fo).take (j+1):=by
 have h:(eX U fo)[j]? =some (((U.length:Nat):Int),db U fo ((j:Nat):Int)):=by unfold eX;rw[amS,anL hj];rfl
 rw[am9,h];rfl
theorem afn {es:List ew} (eD:fo.length=U.length) (fK:∀x∈fo,x<((U.length:Nat):Int)) (h:Dq U fo ((U.length:Nat):Int) (cC U fo) es):lT ((U.length:Nat):Int) (cC U fo) es=Ar U fo:=by
 unfold cC at h ⊢
 rw[MH (p:=pP U fo) (QI U.length (Me U fo)) (DW eD fK h)]
 unfold Ar
 refine dJ fun a b ha hb=>FF (fun x y hx hy=>?_) ha hb
 rw[amU]
 unfold I_ Td
 rw[amM,amM,anc,@decide_eq_true_iff _ (Classical.propDecidable _)]
 refine or_congr Iff.rfl ⟨?_,?_⟩
 ·rintro⟨e,he,h2⟩
  simp only[eW,amB] at h2
  obtain⟨a',b',r',rfl,k⟩:=Bi eD ((h.2 e).1 he)
  obtain rfl:a'=x:=by simp only at h2;omega
  obtain rfl:b'=y:=by simp only at h2;omega
  exact⟨r',k⟩
 ·rintro⟨r,k⟩
  exact⟨_,(h.2 _).2 (OJ eD k),by simp⟩
theorem ZE {α β:Type} {l:List α} {f:α→Option β} {x:α} (hs:∀y∈l.take j,f y=none) (hx:l[((j:Nat):Int).toNat]? =some x) (h:f x=none):∀y∈l.take (j+1),f y=none:=by
 rw[dM] at hx
 intro y hy
 rw[am9,hx] at hy
 rcases am1.1 hy with hy|hy
 ·exact hs y hy
 ·simp at hy;rw[hy];exact h
theorem ZD {α β:Type} {l:List α} {f:α→Option β} {x:α} {y:β} (hs:∀y∈l.take j,f y=none) (hx:l[((j:Nat):Int).toNat]? =some x) (h:f x=some y):l.findSome? f=some y:=by
 rw[dM] at hx
 have e:l=l.take j++x::l.drop (j+1):=by
  rw[←(dU.1 hx).2,apd,anZ]
 rw[e,List.findSome?_append,aoV.2 hs,List.findSome?_cons,h];rfl
theorem ac0 {α β:Type} {l:List α} {f:α→Option β} (hs:∀y∈l.take j,f y=none) (hj:l.length≤j):l.findSome? f=none:=by
 rw[amL hj] at hs
 exact aoV.2 hs
theorem Lq {lv x:Int} (h:x∈dS lv):x=1∨x=2∨x=3∨x=4∨x=5∨x=6∨x=7:=by
 unfold dS at h
 cases h1:decide (lv=1)<;>cases h2:decide (lv=2)<;>cases h3:decide (lv=3)<;>simp[h1,h2,h3] at h<;>omega
end
theorem rE:aL (-1):=by unfold aL;omega
theorem Fh:aL 0:=by unfold aL;omega
theorem Hz (h:j≤9223372036854775807):aL ((j:Nat):Int):=by unfold aL;omega
theorem Nv:TY 0 0 0 0 0:=⟨Fh,Fh,Fh,Fh,Fh⟩
section
variable {U:List aO} {fo:aA} {n kd:Int} {rs:Rows} {j:Nat} {x a:Int}
theorem wiN (h:aL kd):TY kd (-1) (-1) (-1) (-1):=⟨h,rE,rE,rE,rE⟩
theorem Nz:decide (0≤eO (fun z_=>decide ((-2)=z_)) fo)=(pt fo kd).isSome:=by
 unfold pt;split<;>simp_all
theorem aat (hk:aL kd) (hl:fo.length≤9223372036854775807):ql (pt fo kd) kd (eO (fun z_=>decide ((-2)=z_)) fo) (-1) (-1) (-1):=by
 have h:=wJ (p:=fun z_=>decide ((-2)=z_)) (r:=fo)
 refine⟨⟨hk,by unfold aL;omega,rE,rE,rE⟩,fun y hy=>?_⟩
 unfold pt at hy
 split at hy
 ·exact(amE hy).symm
 ·cases hy
theorem Cd:(cW n rs).isSome=(kb n rs kd).isSome:=by unfold kb;simp
theorem Lj {i:Nat} (h:cW n rs=some i):i<n.toNat:=by
 unfold cW at h;exact amH.1 (ao0 h)
theorem Pt (hk:aL kd) (hn:n≤9223372036854775807) (h:(cW n rs).isSome=true):ql (kb n rs kd) kd (-1) (-1) (-1) (((cW n rs).getD 0:Nat):Int):=by
 obtain⟨i,hi⟩:=am0.1 h
 have hl:=Lj hi
 unfold kb
 rw[hi]
 exact zI J ⟨hk,rE,rE,rE,Hz (by simp only[aph];omega)⟩
theorem Pu (hk:aL kd) (h:(cW n rs).isSome=false):ql (kb n rs kd) kd (-1) (-1) (-1) (-1):=
 ui (by unfold kb;cases e:cW n rs<;>simp_all) (wiN hk)
theorem adb (h:Ap U fo n rs=some j):true=(qd U fo n rs kd).isSome:=by unfold qd;rw[h];rfl
theorem Tc (h:Ap U fo n rs=none):qd U fo n rs kd=none:=by unfold qd;rw[h];rfl
theorem afm (hk:aL kd) (h:Ap U fo n rs=some j) (hj:j≤9223372036854775807) (hx:(dv U n rs ((j:Nat):Int))[(0:Int).toNat]? =some x) (ix:aL x):ql (qd U fo n rs kd) kd ((j:Nat):Int) x (-1) (-1):=by
 refine zI ?_ ⟨hk,Hz hj,ix,rE,rE⟩
 unfold qd;rw[h];show some (kd,_,(dv U n rs ((j:Nat):Int)).headD 0,_,_)=_
 rw[LU hx]
theorem adn (h:FI U fo n rs=some j):true=(qe U fo n rs kd).isSome:=by unfold qe;rw[h];rfl
theorem Tz (h:FI U fo n rs=none):qe U fo n rs kd=none:=by unfold qe;rw[h];rfl
theorem afo (hk:aL kd) (h:FI U fo n rs=some j) (hb:zC U fo n rs j=some x) (ha:fo.getD j 0=a) (hj:j≤9223372036854775807) (ia:aL a) (ix:aL x):ql (qe U fo n rs kd) kd ((j:Nat):Int) a x (-1):=by
 refine zI ?_ ⟨hk,Hz hj,ia,ix,rE⟩
 unfold qe;rw[h];show some (kd,_,fo.getD j 0,(zC U fo n rs j).getD 0,_)=_
 rw[hb,ha];rfl
end
theorem MG {U:List aO} {n:Int} {rs:Rows} {k:Nat} {x:Int} (h:bI n rs=true) (hx:(dv U n rs r)[k]? =some x):aL x:=by
 have hm:=dN hx
 unfold dv aY at hm
 have hm:=(amW.1 hm).1
 unfold eY at hm
 split at hm
 ·obtain⟨k,hk,_,rfl⟩:=wW.1 hm
  have:=(bR h).2.2.1
  unfold aL;omega
 ·cases hm
section
variable {U:List aO} {fo:aA} {cn n2 kd:Int} {cr m2:Rows} {es:List ew} {q:Nat}
theorem Ya (eD:fo.length=U.length) (fK:∀x∈fo,x<((U.length:Nat):Int)) (ou:cn=((U.length:Nat):Int)) (pK:cr=cC U fo) (h:Dq U fo cn cr es):oC U.length es:=by
 subst ou pK;exact DW eD fK h
theorem Tq (hn:U.length≤4096) (ou:cn=((U.length:Nat):Int)) (pK:cr=cC U fo) (he:oC U.length es) (h2:n2=cn∧m2=lT cn cr (es.take q)):bI n2 m2=true:=by
 obtain⟨rfl,rfl⟩:=h2
 subst ou pK
 exact zE (pB fo hn) fun e Sy=>he e (anU Sy)
theorem adm (eD:fo.length=U.length) (fK:∀x∈fo,x<((U.length:Nat):Int)) (ou:cn=((U.length:Nat):Int)) (pK:cr=cC U fo) (h:Dq U fo cn cr es) (h2:n2=cn∧m2=lT cn cr (es.take q)) (hq:es.length≤q):n2=((U.length:Nat):Int)∧m2=Ar U fo:=by
 obtain⟨rfl,rfl⟩:=h2
 subst ou pK
 rw[amL hq]
 exact⟨J,afn eD fK h⟩
theorem NM (h:n2=N∧m2=R):(cW n2 m2).isSome=(kb N R kd).isSome:=by obtain⟨rfl,rfl⟩:=h;exact Cd
theorem aaQ (h:n2=N∧m2=R) (hk:aL kd) (hn:N≤9223372036854775807) (h1:(cW n2 m2).isSome=true):ql (kb N R kd) kd (-1) (-1) (-1) (((cW n2 m2).getD 0:Nat):Int):=by obtain⟨rfl,rfl⟩:=h;exact Pt hk hn h1
theorem aaR (h:n2=N∧m2=R) (hk:aL kd) (h1:(cW n2 m2).isSome=false):ql (kb N R kd) kd (-1) (-1) (-1) (-1):=by obtain⟨rfl,rfl⟩:=h;exact Pu hk h1
end
end Go.Ew
namespace Go.Ew
section
variable {α:Type} {l:List α} {p:α→Bool} {j:Nat} {x:α}
theorem X4 (hs:∀y∈l.take j,p y=false) (hx:l[((j:Nat):Int).toNat]? =some x) (h:p x=false):∀y∈l.take (j+1),p y=false:=by
 rw[dM] at hx
 intro y hy
 rw[am9,hx] at hy
 rcases am1.1 hy with hy|hy
 ·exact hs y hy
 ·simp at hy;rw[hy];exact h
theorem ac2 (hs:∀y∈l.take j,p y=false) (hx:l[((j:Nat):Int).toNat]? =some x) (h:p x=true):l.find? p=some x:=by
 rw[dM] at hx
 have e:l=l.take j++x::l.drop (j+1):=by
  rw[←(dU.1 hx).2,apd,anZ]
 rw[e,List.find?_append,an5.2 (fun y hy=>by rw[hs y hy];exact ao8),List.find?_cons,h];rfl
theorem Zn {l:aA} {p:Int→Bool} {j:Nat} {x:Int} (h:(aY p l)[((j:Nat):Int).toNat]? =some x):∃q:Nat,l[q]? =some x:=by
 have h1:=dN h
 unfold aY at h1
 exact apr (amW.1 h1).1
theorem ac3 (hs:∀y∈l.take j,p y=false) (hj:l.length≤j):l.find? p=none:=by
 rw[amL hj] at hs
 exact an5.2 fun y hy=>by rw[hs y hy];exact ao8
end
section
variable {U:List aO} {fo:aA} {kd:Int} {j:Nat} {r y x:Int} {X:Int×Rows}
theorem FZ (hn:U.length≤64) (hj:j<U.length):bI ((U.length:Nat):Int) (db U fo ((j:Nat):Int))=true:=by
 unfold db;exact lC aj
theorem YL (h:(lP U ((j:Nat):Int)).find? (B_ U fo ((U.length:Nat):Int) (db U fo ((j:Nat):Int)))=none):Iq U fo j=false:=by
 unfold Iq D5;rw[h];rfl
theorem aaF (h:(lP U ((j:Nat):Int)).find? (B_ U fo ((U.length:Nat):Int) (db U fo ((j:Nat):Int)))=some r):Iq U fo j=true:=by
 unfold Iq D5;rw[h];rfl
theorem aen (h:Ir U fo=some j):true=(sA U fo kd).isSome:=by unfold sA;rw[h];rfl
theorem WU (h:Ir U fo=none):sA U fo kd=none:=by unfold sA;rw[h];rfl
theorem ahb (hk:aL kd) (h:Ir U fo=some j) (h2:(lP U ((j:Nat):Int)).find? (B_ U fo ((U.length:Nat):Int) (db U fo ((j:Nat):Int)))=some r) (hj:j≤9223372036854775807) (hr:aL r)
  (hx:(dv U ((U.length:Nat):Int) (db U fo ((j:Nat):Int)) r)[(0:Int).toNat]? =some x) (ix:aL x):ql (sA U fo kd) kd r x (-1) ((j:Nat):Int):=by
 refine zI ?_ ⟨hk,hr,ix,rE,Hz hj⟩
 unfold sA;rw[h]
 have e:D5 U fo ((U.length:Nat):Int) (db U fo ((j:Nat):Int)) ((j:Nat):Int)=some r:=h2
 show some (kd,(D5 U fo ((U.length:Nat):Int) (db U fo ((j:Nat):Int)) ((j:Nat):Int)).getD 0,(dv U ((U.length:Nat):Int) (db U fo ((j:Nat):Int)) ((D5 U fo ((U.length:Nat):Int) (db U fo ((j:Nat):Int)) ((j:Nat):Int)).getD 0)).headD 0,_,_)=_
 rw[e]
 show some (kd,r,(dv U ((U.length:Nat):Int) (db U fo ((j:Nat):Int)) r).headD 0,_,_)=_
 rw[LU hx]
theorem aed (h:Ik U fo=some j):true=(sy U fo kd).isSome:=by unfold sy;rw[h];rfl
theorem WR (h:Ik U fo=none):sy U fo kd=none:=by unfold sy;rw[h];rfl
theorem ag7 (hk:aL kd) (h:Ik U fo=some j) (hj:j<U.length) (hn:U.length≤64) (h2:(cW ((U.length:Nat):Int) (db U fo ((j:Nat):Int))).isSome=true):
  ql (sy U fo kd) kd (-1) (((cW ((U.length:Nat):Int) (db U fo ((j:Nat):Int))).getD 0:Nat):Int) (-1) ((j:Nat):Int):=by
 obtain⟨i,hi⟩:=am0.1 h2
 have hl:=Lj hi
 refine zI ?_ ⟨hk,rE,Hz (by rw[hi,aph];omega),rE,Hz aj⟩
 unfold sy;rw[h];rfl
end
section
variable {U:List aO} {fo:aA} {lv x:Int} {j:Nat} {P:Option yc} {k r a b o:Int}
theorem UG:kc U fo 1=pt fo 1:=by unfold kc;exact amF rfl
theorem UF:kc U fo 2=kb ((U.length:Nat):Int) (cC U fo) 2:=by unfold kc;rw[amI au];exact amF rfl
theorem UE:kc U fo 3=qd U fo ((U.length:Nat):Int) (cC U fo) 3:=by unfold kc;rw[amI au,amI au];exact amF rfl
theorem UD:kc U fo 4=qe U fo ((U.length:Nat):Int) (cC U fo) 4:=by unfold kc;rw[amI au,amI au,amI au];exact amF rfl
theorem UC:kc U fo 5=kb ((U.length:Nat):Int) (Ar U fo) 5:=by unfold kc;rw[amI au,amI au,amI au,amI au];exact amF rfl
theorem UB:kc U fo 6=sA U fo 6:=by unfold kc;rw[amI au,amI au,amI au,amI au,amI au];exact amF rfl
theorem UA:kc U fo 7=sy U fo 7:=by unfold kc;rw[amI au,amI au,amI au,amI au,amI au];exact amI au
theorem AT (hs:∀y∈(dS lv).take j,kc U fo y=none) (hx:(dS lv)[((j:Nat):Int).toNat]? =some x) (e:kc U fo x=P) (h:P.isSome=false):∀y∈(dS lv).take (j+1),kc U fo y=none:=
 ZE hs hx (by rw[e];cases P<;>simp_all)
theorem nQ (hs:∀y∈(dS lv).take j,kc U fo y=none) (hx:(dS lv)[((j:Nat):Int).toNat]? =some x) (e:kc U fo x=P) (h:P.isSome=true):je U fo lv=P:=by
 obtain⟨y,rfl⟩:=am0.1 h
 exact ZD hs hx e
theorem NR (hs:∀y∈(dS lv).take j,kc U fo y=none) (h:(dS lv).length≤j):je U fo lv=none:=ac0 hs h
noncomputable def fh (U:List aO) (fo:aA) (lv:Int):Int:=if (je U fo lv).isSome=true then 0 else 8
theorem sx (e:je U fo lv=P) (h:P.isSome=true):0=fh U fo lv:=by unfold fh;rw[amF (by rw[e];exact h)]
theorem ZW (e:je U fo lv=none):8=fh U fo lv:=by unfold fh;rw[amI (by rw[e];exact ao8)]
theorem xe (e:je U fo lv=P) (h:ql P k r a b o):ql (je U fo lv) k r a b o:=by rw[e];exact h
theorem U_ (h:lv=1∨lv=2∨lv=3):dS lv≠[]:=by
 rcases h with rfl|rfl|rfl<;>simp[dS]
theorem R6:(dS lv).length≤6:=by
 unfold dS
 cases h1:decide (lv=1)<;>cases h2:decide (lv=2)<;>cases h3:decide (lv=3)<;>simp
end
end Go.Ew
namespace Go.Ew
variable {n x:Int} {r:Row} {q:Nat} {rs:Rows}
def JD (a b:Row) (j:Nat):Bool:=!decide ((a.getD j 0#64 &&& b.getD j 0#64)=0#64)
def oP (a b:Row):Bool:=(List.range a.length).any (JD a b)
theorem adF {p:Nat→Bool} {n j:Nat} (hj:j<n) (h:p j=true):true=(List.range n).any p:=(anc.2 ⟨j,amH.2 hj,h⟩).symm
theorem Z' {p:Nat→Bool} {n j:Nat} (hs:∀q,q<j→p q=false) (hj:n≤j):false=(List.range n).any p:=by
 symm
 rw[aol]
 intro q hq
 rw[hs q (by have:=amH.1 hq;omega)]
 exact ao8
theorem Zt {α:Type} {p:α→Bool} {r:List α} (h:0≤eO p r):eO p r<((r.length:Nat):Int):=by
 unfold eO at h ⊢
 cases e:r.findIdx? p with
 |none=>rw[e] at h;exact absurd h au
 |some i=>
  have:=(am3.1 e).1
  show ((i:Nat):Int)<_
  omega
def Bx (n:Int) (r:Row):Prop:=r.length=words n∧∀x∈de r,0≤x∧x<n
theorem Zh:Bx n (eb n):=by
 refine⟨by unfold eb;simp,fun x hx=>?_⟩
 have:=vc.1 hx
 rw[E'] at this;cases this
theorem Zg (h:Bx n r) (h0:0≤x) (h1:x<n):Bx n (eo r x):=by
 refine⟨by rw[←h.1];unfold eo;split<;>simp,fun y hy=>?_⟩
 have:=vc.1 hy
 rw[CR,amM] at this
 rcases this with h2|h2
 ·exact h.2 y<|vc.2 h2
 ·simp only[eW,amB] at h2
  rw[h2.1];exact⟨h0,h1⟩
theorem Zi {x y:bt} (h:Bx n r) (hx:r[q]? =some x):Bx n (r.set q (x &&& ~~~y)):=by
 refine⟨by rw[amA];exact h.1,fun z hz=>?_⟩
 have h1:=vc.1 hz
 refine h.2 z<|vc.2 ?_
 unfold fm at h1 ⊢
 rw[eW] at h1 ⊢
 refine⟨h1.1,?_⟩
 have h2:=h1.2
 rw[im,anW] at h2
 split at h2
 ·rename_i e
  rw[←e,im,hx]
  split at h2
  ·simp only[aph,aoI,eW] at h2
   exact h2.1
  ·simp at h2
 ·rwa [←im] at h2
theorem abm (h:Bx n r) (hx:(de r)[q]? =some x):0≤x∧x<n:=h.2 x (dN hx)
theorem U5 (h:Bx n r) (h0:0≤x) (h1:x<n):x<64*((r.length:Nat):Int):=by
 rw[h.1];unfold words;omega
def Kl (T:Rows) (lf:Row) (x:Int):Bool:=!(oP (T.getD x.toNat []) lf)
def adj (lf:Row) (x:Int):Row:=lf.set (x/64).toNat (lf.getD (x/64).toNat 0#64 &&& ~~~((1#64) <<< ((BitVec.ofInt 64 (x%64)).toNat:Int).toNat))
def AH (T:Rows):Nat→Row→aA→aA×Int
 |0,_,os=>(os,0)
 |k+1,lf,os=>if eO (Kl T lf) (de lf)<0 then ([],7) else AH T k (adj lf ((de lf).getD (eO (Kl T lf) (de lf)).toNat 0)) (os++[(de lf).getD (eO (Kl T lf) (de lf)).toNat 0])
def rh (n:Int):aA→Row→Option Row
 |[],lf=>some lf
 |x::r,lf=>if x<0∨n≤x∨fm lf x=true then none else rh n r (eo lf x)
def dE (n:Int) (rs:Rows) (nd:aA):aA×Int:=match rh n nd (eb n) with
 |none=>([],1)
 |some lf=>AH (gL n rs) nd.length lf []
section
variable {n:Int} {rs T:Rows} {nd os:aA} {lf:Row} {j:Nat} {x:Int} {y:bt}
theorem YI (h:rh n nd (eb n)=rh n (nd.drop j) lf) (hx:nd[((j:Nat):Int).toNat]? =some x) (h0:0≤x) (h1:x<n) (h2:fm lf x=false):rh n nd (eb n)=rh n (nd.drop (j+1)) (eo lf x):=by
 rw[dM] at hx
 obtain⟨hj,qi⟩:=dU.1 hx
 rw[h,ans hj,qi]
 show (if _ then _ else _)=_
 rw[amI (by rintro(h3|h3|h3);omega;omega;rw[h2] at h3;cases h3)]
theorem Kp (h:rh n nd (eb n)=rh n (nd.drop j) lf) (hx:nd[((j:Nat):Int).toNat]? =some x) (h1:x<0∨n≤x∨fm lf x=true):dE n rs nd=([],1):=by
 rw[dM] at hx
 obtain⟨hj,qi⟩:=dU.1 hx
 rw[ans hj,qi] at h
 have:rh n nd (eb n)=none:=by
  rw[h];show (if _ then _ else _)=_;rw[amF h1]
 unfold dE;rw[this]
theorem Uc (h:rh n nd (eb n)=rh n (nd.drop j) lf) (hj:nd.length≤j):dE n rs nd=AH (gL n rs) (nd.length-([]:aA).length) lf []:=by
 rw[List.drop_of_length_le hj] at h
 unfold dE;rw[h];rfl
theorem aee (h:dE n rs nd=AH (gL n rs) (nd.length-os.length) lf os) (hl:os.length<nd.length) (hi:eO (Kl (gL n rs) lf) (de lf)<0):dE n rs nd=([],7):=by
 rw[h,show nd.length-os.length=(nd.length-os.length-1)+1 from by omega]
 show (if _ then _ else _)=_
 rw[amF hi]
theorem YG (h:dE n rs nd=AH (gL n rs) (nd.length-os.length) lf os) (hl:os.length<nd.length) (hi:¬eO (Kl (gL n rs) lf) (de lf)<0) (hx:(de lf)[(eO (Kl (gL n rs) lf) (de lf)).toNat]? =some x) (hy:lf[(x/64).toNat]? =some y):
  dE n rs nd=AH (gL n rs) (nd.length-(os++[x]).length) (lf.set (x/64).toNat (y &&& ~~~((1#64) <<< ((BitVec.ofInt 64 (x%64)).toNat:Int).toNat))) (os++[x]):=by
 have e1:(de lf).getD (eO (Kl (gL n rs) lf) (de lf)).toNat 0=x:=by rw[im,hx];rfl
 have e2:lf.getD (x/64).toNat 0#64=y:=by rw[im,hy];rfl
 rw[h,show nd.length-os.length=(nd.length-os.length-1)+1 from by omega]
 show (if _ then _ else _)=_
 rw[amI hi,e1,fN,iB,gj,show nd.length-(os.length+(0+1))=nd.length-os.length-1 from by omega]
 unfold adj
 rw[e2]
theorem aau (h:dE n rs nd=AH (gL n rs) (nd.length-os.length) lf os) (hl:nd.length≤os.length):dE n rs nd=(os,0):=by
 rw[h,show nd.length-os.length=0 from by omega];rfl
theorem Km:∀(k:Nat) (lf:Row) (os:aA),(AH T k lf os).1.length≤os.length+k
 |0,_,_=>amD _
 |k+1,lf,os=>by
  show (if _ then _ else _:aA×Int).1.length≤_
  split
  ·exact an6 _
  ·refine amP (Km k _ _) ?_
   rw[fN,iB,gj];omega
theorem Ko:(dE n rs nd).1.length≤nd.length:=by
 unfold dE
 split
 ·exact an6 _
 ·refine amP (Km _ _ _) ?_
  simp
end
theorem aek {U:List aO} {fo:aA} {o:Int} (hn:U.length≤64):bI ((U.length:Nat):Int) (db U fo o)=true:=by
 unfold db;exact lC aj
theorem Zm {l:aA} {p:Int→Bool}:(aY p l).length≤l.length:=by unfold aY;exact anB _ _
theorem uT (h:bI n rs=true) (o:Int) (p:Int→Bool):(aY p (bP n rs o)).length≤4096:=amP Zm (uU h o)
theorem Q6 (h:bI n rs=true) (o:Int) (p:Int→Bool):(dE n rs (aY p (bP n rs o))).1.length≤4096:=amP Ko (uT h o p)
theorem HU {U:List aO} {mn n2:Int} {m2:Rows} {es:List ew} (BH:mn=((U.length:Nat):Int)) (h:bI mn rs=true) (he:oC U.length es) (h2:n2=mn∧m2=lT mn rs (es.take q)):bI n2 m2=true:=by
 obtain⟨rfl,rfl⟩:=h2
 subst BH
 exact zE h fun e Sy=>he e (anU Sy)
theorem Ro:bI 0 []=true:=by decide
end Go.Ew
namespace Go.Ew
variable {x y w:List Nat} {a b:Nat}
def pE (n:Nat) (p:gU):Nat→Nat→Nat→List Nat→Prop
 |0,a,b,w=>a=b∧w=[a]
 |L+1,a,b,w=>∃k v,k<n∧p a k=true∧pE n p L k b v∧w=a::v
def IG:List Nat→List Nat→Prop
 |a::x,b::y=>a<b∨(a=b∧IG x y)
 |_,_=>False
def slt (x y:List Nat):Prop:=x.length<y.length∨(x.length=y.length∧IG x y)
def sle (x y:List Nat):Prop:=x=y∨slt x y
section
variable {n:Nat} {p:gU}
theorem Gg:∀x,¬IG x x
 |[],h=>h
 |a::x,h=>by
  rcases h with h|⟨-,h⟩
  ·exact aoF _ h
  ·exact Gg x h
theorem IF:∀{x y z:List Nat},IG x y→IG y z→IG x z
 |a::x,b::y,c::z,h,k=>by
  rcases h with h|⟨rfl,h⟩
  ·rcases k with k|⟨rfl,k⟩
   ·exact .inl (apN h k)
   ·exact .inl h
  ·rcases k with k|⟨rfl,k⟩
   ·exact .inl k
   ·exact .inr ⟨J,IF h k⟩
 |[],_,_,h,_=>h.elim
 |_::_,[],_,h,_=>h.elim
 |_::_,_::_,[],_,k=>k.elim
theorem A6:∀{x y:List Nat} {a b:Nat},x.length=y.length→(IG x y∨(x=y∧a<b))→IG (x++[a]) (y++[b])
 |[],[],a,b,_,h=>by
  rcases h with h|⟨-,h⟩
  ·exact h.elim
  ·exact .inl h
 |c::x,d::y,a,b,hl,h=>by
  have hl':x.length=y.length:=by simpa using hl
  rcases h with (h|⟨rfl,h⟩)|⟨h,k⟩
  ·exact .inl h
  ·exact .inr ⟨J,A6 hl' (.inl h)⟩
  ·cases h;exact .inr ⟨rfl,A6 hl' (.inr ⟨rfl,k⟩)⟩
theorem Pk (x:List Nat):¬slt x x:=by
 rintro(h|⟨-,h⟩)
 ·exact aoF _ h
 ·exact Gg x h
theorem Io {z:List Nat} (h:slt x y) (k:slt y z):slt x z:=by
 rcases h with h|⟨h1,h2⟩<;>rcases k with k|⟨k1,k2⟩
 ·exact .inl aj
 ·exact .inl aj
 ·exact .inl aj
 ·exact .inr ⟨by omega,IF h2 k2⟩
theorem B8 {z:List Nat} (h:sle x y) (k:sle y z):sle x z:=by
 rcases h with rfl|h
 ·exact k
 ·rcases k with rfl|k
  ·exact .inr h
  ·exact .inr (Io h k)
theorem KA (h:sle x y) (k:sle y x):x=y:=by
 rcases h with rfl|h
 ·rfl
 ·rcases k with rfl|k
  ·rfl
  ·exact absurd (Io h k)<|Pk _
theorem Ky (a b:Nat) (h:slt x y):slt (x++[a]) (y++[b]):=by
 rcases h with h|⟨h1,h2⟩
 ·exact .inl (by simp;omega)
 ·exact .inr ⟨by simp;omega,A6 h1 (.inl h2)⟩
theorem Ue (h:a<b):slt (x++[a]) (x++[b]):=.inr ⟨by simp,A6 rfl (.inr ⟨rfl,h⟩)⟩
theorem Kz (a:Nat) (h:sle x y):sle (x++[a]) (y++[a]):=by
 rcases h with rfl|h
 ·exact .inl rfl
 ·exact .inr (Ky a a h)
theorem NG (h:sle x y):x.length≤y.length:=by
 rcases h with rfl|h|⟨h, -⟩<;>omega
theorem Ug (a:Nat) (h:sle x y):sle (a::x) (a::y):=by
 rcases h with rfl|h|⟨h1,h2⟩
 ·exact .inl rfl
 ·exact .inr (.inl (by simp;omega))
 ·exact .inr (.inr ⟨by simp;omega,.inr ⟨J,h2⟩⟩)
theorem lb:∀{L a b:Nat} {w:List Nat},pE n p L a b w→w.length=L+1
 |0,a,b,w,h=>by rw[h.2];rfl
 |L+1,a,b,w,h=>by
  obtain⟨k,v,_,_,h,rfl⟩:=h
  rw[iB,lb h]
theorem AD:∀{L a b:Nat} {w:List Nat},pE n p L a b w→w[0]? =some a
 |0,a,b,w,h=>by rw[h.2];rfl
 |L+1,a,b,w,h=>by
  obtain⟨k,v,_,_,h,rfl⟩:=h
  rfl
theorem xf:∀{L a b:Nat} {w:List Nat},pE n p L a b w→w[L]? =some b
 |0,a,b,w,h=>by rw[h.2,h.1];rfl
 |L+1,a,b,w,h=>by
  obtain⟨k,v,_,_,h,rfl⟩:=h
  have:=xf h
  simpa using this
theorem ER:∀{L a b c:Nat} {w:List Nat},pE n p L a b w→c<n→p b c=true→pE n p (L+1) a c (w++[c])
 |0,a,b,c,w,h,hc,hp=>by
  obtain⟨rfl,rfl⟩:=h
  exact⟨c,[c],hc,hp,⟨J,J⟩,J⟩
 |L+1,a,b,c,w,h,hc,hp=>by
  obtain⟨k,v,h1,h2,h,rfl⟩:=h
  exact⟨k,v++[c],h1,h2,ER h hc hp,J⟩
theorem sX:∀{L a c:Nat} {w:List Nat},pE n p (L+1) a c w→∃b v,pE n p L a b v∧p b c=true∧c<n∧w=v++[c]
 |0,a,c,w,h=>by
  obtain⟨k,v,h1,h2,⟨rfl,rfl⟩,rfl⟩:=h
  exact⟨a,[a],⟨J,J⟩,h2,h1,J⟩
 |L+1,a,c,w,h=>by
  obtain⟨k,v,h1,h2,h,rfl⟩:=h
  obtain⟨b,u,h3,h4,h5,rfl⟩:=sX h
  exact⟨b,a::u,⟨k,u,h1,h2,h3,J⟩,h4,h5,J⟩
theorem Dr {L a b:Nat} {w:List Nat} (h:pE n p L a b w) (ha:a<n):∀x∈w,x<n:=by
 induction L generalizing a w with
 |zero=>obtain⟨rfl,rfl⟩:=h;simpa using ha
 |succ L ih=>
  obtain⟨k,v,h1,h2,h,rfl⟩:=h
  intro x hx
  rcases amV.1 hx with rfl|hx
  ·exact ha
  ·exact ih h h1 x hx
theorem BZ:∀{L a b t:Nat} {w:List Nat} {x:Nat},pE n p L a b w→w[t]? =some x→(∃u,pE n p t a x u)∧∃v,pE n p (L-t) x b v
 |L,a,b,0,w,x,h,hx=>by
  rw[AD h] at hx;cases hx
  exact⟨⟨[a],J,J⟩,w,h⟩
 |0,a,b,t+1,w,x,h,hx=>by obtain⟨rfl,rfl⟩:=h;simp at hx
 |L+1,a,b,t+1,w,x,h,hx=>by
  obtain⟨k,v,h1,h2,h,rfl⟩:=h
  obtain⟨⟨u,hu⟩,v',hv⟩:=BZ h (by simpa using hx)
  exact⟨⟨a::u,k,u,h1,h2,hu,J⟩,v',by rwa [show L+1-(t+1)=L-t from by omega]⟩
theorem Kb:∀{L M a b c:Nat} {u v:List Nat},pE n p L a b u→pE n p M b c v→∃w,pE n p (L+M) a c w
 |0,M,a,b,c,u,v,h,k=>by obtain⟨rfl,rfl⟩:=h;exact⟨v,by rwa [ann]⟩
 |L+1,M,a,b,c,u,v,h,k=>by
  obtain⟨x,u',h1,h2,h,rfl⟩:=h
  obtain⟨w,hw⟩:=Kb h k
  exact⟨a::w,by rw[show L+1+M=(L+M)+1 from by omega];exact⟨x,w,h1,h2,hw,J⟩⟩
def fo {α:Type} (f:Nat→Option α):Nat→Option α
 |0=>none
 |k+1=>match fo f k with
  |some x=>some x
  |none=>f k
theorem DN {α:Type} {f:Nat→Option α} {x:α}:∀{n:Nat},fo f n=some x→∃k,k<n∧f k=some x∧∀j,j<k→f j=none
 |k+1,h=>by
  unfold fo at h
  have oR:∀m,fo f m=none→∀j,j<m→f j=none:=by
   intro m
   induction m with
   |zero=>intro _ j hj;omega
   |succ m ih=>
    intro hm j hj
    unfold fo at hm
    cases h1:fo f m with
    |some y=>rw[h1] at hm;cases hm
    |none=>
     rw[h1] at hm
     rcases aog.1 hj with hj|rfl
     ·exact ih h1 j hj
     ·exact hm
  cases h1:fo f k with
  |some y=>
   rw[h1] at h;cases h
   obtain⟨j,h2,h3,h4⟩:=DN h1
   exact⟨j,by omega,h3,h4⟩
  |none=>rw[h1] at h;exact⟨k,by omega,h,oR k h1⟩
theorem HJ {α:Type} {f:Nat→Option α}:∀{n:Nat},fo f n=none→∀j,j<n→f j=none
 |m+1,hm,j,hj=>by
  unfold fo at hm
  cases h1:fo f m with
  |some y=>rw[h1] at hm;cases hm
  |none=>
   rw[h1] at hm
   rcases aog.1 hj with hj|rfl
   ·exact HJ h1 j hj
   ·exact hm
theorem afk {α:Type} {f:Nat→Option α} {x:α} {n k:Nat} (hk:k<n) (h:f k=some x) (hj:∀j,j<k→f j=none):fo f n=some x:=by
 cases h1:fo f n with
 |none=>rw[HJ h1 k hk] at h;cases h
 |some y=>
  obtain⟨m,_,h3,h4⟩:=DN h1
  rcases apb m k with hm|rfl|hm
  ·rw[hj m hm] at h3;cases h3
  ·rw[h3] at h;rw[h]
  ·rw[h4 k hm] at h;cases h
def wl (n:Nat) (p:gU):Nat→Nat→Nat→Option (List Nat)
 |0,a,b=>if a=b then some [a] else none
 |L+1,a,b=>fo (fun k=>if p a k=true then (wl n p L k b).map (a::·) else none) n
theorem Dt:∀{L a b:Nat},wl n p L a b=none→∀w,¬pE n p L a b w
 |0,a,b,h,w,hw=>by obtain⟨rfl,rfl⟩:=hw;unfold wl at h;simp at h
 |L+1,a,b,h,w,hw=>by
  obtain⟨k,v,h1,h2,h3,rfl⟩:=hw
  have h4:=HJ h k h1
  rw[amF h2,Option.map_eq_none_iff] at h4
  exact Dt h4 v h3
theorem zJ:∀{L a b:Nat} {w:List Nat},wl n p L a b=some w→pE n p L a b w∧∀v,pE n p L a b v→sle w v
 |0,a,b,w,h=>by
  unfold wl at h
  split at h
  ·rename_i e;cases h;exact⟨⟨e,rfl⟩,fun v hv=>.inl hv.2.symm⟩
  ·cases h
 |L+1,a,b,w,h=>by
  obtain⟨k,h1,h2,h3⟩:=DN h
  have hp:p a k=true:=by
   cases hp:p a k with
   |true=>rfl
   |false=>rw[hp] at h2;simp at h2
  rw[amF hp,am2] at h2
  obtain⟨u,h2,rfl⟩:=h2
  obtain⟨h4,h5⟩:=zJ h2
  refine⟨⟨k,u,h1,hp,h4,J⟩,?_⟩
  rintro v ⟨m,v,k1,k2,k3,rfl⟩
  rcases apb m k with hm|rfl|hm
  ·have:=h3 m hm
   rw[amF k2,Option.map_eq_none_iff] at this
   exact absurd k3<|Dt this v
  ·exact Ug a<|h5 v k3
  ·refine .inr (.inr ⟨by simp[lb h4,lb k3],.inr ⟨J,?_⟩⟩)
   have e1:=AD h4;have e2:=AD k3
   cases u with
   |nil=>simp at e1
   |cons x u=>
    cases v with
    |nil=>simp at e2
    |cons y v=>
     simp at e1 e2
     subst e1;subst e2
     exact .inl hm
def EA (n:Nat) (p:gU) (a b:Nat):Option (List Nat):=fo (fun L=>wl n p (L+1) a b) n
def Ii (n:Nat) (p:gU) (a b:Nat) (w:List Nat):Prop:=(∃L,pE n p (L+1) a b w)∧∀L v,pE n p (L+1) a b v→sle w v
theorem Lc:∀{n:Nat} {l:List Nat},l.Nodup→(∀x∈l,x<n)→l.length≤n
 |0,l,_,h=>by
  cases l with
  |nil=>simp
  |cons x l=>exact absurd (h x ano) aj
 |n+1,l,hd,h=>by
  have h1:(l.filter (fun x=>decide (x≠n))).length≤n:=Lc (ao6 List.filter_sublist hd) fun x hx=>by
   have:=amW.1 hx
   have h2:=h x this.1
   have h3:=am' this.2
   omega
  have h2:∀l:List Nat,l.Nodup→l.length≤(l.filter (fun x=>decide (x≠n))).length+1:=by
   intro l
   induction l with
   |nil=>simp
   |cons a l ih=>
    intro hd
    have hd:=anG.1 hd
    by_cases ha:a=n
    ·subst ha
     have hf:l.filter (fun x=>decide (x≠a))=l:=apv.2<|fun x hx=>amC<|fun (e:x=a)=>hd.1<|by rw[←e];exact hx
     rw[List.filter_cons_of_neg (by simp),hf]
     simp
    ·rw[List.filter_cons_of_pos (by simpa using ha)]
     have:=ih hd.2
     simp only[iB];omega
  have:=h2 l hd
  omega
theorem Wk (h:Ii n p a b w) {s t x:Nat} (qK:s<t) (hs:w[s]? =some x) (ht:w[t]? =some x):s=0∧t+1=w.length:=by
 obtain⟨⟨L,hw⟩,hl⟩:=h
 have hlen:=lb hw
 have Ot:t<w.length:=(dU.1 ht).1
 obtain⟨⟨u,hu⟩, -⟩:=BZ hw hs
 obtain⟨-,v,hv⟩:=BZ hw ht
 obtain⟨y,hy⟩:=Kb hu hv
 refine anl fun hc=>?_
 have CI:∃M,s+(L+1-t)=M+1:=⟨s+(L+1-t)-1,by omega⟩
 obtain⟨M,hM⟩:=CI
 rw[hM] at hy
 have h1:=NG<|hl _ _ hy
 have h2:=lb hy
 omega
theorem FJ (h:Ii n p a b w) (ha:a<n):w.length≤n+1:=by
 have h0:=h
 obtain⟨⟨L,hw⟩,hl⟩:=h
 have hlen:=lb hw
 have hm:=Dr hw ha
 have hd:w.dropLast.Nodup:=by
  rw[List.nodup_iff_pairwise_ne,List.pairwise_iff_getElem]
  intro i j hi hj Gy e
  rw[List.length_dropLast] at hi hj
  rw[List.getElem_dropLast,List.getElem_dropLast] at e
  have:=Wk h0 Gy (eR aj)<|by rw[e];exact eR aj
  omega
 have:=Lc hd fun x hx=>hm x (List.dropLast_subset _ hx)
 rw[List.length_dropLast] at this
 omega
theorem Wl {a b:Nat} {w:List Nat} (h:Ii n p a b w) (ha:a<n):EA n p a b=some w:=by
 have hlen:=FJ h ha
 have h0:=h
 obtain⟨⟨L,hw⟩,hl⟩:=h
 have hwl:=lb hw
 have aey:wl n p (L+1) a b=some w:=by
  cases h1:wl n p (L+1) a b with
  |none=>exact absurd hw (Dt h1 w)
  |some v=>
   obtain⟨h2,h3⟩:=zJ h1
   rw[KA (h3 _ hw) (hl _ _ h2)]
 refine afk (k:=L) aj aey fun j hj=>?_
 cases h1:wl n p (j+1) a b with
 |none=>rfl
 |some v=>
  have h2:=NG<|hl _ _ (zJ h1).1
  have h3:=lb (zJ h1).1
  omega
theorem FH (h:EA n p a b=some w):Ii n p a b w:=by
 obtain⟨L,h1,h2,h3⟩:=DN h
 obtain⟨h4,h5⟩:=zJ h2
 refine⟨⟨L,h4⟩,fun M v hv=>?_⟩
 rcases apb M L with hm|rfl|hm
 ·exact absurd hv<|Dt (h3 M hm) v
 ·exact h5 v hv
 ·exact .inr (.inl (by rw[lb h4,lb hv];omega))
theorem ads {a b:Nat} (h:∀L w,¬pE n p (L+1) a b w):EA n p a b=none:=by
 cases h1:EA n p a b with
 |none=>rfl
 |some w=>obtain⟨⟨L,h2⟩,_⟩:=FH h1;exact absurd h2 (h L w)
end
end Go.Ew
namespace Go.Ew
variable {x:Int} {t a k:Nat} {w u:List Nat}
structure Bk (bs:aA) (i j:Int) (w:aA):Prop where
 head:w[0]? =some i
 last:w[w.length-1]? =some j
 len:2≤w.length
 Jb:∀t x y,w[t]? =some x→w[t+1]? =some y→bs[y.toNat]? =some x
 ne:∀t,1≤t→t+1<w.length→w[t]?≠some i
 rng:∀x∈w,0≤x∧x<(bs.length:Int)
theorem afp {bs:aA} {i j:Int} {w v:aA} (h:Bk bs i j w) (k:Bk bs i j v):w=v:=by
 have key:∀s,s<w.length→s<v.length→w[w.length-1-s]? =v[v.length-1-s]?:=by
  intro s
  induction s with
  |zero=>intro _ _;rw[apm,apm,h.last,k.last]
  |succ s ih=>
   intro h1 h2
   have e:=ih aj aj
   have a1:w[w.length-1-(s+1)]? =some w[w.length-1-(s+1)]:=eR aj
   have a2:v[v.length-1-(s+1)]? =some v[v.length-1-(s+1)]:=eR aj
   have b1:w[w.length-1-s]? =some w[w.length-1-s]:=eR aj
   have b2:v[v.length-1-s]? =some v[v.length-1-s]:=eR aj
   have c1:=h.Jb _ _ _ a1<|by rw[show w.length-1-(s+1)+1=w.length-1-s from by omega];exact b1
   have c2:=k.Jb _ _ _ a2<|by rw[show v.length-1-(s+1)+1=v.length-1-s from by omega];exact b2
   rw[b1,b2] at e
   rw[amE e,c2] at c1
   rw[a1,a2,c1]
 have hl:w.length=v.length:=by
  refine anl fun gD=>?_
  have l1:=h.len;have l2:=k.len
  rcases Nat.lt_or_gt_of_ne gD with hc|hc
  ·have:=key (w.length-1) aj aj
   rw[anD,h.head] at this
   exact k.ne _ aj aj this.symm
  ·have:=key (v.length-1) aj aj
   rw[anD,k.head] at this
   exact h.ne _ aj aj this
 apply ana
 intro s
 by_cases hs:s<w.length
 ·have:=key (w.length-1-s) aj aj
  rwa [show w.length-1-(w.length-1-s)=s from by omega,show v.length-1-(w.length-1-s)=s from by omega] at this
 ·rw[amQ aj,amQ aj]
open Classical in
noncomputable def vC (bs:aA) (i j:Int):aA:=if h:∃w,Bk bs i j w then Classical.choose h else []
theorem adq {bs:aA} {i j:Int} {w:aA} (h:Bk bs i j w):vC bs i j=w:=by
 have hh:∃w,Bk bs i j w:=⟨w,h⟩
 unfold vC
 rw[dif_pos hh]
 exact afp (Classical.choose_spec hh) h
section
variable {bs:aA} {i j:Int} {w:aA} (h:Bk bs i j w)
include h
theorem Wb (hx:bs[j.toNat]? =some x):w[w.length-1-1]? =some x:=by
 have l1:=h.len
 have a1:w[w.length-1-1]? =some w[w.length-1-1]:=eR aj
 have:=h.Jb _ _ _ a1<|by rw[show w.length-1-1+1=w.length-1 from by omega];exact h.last
 rw[hx] at this
 rw[a1,amE this]
theorem Z2:[j]=(w.drop (w.length-1)).reverse:=by
 have l1:=h.len
 have h2:=h.last
 rw[eR aj] at h2
 rw[ans aj,show w.length-1+1=w.length from by omega,List.drop_length,amE h2];rfl
theorem OX {l:aA} (ht:1≤t) (Ot:t<w.length) (hx:w[t-1]? =some x) (hl:l=(w.drop t).reverse):l++[x]=(w.drop (t-1)).reverse:=by
 have h1:t-1<w.length:=by omega
 rw[eR h1] at hx
 rw[ans h1,show t-1+1=t from by omega,List.reverse_cons,←hl,amE hx]
theorem Z0 (ht:1≤t) (Ot:t<w.length) (hx:w[t-1]? =some x) (e:x=i):t=1:=by
 refine anl fun gD=>?_
 exact h.ne (t-1) aj aj<|by rw[hx,e]
theorem adp {l:aA} (ht:1≤t) (Ot:t<w.length) (hx:w[t-1]? =some x) (e:x=i) (hl:l=(w.drop t).reverse):(l++[x]).reverse=w:=by
 have h1:=Z0 h ht Ot hx e
 rw[OX h ht Ot hx hl,List.reverse_reverse,h1];rfl
theorem Yb (ht:1≤t) (hx:w[t-1]? =some x) (e:¬x=i):1≤t-1:=by
 refine anl fun gD=>?_
 rw[show t-1=0 from by omega,h.head] at hx
 exact e (amE hx).symm
theorem Z3 {y:Int} (ht:1≤t) (Ot:t<w.length) (hx:w[t-1]? =some x) (e:¬x=i) (hy:bs[x.toNat]? =some y):w[t-1-1]? =some y:=by
 have h1:=Yb h ht hx e
 have a1:w[t-1-1]? =some w[t-1-1]:=eR aj
 have:=h.Jb _ _ _ a1<|by rw[show t-1-1+1=t-1 from by omega];exact hx
 rw[hy] at this
 rw[a1,amE this]
theorem TB (hx:w[t]? =some x):0≤x∧x<(bs.length:Int):=h.rng x (dN hx)
end
def pv (n:Nat) (p:gU) (a:Nat):List Nat:=(List.range n).filter (p a)
def j6 (w:List Nat) (k:Nat):Prop:=w.getLast?=some k
def Dn (n:Nat) (p:gU) (E:List (List Nat)) (c t:Nat) (u:List Nat) (k:Nat):Prop:=
 ∃a,j6 u a∧k∈pv n p a∧((∃s,s<c∧E[s]? =some u)∨(E[c]? =some u∧k∈(pv n p a).take t))
structure Tr (n:Nat) (p:gU) (i:Nat) (bs:aA) (w:List Nat):Prop where
 wk:∃L b,pE n p L i b w
 Jb:∀s x y,w[s]? =some x→w[s+1]? =some y→bs[y]? =some ((x:Nat):Int)
 ne:∀s x,1≤s→w[s]? =some x→x≠i
structure vI (n:Nat) (p:gU) (i j:Nat) (bs:aA) (E:List (List Nat)) (c t:Nat):Prop where
 len:bs.length=n
 hd:E[0]? =some [i]
 X':c≤E.length
 inc:∀(s u:Nat) (a b:List Nat),s<u→E[s]? =some a→E[u]? =some b→slt a b
 tr:∀w∈E,Tr n p i bs w
 dn:∀w∈E,w=[i]∨∃u k,w=u++[k]∧Dn n p E c t u k
 al:∀u k,Dn n p E c t u k→k≠j∧(k≠i→∃w∈E,j6 w k∧sle w (u++[k]))
 OW:∀k v,bs[k]? =some v→v≠ -1→k≠j∧(k≠i→∃w∈E,j6 w k)
section
variable {n:Nat} {p:gU} {i j:Nat} {bs:aA} {E:List (List Nat)} {c t:Nat}
theorem uy:k∈pv n p a↔k<n∧p a k=true:=by unfold pv;simp[amW]
theorem YJ {s u x y:Nat} (hsu:s<u) (hx:(pv n p a)[s]? =some x) (hy:(pv n p a)[u]? =some y):x<y:=by
 have h0:(pv n p a).Pairwise (·<·):=List.Pairwise.filter _ List.pairwise_lt_range
 have h1:=(dU.1 hx);have h2:=(dU.1 hy)
 have:=(List.pairwise_iff_getElem.1 h0) s u h1.1 h2.1 hsu
 rw[h1.2,h2.2] at this;exact this
theorem Gn (u:List Nat) (k:Nat):j6 (u++[k]) k:=by unfold j6;simp
theorem yG {L b:Nat} (h:pE n p L a b w):j6 w b:=by
 unfold j6
 rw[List.getLast?_eq_getElem?,lb h]
 exact xf h
theorem sH {b:Nat} (h:j6 w a) (k:j6 w b):a=b:=by unfold j6 at h k;rw[h] at k;exact amE k
theorem TE (hi:i<n):vI n p i j (List.replicate n (-1)) [[i]] 0 0 where
 len:=by simp
 hd:=rfl
 X':=by simp
 inc:=by
  intro s u a b hsu ha hb
  have h2:=(dU.1 hb).1
  simp at h2;omega
 tr:=by
  intro w hw
  rw[anS.1 hw]
  refine⟨⟨0,i,J,J⟩,?_,?_⟩
  ·intro s x y _ hy;simp at hy
  ·intro s x hs hx
   have h2:=(dU.1 hx).1
   simp at h2;omega
 dn:=by intro w hw;exact .inl (anS.1 hw)
 al:=by
  rintro u k ⟨a,_,_,⟨s,hs,_⟩|⟨_,hk⟩⟩
  ·omega
  ·simp at hk
 OW:=by
  intro k v hk hv
  have h2:=dU.1 hk
  obtain⟨h3,h4⟩:=h2
  simp at h4
  exact absurd h4.symm hv
theorem Wf (h:vI n p i j bs E c t) (hu:E[c]? =some u) (ha:j6 u a) (ht:(pv n p a).length≤t):vI n p i j bs E (c+1) 0:=by
 have hD:∀v k,Dn n p E (c+1) 0 v k↔Dn n p E c t v k:=by
  intro v k
  constructor
  ·rintro⟨b,h1,h2,⟨s,hs,h3⟩|⟨_,h3⟩⟩
   ·rcases aog.1 hs with hs|rfl
    ·exact⟨b,h1,h2,.inl ⟨s,hs,h3⟩⟩
    ·rw[hu] at h3;cases h3
     obtain rfl:=sH ha h1
     exact⟨a,h1,h2,.inr ⟨hu,by rwa [amL ht]⟩⟩
   ·simp at h3
  ·rintro⟨b,h1,h2,⟨s,hs,h3⟩|⟨h3,_⟩⟩
   ·exact⟨b,h1,h2,.inl ⟨s,by omega,h3⟩⟩
   ·exact⟨b,h1,h2,.inl ⟨c,by omega,h3⟩⟩
 refine⟨h.len,h.hd,(dU.1 hu).1,h.inc,h.tr,?_,?_,h.OW⟩
 ·intro w hw
  rcases h.dn w hw with e|⟨v,k,e,hd⟩
  ·exact .inl e
  ·exact .inr ⟨v,k,e,(hD v k).2 hd⟩
 ·intro v k hd
  exact h.al v k<|(hD v k).1 hd
theorem TF {u w:List Nat} {a k:Nat} (h:vI n p i j bs E c t) (hu:E[c]? =some u) (ha:j6 u a) (hk:(pv n p a)[t]? =some k) (hw:w∈E):slt w (u++[k]):=by
 have hul:0<u.length:=by
  cases u with
  |nil=>unfold j6 at ha;simp at ha
  |cons x u=>simp
 rcases h.dn w hw with rfl|⟨v,m,rfl,b,h1,h2,⟨s,hs,h3⟩|⟨h3,h4⟩⟩
 ·exact .inl (by simp;omega)
 ·exact Ky _ _<|h.inc s c v u hs h3 hu
 ·rw[hu] at h3;cases h3
  obtain rfl:=sH ha h1
  obtain⟨s,hs⟩:=amT.1 h4
  have qK:s<t:=by
   have:=(dU.1 hs).1
   rw[iu] at this;omega
  rw[am5,amF qK] at hs
  exact Ue<|YJ qK hs hk
theorem HO {v:List Nat} {m:Nat} (hu:E[c]? =some u) (ha:j6 u a) (hk:(pv n p a)[t]? =some k) (h:Dn n p E c (t+1) v m):Dn n p E c t v m∨(v=u∧m=k):=by
 obtain⟨b,h1,h2,h3|⟨h3,h4⟩⟩:=h
 ·exact .inl ⟨b,h1,h2,.inl h3⟩
 ·rw[hu] at h3;cases h3
  obtain rfl:=sH ha h1
  rw[am9,hk] at h4
  rcases am1.1 h4 with h4|h4
  ·exact .inl ⟨a,h1,h2,.inr ⟨hu,h4⟩⟩
  ·exact .inr ⟨J,by simpa using h4⟩
theorem QE {m:Nat} (h:Dn n p E c t u m):Dn n p E c (t+1) u m:=by
 obtain⟨b,h1,h2,h3|⟨h3,h4⟩⟩:=h
 ·exact⟨b,h1,h2,.inl h3⟩
 ·exact⟨b,h1,h2,.inr ⟨h3,by
   obtain⟨s,hs⟩:=amT.1 h4
   have qK:s<t:=by
    have:=(dU.1 hs).1
    rw[iu] at this;omega
   rw[am5,amF qK] at hs
   exact amT.2 ⟨s,by rw[am5,amF aj];exact hs⟩⟩⟩
theorem Wc {v:Int} (h:vI n p i j bs E c t) (hu:E[c]? =some u) (ha:j6 u a) (hk:(pv n p a)[t]? =some k) (hv:bs[k]? =some v) (kN:v≠ -1):vI n p i j bs E c (t+1):=by
 refine⟨h.len,h.hd,h.X',h.inc,h.tr,?_,?_,h.OW⟩
 ·intro w hw
  rcases h.dn w hw with e|⟨v,m,e,hd⟩
  ·exact .inl e
  ·exact .inr ⟨v,m,e,QE hd⟩
 ·intro v' m hd
  rcases HO hu ha hk hd with hd|⟨rfl,rfl⟩
  ·exact h.al v' m hd
  ·obtain⟨h1,h2⟩:=h.OW m v hv kN
   refine⟨h1,fun hi=>?_⟩
   obtain⟨w,hw,hwl⟩:=h2 hi
   exact⟨w,hw,hwl,.inr (TF h hu ha hk hw)⟩
theorem FY (h:Tr n p i bs w) (hk:bs[k]? =some (-1)):Tr n p i (bs.set k x) w:=by
 refine⟨h.wk,?_,h.ne⟩
 intro s a b ha hb
 have h1:=h.Jb s a b ha hb
 rw[anW]
 split
 ·rename_i e;subst e
  rw[hk] at h1
  have:=amE h1
  omega
 ·exact h1
theorem afr (h:vI n p i j bs E c t) (Gy:i≠j) (hu:E[c]? =some u) (ha:j6 u a) (hk:(pv n p a)[t]? =some i) (hv:bs[i]? =some (-1)):vI n p i j (bs.set i ((a:Nat):Int)) E c (t+1):=by
 refine⟨by rw[amA];exact h.len,h.hd,h.X',h.inc,fun w hw=>FY (h.tr w hw) hv,?_,?_,?_⟩
 ·intro w hw
  rcases h.dn w hw with e|⟨v,m,e,hd⟩
  ·exact .inl e
  ·exact .inr ⟨v,m,e,QE hd⟩
 ·intro v m hd
  rcases HO hu ha hk hd with hd|⟨rfl,rfl⟩
  ·exact h.al v m hd
  ·exact⟨Gy,fun hi=>absurd rfl hi⟩
 ·intro m v hm kN
  by_cases e:m=i
  ·exact⟨by rw[e];exact Gy,fun hi=>absurd e hi⟩
  ·rw[anh aj] at hm
   exact h.OW m v hm kN
theorem YC (h:Tr n p i bs u) (ha:j6 u a) (hk:k∈pv n p a) (hv:bs[k]? =some (-1)) (Ah:k≠i):Tr n p i (bs.set k ((a:Nat):Int)) (u++[k]):=by
 obtain⟨L,b,hw⟩:=h.wk
 obtain rfl:=sH ha (yG hw)
 obtain⟨fJ,Ai⟩:=uy.1 hk
 have hlen:=lb hw
 have h2:=FY (x:=((a:Nat):Int)) h hv
 refine⟨⟨L+1,k,ER hw fJ Ai⟩,?_,?_⟩
 ·intro s x y hx hy
  have hs:s+1<(u++[k]).length:=(dU.1 hy).1
  rw[fN,aor] at hs
  rw[oY aj] at hx
  by_cases gN:s+1<u.length
  ·rw[oY gN] at hy
   exact h2.Jb s x y hx hy
  ·rw[oB aj,show s+1-u.length=0 from by omega] at hy
   simp at hy;subst hy
   rw[show s=L from by omega,xf hw] at hx
   cases hx
   rw[amX (by have:=(dU.1 hv).1;omega)]
 ·intro s x hs hx
  by_cases gN:s<u.length
  ·rw[oY gN] at hx
   exact h.ne s x hs hx
  ·rw[oB aj] at hx
   have:=(dU.1 hx).1
   simp at this
   rw[show s-u.length=0 from by omega] at hx
   simp at hx;rw[←hx];exact Ah
theorem Wd (h:vI n p i j bs E c t) (hu:E[c]? =some u) (ha:j6 u a) (hk:(pv n p a)[t]? =some k) (hv:bs[k]? =some (-1)) (Ah:k≠i) (Ow:k≠j):
  vI n p i j (bs.set k ((a:Nat):Int)) (E++[u++[k]]) c (t+1):=by
 have rO:c<E.length:=(dU.1 hu).1
 have hE:∀s v,s≤c→((E++[u++[k]])[s]? =some v↔E[s]? =some v):=fun s v hs=>by rw[oY aj]
 have hD:∀v m tt,Dn n p (E++[u++[k]]) c tt v m↔Dn n p E c tt v m:=by
  intro v m tt
  constructor
  ·rintro⟨b,h1,h2,⟨s,hs,h3⟩|⟨h3,h4⟩⟩
   ·exact⟨b,h1,h2,.inl ⟨s,hs,(hE s v aj).1 h3⟩⟩
   ·exact⟨b,h1,h2,.inr ⟨(hE c v aj).1 h3,h4⟩⟩
  ·rintro⟨b,h1,h2,⟨s,hs,h3⟩|⟨h3,h4⟩⟩
   ·exact⟨b,h1,h2,.inl ⟨s,hs,(hE s v aj).2 h3⟩⟩
   ·exact⟨b,h1,h2,.inr ⟨(hE c v aj).2 h3,h4⟩⟩
 have IV:k∈pv n p a:=dN hk
 refine⟨by rw[amA];exact h.len,by rw[oY aj];exact h.hd,by rw[fN];omega,?_,?_,?_,?_,?_⟩
 ·intro s m x y hsm hx hy
  by_cases hm:m<E.length
  ·rw[oY aj] at hx
   rw[oY hm] at hy
   exact h.inc s m x y hsm hx hy
  ·have h1:=(dU.1 hy).1
   rw[fN,aor] at h1
   rw[oB aj,show m-E.length=0 from by omega] at hy
   simp at hy;subst hy
   rw[oY aj] at hx
   exact TF h hu ha hk<|dN hx
 ·intro w hw
  rcases am1.1 hw with hw|hw
  ·exact FY (h.tr w hw) hv
  ·rw[anS.1 hw]
   exact YC (h.tr u<|dN hu) ha IV hv Ah
 ·intro w hw
  rcases am1.1 hw with hw|hw
  ·rcases h.dn w hw with e|⟨v,m,e,hd⟩
   ·exact .inl e
   ·exact .inr ⟨v,m,e,(hD _ _ _).2 (QE hd)⟩
  ·refine .inr ⟨u,k,anS.1 hw,(hD _ _ _).2 ⟨a,ha,IV,.inr ⟨hu,?_⟩⟩⟩
   exact amT.2 ⟨t,by rw[am5,amF aj];exact hk⟩
 ·intro v m hd
  rcases HO hu ha hk ((hD _ _ _).1 hd) with hd|⟨rfl,rfl⟩
  ·obtain⟨h1,h2⟩:=h.al v m hd
   refine⟨h1,fun hi=>?_⟩
   obtain⟨w,hw,Sb⟩:=h2 hi
   exact⟨w,anV _ hw,Sb⟩
  ·exact⟨Ow,fun _=>⟨v++[m],anP _ (anS.2 J),Gn _ _,.inl rfl⟩⟩
 ·intro m v hm kN
  by_cases e:m=k
  ·subst e
   exact⟨Ow,fun _=>⟨u++[m],anP _ (anS.2 J),Gn _ _⟩⟩
  ·rw[anh aj] at hm
   obtain⟨h1,h2⟩:=h.OW m v hm kN
   refine⟨h1,fun hi=>?_⟩
   obtain⟨w,hw,Sb⟩:=h2 hi
   exact⟨w,anV _ hw,Sb⟩
theorem Mr {u:List Nat} (h:vI n p i j bs E c t) (hu:E[c]? =some u):∀L b w,pE n p L i b w→sle u w∨∃s v,s<c∧E[s]? =some v∧j6 v b∧sle v w
 |0,b,w,hw=>by
  obtain⟨rfl,rfl⟩:=hw
  rcases apD c with rfl|hc
  ·rw[h.hd] at hu;cases hu
   exact .inl (.inl rfl)
  ·exact .inr ⟨0,[i],hc,h.hd,J,.inl rfl⟩
 |L+1,b,w,hw=>by
  obtain⟨d,x,h1,h2,h3,rfl⟩:=sX hw
  have eZ:slt x (x++[b]):=.inl (by simp)
  rcases Mr h hu L d x h1 with h4|⟨s,v,hs,hv,Lz,hvx⟩
  ·exact .inl (B8 h4<|.inr eZ)
  ·obtain⟨h5,h6⟩:=h.al v b ⟨d,Lz,uy.2 ⟨h3,h2⟩,.inl ⟨s,hs,hv⟩⟩
   by_cases xL:b=i
   ·subst xL
    exact .inr ⟨0,[b],by omega,h.hd,J,.inr (.inl (by simp[lb h1]))⟩
   ·obtain⟨y,hy,Aa,hyv⟩:=h6 xL
    have Xh:sle y (x++[b]):=B8 hyv<|Kz b hvx
    obtain⟨m,hm⟩:=amT.1 hy
    rcases apb m c with hmc|rfl|hmc
    ·exact .inr ⟨m,y,hmc,hm,Aa,Xh⟩
    ·rw[hu] at hm;cases hm
     exact .inl Xh
    ·exact .inl (B8 (.inr (h.inc c m u y hmc hu hm)) Xh)
theorem TG (h:vI n p i j bs E c t) (hu:E[c]? =some u) (ha:j6 u a) (hk:(pv n p a)[t]? =some j):Ii n p i j (u++[j]):=by
 obtain⟨L,b,hw⟩:=(h.tr u (dN hu)).wk
 obtain rfl:=sH ha (yG hw)
 obtain⟨h1,h2⟩:=uy.1 (dN hk)
 refine⟨⟨L,ER hw h1 h2⟩,fun M v hv=>?_⟩
 obtain⟨d,x,k1,k2,k3,rfl⟩:=sX hv
 rcases Mr h hu M d x k1 with h4|⟨s,y,hs,hy,Aa,Xh⟩
 ·exact Kz j h4
 ·exact absurd J (h.al y j ⟨d,Aa,uy.2 ⟨k3,k2⟩,.inl ⟨s,hs,hy⟩⟩).1
theorem OY (h:vI n p i j bs E E.length 0):∀L b w,pE n p L i b w→∃v∈E,j6 v b
 |0,b,w,hw=>by obtain⟨rfl,rfl⟩:=hw;exact⟨[i],dN h.hd,rfl⟩
 |L+1,b,w,hw=>by
  obtain⟨d,x,h1,h2,h3,rfl⟩:=sX hw
  obtain⟨v,hv,Lz⟩:=OY h L d x h1
  obtain⟨s,hs⟩:=amT.1 hv
  obtain⟨h5,h6⟩:=h.al v b ⟨d,Lz,uy.2 ⟨h3,h2⟩,.inl ⟨s,(dU.1 hs).1,hs⟩⟩
  by_cases xL:b=i
  ·subst xL;exact⟨[b],dN h.hd,rfl⟩
  ·obtain⟨y,hy,Aa,_⟩:=h6 xL
   exact⟨y,hy,Aa⟩
theorem We (h:vI n p i j bs E E.length 0):EA n p i j=none:=ads fun L w hw=>by
 obtain⟨d,x,h1,h2,h3,rfl⟩:=sX hw
 obtain⟨v,hv,Lz⟩:=OY h L d x h1
 obtain⟨s,hs⟩:=amT.1 hv
 exact(h.al v j ⟨d,Lz,uy.2 ⟨h3,h2⟩,.inl ⟨s,(dU.1 hs).1,hs⟩⟩).1 rfl
end
end Go.Ew
namespace Go.Ew
variable {ys:aA} {q m:Nat} {v n:Int} {rs:Rows}
theorem VX (h:q≤ys.length):(FB ys q).length=ys.length:=by unfold FB;simp;omega
theorem It {xs zs:aA} (hx:xs.length=1) (hm:1≤m) (hz:zs.length=m):(xs++zs.drop xs.length).length=m∧(xs++zs.drop xs.length).take 1=List.replicate 1 (xs.headD 0):=by
 obtain⟨a,rfl⟩:=List.length_eq_one_iff.1 hx
 exact⟨by simp;omega,by simp⟩
theorem Ur (h:ys.take q=List.replicate q v) (hl:ys.length=m) (hq:q<m):(FB ys q).take (q+min q (ys.length-q))=List.replicate (q+min q (ys.length-q)) v:=by
 unfold FB
 rw[h,List.take_replicate,←anb,List.replicate_append_replicate,show min (ys.length-q) q=min q (ys.length-q) from Nat.min_comm _ _]
 exact apq<|by simp
theorem YW (h:ys.take q=List.replicate q v) (hl:ys.length=m) (hq:q≤m) (hm:m≤q):ys=List.replicate m v:=by
 rw[amL aj] at h
 rw[h,show q=m from by omega]
theorem Hj (h0:0≤n) (h1:n≤4096):(BitVec.ofInt 64 n).toNat=n.toNat:=by
 rw[aop]
 congr 1
 exact Int.emod_eq_of_lt h0<|by show n<18446744073709551616;omega
theorem Zb {x y:bt} (h:x=1#64):
  (x >>> 32)*(y >>> 32)+(((x >>> 32)*(y &&& 4294967295#64)+((x &&& 4294967295#64)*(y &&& 4294967295#64)) >>> 32) >>> 32)+(((((x >>> 32)*(y &&& 4294967295#64)+((x &&& 4294967295#64)*(y &&& 4294967295#64)) >>> 32) &&& 4294967295#64)+(x &&& 4294967295#64)*(y >>> 32)) >>> 32)=0#64:=by
 subst h
 have e1:(1#64:bt) &&& 4294967295#64=1#64:=by decide
 have e2:(1#64:bt) >>> 32=0#64:=by decide
 have e3:∀z:bt,1#64*z=z:=fun z=>BitVec.one_mul z
 have e4:∀z:bt,0#64*z=0#64:=fun z=>BitVec.zero_mul
 have e5:(y &&& 4294967295#64) >>> 32=0#64:=by
  apply aoe
  rw[aoD,BitVec.toNat_and,aow]
  have:=Nat.and_lt_two_pow y.toNat<|show (4294967295#64).toNat<2^32 by decide
  rw[aoP this];rfl
 have e6:(y >>> 32) >>> 32=0#64:=by
  apply aoe
  rw[aoD,aoD,aow,aow]
  have:=y.isLt
  show y.toNat/4294967296/4294967296=0
  omega
 have e7:(0#64:bt) >>> 32=0#64:=by decide
 have e8:(0#64:bt) &&& 4294967295#64=0#64:=by decide
 have e9:∀z:bt,0#64+z=z:=fun z=>BitVec.zero_add z
 rw[e1,e2,e4,e4,e3,e3,e5,e9,e9,e7,e8,e9,e9,e6]
def qL (E:List (List Nat)) (c:Nat):aA:=(E.drop c).map fun w=>((w.getLastD 0:Nat):Int)
def O6 (n:Nat) (p:gU) (i j:Int) (bs td:aA):Prop:=∃E c,vI n p i.toNat j.toNat bs E c 0∧td=qL E c
def EK (n:Nat) (p:gU) (i j:Int) (bs td:aA) (x:Int) (q:Nat):Prop:=
 ∃E c u a,vI n p i.toNat j.toNat bs E c q∧E[c]? =some u∧j6 u a∧x=((a:Nat):Int)∧td=qL E (c+1)
section
variable {n:Nat} {p:gU} {i j:Int} {bs td:aA} {x k v:Int} {q:Nat}
theorem WZ {E:List (List Nat)} {c:Nat} (h:(qL E c)[0]? =some x):∃u,E[c]? =some u∧x=((u.getLastD 0:Nat):Int):=by
 unfold qL at h
 rw[amS,ank,ani,am2] at h
 obtain⟨u,h1,h2⟩:=h
 exact⟨u,h1,h2.symm⟩
theorem Og {w:List Nat} {a:Nat} (h:j6 w a):w.getLastD 0=a:=by
 unfold j6 at h
 rw[List.getLastD_eq_getLast?,h];rfl
theorem Ms {c t:Nat} {E:List (List Nat)} {u:List Nat} {i j:Nat} (hi:i<n) (h:vI n p i j bs E c t) (hu:u∈E):∃a,j6 u a∧a<n:=by
 obtain⟨L,b,hw⟩:=(h.tr u hu).wk
 exact⟨b,yG hw,Dr hw hi b (dN<|xf hw)⟩
theorem TI (h0:0≤i) (h1:i.toNat<n):O6 n p i j (List.replicate n (-1)) [i]:=⟨[[i.toNat]],0,TE h1,by simp[qL,anf h0]⟩
theorem adr (hi:i.toNat<n) (h:O6 n p i j bs td) (hx:td[0]? =some x):0≤x∧x.toNat<n:=by
 obtain⟨E,c,hb,rfl⟩:=h
 obtain⟨u,hu,rfl⟩:=WZ hx
 obtain⟨a,ha,SE⟩:=Ms hi hb (dN hu)
 rw[Og ha]
 exact⟨by omega,by omega⟩
theorem Z6 (hi:i.toNat<n) (h:O6 n p i j bs td) (hx:td[0]? =some x):EK n p i j bs (td.drop 1) x 0:=by
 obtain⟨E,c,hb,rfl⟩:=h
 obtain⟨u,hu,rfl⟩:=WZ hx
 obtain⟨a,ha,SE⟩:=Ms hi hb (dN hu)
 exact⟨E,c,u,a,hb,hu,ha,by rw[Og ha],by unfold qL;rw[←List.map_drop,anx]⟩
theorem DD {x:Int} (hk:(wb n (p x.toNat))[q]? =some k):(pv n p x.toNat)[q]? =some k.toNat∧0≤k∧k.toNat<n:=by
 unfold wb rC at hk
 rw[amS,am2] at hk
 obtain⟨m,h1,rfl⟩:=hk
 refine⟨by simpa [pv] using h1,by omega,?_⟩
 have:=(uy.1<|show m∈pv n p x.toNat from dN h1).1
 omega
theorem Wg (h:EK n p i j bs td x q) (hk:(wb n (p x.toNat))[q]? =some k) (hv:bs[k.toNat]? =some v) (kN:¬v= -1):EK n p i j bs td x (q+1):=by
 obtain⟨E,c,u,a,hb,hu,ha,rfl,ht⟩:=h
 obtain⟨h1,h2,h3⟩:=DD hk
 rw[dM] at h1
 exact⟨E,c,u,a,Wc hb hu ha h1 hv kN,hu,ha,J,ht⟩
theorem afs (h:EK n p i j bs td x q) (hk:(wb n (p x.toNat))[q]? =some k) (hv:bs[k.toNat]? =some v) (kN:v= -1) (Ow:¬k=j) (Ah:k=i) (hj:0≤j):EK n p i j (bs.set k.toNat x) td x (q+1):=by
 obtain⟨E,c,u,a,hb,hu,ha,rfl,ht⟩:=h
 obtain⟨h1,h2,h3⟩:=DD hk
 rw[dM] at h1
 subst Ah;subst kN
 exact⟨E,c,u,a,afr hb aj hu ha h1 hv,hu,ha,J,ht⟩
theorem Wh (h:EK n p i j bs td x q) (hk:(wb n (p x.toNat))[q]? =some k) (hv:bs[k.toNat]? =some v) (kN:v= -1) (Ow:¬k=j) (Ah:¬k=i) (hj:0≤j) (hi:0≤i):EK n p i j (bs.set k.toNat x) (td++[k]) x (q+1):=by
 obtain⟨E,c,u,a,hb,hu,ha,rfl,ht⟩:=h
 obtain⟨h1,h2,h3⟩:=DD hk
 rw[dM] at h1
 subst kN
 have rO:=(dU.1 hu).1
 refine⟨E++[u++[k.toNat]],c,u,a,Wd hb hu ha h1 hv aj aj,by rw[oY rO];exact hu,ha,J,?_⟩
 unfold qL at ht ⊢
 rw[apu aj,aoi,←ht]
 simp only[am_,List.map_nil,List.getLastD_concat]
 rw[anf h2]
theorem Wi (h:EK n p i j bs td x q) (hq:(wb n (p x.toNat)).length≤q):O6 n p i j bs td:=by
 obtain⟨E,c,u,a,hb,hu,ha,rfl,ht⟩:=h
 refine⟨E,c+1,Wf hb hu ha ?_,ht⟩
 rw[dM] at hq
 unfold wb rC at hq
 rw[ane] at hq
 exact hq
theorem OZ (h:O6 n p i j bs td) (ht:td=[]):EA n p i.toNat j.toNat=none:=by
 obtain⟨E,c,hb,rfl⟩:=h
 unfold qL at ht
 rw[List.map_eq_nil_iff,List.drop_eq_nil_iff] at ht
 have hc:c=E.length:=Nat.le_antisymm hb.X' ht
 subst hc
 exact We hb
theorem wV {w:List Nat} {t:Nat}:(rC w)[t]? =some x↔∃m,w[t]? =some m∧x=((m:Nat):Int):=by
 unfold rC
 rw[amS,am2]
 exact⟨fun ⟨m,h1,h2⟩=>⟨m,h1,h2.symm⟩,fun ⟨m,h1,h2⟩=>⟨m,h1,h2.symm⟩⟩
theorem TH (hi:0≤i∧i.toNat<n) (h:EK n p i j bs td x q) (hk:(wb n (p x.toNat))[q]? =some k) (hv:bs[k.toNat]? =some v) (kN:v= -1) (Ow:k=j) (hj:0≤j):
  ∃w,Bk (bs.set k.toNat x) i j (rC w)∧EA n p i.toNat j.toNat=some w:=by
 obtain⟨E,c,u,a,hb,hu,ha,rfl,ht⟩:=h
 obtain⟨h1,h2,h3⟩:=DD hk
 rw[dM] at h1
 subst kN;subst Ow
 have hB:=TG hb hu ha h1
 refine⟨u++[k.toNat],?_,Wl hB hi.2⟩
 have hT:=hb.tr u<|dN hu
 obtain⟨L,b,hw⟩:=hT.wk
 obtain rfl:=sH ha (yG hw)
 have hT2:=FY (x:=((a:Nat):Int)) hT hv
 have hlen:=lb hw
 have Ag:=(dU.1 hv).1
 have Gw:(rC (u++[k.toNat])).length=L+2:=by unfold rC;simp[hlen]
 refine⟨?_,?_,by omega,?_,?_,?_⟩
 ·rw[wV]
  exact⟨i.toNat,by rw[oY aj];exact AD hw,(anf hi.1).symm⟩
 ·rw[Gw,wV]
  exact⟨k.toNat,by rw[oB aj,show L+2-1-u.length=0 from by omega];rfl,(anf h2).symm⟩
 ·intro t y z hy hz
  obtain⟨m,hm,rfl⟩:=wV.1 hy
  obtain⟨r,hr,rfl⟩:=wV.1 hz
  rw[dM]
  have hs:t+1<(u++[k.toNat]).length:=(dU.1 hr).1
  rw[fN,aor] at hs
  rw[oY aj] at hm
  by_cases gN:t+1<u.length
  ·rw[oY gN] at hr
   exact hT2.Jb t m r hm hr
  ·rw[oB aj,show t+1-u.length=0 from by omega] at hr
   simp only[amR,amO] at hr;subst hr
   rw[show t=L from by omega,xf hw] at hm
   cases hm
   rw[amX Ag]
 ·intro t ht1 Se hc
  rw[Gw] at Se
  obtain⟨m,hm,e⟩:=wV.1 hc
  rw[oY aj] at hm
  exact hT.ne t m ht1 hm aj
 ·intro z hz
  obtain⟨t,ht⟩:=amT.1 hz
  obtain⟨m,hm,rfl⟩:=wV.1 ht
  obtain⟨L2,Sb⟩:=hB.1
  have:=Dr Sb hi.2 m<|dN hm
  rw[amA,hb.len]
  omega
theorem RX {k:Nat} (hv:bs[k]? =some v) (kN:v= -1) (hx:0≤x):(bs.set k x).count (-1)+1=bs.count (-1):=by
 subst kN
 obtain⟨h1,h2⟩:=dU.1 hv
 have CI:0<bs.count (-1):=List.count_pos_iff.2<|dN hv
 rw[List.count_set h1,h2]
 have gD:(x==(-1:Int))=false:=by rw[beq_eq_false_iff_ne];omega
 rw[gD]
 simp
 omega
end
theorem zO (h:bI n rs=true) {x:Nat} {r:Row} (hx:rs[x]? =some r):de r=wb n.toNat (gi rs x):=by rw[pw h hx,yE]
theorem Gb {bs td:aA} {k x:Int} {z:Nat} (hv:bs[k.toNat]? =some v) (kN:v= -1) (hx:0≤x) (hz:bs.count (-1)+td.length≤z):(bs.set k.toNat x).count (-1)+td.length≤z∧(bs.set k.toNat x).count (-1)+(td++[k]).length≤z:=by
 have h:=RX hv kN hx
 exact⟨by omega,by rw[fN,aor];omega⟩
def fu (n:Int) (rs:Rows) (i j:Int):Option aA:=if 0≤i∧i<n∧0≤j∧j<n then (EA n.toNat (gi rs) i.toNat j.toNat).map rC else none
theorem sD {i j:Int} (h:i<0∨n≤i∨j<0∨n≤j):fu n rs i j=none:=by unfold fu;rw[amI aj]
theorem zU {i j:Int} (h:0≤i∧i<n∧0≤j∧j<n):fu n rs i j=(EA n.toNat (gi rs) i.toNat j.toNat).map rC:=by unfold fu;rw[amF h]
end Go.Ew
namespace Go.Ew
section
variable {n:Nat} {p:gU} {j k s t q i:Nat} {d:aA} {x y:Int}
variable {a:Nat} {b:Int}
variable {out:aA} {at_:Int}
end
section
variable {n:Int} {rs:Rows} {l:aA} {q:Nat} {x y:Int}
end
end Go.Ew
namespace Go.Ew
section
variable {n:Int} {rs:Rows} {a b c x y:Int} (h:bI n rs=true) (ha:0≤a∧a<n) (hb:0≤b∧b<n)
include h ha hb
theorem Ix (hs:(fu n rs a b).isSome=true):∃w,(fu n rs a b).getD []=rC w∧Ii n.toNat (gi rs) a.toNat b.toNat w∧a.toNat<n.toNat:=by
 rw[zU ⟨ha.1,ha.2,hb.1,hb.2⟩] at hs ⊢
 cases hf:EA n.toNat (gi rs) a.toNat b.toNat with
 |none=>rw[hf] at hs;cases hs
 |some w=>exact⟨w,rfl,FH hf,by omega⟩
theorem Uz (hs:(fu n rs a b).isSome=true):2≤((fu n rs a b).getD []).length∧(((fu n rs a b).getD []).length:Int)≤n+1:=by
 obtain⟨w,e,hB,SE⟩:=Ix h ha hb hs
 have h2:=FJ hB SE
 obtain⟨L,hL⟩:=hB.1
 have h1:=lb hL
 rw[e];unfold rC;rw[ane]
 omega
end
end Go.Ew
namespace Go.Ew
section
variable {n a b:Int} {rs:Rows}
theorem AV (hs:(fu n rs a b).isSome=true):(0≤a∧a<n)∧0≤b∧b<n:=by
 unfold fu at hs
 split at hs
 ·omega
 ·cases hs
theorem Ux (h:bI n rs=true) (hs:(fu n rs a b).isSome=true):2≤((fu n rs a b).getD []).length∧(((fu n rs a b).getD []).length:Int)≤n+1:=Uz h (AV hs).1 (AV hs).2 hs
theorem Uy (h:bI n rs=true) (hs:(fu n rs a b).isSome=true) {q:Nat} {x:Int} (hx:((fu n rs a b).getD [])[q]? =some x):0≤x∧x<n:=by
 obtain⟨w,hw,⟨⟨L,hb⟩, -⟩,hn⟩:=Ix h (AV hs).1 (AV hs).2 hs
 rw[hw] at hx
 unfold rC at hx
 rw[amS] at hx
 cases hq:w[q]? with
 |none=>rw[hq] at hx;cases hx
 |some y=>
  rw[hq] at hx
  have:=Dr hb hn y<|dN hq
  have e:((y:Nat):Int)=x:=amE hx
  omega
end
end Go.Ew
namespace Go.Ew
variable {r a b:Nat} {k:Int}
section
variable (U:List aO) (fo:aA)
def Ie (k:Int):Prop:=
 (k=1∧∃r:Nat,fo[r]? =some (-2))∨
 (k=2∧∃i,i<U.length∧pP U fo i i=true)∨
 (k=3∧∃r a,r<U.length∧a<U.length∧fo[r]? =some (-1)∧iM U (rG U ((r:Nat):Int)) ((a:Nat):Int)=false∧pP U fo a r=true)∨
 (k=4∧∃r a b,r<U.length∧a<U.length∧b<U.length∧fo[r]? =some ((b:Nat):Int)∧a≠b∧iM U (rG U ((r:Nat):Int)) ((a:Nat):Int)=false∧pP U fo a r=true∧pP U fo b a=true)∨
 (k=5∧∃i,i<U.length∧cl U.length (I_ U fo) i i=true)∨
 (k=6∧∃o r a,o<U.length∧r<U.length∧a<U.length∧((r:Nat):Int)∈lP U ((o:Nat):Int)∧fo[r]? =some (-1)∧iM U (rG U ((r:Nat):Int)) ((a:Nat):Int)=false∧By U fo ((o:Nat):Int) a r=true)∨
 (k=7∧∃o i,o<U.length∧i<U.length∧By U fo ((o:Nat):Int) i i=true)
end
section
variable {U:List aO} {fo:aA} {n:Nat} {p:gU}
theorem nJ {α:Type} {l:List α} {q:α→Bool}:(l.find? q).isSome=true↔∃x∈l,q x=true:=by
 rw[List.find?_isSome]
theorem A4:(cW ((n:Nat):Int) (cJ n p)).isSome=true↔∃i,i<n∧p i i=true:=by
 unfold cW
 rw[nJ,dM]
 constructor
 ·rintro⟨i,hi,h⟩
  have hi:=amH.1 hi
  rw[uH hi hi] at h
  exact⟨i,hi,h⟩
 ·rintro⟨i,hi,h⟩
  exact⟨i,amH.2 hi,by rw[uH hi hi];exact h⟩
theorem sU (hr:r<n) {z:Int}:z∈dv U ((n:Nat):Int) (cJ n p) ((r:Nat):Int)↔∃a,a<n∧p a r=true∧iM U (rG U ((r:Nat):Int)) ((a:Nat):Int)=false∧z=((a:Nat):Int):=by
 unfold dv aY
 rw[amW]
 unfold eY
 rw[amF aj,wW,dM]
 constructor
 ·rintro⟨⟨a,ha,h,rfl⟩,h2⟩
  refine⟨a,by omega,?_,by simpa using h2,J⟩
  rw[dM,jD aj hr] at h
  exact h
 ·rintro⟨a,ha,h,h2,rfl⟩
  refine⟨⟨a,by omega,?_,J⟩,by rw[h2];rfl⟩
  rw[dM,jD ha hr]
  exact h
theorem z8 {l:aA}:decide (0<((l.length:Nat):Int))=true↔∃z,z∈l:=by
 rw[amB]
 cases l with
 |nil=>simp
 |cons a l=>simp only[iB];exact⟨fun _=>⟨a,by simp⟩,fun _=>by omega⟩
theorem wL (hl:fo.length=U.length) (hr:r<U.length) {x d:Int}:fo.getD r d=x↔fo[r]? =some x:=by
 rw[im,eR aj]
 simp
theorem Ub:(pt fo k).isSome=true↔∃r:Nat,fo[r]? =some (-2):=by
 rw[←Nz,amB]
 have h:=uB (p:=fun z_:Int=>decide ((-2)=z_)) (r:=fo)
 rw[←amB (p:=0≤_),h,anc]
 simp only[amB]
 constructor
 ·rintro⟨x,hx,rfl⟩
  obtain⟨r,hr⟩:=apr hx
  exact⟨r,hr⟩
 ·rintro⟨r,hr⟩
  exact⟨_,dN hr,J⟩
theorem wF {n:Nat} {q:Nat→Bool}:((List.range n).find? q).isSome=true↔∃i,i<n∧q i=true:=by
 rw[nJ]
 simp only[amH]
theorem Ht (hl:fo.length=U.length) (eZ:∀x∈fo,x<((U.length:Nat):Int)) (hk:k=1∨k=2∨k=3∨k=4∨k=5∨k=6∨k=7):(kc U fo k).isSome=true↔Ie U fo k:=by
 unfold kc Ie
 rcases hk with rfl|rfl|rfl|rfl|rfl|rfl|rfl
 ·simp[Ub]
 ·simp only[Int.reduceEq,aod,anu,apC,apI,apK,ao2]
  rw[←Cd]
  exact A4
 ·simp only[Int.reduceEq,aod,anu,apC,apI,apK,ao2]
  unfold qd Ap
  rw[apa,wF,hl]
  constructor
  ·rintro⟨r,hr,h⟩
   unfold vB at h
   rw[eW,amB,wL hl hr] at h
   obtain⟨z,hz⟩:=z8.1 h.2
   unfold cC at hz
   obtain⟨a,ha,h1,h2,_⟩:=(sU hr).1 hz
   exact⟨r,a,hr,ha,h.1,h2,h1⟩
  ·rintro⟨r,a,hr,ha,h1,h2,h3⟩
   refine⟨r,hr,?_⟩
   unfold vB
   rw[eW,amB,wL hl hr]
   exact⟨h1,z8.2 ⟨((a:Nat):Int),(sU hr).2 ⟨a,ha,h3,h2,J⟩⟩⟩
 ·simp only[Int.reduceEq,aod,anu,apC,apI,apK,ao2]
  unfold qe FI
  rw[apa,wF,hl]
  constructor
  ·rintro⟨r,hr,h⟩
   unfold vX zC at h
   rw[eW,nJ] at h
   obtain⟨h0,z,hz,hq⟩:=h
   have h0:¬fo.getD r 0<0:=by simpa using h0
   unfold cC at hz
   obtain⟨a,ha,h1,h2,rfl⟩:=(sU hr).1 hz
   have hb:fo[r]? =some (((fo.getD r 0).toNat:Nat):Int):=by
    rw[←wL hl hr (d:=0)];omega
   have BN:=eZ _<|dN hb
   unfold zB at hq
   rw[eW] at hq
   obtain⟨IN,nt⟩:=hq
   have gD:¬((a:Nat):Int)=fo.getD r 0:=by simpa using IN
   have hcc:((((fo.getD r 0).toNat:Nat)):Int)=fo.getD r 0:=by omega
   rw[←hcc] at nt
   unfold cC at nt
   rw[uH aj ha] at nt
   exact⟨r,a,(fo.getD r 0).toNat,hr,ha,by omega,hb,by omega,h2,h1,nt⟩
  ·rintro⟨r,a,b,hr,ha,hb,h1,h2,h3,h4,h5⟩
   refine⟨r,hr,?_⟩
   have h1':=(wL hl hr (d:=0)).2 h1
   unfold vX zC
   rw[eW,nJ,h1']
   refine⟨by simp,((a:Nat):Int),(sU hr).2 ⟨a,ha,h4,h3,J⟩,?_⟩
   unfold zB cC
   rw[eW,uH hb ha]
   exact⟨by simp;omega,h5⟩
 ·simp only[Int.reduceEq,aod,anu,apC,apI,apK,ao2]
  rw[←Cd]
  exact A4
 ·simp only[Int.reduceEq,aod,anu,apC,apI,apK,ao2]
  unfold sA Ir
  rw[apa,wF]
  constructor
  ·rintro⟨o,ho,h⟩
   unfold Iq D5 at h
   obtain⟨z,hz,hq⟩:=nJ.1 h
   have hz2:z∈cF U ((o:Nat):Int):=by
    unfold lP aY at hz
    exact(amW.1 hz).1
   unfold B_ at hq
   rw[eW,amB] at hq
   obtain⟨h1,h2⟩:=hq
   have hzn:0≤z∧z<((U.length:Nat):Int):=by
    by_cases hz0:0≤z∧z<((U.length:Nat):Int)
    ·exact hz0
    ·exfalso
     rw[z8] at h2
     obtain⟨y,hy⟩:=h2
     unfold dv aY eY at hy
     rw[amI hz0] at hy
     simp at hy
   obtain⟨r,rfl⟩:∃r:Nat,z=((r:Nat):Int):=⟨z.toNat,by omega⟩
   have hr:r<U.length:=by omega
   rw[dM,wL hl hr] at h1
   obtain⟨y,hy⟩:=z8.1 h2
   unfold db at hy
   obtain⟨a,ha,h3,h4,_⟩:=(sU hr).1 hy
   exact⟨o,r,a,ho,hr,ha,hz,h1,h4,h3⟩
  ·rintro⟨o,r,a,ho,hr,ha,h1,h2,h3,h4⟩
   refine⟨o,ho,?_⟩
   unfold Iq D5
   refine nJ.2 ⟨((r:Nat):Int),h1,?_⟩
   unfold B_
   rw[eW,amB,dM,wL hl hr]
   exact⟨h2,z8.2 ⟨((a:Nat):Int),(sU hr).2 ⟨a,ha,h4,h3,J⟩⟩⟩
 ·simp only[Int.reduceEq,aod,anu,apC,apI,apK,ao2]
  unfold sy Ik
  rw[apa,wF]
  constructor
  ·rintro⟨o,ho,h⟩
   unfold WS at h
   obtain⟨i,hi,h⟩:=A4.1 h
   exact⟨o,i,ho,hi,h⟩
  ·rintro⟨o,i,ho,hi,h⟩
   exact⟨o,ho,A4.2 ⟨i,hi,h⟩⟩
end
structure Jn (kC:List aO) (vo:aA) (U:List aO) (fo:aA) (g:Nat→Nat):Prop where
 lt:∀a,a<kC.length→g a<U.length
 inj:∀a b,a<kC.length→b<kC.length→g a=g b→a=b
 ah:∀a b,a<kC.length→b<kC.length→G7 kC a b=true→G7 U (g a) (g b)=true
 fr:∀r x,vo[r]? =some x→fo[g r]? =some (if 0≤x then ((g x.toNat:Nat):Int) else x)
 wr:∀a r,a<kC.length→r<kC.length→iM kC (rG kC ((r:Nat):Int)) ((a:Nat):Int)=false→iM U (rG U ((g r:Nat):Int)) ((g a:Nat):Int)=false
 kp:∀o r,o<kC.length→r<kC.length→((r:Nat):Int)∈lP kC ((o:Nat):Int)→((g r:Nat):Int)∈lP U ((g o:Nat):Int)
section
variable {kC U:List aO} {vo fo:aA} {g:Nat→Nat}
theorem Jn.ed (E:Jn kC vo U fo g) (hl:vo.length=kC.length) (pj:fo.length=U.length) (ha:a<kC.length) (hb:b<kC.length) (h:Me kC vo a b=true):Me U fo (g a) (g b)=true:=by
 unfold Me at h ⊢
 rw[amM] at h ⊢
 rcases h with h|h
 ·exact .inl (E.ah a b ha hb h)
 ·refine .inr ?_
  unfold KR at h ⊢
  rw[amB,wL hl hb] at h
  have:=E.fr b _ h
  rw[amF aj,dM] at this
  rw[amB,wL pj (E.lt b hb)]
  exact this
theorem Jn.co (E:Jn kC vo U fo g) (hl:vo.length=kC.length) (pj:fo.length=U.length) (ha:a<kC.length) (hb:b<kC.length) (h:pP kC vo a b=true):pP U fo (g a) (g b)=true:=by
 unfold pP at h
 refine((qW ha hb).1 h).least (R:=fun x y=>pP U fo (g x) (g y)=true) (fun x y hx hy hp=>xY<|E.ed hl pj hx hy hp) fun x y z hx hy hz h1 h2=>Bl (E.lt y hy) h1 h2
theorem Jn.cf (E:Jn kC vo U fo g) (eZ:∀x∈vo,x<((kC.length:Nat):Int)) {p' p:Nat→cb} (hp:∀a b,a<kC.length→b<kC.length→p' a b→p (g a) (g b)) (h:MT kC vo p' a b r):MT U fo p (g a) (g b) (g r):=by
 have hb:=eZ _<|dN h.fr
 have hf:=E.fr r _ h.fr
 rw[amF aj,dM] at hf
 exact⟨E.lt a h.a1,E.lt r h.r1,hf,fun e=>h.ne (E.inj a b h.a1 aj e),E.wr a b h.a1 aj h.wr,hp a r h.a1 h.r1 h.ah⟩
theorem A2 {U:List aO} {fo:aA} {o:Nat} (ho:o<U.length) (ha:a<U.length):((a:Nat):Int)∈bP ((U.length:Nat):Int) (cC U fo) ((o:Nat):Int)↔pP U fo a o=true∨a=o:=by
 unfold bP
 rw[amF aj,wW,dM,dM]
 constructor
 ·rintro⟨k,hk,h,e⟩
  obtain rfl:k=a:=by omega
  rw[amM,amB] at h
  unfold cC at h
  rw[jD hk ho] at h
  exact h
 ·intro h
  refine⟨a,ha,?_,J⟩
  rw[amM,amB]
  unfold cC
  rw[jD ha ho]
  exact h
theorem Jn.sn (E:Jn kC vo U fo g) (hl:vo.length=kC.length) (pj:fo.length=U.length) (eZ:∀x∈vo,x<((kC.length:Nat):Int)) {o:Nat} (ho:o<kC.length) (ha:a<kC.length) (hb:b<kC.length) (h:By kC vo ((o:Nat):Int) a b=true):By U fo ((g o:Nat):Int) (g a) (g b)=true:=by
 have hR:=aaB U fo ((g o:Nat):Int)
 have key:O5 kC vo ((o:Nat):Int) (fun x y=>x<kC.length→y<kC.length→By U fo ((g o:Nat):Int) (g x) (g y)=true):=by
  refine⟨fun x y hx hy hc h1 h2 _ _=>?_,fun x y z hx hy hz h1 h2 _ _=>?_,fun x y r hr k hx hy=>?_⟩
  ·rw[A2 ho hx] at h1
   rw[A2 ho hy] at h2
   refine hR.base _ _ (E.lt x hx) (E.lt y hy) (E.co hl pj hx hy hc) ((A2 (E.lt o ho)<|E.lt x hx).2 ?_)<|(A2 (E.lt o ho)<|E.lt y hy).2 ?_
   ·exact h1.imp (E.co hl pj hx ho)<|amz g
   ·exact h2.imp (E.co hl pj hy ho)<|amz g
  ·exact hR.trans _ _ _ (E.lt x hx) (E.lt y hy) (E.lt z hz) (h1 hx hy) (h2 hy hz)
  ·exact hR.Pq _ _ (g r) (E.kp o r ho k.r1 hr)<|E.cf eZ (p:=fun x y=>By U fo ((g o:Nat):Int) x y=true) (fun a b ha hb hp=>hp ha hb) k
 exact pT.1 h _ key ha hb
end
structure Dp (U:List aO) (fo:aA) (t:Nat→Nat):Prop where
 inj:∀a b,a<U.length→b<U.length→t a=t b→a=b
 ah:∀a b,a<U.length→b<U.length→G7 U a b=true→t a<t b
 thin:∀r:Nat,fo[r]?≠some (-2)
 rf:∀(r b:Nat),r<U.length→b<U.length→fo[r]? =some ((b:Nat):Int)→t b<t r∧rG U ((b:Nat):Int)=rG U ((r:Nat):Int)
 last:∀(r a b:Nat),r<U.length→a<U.length→b<U.length→fo[r]? =some ((b:Nat):Int)→iM U (rG U ((r:Nat):Int)) ((a:Nat):Int)=false→t a<t r→a≠b→t a<t b
 init:∀(r a:Nat),r<U.length→a<U.length→fo[r]? =some (-1)→iM U (rG U ((r:Nat):Int)) ((a:Nat):Int)=false→¬t a<t r
section
variable {U:List aO} {fo:aA} {t:Nat→Nat}
theorem Dp.co (E:Dp U fo t) (hl:fo.length=U.length) (ha:a<U.length) (hb:b<U.length) (h:pP U fo a b=true):t a<t b:=by
 refine((qW ha hb).1 h).least (R:=fun x y=>t x<t y) (fun x y hx hy hp=>?_) fun x y z _ _ _ h1 h2=>apN h1 h2
 unfold Me at hp
 rw[amM] at hp
 rcases hp with hp|hp
 ·exact E.ah x y hx hy hp
 ·unfold KR at hp
  rw[amB,wL hl hy] at hp
  exact(E.rf y x hy hx hp).1
theorem Dp.cf (E:Dp U fo t) (eZ:∀x∈fo,x<((U.length:Nat):Int)) {p:Nat→cb} (h:MT U fo p a b r) (hp:p a r→t a<t r):t a<t b:=by
 have hb:=eZ _<|dN h.fr
 have hw:=h.wr
 rw[(E.rf r b h.r1 aj h.fr).2] at hw
 exact E.last r a b h.r1 h.a1 aj h.fr hw (hp h.ah) h.ne
theorem Dp.sn (E:Dp U fo t) (hl:fo.length=U.length) (eZ:∀x∈fo,x<((U.length:Nat):Int)) {o:Int} (ha:a<U.length) (hb:b<U.length) (h:By U fo o a b=true):t a<t b:=by
 refine pT.1 h (fun x y=>t x<t y) ⟨fun x y hx hy hc _ _=>E.co hl hx hy hc,fun x y z _ _ _ h1 h2=>apN h1 h2,fun x y r _ k=>E.cf eZ k id⟩
theorem Dp.none (E:Dp U fo t) (hl:fo.length=U.length) (eZ:∀x∈fo,x<((U.length:Nat):Int)):¬Ie U fo k:=by
 unfold Ie
 rintro(⟨h0,r,hr⟩|⟨h0,i,hi,h⟩|⟨h0,r,a,hr,ha,h1,h2,h3⟩|⟨h0,r,a,b,hr,ha,hb,h1,h2,h3,h4,h5⟩|⟨h0,i,hi,h⟩|⟨h0,o,r,a,ho,hr,ha,h1,h2,h3,h4⟩|⟨h0,o,i,ho,hi,h⟩)
 ·exact E.thin r hr
 ·exact aoF _<|E.co hl hi hi h
 ·exact E.init r a hr ha h1 h2<|E.co hl ha hr h3
 ·have:=E.last r a b hr ha hb h1 h3 (E.co hl ha hr h4) h2
  have:=E.co hl hb ha h5
  omega
 ·refine aoF (t i)<|((qW hi hi).1 h).least (R:=fun x y=>t x<t y) (fun x y hx hy hp=>?_) fun x y z _ _ _ h1 h2=>apN h1 h2
  unfold I_ at hp
  rw[amM,@decide_eq_true_iff _ (Classical.propDecidable _)] at hp
  rcases hp with hp|⟨r,hp⟩
  ·exact E.co hl hx hy hp
  ·exact E.cf eZ hp fun h=>E.co hl hp.a1 hp.r1 h
 ·exact E.init r a hr ha h2 h3<|E.sn hl eZ ha hr h4
 ·exact aoF _<|E.sn hl eZ hi hi h
end
section
variable {U kC:List aO} {fo vo:aA}
theorem BR (hl:fo.length=U.length) (eZ:∀x∈fo,x<((U.length:Nat):Int)) {lv:Int}:je U fo lv=none↔∀k∈dS lv,¬Ie U fo k:=by
 unfold je
 rw[aoV]
 refine forall_congr' fun k=>forall_congr' fun hk=>?_
 rw[←Ht hl eZ (Lq hk)]
 cases kc U fo k<;>simp
theorem Iy {x:yc} (h:kc U fo k=some x):x.1=k:=by
 unfold kc at h
 split at h
 ·unfold pt at h;split at h
  ·cases h;rfl
  ·cases h
 ·split at h
  ·unfold kb at h;obtain⟨_,_,rfl⟩:=am2.1 h;rfl
  ·split at h
   ·unfold qd at h;obtain⟨_,_,rfl⟩:=am2.1 h;rfl
   ·split at h
    ·unfold qe at h;obtain⟨_,_,rfl⟩:=am2.1 h;rfl
    ·split at h
     ·unfold kb at h;obtain⟨_,_,rfl⟩:=am2.1 h;rfl
     ·split at h
      ·unfold sA at h;obtain⟨_,_,rfl⟩:=am2.1 h;rfl
      ·unfold sy at h;obtain⟨_,_,rfl⟩:=am2.1 h;rfl
end
end Go.Ew
namespace Go.Ew
variable {U:List aO} {fo:aA} {lv:Int}
section
variable {xs ys:List ew} {q k:Nat} {x:ew} {z:ew}
theorem ZU (h:ys.length=xs.length) (hq:q≤ys.length):((ys.take q++List.replicate (ys.length-q) z).take ((q:Nat):Int).toNat).length≤xs.length:=by
 simp only[dM,iu,fN,ot];omega
theorem ZT (h:∀x∈ys,x∈xs) (hq:q≤ys.length):∀x∈(ys.take q++List.replicate (ys.length-q) z).take ((q:Nat):Int).toNat,x∈xs:=by
 rw[dM,an2 (by rw[iu];omega),amL (by rw[iu];omega)]
 exact fun x hx=>h x<|anU hx
theorem ZS (h:ys.length=xs.length∧∀x∈ys,x∈xs) {i:Nat} (hx:ys[i]? =some x):(ys.set k x).length=xs.length∧∀y∈ys.set k x,y∈xs:=by
 refine⟨by rw[amA];exact h.1,fun y hy=>?_⟩
 rcases anr hy with hy|rfl
 ·exact h.2 y hy
 ·exact h.2 _<|dN hx
end
theorem Ta {n:Int} {rs:Rows} (hn:n=((U.length:Nat):Int)) (hr:bI n rs=true) (eD:fo.length=U.length) (fK:∀x∈fo,x<((U.length:Nat):Int)):oC U.length (cP U fo n rs):=by
 subst hn
 have h:=qV (U:=U) (fo:=fo) hr
 obtain⟨m,p,e,hm,rfl⟩:=lW hr
 obtain rfl:m=U.length:=by omega
 exact DW eD fK h
theorem HQ (h:¬fh U fo lv=0):je U fo lv=none:=by
 unfold fh at h
 split at h
 ·exact absurd J h
 ·cases e:je U fo lv<;>simp_all
theorem OQ (h:fh U fo lv=0):(je U fo lv).isSome=true:=by
 unfold fh at h
 split at h
 ·assumption
 ·cases h
theorem ZG {k r a b o:Int} (h:ql (je U fo lv) k r a b o) (hc:fh U fo lv=0) (hk:k=6∨k=7):0≤o∧o<((U.length:Nat):Int):=by
 obtain⟨y,hy⟩:=am0.1 (OQ hc)
 have e:=h.2 y hy
 subst e
 unfold je at hy
 obtain⟨q,hq,hp⟩:=List.exists_of_findSome?_eq_some hy
 have e:=Iy hp
 simp only at e
 subst e
 rcases hk with rfl|rfl
 ·have hp:sA U fo 6=some (6,r,a,b,o):=hp
  unfold sA at hp
  obtain⟨o',h1,h2⟩:=am2.1 hp
  simp only[anm] at h2
  unfold Ir at h1
  have:=amH.1<|ao0 h1
  omega
 ·have hp:sy U fo 7=some (7,r,a,b,o):=hp
  unfold sy at hp
  obtain⟨o',h1,h2⟩:=am2.1 hp
  simp only[anm] at h2
  unfold Ik at h1
  have:=amH.1<|ao0 h1
  omega
end Go.Ew
namespace Go.Ew
open Go.RowKit
def pC (s:bA):List (BitVec 8):=s.data.toList.map fun b=>b.toBitVec
def nz (s:bA) (i:Int):Int:=((s[i.toNat]?).map fun c=>((c.toNat:Nat):Int)).getD 0
theorem Ty {s:bA} {i:Int} {c:UInt8} (h:s[i.toNat]? =some c):nz s i=((c.toNat:Nat):Int):=by unfold nz;rw[h];rfl
theorem Fy {s:bA} {i j:Nat} (h:i≤j) (h2:j≤s.size):(s.extract i j).size=j-i:=by rw[ape];omega
theorem C2 (s:bA) (i j:Nat):(s.extract i j).size≤s.size:=by rw[ape];omega
theorem uO (s:bA):(pC s).length=s.size:=by unfold pC;rw[ane,ang];rfl
section
variable {P:Program} {n:Nat} {ops:Array Oper} {f:aP} {w:aG} {K:aP→aG→Prop} {x y:Operand} {d:Nat} {ty T T2 e:TypeId} {ps:String} {af:Array Edge} {M M0:cb} {w0:aG} {l:List Item} {B:Nat} {a:Option Addr} {k c:Nat} {s:bA} {lo hi:Int} {rm pe:Operand}
theorem Pl (ox:bJ n x=true) (ol:bJ n rm=true) (oh:bJ n pe=true) (hx:ev f x=.string s) (hl:ev f rm=.int .i64 lo) (hh:ev f pe=.int .i64 hi) (hb:0≤lo∧lo≤hi∧hi≤(s.size:Int)) (hu:P.underlying T=some .string) (h:K (cx f d (.string (s.extract lo.toNat hi.toNat))) w):
  SO P n ops ⟨some d,.slice T x (some rm) (some pe) none,ty,ps,af,none⟩ f w K:=by
 refine SO.value (v:=.string (s.extract lo.toNat hi.toNat)) (w':=w) ?_ h
 simp[execOp,aM ox,aM ol,aM oh,hx,hl,hh,Instr.sliceAt,gK hu,run_slice_string (P:=P) w T s .i64 .i64 lo hi hu hb.1 hb.2.1 hb.2.2]
theorem Uh (ox:bJ n x=true) (ol:bJ n rm=true) (hx:ev f x=.string s) (hl:ev f rm=.int .i64 lo) (hb:0≤lo∧lo≤(s.size:Int)) (hu:P.underlying T=some .string) (h:K (cx f d (.string (s.extract lo.toNat s.size))) w):
  SO P n ops ⟨some d,.slice T x (some rm) none none,ty,ps,af,none⟩ f w K:=by
 refine SO.value (v:=.string (s.extract lo.toNat s.size)) (w':=w) ?_ h
 simp[execOp,aM ox,aM ol,hx,hl,Instr.sliceAt,gK hu,run_slice_string_l (P:=P) w T s hu .i64 lo hb.1 hb.2]
theorem ag' (ox:bJ n x=true) (oh:bJ n pe=true) (hx:ev f x=.string s) (hh:ev f pe=.int .i64 hi) (hb:0≤hi∧hi≤(s.size:Int)) (hu:P.underlying T=some .string) (h:K (cx f d (.string (s.extract 0 hi.toNat))) w):
  SO P n ops ⟨some d,.slice T x none (some pe) none,ty,ps,af,none⟩ f w K:=by
 refine SO.value (v:=.string (s.extract 0 hi.toNat)) (w':=w) ?_ h
 simp[execOp,aM ox,aM oh,hx,hh,Instr.sliceAt,gK hu,run_slice_string_h (P:=P) w T s hu .i64 hi hb.1 hb.2]
theorem M4 (s:bA) (cap i:Nat) {b:BitVec 8} (h:(pC s)[i]? =some b):(bytesRow s cap)[i]? =some (U8 b):=by
 have hi:=(dU.1 h).1
 rw[uO] at hi
 unfold pC at h
 rw[amS,an1] at h
 unfold bytesRow
 have tZ:i<s.data.size:=hi
 rw[aou (by simpa using tZ),Array.getElem?_map]
 rw[Array.getElem?_eq_getElem tZ] at h ⊢
 simp only[anX,amO] at h ⊢
 rw[←h]
 rfl
theorem aiR (H:HI M0 w0 w l) (ox:bJ n x=true) (hx:ev f x=.string s) (oQ:s.size≤maxLen) (hs:P.underlying T=some .string) (hd:P.underlying T2=some (.slice e)) (he:P.underlying e=some (.int .u8))
  (h:∀a c w',Ext w w'→HI M0 w0 w' (tv (.slice a (pC s).length c) (pC s)::l)→K (cx f d (.slice a (pC s).length c)) w'):
  SO P n ops ⟨some d,.convert T T2 x,ty,ps,af,none⟩ f w K:=by
 have hr:=run_bytes_of_string (P:=P) w T T2 e s hs hd he
 have hX:Ext w (w.drew.alloc (.cells (bytesRow s (grownCap w s.size 0 e)) e ((bytesRow s (grownCap w s.size 0 e)).size,(bytesRow s (grownCap w s.size 0 e)).size+1))):=(Ext.drew w).trans (Ext.alloc _ _)
 have hk:K (cx f d (.slice (some ⟨w.heap.size,0,none⟩) (pC s).length (grownCap w s.size 0 e))) _:=h _ _ _ hX<|(H.ext hX).put rfl (RV.list.2 ⟨_,_,_,J,J,by rw[uO];exact grownCap_ge w s.size 0 e,grownCap_le_maxLen w s.size 0 e oQ,.inr ⟨_,J,fun i b hb=>?_⟩⟩)
 ·refine SO.value (v:=.slice (some ⟨w.heap.size,0,none⟩) s.size (grownCap w s.size 0 e)) ?_<|by rw[uO] at hk;exact hk
  simp[execOp,aM ox,hx,hr]
 ·have lk:(⟨w.heap.size,0,none⟩:Addr).add (i*GT.size (BitVec 8))=⟨w.heap.size,i,none⟩:=by show Addr.add _ (i*1)=_;rw[FL,aoJ]
  rw[lk]
  refine⟨[U8 b],J,fun hM=>?_,fun j v hj=>?_⟩
  ·exact absurd (H.mb _ hM)<|aoF _
  ·cases j with
   |succ j=>simp at hj
   |zero=>
    simp only[amR,amO] at hj
    subst hj
    rw[show ((⟨w.heap.size,i,none⟩:Addr).add 0)=⟨w.heap.size,i,none⟩ from by unfold Addr.add;simp]
    have hg:(w.drew.alloc (.cells (bytesRow s (grownCap w s.size 0 e)) e ((bytesRow s (grownCap w s.size 0 e)).size,(bytesRow s (grownCap w s.size 0 e)).size+1))).heap[w.heap.size]? =some (.cells (bytesRow s (grownCap w s.size 0 e)) e ((bytesRow s (grownCap w s.size 0 e)).size,(bytesRow s (grownCap w s.size 0 e)).size+1)):=by
     show (w.heap.push _)[w.heap.size]? =_
     simp
    rw[cell_of_row _ w.heap.size _ _ e _ hg]
    exact M4 s _ i hb
theorem Xd {kk:IntKind} {i:Int} (ox:bJ n x=true) (oy:bJ n y=true) (hx:ev f x=.string s) (hy:ev f y=.int kk i) (hi:0≤i∧i<(s.size:Int)) (hu:P.underlying T=some .string)
  (h:K (cx f d (.int .u8 (nz s i))) w):SO P n ops ⟨some d,.index T x y,ty,ps,af,none⟩ f w K:=
 Xc ox oy hx hy hi hu fun c hc=>by rw[←Ty hc];exact h
theorem ag_ {i j:Int} (ox:bJ n x=true) (oy:bJ n y=true) (hx:ev f x=.int .u8 i) (hy:ev f y=.int .u8 j) (hi:0≤i-j∧i-j≤255) (h:K (cx f d (.int .u8 (i-j))) w):SO P n ops ⟨some d,.binOp .sub T x y T2,ty,ps,af,none⟩ f w K:=
 bin ox oy hx hy (by simp[binOp,Op.intArith,(w8 hi.1 hi.2).1]) h
theorem Hf (b:bt):IntKind.i64.wrap (b.toNat:Int)=b.toInt:=by
 have:=b.isLt
 unfold IntKind.wrap
 rw[aoX]
 simp[IntKind.bits,IntKind.signed]
 split<;>split<;>omega
theorem cvT {e:TypeDesc} {b:bt} (ox:bJ n x=true) (hx:ev f x=ag b) (h1:P.underlying T=some e) (h2:P.underlying T2=some (.int .i64)) (h:K (cx f d (.int .i64 b.toInt)) w):
  SO P n ops ⟨some d,.convert T T2 x,ty,ps,af,none⟩ f w K:=
 cv ox hx h1 h2 (by rw[Hf];exact h)
end
end Go.Ew
namespace Go.Ew
variable {s:bA} {vs:List bA} {m:List (bA×Int)}
structure QU (cs:bA):Prop where
 two:2≤cs.size
 low:cs.size<4294967281
 asc:∀(j:Nat) b,cs.data.toList[j]? =some b→b.toNat<128
def trimB (s cs:bA):bA:=⟨(Go.Lib.trimS s.data.toList cs.data.toList).toArray⟩
def B5 (s cs:bA):bA:=⟨(Go.Lib.trimLeftS s.data.toList cs.data.toList).toArray⟩
abbrev sm:bA:=⟨#[97,98,99,100,101,102,103,104,105,106,107,108,109,110,111,112,113,114,115,116,117,118,119,120,121,122]⟩
abbrev pZ:bA:=⟨#[48,49,50,51,52,53,54,55,56,57]⟩
theorem Nq:QU sm:=⟨by decide,by decide,fun j b h=>by
 have:∀b∈sm.data.toList,b.toNat<128:=by decide
 exact this b (dN h)⟩
theorem G5:QU pZ:=⟨by decide,by decide,fun j b h=>by
 have:∀b∈pZ.data.toList,b.toNat<128:=by decide
 exact this b (dN h)⟩
theorem dropWhile_nil {α:Type} {p:α→Bool}:∀{l:List α},l.dropWhile p=[]↔l.all p=true
 |[]=>by simp
 |a::l=>by
  rw[List.dropWhile_cons,List.all_cons]
  cases h:p a
  ·simp
  ·simp only[aod,anz];exact dropWhile_nil
theorem Q5 {l cs:List UInt8}:Go.Lib.trimS l cs=[]↔l.all (cs.contains ·)=true:=by
 unfold Go.Lib.trimS Go.Lib.trimLeftS Go.Lib.trimRightS
 rw[dropWhile_nil]
 constructor
 ·intro h
  have h1:(l.reverse.dropWhile (cs.contains ·)).all (cs.contains ·)=true:=by rw[←apk];exact h
  have h2:l.reverse.dropWhile (cs.contains ·)=[]:=by
   cases e:l.reverse.dropWhile (cs.contains ·) with
   |nil=>rfl
   |cons a t=>
    rw[e,List.all_cons,eW] at h1
    have:=List.head?_dropWhile_not (cs.contains ·) l.reverse
    rw[e] at this
    simp only[List.head?_cons] at this
    rw[h1.1] at this;cases this
  have:=dropWhile_nil.1 h2
  rwa [apk] at this
 ·intro h
  rw[apk]
  have:l.reverse.dropWhile (cs.contains ·)=[]:=dropWhile_nil.2<|by rw[apk];exact h
  rw[this];rfl
theorem Il {cs:bA}:trimB s cs=⟨#[]⟩↔s.data.toList.all (cs.data.toList.contains ·)=true:=by
 rw[←Q5]
 unfold trimB
 constructor
 ·intro h
  have:=amz (fun x:bA=>x.data.toList) h
  simpa using this
 ·intro h;rw[h]
theorem D4 (s cs:bA):(B5 s cs).size≤s.size:=by
 show (Go.Lib.trimLeftS s.data.toList cs.data.toList).toArray.size≤s.data.size
 rw[an9,←ang]
 exact(List.dropWhile_sublist _).length_le
theorem Ni (c:UInt8):sm.data.toList.contains c=u6 c:=by
 have:∀n:Fin 256,sm.data.toList.contains (UInt8.ofNat n.1)=u6 (UInt8.ofNat n.1):=by decide +kernel
 have:=this ⟨c.toNat,c.toNat_lt⟩
 simpa using this
theorem Fb:kJ s=(bif !decide (s=⟨#[]⟩) then (bif decide ((s.size:Int)≤8) then decide (trimB s sm=⟨#[]⟩) else false) else false):=by
 have h1:decide (trimB s sm=⟨#[]⟩)=s.data.toList.all u6:=by
  rw[amU,amB,Il]
  rw[show (fun x=>sm.data.toList.contains x)=u6 from funext Ni]
 have h2:(!decide (s=⟨#[]⟩))=decide (1≤s.size):=by
  rw[amU]
  simp only[anM,amN,amB]
  constructor
  ·intro h
   rcases apD s.size with h0|h0
   ·exact absurd (by cases s with|mk a=>exact amz ByteArray.mk (aoj h0)) h
   ·exact h0
  ·rintro h rfl
   exact absurd h au
 have h3:decide ((s.size:Int)≤8)=decide (s.size≤8):=by rw[anT];omega
 rw[h1,h2,h3]
 unfold kJ
 cases s.data.toList.all u6<;>cases decide (1≤s.size)<;>cases decide (s.size≤8)<;>rfl
theorem D7 {h:dR}:iN h=(bif decide ((h.flatten.length:Int)≤4096) then !(h.flatten.any (fun (x_:jS)=>!(kJ x_.2.1))) else false):=by
 unfold iN
 have h1:(!(h.flatten.any (fun (x_:jS)=>!(kJ x_.2.1))))=h.flatten.all kZ:=by
  rw[←List.not_all_eq_any_not,Bool.not_not];rfl
 have h2:decide ((h.flatten.length:Int)≤4096)=decide (h.flatten.length≤4096):=by rw[anT];omega
 rw[h1,h2]
 cases h.flatten.all kZ<;>cases decide (h.flatten.length≤4096)<;>rfl
def Bw (vs:List bA) (m:List (bA×Int)):Prop:=∀s,fO m s=if gE vs s<0 then none else some (gE vs s)
theorem U1:Bw [] []:=fun s=>rfl
theorem QA (vs:List bA) (a s:bA):gE (vs++[a]) s=if gE vs s<0 then (if a=s then (vs.length:Int) else -1) else gE vs s:=by
 unfold gE eO
 rw[aps]
 cases e:vs.findIdx? (Gq s) with
 |some i=>show ((i:Nat):Int)=if ((i:Nat):Int)<0 then _ else ((i:Nat):Int);rw[amI aj]
 |none=>
  simp only[Option.none_or,List.findIdx?_cons,List.findIdx?_nil]
  unfold Gq
  by_cases h:a=s<;>simp[h]
theorem U3 (h:Bw vs m) (hs:(fO m s).isSome=true):(fO m s).getD 0=gE vs s∧¬gE vs s<0:=by
 rw[h s] at hs ⊢
 by_cases h0:gE vs s<0
 ·rw[amF h0] at hs;cases hs
 ·rw[amI h0];exact⟨rfl,h0⟩
theorem ID (h:Bw vs m) (hs:(fO m s).isSome=false):gE vs s<0:=by
 rw[h s] at hs
 by_cases h0:gE vs s<0
 ·exact h0
 ·rw[amI h0] at hs;cases hs
theorem U0 (h:Bw vs m) (hs:(fO m s).isSome=false):Bw (vs++[s]) (lJ m s ((vs.length:Nat):Int)):=by
 intro t
 have h0:=ID h hs
 rw[VE,QA,h t]
 by_cases e:t=s
 ·subst e
  rw[amF rfl,amF h0,amF rfl,amI aj]
 ·have e2:¬s=t:=fun k=>e k.symm
  rw[amI e]
  by_cases h1:gE vs t<0
  ·simp only[h1,e2,aod,anu];rfl
  ·simp only[h1,anu]
section
variable {h:dR} {i q:Nat} {vs:List bA} {aE:List aO} {m:List (bA×Int)} {x0:List jS} {x1:jS}
theorem Om (h1:vs=(jI i (iy h i) (h.getD i []) q).1) (h2:aE=(jI i (iy h i) (h.getD i []) q).2) (hm:Bw vs m) (aI:h[((i:Nat):Int).toNat]? =some x0) (bV:x0[((q:Nat):Int).toNat]? =some x1) (hs:(fO m x1.2.1).isSome=false):
  vs++[x1.2.1]=(jI i (iy h i) (h.getD i []) (q+1)).1∧aE++[(((i:Nat):Int),((q:Nat):Int),x1.1,((vs.length:Nat):Int),x1.2.2)]=(jI i (iy h i) (h.getD i []) (q+1)).2:=by
 have hf:=ID hm hs
 subst h1 h2
 rw[fw aI] at *
 exact xo bV hf
theorem Ol (h1:vs=(jI i (iy h i) (h.getD i []) q).1) (h2:aE=(jI i (iy h i) (h.getD i []) q).2) (hm:Bw vs m) (aI:h[((i:Nat):Int).toNat]? =some x0) (bV:x0[((q:Nat):Int).toNat]? =some x1) (hs:(fO m x1.2.1).isSome=true):
  vs=(jI i (iy h i) (h.getD i []) (q+1)).1∧aE++[(((i:Nat):Int),((q:Nat):Int),x1.1,(fO m x1.2.1).getD 0,x1.2.2)]=(jI i (iy h i) (h.getD i []) (q+1)).2:=by
 obtain⟨e,hf⟩:=U3 hm hs
 rw[e]
 subst h1 h2
 rw[fw aI] at *
 exact xn bV hf
end
theorem S0 {α:Type} (h:List (List α)) (j:Nat):((h.take j).flatten).length≤h.flatten.length:=by
 conv=>rhs;rw[←anZ j h]
 rw[aoY,fN];omega
end Go.Ew
namespace Go.Ew
variable {L:List UInt8}
def jO (s p:bA):Bool:=bif decide ((p.size:Int)≤(s.size:Int)) then decide (s.extract 0 (p.size:Int).toNat=p) else false
def eJ (s p:bA):bA:=bif jO s p then s.extract (p.size:Int).toNat s.size else s
abbrev jR:bA:=⟨#[45]⟩
def ga (s:bA) (a:Int):Int:=bif decide (a<0)||decide ((s.size:Int)≤a) then 0 else ((s.extract a.toNat s.size).size:Int)-((B5 (eJ (s.extract a.toNat s.size) jR) pZ).size:Int)
theorem re (s p:bA):(eJ s p).size≤s.size:=by
 unfold eJ
 cases jO s p
 ·exact amD _
 ·exact C2 _ _ _
theorem Ku {s:bA} {a:Int} (h:0≤a∧a≤(s.size:Int)):0≤ga s a∧a+ga s a≤(s.size:Int):=by
 unfold ga
 cases e:(decide (a<0)||decide ((s.size:Int)≤a)) with
 |true=>show (0:Int)≤0∧a+0≤_;omega
 |false=>
  show (0:Int)≤_-_∧a+(_-_)≤_
  have h1:=re (s.extract a.toNat s.size) jR
  have h2:=D4 (eJ (s.extract a.toNat s.size) jR) pZ
  have h3:=Fy (s:=s) (i:=a.toNat) (j:=s.size) aj<|amD _
  omega
def mj (m:Nat):List UInt8→Nat→Option Nat
 |[],n=>some n
 |c::l,n=>if (m-(c.toNat-48))/10<n then none else mj m l (10*n+(c.toNat-48))
def zv (s:bA):bA:=eJ s jR
def k0 (s:bA):Bool:=decide (eJ s jR=⟨#[]⟩)||(!decide (trimB (eJ s jR) pZ=⟨#[]⟩)||(decide (nz (eJ s jR) 0=48)&&!decide (s=⟨#[48]⟩)))
def ob (s:bA):Nat:=bif jO s jR then 9223372036854775808 else 9223372036854775807
def fM (s:bA):Int×Int:=bif k0 s then (0,2) else match mj (ob s) (zv s).data.toList 0 with
 |none=>(0,3)
 |some n=>(bif jO s jR then -((n:Nat):Int) else ((n:Nat):Int),0)
theorem Du {m:Nat} (h9:9≤m):∀{l:List UInt8} {n k:Nat},(∀c∈l,48≤c.toNat∧c.toNat≤57)→n≤m→mj m l n=some k→k≤m
 |[],n,k,_,hn,h=>by cases h;exact hn
 |c::l,n,k,hl,hn,h=>by
  unfold mj at h
  split at h
  ·cases h
  ·rename_i hc
   have:=hl c<|by simp
   exact Du h9 (fun x hx=>hl x<|by simp[hx]) aj h
theorem wO {s:bA} (h:trimB s pZ=⟨#[]⟩):∀c∈s.data.toList,48≤c.toNat∧c.toNat≤57:=by
 intro c hc
 have h1:=amK.1 (Il.1 h) c hc
 have:∀n:Fin 256,pZ.data.toList.contains (UInt8.ofNat n.1)=true→48≤(UInt8.ofNat n.1).toNat∧(UInt8.ofNat n.1).toNat≤57:=by decide +kernel
 have:=this ⟨c.toNat,c.toNat_lt⟩
 simp only[UInt8.ofNat_toNat] at this
 exact this h1
theorem E_ (s:bA):aL (fM s).1∧0≤(fM s).2∧(fM s).2≤3:=by
 unfold fM
 cases hb:k0 s with
 |true=>show aL 0∧(0:Int)≤2∧(2:Int)≤3;exact⟨by unfold aL;decide,by decide,by decide⟩
 |false=>
  show aL (Prod.fst (match mj (ob s) (zv s).data.toList 0 with|none=>_|some n=>_))∧_
  cases e:mj (ob s) (zv s).data.toList 0 with
  |none=>show aL 0∧(0:Int)≤3∧(3:Int)≤3;exact⟨by unfold aL;decide,by decide,by decide⟩
  |some n=>
   have hd:trimB (zv s) pZ=⟨#[]⟩:=by
    unfold k0 at hb
    simp only[aoz,ao7,amB] at hb
    exact hb.2.1
   refine⟨?_,by show (0:Int)≤0;decide,by show (0:Int)≤3;decide⟩
   show aL (bif jO s jR then -((n:Nat):Int) else ((n:Nat):Int))
   have hle:=Du (m:=ob s) (by unfold ob;cases jO s jR<;>decide) (wO hd) (an6 _) e
   unfold ob at hle
   unfold aL
   cases h:jO s jR<;>rw[h] at hle
   ·have hle:n≤9223372036854775807:=hle
    show -9223372036854775808≤((n:Nat):Int)∧((n:Nat):Int)≤9223372036854775807
    omega
   ·have hle:n≤9223372036854775808:=hle
    show -9223372036854775808≤ -((n:Nat):Int)∧ -((n:Nat):Int)≤9223372036854775807
    omega
section
variable {s dg:bA} {m nv:bt} {x:BitVec 8} {j:Nat}
theorem HX (h:(pC dg)[((j:Nat):Int).toNat]? =some x):∃c:UInt8,dg.data.toList[j]? =some c∧c.toBitVec=x:=by
 rw[dM] at h
 unfold pC at h
 rw[amS] at h
 exact am2.1 h
theorem Tk (h:trimB dg pZ=⟨#[]⟩) (hx:(pC dg)[((j:Nat):Int).toNat]? =some x):48≤x.toNat∧x.toNat≤57:=by
 obtain⟨c,h1,rfl⟩:=HX hx
 exact wO h c<|dN h1
theorem OM (h:48≤x.toNat∧x.toNat≤57):(BitVec.ofInt 64 (((x.toNat:Nat):Int)-48)).toNat=x.toNat-48:=by
 rw[aop]
 show (((x.toNat:Int)-48)%18446744073709551616).toNat=_
 omega
theorem ON (h:48≤x.toNat∧x.toNat≤57) (hm:9≤m.toNat):((m-BitVec.ofInt 64 (((x.toNat:Nat):Int)-48))/10#64).toNat=(m.toNat-(x.toNat-48))/10:=by
 rw[BitVec.toNat_udiv,BitVec.toNat_sub,OM h]
 have:=m.isLt
 show (2^64-(x.toNat-48)+m.toNat)%2^64/10=_
 congr 1
 omega
theorem Y7 (h:48≤x.toNat∧x.toNat≤57) (hm:9≤m.toNat) (hx:∃c:UInt8,L[j]? =some c∧c.toBitVec=x) (hs:mj m.toNat L 0=mj m.toNat (L.drop j) nv.toNat) (hc:decide (((m-BitVec.ofInt 64 (((x.toNat:Nat):Int)-48))/10#64).toNat<nv.toNat)=true):mj m.toNat L 0=none:=by
 obtain⟨c,h1,rfl⟩:=hx
 rw[amB,ON h hm] at hc
 rw[hs,ans (dU.1 h1).1,(dU.1 h1).2]
 unfold mj
 exact amF hc
theorem UP (h:48≤x.toNat∧x.toNat≤57) (hm:9≤m.toNat) (hx:∃c:UInt8,L[j]? =some c∧c.toBitVec=x) (hs:mj m.toNat L 0=mj m.toNat (L.drop j) nv.toNat) (hc:decide (((m-BitVec.ofInt 64 (((x.toNat:Nat):Int)-48))/10#64).toNat<nv.toNat)=false):mj m.toNat L 0=mj m.toNat (L.drop (j+1)) (10#64*nv+BitVec.ofInt 64 (((x.toNat:Nat):Int)-48)).toNat:=by
 obtain⟨c,h1,rfl⟩:=hx
 rw[amN,ON h hm] at hc
 have e:(10#64*nv+BitVec.ofInt 64 (((c.toBitVec.toNat:Nat):Int)-48)).toNat=10*nv.toNat+(c.toBitVec.toNat-48):=by
  rw[BitVec.toNat_add,BitVec.toNat_mul,OM h]
  have:=m.isLt
  show (10*nv.toNat%2^64+(c.toBitVec.toNat-48))%2^64=_
  omega
 rw[hs,ans (dU.1 h1).1,(dU.1 h1).2,e]
 conv=>lhs;unfold mj
 exact amI hc
theorem N6 (hs:mj m.toNat L 0=mj m.toNat (L.drop j) nv.toNat) (hj:L.length≤j):mj m.toNat L 0=some nv.toNat:=by
 rw[hs,List.drop_of_length_le hj];rfl
theorem Y_ (s:bA):9≤ob s:=by unfold ob;cases jO s jR<;>decide
theorem O1 (h:k0 s=false):trimB (eJ s jR) pZ=⟨#[]⟩:=by
 unfold k0 at h
 simp only[aoz,ao7,amB] at h
 exact h.2.1
theorem ZR (h:¬eJ s jR=⟨#[]⟩):(0:Int)<((eJ s jR).size:Int):=by
 rcases apD (eJ s jR).size with h0|h0
 ·exfalso
  refine h ?_
  cases e:eJ s jR with
  |mk a=>rw[e] at h0;exact amz ByteArray.mk (aoj h0)
 ·omega
theorem AZ (h:k0 s=true):fM s=(0,2):=by unfold fM;rw[h];rfl
theorem UU (h:k0 s=false) (hv:mj (ob s) (zv s).data.toList 0=none):fM s=(0,3):=by unfold fM;rw[h,hv];rfl
theorem US (h:k0 s=false) (hp:jO s jR=true) (hv:mj (ob s) (zv s).data.toList 0=some nv.toNat):fM s=((-nv).toInt,0):=by
 have hr:=Du (m:=ob s) (by unfold ob;cases jO s jR<;>decide) (wO (by
  unfold k0 at h
  simp only[aoz,ao7,amB] at h
  exact h.2.1)) (an6 _) hv
 unfold ob at hr
 rw[hp] at hr
 have hr:nv.toNat≤9223372036854775808:=hr
 unfold fM
 rw[h,hv,hp]
 show (-((nv.toNat:Nat):Int),(0:Int))=_
 congr 1
 rw[aoX,BitVec.toNat_neg]
 have:=nv.isLt
 by_cases h0:nv.toNat=0
 ·simp[h0]
 ·rw[aoO aj]
  split<;>omega
theorem UR (h:k0 s=false) (hp:jO s jR=false) (hv:mj (ob s) (zv s).data.toList 0=some nv.toNat):fM s=(nv.toInt,0):=by
 have hr:=Du (m:=ob s) (by unfold ob;cases jO s jR<;>decide) (wO (by
  unfold k0 at h
  simp only[aoz,ao7,amB] at h
  exact h.2.1)) (an6 _) hv
 unfold ob at hr
 rw[hp] at hr
 have hr:nv.toNat≤9223372036854775807:=hr
 unfold fM
 rw[h,hv,hp]
 show (((nv.toNat:Nat):Int),(0:Int))=_
 congr 1
 rw[aoX]
 split<;>omega
end
def cu (s:bA) (a e b:Int):Bool:=bif decide (e=0) then (bif decide (a<(s.size:Int)) then decide (nz s a=b) else false) else false
def cM (s:bA) (a e b:Int):Int:=bif cu s a e b then a+1 else a
def cg (e x:Int):Int:=bif decide (e=0) then x else e
def kr (s:bA) (a e b:Int):Int×Int:=bif cu s a e b then (a+1,e) else (a,cg e 2)
def pg (s:bA):Nat→Int→Int
 |0,a=>a
 |k+1,a=>bif (bif decide (a<(s.size:Int)) then (bif decide (97≤nz s a) then decide (nz s a≤122) else false) else false) then pg s k (a+1) else a
def zN (s:bA) (a e:Int) (j:Nat):Int:=bif decide (e=0) then pg s (8-j) (a+((j:Nat):Int)) else a+((j:Nat):Int)
def tn (s:bA) (a e:Int):Int×Int×bA:=(zN s a e 0,(bif decide (zN s a e 0=a) then cg e 2 else e),s.extract a.toNat (zN s a e 0).toNat)
def vQ (s:bA) (a e:Int):Int×Int×Int:=bif !decide (e=0) then (a,e,0) else bif !decide ((fM (s.extract a.toNat (a+ga s a).toNat)).2=0) then (a,cg e (fM (s.extract a.toNat (a+ga s a).toNat)).2,0) else (a+ga s a,e,(fM (s.extract a.toNat (a+ga s a).toNat)).1)
def zX (s:bA) (a on e:Int):Int:=bif (bif decide (on=4096) then (bif cu s a e 119 then true else cu s a e 114) else false) then cg e 3 else e
def tR (s:bA) (a e:Int):Int×Int:=bif cu s a e 119 then (cM s a e 119,e) else kr s (cM s a e 119) e 114
def nR (s:bA) (a on e:Int):Int×Int×jS:=
 let e1:=zX s a on e
 let m1:=tR s a e1
 let m2:=kr s m1.1 m1.2 58
 let nm:=tn s m2.1 m2.2
 let m3:=kr s nm.1 nm.2.1 61
 let nb:=vQ s m3.1 m3.2
 (nb.1,nb.2.1,cu s a e1 119,nm.2.2,nb.2.2)
def kI (s:bA):Nat→Int→Int→Int→List jS→Int×Int×Int×List jS
 |0,a,on,e,l=>(a,on,e,l)
 |k+1,a,on,e,l=>bif cu s a e 32 then kI s k (nR s (cM s a e 32) on e).1 (on+1) (nR s (cM s a e 32) on e).2.1 (l++[(nR s (cM s a e 32) on e).2.2]) else (a,on,e,l)
def jN (s:bA) (a on e:Int):Int×Int×Int×List jS:=
 bif cu s a e 10 then (cM s a e 10,on,e,[]) else
  let o:=nR s (cM s a e 10) on e
  let L:=kI s (s.size+1) o.1 (on+1) o.2.1 [o.2.2]
  let m:=kr s (cM s L.1 L.2.2.1 32) L.2.2.1 10
  (m.1,L.2.1,m.2,L.2.2.2)
def gR (s:bA):Nat→Int→Int→Int→dR→Int×Int×Int×dR
 |0,a,on,e,h=>(a,on,e,h)
 |k+1,a,on,e,h=>bif (bif decide (e=0) then decide (a<(s.size:Int)) else false) then gR s k (jN s a on e).1 (jN s a on e).2.1 (jN s a on e).2.2.1 (h++[(jN s a on e).2.2.2]) else (a,on,e,h)
def bg (s:bA):dR×Int×Int:=
 bif !decide ((gR s (s.size+1) 0 0 0 []).2.2.1=0) then ([],(gR s (s.size+1) 0 0 0 []).1,(gR s (s.size+1) 0 0 0 []).2.2.1) else ((gR s (s.size+1) 0 0 0 []).2.2.2,0,0)
section
variable {s:bA} {a e b x:Int} {j:Nat}
theorem sB (h:cu s a e b=true):e=0∧a<(s.size:Int)∧nz s a=b:=by
 unfold cu at h
 cases h1:decide (e=0)<;>rw[h1] at h
 ·cases h
 ·cases h2:decide (a<(s.size:Int))<;>rw[h2] at h
  ·cases h
  ·exact⟨am' h1,am' h2,am' h⟩
theorem ct (h:0≤a∧a≤(s.size:Int)):a≤cM s a e b∧cM s a e b≤(s.size:Int)∧cM s a e b≤a+1:=by
 unfold cM
 cases h1:cu s a e b
 ·show a≤a∧a≤_∧a≤a+1;omega
 ·have:=sB h1
  show a≤a+1∧a+1≤_∧a+1≤a+1;omega
theorem ll (h:0≤e∧e≤3) (hx:0≤x∧x≤3):0≤cg e x∧cg e x≤3:=by
 unfold cg
 cases decide (e=0)
 ·exact h
 ·exact hx
theorem zG {p:Int} (hp:p=a+((j:Nat):Int)) (h:(bif decide (e=0) then (bif decide (p-a<8) then (bif decide (p<(s.size:Int)) then (bif decide (97≤nz s p) then decide (nz s p≤122) else false) else false) else false) else false)=false):zN s a e j=p:=by
 subst hp
 unfold zN
 cases h1:decide (e=0)
 ·rfl
 ·rw[h1] at h
  show pg s (8-j) _=_
  have h:(bif decide (a+((j:Nat):Int)-a<8) then _ else false)=false:=h
  cases h2:decide (a+((j:Nat):Int)-a<8)
  ·have:8-j=0:=by have:=amG h2;omega
   rw[this];rfl
  ·rw[h2] at h
   obtain⟨k,hk⟩:∃k,8-j=k+1:=⟨8-j-1,by have:=am' h2;omega⟩
   rw[hk]
   show (bif _ then _ else _)=_
   have h:(bif decide (a+((j:Nat):Int)<(s.size:Int)) then (bif decide (97≤nz s (a+((j:Nat):Int))) then decide (nz s (a+((j:Nat):Int))≤122) else false) else false)=false:=h
   rw[h];rfl
theorem Ys {p:Int} (hp:p=a+((j:Nat):Int)) (h0:decide (e=0)=true) (h1:decide (p-a<8)=true) (h2:decide (p<(s.size:Int))=true) (h3:decide (97≤nz s p)=true) (h4:decide (nz s p≤122)=true):zN s a e j=zN s a e (j+1):=by
 subst hp
 unfold zN
 rw[h0]
 obtain⟨k,hk⟩:∃k,8-j=k+1:=⟨8-j-1,by have:=am' h1;omega⟩
 rw[hk,show 8-(j+1)=k from by omega]
 show pg s (k+1) _=pg s k _
 conv=>lhs;unfold pg
 rw[h2,h3,h4]
 show pg s k _=_
 congr 1
 push_cast
 omega
theorem UY (h:(!cu s a e b)=false):e=0→e=0∧cM s a e b=a+1:=fun h0=>⟨h0,by unfold cM;rw[show cu s a e b=true by simpa using h];rfl⟩
theorem DQ (h:cg e 2=0):False:=by
 unfold cg at h
 cases h1:decide (e=0)<;>rw[h1] at h
 ·exact amG h1 h
 ·exact absurd (show (2:Int)=0 from h) au
theorem VM (hx:¬x=0) (h:cg e x=0):False:=by
 unfold cg at h
 cases h1:decide (e=0)<;>rw[h1] at h
 ·exact amG h1 h
 ·exact hx h
section
variable {k:Nat} {p n a2 e2:Int} {l:List jS} {o:jS} {Z:Int×Int×Int×List jS} {h:dR}
theorem UM (hs:Z=kI s k p n e l) (hk:1≤k) (h:cu s p e 32=true) (ho:nR s (cM s p e 32) n e=(a2,e2,o)):Z=kI s (k-1) a2 (n+1) e2 (l++[o]):=by
 obtain⟨q,rfl⟩:∃q,k=q+1:=⟨k-1,by omega⟩
 rw[hs]
 conv=>lhs;unfold kI
 rw[h,ho];rfl
theorem UL (hs:Z=kI s k p n e l) (h:cu s p e 32=false):Z=(p,n,e,l):=by
 rw[hs]
 cases k with
 |zero=>rfl
 |succ k=>unfold kI;rw[h];rfl
theorem PQ {n2:Int} {Y:Int×Int×Int×dR} (hs:Y=gR s k p n e h) (hk:1≤k) (h1:decide (e=0)=true) (h2:decide (p<(s.size:Int))=true) (ho:jN s p n e=(a2,n2,e2,l)):Y=gR s (k-1) a2 n2 e2 (h++[l]):=by
 obtain⟨q,rfl⟩:∃q,k=q+1:=⟨k-1,by omega⟩
 rw[hs]
 conv=>lhs;unfold gR
 rw[h1,h2,ho];rfl
theorem Gk {Y:Int×Int×Int×dR} (hs:Y=gR s k p n e h) (hc:(bif decide (e=0) then decide (p<(s.size:Int)) else false)=false):Y=(p,n,e,h):=by
 rw[hs]
 cases k with
 |zero=>rfl
 |succ k=>unfold gR;rw[hc];rfl
end
end
end Go.Ew
namespace Go.Ew
def ti (h:dR) (s p:Nat):Nat:=((h.take s).flatten).length+p
def FO (h:dR) (s p:Nat) (o:jS):Prop:=∃l,h[s]? =some l∧l[p]? =some o
theorem FO.lt {h:dR} {s p:Nat} {o:jS} (a:FO h s p o):s<h.length:=by
 obtain⟨l,h1,h2⟩:=a
 exact(dU.1 h1).1
theorem S4 {vs:List bA} {s:bA} (h:¬gE vs s<0):∃v:Nat,gE vs s=((v:Nat):Int)∧vs[v]? =some s:=by
 unfold gE eO at *
 cases e:vs.findIdx? (Gq s) with
 |none=>rw[e] at h;exact absurd au h
 |some i=>
  obtain⟨h1,h2,_⟩:=am3.1 e
  unfold Gq at h2
  rw[amB] at h2
  exact⟨i,J,by rw[eR h1,h2]⟩
theorem VK {vs:List bA} {s:bA} (h:gE vs s<0):s∉vs:=by
 have:=uB (p:=Gq s) (r:=vs)
 unfold gE at h
 rw[amJ aj] at this
 intro hm
 have h2:=aol.1 this.symm s hm
 unfold Gq at h2
 simp at h2
theorem aaa {vs:List bA} (s:bA) (hn:vs.Nodup):∃(V:List bA) (v:Nat),HZ vs s=vs++V∧(vs++V).Nodup∧La vs s=((v:Nat):Int)∧(vs++V)[v]? =some s:=by
 unfold HZ La
 by_cases h:gE vs s<0
 ·rw[amF h,amF h]
  refine⟨[s],vs.length,J,?_,J,by simp⟩
  rw[aok]
  refine⟨hn,by simp,fun a ha b hb e=>VK h ?_⟩
  simp at hb
  rw[←hb,←e];exact ha
 ·rw[amI h,amI h]
  obtain⟨v,h1,h2⟩:=S4 h
  exact⟨[],v,by simp,by simpa using hn,h1,by simpa using h2⟩
theorem Im (i:Nat) (st:za) (ops:List jS) (hn:st.1.Nodup):∀k,k≤ops.length→∃(V:List bA) (L:List aO),jI i st ops k=(st.1++V,st.2++L)∧(st.1++V).Nodup∧L.length=k∧
  ∀p op,p<k→ops[p]? =some op→∃v:Nat,L[p]? =some (((i:Nat):Int),((p:Nat):Int),op.1,((v:Nat):Int),op.2.2)∧(st.1++V)[v]? =some op.2.1
 |0,_=>⟨[],[],by rw[AI];simp,by simpa using hn,rfl,fun p op h=>absurd h (aoq _)⟩
 |k+1,hk=>by
  obtain⟨V,L,h1,h2,h3,h4⟩:=Im i st ops hn k aj
  have hx:ops[((k:Nat):Int).toNat]? =some ops[k]:=by rw[dM];exact eR aj
  obtain⟨V2,v,e1,e2,e3,e4⟩:=aaa ops[k].2.1 h2
  refine⟨V++V2,L++[(((i:Nat):Int),((k:Nat):Int),ops[k].1,((v:Nat):Int),ops[k].2.2)],?_,by rw[←anb];exact e2,by simp[h3],fun p op hp hop=>?_⟩
  ·rw[xl hx,h1]
   unfold uP
   simp only
   rw[e1,e3,anb,anb]
  ·by_cases hpk:p<k
   ·obtain⟨u,h5,h6⟩:=h4 p op hpk hop
    refine⟨u,by rw[oY aj];exact h5,?_⟩
    rw[←anb,oY (dU.1 h6).1];exact h6
   ·obtain rfl:p=k:=by omega
    rw[eR aj] at hop
    obtain rfl:=amE hop
    exact⟨v,by rw[oB aj,h3];simp,by rw[←anb];exact e4⟩
theorem G6 (h:dR):∀j,j≤h.length→(iy h j).1.Nodup∧∀s p op,s<j→FO h s p op→∃v:Nat,(iy h j).2[ti h s p]? =some (((s:Nat):Int),((p:Nat):Int),op.1,((v:Nat):Int),op.2.2)∧(iy h j).1[v]? =some op.2.1
 |0,_=>⟨by simp[iy],fun s p op hs=>absurd hs (aoq _)⟩
 |j+1,hj=>by
  obtain⟨h1,h2⟩:=G6 h j aj
  have hx:h[((j:Nat):Int).toNat]? =some h[j]:=by rw[dM];exact eR aj
  have hl:=(Bq h j aj).1
  obtain⟨V,L,e1,e2,e3,e4⟩:=Im j (iy h j) h[j] h1 h[j].length (amD _)
  rw[yY hx]
  unfold KG
  rw[e1]
  refine⟨e2,fun s p op hs ho=>?_⟩
  by_cases hsj:s<j
  ·obtain⟨v,h3,h4⟩:=h2 s p op hsj ho
   exact⟨v,by rw[oY (dU.1 h3).1];exact h3,by rw[oY (dU.1 h4).1];exact h4⟩
  ·obtain rfl:s=j:=by omega
   obtain⟨l,k1,k2⟩:=ho
   rw[eR aj] at k1
   obtain rfl:=amE k1
   obtain⟨v,h3,h4⟩:=e4 p op (dU.1 k2).1 k2
   refine⟨v,?_,h4⟩
   unfold ti
   rw[←hl,oB aj,show (iy h s).2.length+p-(iy h s).2.length=p by omega]
   exact h3
theorem Zp {h:dR} {s p:Nat} {op:jS} (ho:FO h s p op):∃v:Nat,(wN h)[ti h s p]? =some (((s:Nat):Int),((p:Nat):Int),op.1,((v:Nat):Int),op.2.2)∧(DU h)[v]? =some op.2.1:=
 (G6 h h.length (amD _)).2 s p op ho.lt ho
theorem Iw (l:List jS) (t:dR) (s p:Nat):ti (l::t) (s+1) p=l.length+ti t s p:=by
 unfold ti;rw[List.take_succ_cons,an_,fN];omega
theorem NC:∀(h:dR) {i:Nat},i<h.flatten.length→∃s p op,FO h s p op∧i=ti h s p
 |[],i,hi=>by simp at hi
 |l::t,i,hi=>by
  by_cases hl:i<l.length
  ·exact⟨0,i,l[i],⟨l,J,eR hl⟩,by unfold ti;simp⟩
  ·rw[an_,fN] at hi
   obtain⟨s,p,op,⟨l',h1,h2⟩,h3⟩:=NC t (i:=i-l.length) aj
   exact⟨s+1,p,op,⟨l',h1,h2⟩,by rw[Iw];omega⟩
section
variable {h:dR} {s p s' p':Nat} {op op':jS}
end
section
variable {h:dR} {s p s' p':Nat} {op op':jS}
end
end Go.Ew
namespace Go.Ew
section
variable {h:dR} {s n:Nat} {l:List jS} {o:jS}
end
section
variable {h g:dR} {σ σ':Nat→Nat} {ρ:bA→bA}
end
end Go.Ew
namespace Go.Ew
def qH (lv:Int):Bool:=decide (0<(((dS lv).length:Nat):Int))
def qN (h:dR) (lv:Int):Int:=bif decide (ly h=0) then (bif qH lv then (da (cX h)).2.2 else 1) else 1
def ph (h:dR) (lv:Int):Int×Int:=bif decide (ly h=0) then (bif qH lv then ((da (cX h)).1,(da (cX h)).2.1) else (0,0)) else (0,0)
def wi (h:dR) (lv:Int):Int:=bif decide (qN h lv=0) then lv else 0
noncomputable def wj (h:dR) (lv:Int):Bool:=bif decide (qN h lv=0) then !decide (fh (cX h) (gM (cX h)) lv=0) else false
noncomputable def jx (h:dR) (lv:Int):yc:=bif decide (qN h lv=0) then (je (cX h) (gM (cX h)) lv).getD (0,0,0,0,0) else (0,0,0,0,0)
section
variable {h:dR} {lv:Int}
theorem PN (hl:qH lv=true):lv=1∨lv=2∨lv=3:=by
 by_cases h1:lv=1
 ·exact .inl h1
 by_cases h2:lv=2
 ·exact .inr (.inl h2)
 by_cases h3:lv=3
 ·exact .inr (.inr h3)
 unfold qH dS at hl
 rw[amJ h1,amJ h2,amJ h3] at hl
 cases hl
theorem W2 (hl:lv=1∨lv=2∨lv=3):qH lv=true:=by rcases hl with rfl|rfl|rfl<;>rfl
theorem P5 (he:ly h=0) (hl:qH lv=true) (hc:(da (cX h)).2.2=0):qN h lv=0∧ph h lv=(0,0)∧wi h lv=lv∧wj h lv=(!decide (fh (cX h) (gM (cX h)) lv=0))∧jx h lv=(je (cX h) (gM (cX h)) lv).getD (0,0,0,0,0):=by
 have e1:qN h lv=0:=by unfold qN;rw[amC he,hl];exact hc
 refine⟨e1,?_,?_,?_,?_⟩
 ·unfold ph;rw[amC he,hl]
  show ((da (cX h)).1,(da (cX h)).2.1)=_
  rw[(OS hc).1,(OS hc).2]
 ·unfold wi;rw[e1];rfl
 ·unfold wj;rw[e1];rfl
 ·unfold jx;rw[e1];rfl
theorem P6 {e:Int} (he:qN h lv=e) (h0:¬e=0):wi h lv=0∧wj h lv=false∧jx h lv=(0,0,0,0,0):=by
 subst he
 unfold wi wj jx
 rw[amJ h0]
 exact⟨J,J,J⟩
theorem Sh (hx:decide (ly h=0)=false∨qH lv=false):qN h lv=1∧ph h lv=(0,0):=by
 unfold qN ph
 rcases hx with hx|hx<;>rw[hx]
 ·exact⟨J,J⟩
 ·cases decide (ly h=0)<;>exact⟨rfl,rfl⟩
theorem LD (he:ly h=0) (hl:qH lv=true):qN h lv=(da (cX h)).2.2∧ph h lv=((da (cX h)).1,(da (cX h)).2.1):=by
 unfold qN ph;rw[amC he,hl];exact⟨rfl,rfl⟩
theorem L5 (hc:(da (cX h)).2.2=0):∀x∈gM (cX h),x<(((cX h).length:Nat):Int):=by rw[HH hc];exact VH
theorem aai {k r a b o:Int} (hw:ql (je (cX h) (gM (cX h)) lv) k r a b o) (hc:fh (cX h) (gM (cX h)) lv=0):(je (cX h) (gM (cX h)) lv).getD (0,0,0,0,0)=(k,r,a,b,o):=by
 obtain⟨y,hy⟩:=am0.1 (OQ hc)
 rw[hy,hw.2 y hy];rfl
theorem aah (hc:¬fh (cX h) (gM (cX h)) lv=0):(je (cX h) (gM (cX h)) lv).getD (0,0,0,0,0)=(0,0,0,0,0):=by rw[HQ hc];rfl
theorem Sg (ho:gX h=true) (hl:lv=1∨lv=2∨lv=3):qN h lv=0∧ph h lv=(0,0)∧wi h lv=lv∧wj h lv=(je (qE h) (qF h) lv).isNone∧jx h lv=(je (qE h) (qF h) lv).getD (0,0,0,0,0):=by
 have hy:=DA ho
 unfold gX at ho
 rw[eW,amB] at ho
 obtain⟨h1,h2,h3,h4,h5⟩:=P5 (lv:=lv) (r5 ho.1).2.2 (W2 hl) ho.2
 refine⟨h1,h2,h3,?_,?_⟩
 ·rw[h4,hy.2.1,hy.2.2,HH ho.2]
  unfold fh
  cases je (cX h) (jP (cX h)) lv<;>rfl
 ·rw[h5,hy.2.1,hy.2.2,HH ho.2]
end
theorem V4 {α0 α1 α2 α3 α4 α5 α6 α7 α8 α9 aad β:Type} (f:α0→α1→α2→α3→α4→α5→α6→α7→α8→α9→aad→β) {x0 y0:α0} {x1 y1:α1} {x2 y2:α2} {x3 y3:α3} {x4 y4:α4} {x5 y5:α5} {x6 y6:α6} {x7 y7:α7} {x8 y8:α8} {x9 y9:α9} {x10 y10:aad} (h0:x0=y0) (h1:x1=y1) (h2:x2=y2) (h3:x3=y3) (h4:x4=y4) (h5:x5=y5) (h6:x6=y6) (h7:x7=y7) (h8:x8=y8) (h9:x9=y9) (Eo:x10=y10):f x0 x1 x2 x3 x4 x5 x6 x7 x8 x9 x10=f y0 y1 y2 y3 y4 y5 y6 y7 y8 y9 y10:=by
 subst h0;subst h1;subst h2;subst h3;subst h4;subst h5;subst h6;subst h7;subst h8;subst h9;subst Eo;rfl
def D1 (s:bA) (lv:Int):Bool:=bif qH lv then decide ((bg s).2.2=0) else false
def cG (s:bA) (lv:Int):Int:=bif qH lv then (bif decide ((bg s).2.2=0) then qN (bg s).1 lv else (bg s).2.2) else 1
def v7 (s:bA) (lv:Int):Int:=bif qH lv then (bif decide ((bg s).2.2=0) then 0 else (bg s).2.1) else 0
def j0 (s:bA) (lv:Int):Int×Int:=bif D1 s lv then ph (bg s).1 lv else (0,0)
def vZ (s:bA) (lv:Int):Int:=bif D1 s lv then wi (bg s).1 lv else 0
noncomputable def pF (s:bA) (lv:Int):Bool:=bif D1 s lv then wj (bg s).1 lv else false
noncomputable def jV (s:bA) (lv:Int):yc:=bif D1 s lv then jx (bg s).1 lv else (0,0,0,0,0)
section
variable {s:bA} {lv a e:Int} {h:dR}
theorem Pe (hl:qH lv=false):cG s lv=1∧v7 s lv=0∧j0 s lv=(0,0)∧vZ s lv=0∧pF s lv=false∧jV s lv=(0,0,0,0,0):=by
 have hr:D1 s lv=false:=by unfold D1;rw[hl];rfl
 refine⟨?_,?_,?_,?_,?_,?_⟩
 ·unfold cG;rw[hl];rfl
 ·unfold v7;rw[hl];rfl
 ·unfold j0;rw[hr];rfl
 ·unfold vZ;rw[hr];rfl
 ·unfold pF;rw[hr];rfl
 ·unfold jV;rw[hr];rfl
theorem Q2 (hl:qH lv=true) (ht:bg s=(h,a,e)) (he:¬e=0):cG s lv=e∧v7 s lv=a∧j0 s lv=(0,0)∧vZ s lv=0∧pF s lv=false∧jV s lv=(0,0,0,0,0):=by
 have hd:decide ((bg s).2.2=0)=false:=by rw[ht];exact amJ he
 have hr:D1 s lv=false:=by unfold D1;rw[hl,hd];rfl
 refine⟨?_,?_,?_,?_,?_,?_⟩
 ·unfold cG;rw[hl,hd,ht];rfl
 ·unfold v7;rw[hl,hd,ht];rfl
 ·unfold j0;rw[hr];rfl
 ·unfold vZ;rw[hr];rfl
 ·unfold pF;rw[hr];rfl
 ·unfold jV;rw[hr];rfl
theorem FW (hl:qH lv=true) (ht:bg s=(h,a,e)) (he:e=0):cG s lv=qN h lv∧v7 s lv=0∧j0 s lv=ph h lv∧vZ s lv=wi h lv∧pF s lv=wj h lv∧jV s lv=jx h lv:=by
 have hd:decide ((bg s).2.2=0)=true:=by rw[ht];exact amC he
 have hr:D1 s lv=true:=by unfold D1;rw[hl,hd];rfl
 refine⟨?_,?_,?_,?_,?_,?_⟩
 ·unfold cG;rw[hl,hd,ht];rfl
 ·unfold v7;rw[hl,hd];rfl
 ·unfold j0;rw[hr,ht];rfl
 ·unfold vZ;rw[hr,ht];rfl
 ·unfold pF;rw[hr,ht];rfl
 ·unfold jV;rw[hr,ht];rfl
end
end Go.Ew
namespace Go.Ew
set_option maxRecDepth 100000
abbrev Je:bA:=⟨#[119,58,120,61,49,32,114,58,120,61,50,10,119,58,120,61,50,32,114,58,120,61,49,10]⟩
def Yf:dR:=[[(true,⟨#[120]⟩,1),(false,⟨#[120]⟩,2)],[(true,⟨#[120]⟩,2),(false,⟨#[120]⟩,1)]]
def kW:List aO:=[(0,0,true,0,1),(0,1,false,0,2),(1,0,true,0,2),(1,1,false,0,1)]
def nk:aA:=[-3,2, -3,0]
theorem HY:bg Je=(Yf,0,0):=by decide +kernel
theorem TM:gX Yf=true:=by decide +kernel
theorem adB:qE Yf=kW:=by decide +kernel
theorem adC:qF Yf=nk:=by decide +kernel
theorem G4:∀x∈nk,x<((kW.length:Nat):Int):=by decide
def yX (o:Int) (a b:Nat):Bool:=(decide (o=1)&&((a,b)==(0,1)||(a,b)==(2,1)||(a,b)==(0,2)))||(decide (o=3)&&((a,b)==(2,3)||(a,b)==(0,3)||(a,b)==(2,0)))
theorem ady:∀r:Nat,¬nk[r]? =some (-2):=by
 intro r h
 have:(-2:Int)∈nk:=dN h
 exact absurd this au
theorem TN:∀r:Nat,¬nk[r]? =some (-1):=by
 intro r h
 have:(-1:Int)∈nk:=dN h
 exact absurd this au
theorem adx:∀i,i<4→pP kW nk i i=false:=by decide +kernel
theorem tJ {p:Nat→Bool} (h:(List.range 4).all p=true) {i:Nat} (hi:i<4):p i=true:=amK.1 h i (amH.2 hi)
def Oq (a b:Bool):Bool:=!a||b
theorem imp {a b:Bool} (h:Oq a b=true) (ha:a=true):b=true:=by unfold Oq at h;rw[ha] at h;simpa using h
theorem afw:((List.range 4).all fun r=>(List.range 4).all fun a=>(List.range 4).all fun b=>Oq (decide (nk[r]? =some ((b:Nat):Int))&&(decide (a≠b)&&(!(iM kW (rG kW ((r:Nat):Int)) ((a:Nat):Int))&&pP kW nk a r))) (!(pP kW nk b a)))=true:=by decide +kernel
theorem adw:∀r,r<4→∀a,a<4→∀b,b<4→nk[r]? =some ((b:Nat):Int)→a≠b→iM kW (rG kW ((r:Nat):Int)) ((a:Nat):Int)=false→pP kW nk a r=true→pP kW nk b a=false:=by
 intro r hr a ha b hb h1 h2 h3 h4
 have:=imp (tJ (tJ (tJ afw hr) ha) hb)<|by rw[amC h1,amC h2,h3,h4];rfl
 simpa using this
theorem afv:((List.range 4).all fun o=>(List.range 4).all fun a=>(List.range 4).all fun b=>Oq (pP kW nk a b&&(decide (((a:Nat):Int)∈bP ((kW.length:Nat):Int) (cC kW nk) ((o:Nat):Int))&&decide (((b:Nat):Int)∈bP ((kW.length:Nat):Int) (cC kW nk) ((o:Nat):Int)))) (yX ((o:Nat):Int) a b))=true:=by decide +kernel
theorem Z8:∀o,o<4→∀a,a<4→∀b,b<4→pP kW nk a b=true→((a:Nat):Int)∈bP ((kW.length:Nat):Int) (cC kW nk) ((o:Nat):Int)→((b:Nat):Int)∈bP ((kW.length:Nat):Int) (cC kW nk) ((o:Nat):Int)→yX ((o:Nat):Int) a b=true:=by
 intro o ho a ha b hb h1 h2 h3
 exact imp (tJ (tJ (tJ afv ho) ha) hb)<|by rw[h1,amC h2,amC h3];rfl
theorem aft:((List.range 4).all fun o=>(List.range 4).all fun a=>(List.range 4).all fun b=>(List.range 4).all fun c=>Oq (yX ((o:Nat):Int) a b&&yX ((o:Nat):Int) b c) (yX ((o:Nat):Int) a c))=true:=by decide +kernel
theorem Wp:∀o,o<4→∀a,a<4→∀b,b<4→∀c,c<4→yX ((o:Nat):Int) a b=true→yX ((o:Nat):Int) b c=true→yX ((o:Nat):Int) a c=true:=by
 intro o ho a ha b hb c hc h1 h2
 exact imp (tJ (tJ (tJ (tJ aft ho) ha) hb) hc)<|by rw[h1,h2];rfl
theorem afu:((List.range 4).all fun o=>(List.range 4).all fun a=>(List.range 4).all fun b=>(List.range 4).all fun r=>Oq (decide (((r:Nat):Int)∈lP kW ((o:Nat):Int))&&(decide (nk[r]? =some ((b:Nat):Int))&&(decide (a≠b)&&(!(iM kW (rG kW ((b:Nat):Int)) ((a:Nat):Int))&&yX ((o:Nat):Int) a r)))) (yX ((o:Nat):Int) a b))=true:=by decide +kernel
theorem Z7:∀o,o<4→∀a,a<4→∀b,b<4→∀r,r<4→((r:Nat):Int)∈lP kW ((o:Nat):Int)→nk[r]? =some ((b:Nat):Int)→a≠b→iM kW (rG kW ((b:Nat):Int)) ((a:Nat):Int)=false→yX ((o:Nat):Int) a r=true→yX ((o:Nat):Int) a b=true:=by
 intro o ho a ha b hb r hr h1 h2 h3 h4 h5
 exact imp (tJ (tJ (tJ (tJ afu ho) ha) hb) hr)<|by rw[amC h1,amC h2,amC h3,h4,h5];rfl
theorem adz:∀o,o<4→∀i,i<4→yX ((o:Nat):Int) i i=false:=by decide +kernel
theorem adv:∀o i,o<4→i<4→¬By kW nk ((o:Nat):Int) i i=true:=by
 intro o i ho hi h
 have:=pT.1 h (fun a b=>yX ((o:Nat):Int) a b=true) ⟨fun a b ha hb=>Z8 o ho a ha b hb,fun a b c ha hb hc=>Wp o ho a ha b hb c hc,fun a b r hr k=>by
  have hb:=G4 _<|dN k.fr
  have hb:b<4:=by have:kW.length=4:=rfl;omega
  exact Z7 o ho a k.a1 b hb r k.r1 hr k.fr k.ne k.wr k.ah⟩
 rw[adz o ho i hi] at this
 cases this
theorem Ye:je kW nk 3=none:=by
 rw[BR rfl G4]
 intro k hk
 unfold Ie
 rintro(⟨h0,r,hr⟩|⟨h0,i,hi,h⟩|⟨h0,r,a,hr,ha,h1,h2,h3⟩|⟨h0,r,a,b,hr,ha,hb,h1,h2,h3,h4,h5⟩|⟨h0,i,hi,h⟩|⟨h0,o,r,a,ho,hr,ha,h1,h2,h3,h4⟩|⟨h0,o,i,ho,hi,h⟩)
 ·exact ady r hr
 ·rw[adx i hi] at h;cases h
 ·exact TN r h1
 ·rw[adw r hr a ha b hb h1 h2 h3 h4] at h5;cases h5
 ·subst h0;exact absurd hk au
 ·exact TN r h2
 ·exact adv o i ho hi h
theorem adA:∃y,je kW nk 2=some y∧y.1=5:=by
 have h5:(kc kW nk 5).isSome=true:=by
  rw[Ht rfl G4 aj]
  refine .inr (.inr (.inr (.inr (.inl ⟨J,0,by decide,?_⟩))))
  have e1:I_ kW nk 0 2=true:=by
   unfold I_
   rw[amM,@decide_eq_true_iff _ (Classical.propDecidable _)]
   exact .inr ⟨1,by decide,by decide,J,by decide,by decide +kernel,by decide +kernel⟩
  have e2:I_ kW nk 2 0=true:=by
   unfold I_
   rw[amM,@decide_eq_true_iff _ (Classical.propDecidable _)]
   exact .inr ⟨3,by decide,by decide,J,by decide,by decide +kernel,by decide +kernel⟩
  exact Bl (b:=2) au (xY e1)<|xY e2
 have hn:∀k,k=1∨k=2∨k=3∨k=4→kc kW nk k=none:=by
  intro k hk
  have:¬(kc kW nk k).isSome=true:=by
   rw[Ht rfl G4 aj]
   have:=(BR (U:=kW) (fo:=nk) (lv:=3) J G4).1 Ye k
   refine this ?_
   rcases hk with rfl|rfl|rfl|rfl<;>decide
  cases e:kc kW nk k with
  |none=>rfl
  |some x=>rw[e] at this;exact absurd rfl this
 obtain⟨y,hy⟩:=am0.1 h5
 refine⟨y,?_,Iy hy⟩
 unfold je
 rw[show dS 2=[1,2,3,4,5] from rfl]
 simp only[List.findSome?_cons,hn 1 aj,hn 2 aj,hn 3 aj,hn 4 aj,hy]
theorem TO:(bg Je).2.2=0→(bg Je).1.flatten.length≤64:=by rw[HY];decide
theorem FK:cG Je 3=0∧pF Je 3=true:=by
 obtain⟨h1,_,_,_,h2,_⟩:=FW (lv:=3) rfl HY rfl
 obtain⟨k1,_,_,k2,_⟩:=Sg (lv:=3) TM aj
 rw[h1,h2,k1,k2,adB,adC,Ye]
 exact⟨J,J⟩
theorem zD:cG Je 2=0∧pF Je 2=false∧(jV Je 2).1=5:=by
 obtain⟨h1,_,_,_,h2,h3⟩:=FW (lv:=2) rfl HY rfl
 obtain⟨k1,_,_,k2,k3⟩:=Sg (lv:=2) TM aj
 obtain⟨y,e1,e2⟩:=adA
 rw[h1,h2,h3,k1,k2,k3,adB,adC,e1]
 exact⟨J,J,e2⟩
end Go.Ew
namespace Go.Ew
section
variable {h:dR}
end
end Go.Ew
namespace Go.Ew
section
variable {h:dR} {lv:Int}
end
end Go.Ew
namespace Go.Ew
section
variable {U:List aO} {fo l kept:aA} {v x:Int} {k:Nat} {it:aO}
section
variable {o:Int}
end
end
end Go.Ew
namespace Go.Ew
def pd (e:Int):Prop:=e=0∨e=2∨e=3
section
variable {s:bA} {a e b x on:Int} {k:Nat}
theorem er0:pd 0:=.inl rfl
theorem kV:pd 2:=.inr (.inl rfl)
theorem er3:pd 3:=.inr (.inr rfl)
theorem DR (h:pd e) (hx:pd x):pd (cg e x):=by
 unfold cg
 cases decide (e=0)
 ·exact h
 ·exact hx
theorem DC (h:pd e):pd (kr s a e b).2:=by
 unfold kr
 cases cu s a e b
 ·exact DR h kV
 ·exact h
theorem Y' (s:bA):pd (fM s).2:=by
 cases h:k0 s with
 |true=>rw[AZ h];exact kV
 |false=>
  unfold fM
  rw[h]
  cases mj (ob s) (zv s).data.toList 0 with
  |none=>exact er3
  |some n=>exact er0
theorem aa1 (h:pd e):pd (zX s a on e):=by
 unfold zX
 cases (bif decide (on=4096) then (bif cu s a e 119 then true else cu s a e 114) else false)
 ·exact h
 ·exact DR h er3
theorem aa0 (h:pd e):pd (tR s a e).2:=by
 unfold tR
 cases cu s a e 119
 ·exact DC h
 ·exact h
theorem UW (h:pd e):pd (tn s a e).2.1:=by
 unfold tn
 show pd (bif decide (zN s a e 0=a) then cg e 2 else e)
 cases decide (zN s a e 0=a)
 ·exact h
 ·exact DR h kV
theorem Y9 (h:pd e):pd (vQ s a e).2.1:=by
 unfold vQ
 cases (!decide (e=0))
 ·cases h2:(!decide ((fM (s.extract a.toNat (a+ga s a).toNat)).2=0))
  ·exact h
  ·exact DR h<|Y' _
 ·exact h
theorem RR (h:pd e):pd (nR s a on e).2.1:=Y9 (DC (UW (DC (aa0 (aa1 h)))))
theorem NY:∀(k:Nat) {a on e:Int} {l:List jS},pd e→pd (kI s k a on e l).2.2.1
 |0,_,_,_,_,h=>h
 |k+1,a,on,e,l,h=>by
  unfold kI
  cases cu s a e 32
  ·exact h
  ·exact NY k<|RR h
theorem U7 (h:pd e):pd (jN s a on e).2.2.1:=by
 unfold jN
 cases cu s a e 10
 ·exact DC<|NY _<|RR h
 ·exact h
theorem IH:∀(k:Nat) {a on e:Int} {l:dR},pd e→pd (gR s k a on e l).2.2.1
 |0,_,_,_,_,h=>h
 |k+1,a,on,e,l,h=>by
  unfold gR
  cases (bif decide (e=0) then decide (a<(s.size:Int)) else false)
  ·exact h
  ·exact IH k<|U7 h
theorem YH (s:bA):pd (bg s).2.2:=by
 unfold bg
 cases (!decide ((gR s (s.size+1) 0 0 0 []).2.2.1=0))
 ·exact er0
 ·exact IH _ er0
end
end Go.Ew
namespace Go.Ew
def ln (s:bA) (a:Int):Nat:=((s.data.toList.drop a.toNat).filter (fun c=>decide (((c.toNat:Nat):Int)=58))).length
section
variable {s:bA} {a b e p x on:Int} {k:Nat}
theorem xW (h:a≤b):ln s b≤ln s a:=by
 unfold ln
 have e:s.data.toList.drop b.toNat=(s.data.toList.drop a.toNat).drop (b.toNat-a.toNat):=by rw[anx];congr 1;omega
 rw[e]
 exact((List.drop_sublist _ _).filter _).length_le
theorem Mq (h0:0≤p) (hp:p<(s.size:Int)):∃c,s.data.toList[p.toNat]? =some c∧nz s p=((c.toNat:Nat):Int):=by
 have hl:p.toNat<s.data.toList.length:=by
  have:s.data.toList.length=s.size:=by rw[ang];rfl
  omega
 refine⟨_,eR hl,?_⟩
 have hq:p.toNat<s.size:=by omega
 have h1:s[p.toNat]? =some (s.data.toList[p.toNat]):=by
  rw[getElem?_pos s p.toNat hq]
  congr 1
 exact Ty h1
theorem ZV (h0:0≤p) (hp:p<(s.size:Int)) (hb:nz s p=58):ln s (p+1)+1≤ln s p:=by
 obtain⟨c,hc,e⟩:=Mq h0 hp
 unfold ln
 have hl:=(dU.1 hc).1
 rw[ans hl,(dU.1 hc).2,apj,amF (by rw[amB];omega),iB,show (p+1).toNat=p.toNat+1 by omega]
 exact amD _
theorem DB (h:(kr s a e b).2=0):cu s a e b=true∧e=0∧(kr s a e b).1=a+1:=by
 unfold kr at h ⊢
 cases h1:cu s a e b
 ·rw[h1] at h;exact absurd h (fun h=>DQ h)
 ·exact⟨J,(sB h1).1,J⟩
theorem ux (h:0≤a∧a≤(s.size:Int)):a≤(kr s a e b).1∧(kr s a e b).1≤(s.size:Int):=by
 unfold kr
 cases h1:cu s a e b
 ·exact⟨aof _,h.2⟩
 ·have:=sB h1;show a≤a+1∧a+1≤_;omega
theorem Hw:∀(k:Nat) {a:Int},a≤(s.size:Int)→a≤pg s k a∧pg s k a≤(s.size:Int)∧pg s k a≤a+((k:Nat):Int)∧∀i,a≤i→i<pg s k a→97≤nz s i∧nz s i≤122
 |0,a,h=>⟨aof _,h,by show a≤a+0;omega,fun i h1 h2=>absurd (show i<a from h2) aj⟩
 |k+1,a,h=>by
  unfold pg
  cases hc:(bif decide (a<(s.size:Int)) then (bif decide (97≤nz s a) then decide (nz s a≤122) else false) else false)
  ·show a≤a∧a≤_∧a≤_∧_
   exact⟨aof _,h,by push_cast;omega,fun i h1 h2=>absurd (show i<a from h2) aj⟩
  ·have h1:a<(s.size:Int)∧97≤nz s a∧nz s a≤122:=by
    by_cases h1:a<(s.size:Int)
    ·by_cases h2:97≤nz s a
     ·by_cases h3:nz s a≤122
      ·exact⟨h1,h2,h3⟩
      ·rw[amC h1,amC h2,amJ h3] at hc;cases hc
     ·rw[amC h1,amJ h2] at hc;cases hc
    ·rw[amJ h1] at hc;cases hc
   obtain⟨r1,r2,r3,r4⟩:=Hw k (a:=a+1) aj
   show a≤pg s k (a+1)∧pg s k (a+1)≤_∧pg s k (a+1)≤_∧∀i,a≤i→i<pg s k (a+1)→_
   refine⟨by omega,r2,by push_cast;omega,fun i i1 i2=>?_⟩
   by_cases hi:i=a
   ·rw[hi];exact h1.2
   ·exact r4 i aj i2
theorem S6 (h:cg e x=0):e=0:=by
 unfold cg at h
 cases h1:decide (e=0)<;>rw[h1] at h
 ·exact h
 ·exact am' h1
theorem Za (h:0≤a∧a≤(s.size:Int)) (h0:(tn s a e).2.1=0):e=0∧a≤(tn s a e).1∧(tn s a e).1≤(s.size:Int)∧kJ (tn s a e).2.2=true:=by
 have h1:(bif decide (zN s a e 0=a) then cg e 2 else e)=0:=h0
 have hz:¬zN s a e 0=a:=by
  intro hz
  rw[amC hz] at h1
  exact DQ h1
 rw[amJ hz] at h1
 have h1:e=0:=h1
 obtain⟨r1,r2,r3,r4⟩:=Hw (s:=s) 8 h.2
 have ez:zN s a e 0=pg s 8 a:=by
  unfold zN;rw[amC h1]
  show pg s 8 (a+0)=_
  rw[Int.add_zero]
 refine⟨h1,?_,?_,?_⟩
 ·show a≤zN s a e 0;rw[ez];exact r1
 ·show zN s a e 0≤_;rw[ez];exact r2
 ·show kJ (s.extract a.toNat (zN s a e 0).toNat)=true
  rw[ez] at hz ⊢
  have oQ:(s.extract a.toNat (pg s 8 a).toNat).size=(pg s 8 a).toNat-a.toNat:=by
   rw[ape];omega
  unfold kJ
  rw[eW,eW,oQ]
  refine⟨⟨?_,amC aj⟩,amC (by push_cast at r3;omega)⟩
  rw[amK]
  intro c hc
  obtain⟨j,hj⟩:=amT.1 hc
  have po:j<(pg s 8 a).toNat-a.toNat:=by
   have:=(dU.1 hj).1
   have e2:(s.extract a.toNat (pg s 8 a).toNat).data.toList.length=(s.extract a.toNat (pg s 8 a).toNat).size:=by rw[ang];rfl
   omega
  obtain⟨d,hd,e⟩:=Mq (s:=s) (p:=a+((j:Nat):Int)) aj aj
  have e3:d=c:=by
   have:(s.extract a.toNat (pg s 8 a).toNat).data.toList[j]? =s.data.toList[(a+((j:Nat):Int)).toNat]?:=by
    rw[ByteArray.data_extract,Array.toList_extract,anQ po,ank]
    congr 1;omega
   rw[hj,hd] at this
   exact(amE this).symm
  subst e3
  have:=r4 (a+((j:Nat):Int)) aj aj
  rw[e] at this
  unfold u6
  simp
  omega
theorem aa9 (h:0≤a∧a≤(s.size:Int)) (h0:(vQ s a e).2.1=0):e=0∧a≤(vQ s a e).1∧(vQ s a e).1≤(s.size:Int):=by
 have hs:=Ku h
 unfold vQ at h0 ⊢
 cases h1:(!decide (e=0))<;>rw[h1] at h0
 ·have h1:e=0:=by simpa using h1
  cases h2:(!decide ((fM (s.extract a.toNat (a+ga s a).toNat)).2=0))<;>rw[h2] at h0
  ·exact⟨h1,by show a≤a+ga s a;omega,hs.2⟩
  ·exact⟨h1,aof _,h.2⟩
 ·have:e=0:=h0
  rw[amC this] at h1;cases h1
theorem aaZ (h:0≤a∧a≤(s.size:Int)) (h0:(tR s a e).2=0):e=0∧a≤(tR s a e).1∧(tR s a e).1≤(s.size:Int):=by
 have ht:=ct (b:=119) (e:=e) h
 unfold tR at h0 ⊢
 cases h1:cu s a e 119<;>rw[h1] at h0
 ·have h2:=DB h0
  have h3:=ux (s:=s) (a:=cM s a e 119) (e:=e) (b:=114) ⟨by omega,ht.2.1⟩
  exact⟨h2.2.1,by show a≤(kr s (cM s a e 119) e 114).1;omega,h3.2⟩
 ·exact⟨h0,ht.1,ht.2.1⟩
theorem UO (h:zX s a on e=0):e=0:=by
 unfold zX at h
 cases h1:(bif decide (on=4096) then (bif cu s a e 119 then true else cu s a e 114) else false)<;>rw[h1] at h
 ·exact h
 ·exact S6 h
theorem E9 (h:0≤a∧a≤(s.size:Int)) (h0:(nR s a on e).2.1=0):e=0∧a≤(nR s a on e).1∧(nR s a on e).1≤(s.size:Int)∧ln s (nR s a on e).1+1≤ln s a∧kZ (nR s a on e).2.2=true:=by
 let e1:=zX s a on e
 let m1:=tR s a e1
 let m2:=kr s m1.1 m1.2 58
 let nm:=tn s m2.1 m2.2
 let m3:=kr s nm.1 nm.2.1 61
 let nb:=vQ s m3.1 m3.2
 have r2':∀{q:Int},0≤q∧q≤(s.size:Int)→_:=fun {q} hq=>ux (s:=s) (a:=q) (e:=m1.2) (b:=58) hq
 show e=0∧a≤nb.1∧nb.1≤_∧ln s nb.1+1≤ln s a∧kJ nm.2.2=true
 have h0:nb.2.1=0:=h0
 
 have w1:a≤m1.1∧m1.1≤(s.size:Int):=by
  have ht:=ct (b:=119) (e:=e1) h
  show a≤(tR s a e1).1∧(tR s a e1).1≤_
  unfold tR
  cases cu s a e1 119
  ·have h3:=ux (s:=s) (a:=cM s a e1 119) (e:=e1) (b:=114) ⟨by omega,ht.2.1⟩
   exact⟨by show a≤(kr s (cM s a e1 119) e1 114).1;omega,h3.2⟩
  ·exact⟨ht.1,ht.2.1⟩
 have w2:m1.1≤m2.1∧m2.1≤(s.size:Int):=ux ⟨by omega,w1.2⟩
 have wz:m2.1≤nm.1∧nm.1≤(s.size:Int):=by
  show m2.1≤zN s m2.1 m2.2 0∧zN s m2.1 m2.2 0≤_
  unfold zN
  cases decide (m2.2=0)
  ·show m2.1≤m2.1+0∧m2.1+0≤_;omega
  ·have:=Hw (s:=s) 8 (a:=m2.1+((0:Nat):Int)) aj
   show m2.1≤pg s 8 (m2.1+((0:Nat):Int))∧pg s 8 (m2.1+((0:Nat):Int))≤_
   omega
 have w3:nm.1≤m3.1∧m3.1≤(s.size:Int):=ux ⟨by omega,wz.2⟩
 obtain⟨z1,z2,z3⟩:=aa9 (s:=s) (a:=m3.1) (e:=m3.2) ⟨by omega,w3.2⟩ h0
 obtain⟨-,y1, -⟩:=DB z1
 obtain⟨x1, -, -,x2⟩:=Za (s:=s) (a:=m2.1) (e:=m2.2) ⟨by omega,w2.2⟩ y1
 obtain⟨v1,v2,v3⟩:=DB x1
 have v3:m2.1=m1.1+1:=v3
 obtain⟨u1, -, -⟩:=aaZ h v2
 have hc:=sB v1
 have c1:=ZV (s:=s) (p:=m1.1) aj hc.2.1 hc.2.2
 have c2:=xW (s:=s) (a:=a) (b:=m1.1) w1.1
 have c3:=xW (s:=s) (a:=m1.1+1) (b:=nb.1) (show m1.1+1≤nb.1 from by have:m3.1≤nb.1:=z2;omega)
 exact⟨UO u1,by have:m3.1≤nb.1:=z2;omega,z3,by omega,x2⟩
theorem RQ:∀(k:Nat) {a on e:Int} {l:List jS},0≤a∧a≤(s.size:Int)→(kI s k a on e l).2.2.1=0→e=0∧a≤(kI s k a on e l).1∧(kI s k a on e l).1≤(s.size:Int)∧ln s (kI s k a on e l).1+(kI s k a on e l).2.2.2.length≤ln s a+l.length∧(l.all kZ=true→(kI s k a on e l).2.2.2.all kZ=true)
 |0,a,on,e,l,h,h0=>⟨h0,aof _,h.2,amD _,id⟩
 |k+1,a,on,e,l,h,h0=>by
  have ht:=ct (b:=32) (e:=e) h
  unfold kI at h0 ⊢
  cases h1:cu s a e 32<;>rw[h1] at h0
  ·exact⟨h0,aof _,h.2,amD _,id⟩
  ·have h0:(kI s k (nR s (cM s a e 32) on e).1 (on+1) (nR s (cM s a e 32) on e).2.1 (l++[(nR s (cM s a e 32) on e).2.2])).2.2.1=0:=h0
   have hr:∀{q N0 e2:Int},0≤q∧q≤(s.size:Int)→0≤q:=fun h=>h.1
   have hp:(nR s (cM s a e 32) on e).2.1=0→0≤(nR s (cM s a e 32) on e).1∧(nR s (cM s a e 32) on e).1≤(s.size:Int):=fun hz=>by
    have:=E9 (s:=s) (a:=cM s a e 32) (on:=on) (e:=e) ⟨by omega,ht.2.1⟩ hz
    omega
   by_cases hz:(nR s (cM s a e 32) on e).2.1=0
   ·obtain⟨o1,o2,o3,o4,o5⟩:=E9 (s:=s) (a:=cM s a e 32) (on:=on) (e:=e) ⟨by omega,ht.2.1⟩ hz
    obtain⟨-,i2,i3,i4,i5⟩:=RQ k (on:=on+1) (e:=(nR s (cM s a e 32) on e).2.1) (l:=l++[(nR s (cM s a e 32) on e).2.2]) (hp hz) h0
    have cm:=xW (s:=s) (a:=a) (b:=cM s a e 32) ht.1
    show e=0∧a≤(kI s k _ _ _ _).1∧(kI s k _ _ _ _).1≤_∧ln s (kI s k _ _ _ _).1+(kI s k _ _ _ _).2.2.2.length≤_∧(_→(kI s k _ _ _ _).2.2.2.all kZ=true)
    refine⟨o1,by omega,i3,?_,fun hl=>i5 ?_⟩
    ·rw[fN] at i4
     simp only[iB,gj] at i4
     omega
    ·rw[List.all_append,hl];simp[o5]
   ·exfalso
    have:∀(k:Nat) {a on e:Int} {l:List jS},¬e=0→¬(kI s k a on e l).2.2.1=0:=by
     intro k
     cases k with
     |zero=>intro a on e l h;exact h
     |succ k=>
      intro a on e l h
      unfold kI
      cases h2:cu s a e 32
      ·exact h
      ·exact absurd (sB h2).1 h
    exact this k hz h0
theorem Y3:∀(k:Nat) {a on e:Int} {l:List jS},¬e=0→¬(kI s k a on e l).2.2.1=0:=by
 intro k
 cases k with
 |zero=>intro a on e l h;exact h
 |succ k=>
  intro a on e l h
  unfold kI
  cases h2:cu s a e 32
  ·exact h
  ·exact absurd (sB h2).1 h
theorem Zk (h:0≤a∧a≤(s.size:Int)) (h0:(jN s a on e).2.2.1=0):e=0∧a≤(jN s a on e).1∧(jN s a on e).1≤(s.size:Int)∧ln s (jN s a on e).1+(jN s a on e).2.2.2.length≤ln s a∧(jN s a on e).2.2.2.all kZ=true:=by
 have ht:=ct (b:=10) (e:=e) h
 have cm:=xW (s:=s) (a:=a) (b:=cM s a e 10) ht.1
 unfold jN at h0 ⊢
 cases h1:cu s a e 10<;>rw[h1] at h0
 ·let o:=nR s (cM s a e 10) on e
  let L:=kI s (s.size+1) o.1 (on+1) o.2.1 [o.2.2]
  have h0:(kr s (cM s L.1 L.2.2.1 32) L.2.2.1 10).2=0:=h0
  show e=0∧a≤(kr s (cM s L.1 L.2.2.1 32) L.2.2.1 10).1∧(kr s (cM s L.1 L.2.2.1 32) L.2.2.1 10).1≤_∧ln s (kr s (cM s L.1 L.2.2.1 32) L.2.2.1 10).1+L.2.2.2.length≤_∧L.2.2.2.all kZ=true
  obtain⟨-,m1, -⟩:=DB h0
  have oz:o.2.1=0:=by
   by_cases hz:o.2.1=0
   ·exact hz
   ·exact absurd m1<|Y3 (s.size+1) hz
  obtain⟨o1,o2,o3,o4,o5⟩:=E9 (s:=s) (a:=cM s a e 10) (on:=on) (e:=e) ⟨by omega,ht.2.1⟩ oz
  obtain⟨-,i2,i3,i4,i5⟩:=RQ (s.size+1) (s:=s) (a:=o.1) (on:=on+1) (e:=o.2.1) (l:=[o.2.2]) ⟨by have:cM s a e 10≤o.1:=o2;omega,o3⟩ m1
  have t2:=ct (s:=s) (a:=L.1) (b:=32) (e:=L.2.2.1) ⟨by have h1:cM s a e 10≤o.1:=o2;have h2:o.1≤L.1:=i2;omega,i3⟩
  have m3:=ux (s:=s) (a:=cM s L.1 L.2.2.1 32) (e:=L.2.2.1) (b:=10) ⟨by have h1:cM s a e 10≤o.1:=o2;have h2:o.1≤L.1:=i2;omega,t2.2.1⟩
  have c2:=xW (s:=s) (a:=L.1) (b:=(kr s (cM s L.1 L.2.2.1 32) L.2.2.1 10).1) aj
  have h1':cM s a e 10≤o.1:=o2
  have h2':o.1≤L.1:=i2
  have i4:ln s L.1+L.2.2.2.length≤ln s o.1+1:=i4
  have o4:ln s o.1+1≤ln s (cM s a e 10):=o4
  exact⟨o1,by omega,m3.2,by omega,i5 (by have o5:kZ o.2.2=true:=o5;simp[o5])⟩
 ·exact⟨h0,ht.1,ht.2.1,cm,J⟩
theorem Ll:∀(k:Nat) {a on e:Int} {h:dR},0≤a∧a≤(s.size:Int)→(gR s k a on e h).2.2.1=0→ln s (gR s k a on e h).1+(gR s k a on e h).2.2.2.flatten.length≤ln s a+h.flatten.length∧(h.flatten.all kZ=true→(gR s k a on e h).2.2.2.flatten.all kZ=true)
 |0,a,on,e,h,hr,h0=>⟨amD _,id⟩
 |k+1,a,on,e,h,hr,h0=>by
  unfold gR at h0 ⊢
  cases h1:(bif decide (e=0) then decide (a<(s.size:Int)) else false)<;>rw[h1] at h0
  ·exact⟨amD _,id⟩
  ·have h0:(gR s k (jN s a on e).1 (jN s a on e).2.1 (jN s a on e).2.2.1 (h++[(jN s a on e).2.2.2])).2.2.1=0:=h0
   have hz:(jN s a on e).2.2.1=0:=by
    by_cases hz:(jN s a on e).2.2.1=0
    ·exact hz
    ·exfalso
     have:∀(k:Nat) {a on e:Int} {h:dR},¬e=0→¬(gR s k a on e h).2.2.1=0:=by
      intro k
      cases k with
      |zero=>intro a on e h hh;exact hh
      |succ k=>intro a on e h hh;unfold gR;rw[amJ hh];exact hh
     exact this k hz h0
   obtain⟨l1,l2,l3,l4,l5⟩:=Zk hr hz
   obtain⟨i1,i2⟩:=Ll k (a:=(jN s a on e).1) (on:=(jN s a on e).2.1) (e:=(jN s a on e).2.2.1) (h:=h++[(jN s a on e).2.2.2]) ⟨by omega,l3⟩ h0
   show ln s (gR s k _ _ _ _).1+(gR s k _ _ _ _).2.2.2.flatten.length≤_∧(_→(gR s k _ _ _ _).2.2.2.flatten.all kZ=true)
   rw[aoY,fN,an_,apR,anR] at i1
   rw[aoY,List.all_append,an_,apR,anR,l5,apg] at i2
   exact⟨by omega,i2⟩
theorem NA (h:(bg s).2.2=0):(bg s).1.flatten.length≤ln s 0∧(bg s).1.flatten.all kZ=true:=by
 unfold bg at h ⊢
 cases h1:(!decide ((gR s (s.size+1) 0 0 0 []).2.2.1=0))<;>rw[h1] at h
 ·have hz:(gR s (s.size+1) 0 0 0 []).2.2.1=0:=by simpa using h1
  obtain⟨i1,i2⟩:=Ll (s:=s) (s.size+1) (a:=0) (on:=0) (e:=0) (h:=[]) ⟨aof _,by omega⟩ hz
  show (gR s (s.size+1) 0 0 0 []).2.2.2.flatten.length≤_∧(gR s (s.size+1) 0 0 0 []).2.2.2.flatten.all kZ=true
  simp only[apR,gj,ani] at i1
  exact⟨by omega,i2 rfl⟩
 ·rw[show (gR s (s.size+1) 0 0 0 []).2.2.1=0 from h] at h1
  cases h1
theorem Pj (h:(bg s).2.2=0) (hc:ln s 0≤4096):iN (bg s).1=true:=by
 obtain⟨h1,h2⟩:=NA h
 unfold iN
 rw[h2,amC aj];rfl
end
end Go.Ew
