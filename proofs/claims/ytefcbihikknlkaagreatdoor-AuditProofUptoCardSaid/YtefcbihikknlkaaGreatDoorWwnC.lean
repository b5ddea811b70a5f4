/- Plain words and laws: hulls (layer 4). -/
import Derived.Test.YtefcbihikknlkaaGreatDoorWwnB
import Derived.Shelf.SlSortCmp.WholeK
import Derived.Shelf.SlSortCmp.NoneTotal
import Derived.Sort.LotA
import Derived.Test.YtefcbihikknlkaaGreatDoorWwnA
set_option linter.unusedVariables false
set_option linter.unusedSimpArgs false
set_option linter.unusedSectionVars false
namespace Go.Ew
variable {n:Int} {mr xs:Rows} {i j k:Nat} {x y:Row} {p:gk}
theorem Ho (h:cq n mr=true) (hx:mr[i]? =some x):x.length=words n:=by
 obtain⟨m,p,rfl,hm,rfl⟩:=nF h
 rw[(pk hx).2,lb]
theorem LP (h:cq n mr=true) (hs:xs=mr.take j++List.replicate (n.toNat-j) (dJ n)) (hj:j<mr.length) (hx:xs[((j:Nat):Int).toNat]? =some x):x=dJ n:=by
 rw[dC,hs,nQ (by rw[lY];omega),lY,anN ai,amN] at hx
 have:=eh hx
 exact(List.mem_replicate.1 this).2
theorem W_ (h:cq n mr=true) (hs:xs=mr.take j++List.replicate (n.toNat-j) (dJ n)) (hy:mr[((j:Nat):Int).toNat]? =some y) (hx:xs[((j:Nat):Int).toNat]? =some x):y.length=x.length:=by
 have hj:=(eW.1 hy).1
 rw[LP h hs (by simpa using hj) hx,ph,Ho h hy]
theorem W9 (h:cq n mr=true) (hs:xs=mr.take j++List.replicate (n.toNat-j) (dJ n)) (hy:mr[((j:Nat):Int).toNat]? =some y) (hx:xs[((j:Nat):Int).toNat]? =some x):0<x.length:=by
 have hj:=(eW.1 hy).1
 have hl:=(bQ h).1
 rw[LP h hs (by simpa using hj) hx,ph]
 have h0:1≤n:=by rw[dC] at hj;omega
 unfold words;omega
theorem Tl (h:cq n mr=true) (hs:xs=mr.take j++List.replicate (n.toNat-j) (dJ n)) (hy:mr[((j:Nat):Int).toNat]? =some y):xs.set ((j:Nat):Int).toNat y=mr.take (j+1)++List.replicate (n.toNat-(j+1)) (dJ n):=by
 have hj:=(eW.1 hy).1
 have hl:=(bQ h).1
 rw[nV hy]
 rw[dC] at hj ⊢
 have dx:(mr.take j).length=j:=by rw[lY];omega
 rw[hs,anl _ _ ai,dx,amN,show n.toNat-j=n.toNat-(j+1)+1 from by omega,ani,aoc]
 simp
theorem Xa (h:cq n mr=true) (hs:xs=mr.take j++List.replicate (n.toNat-j) (dJ n)) (hj:mr.length≤j):xs=mr:=by
 have hl:=(bQ h).1
 rw[hs,k0 hj,show n.toNat-j=0 from by omega];simp
def dw (rs:Rows) (i j:Nat):Bool:=fU (rs.getD i []) ((j:Nat):Int)
theorem Gs {rs:Rows} (h:cq n rs=true):rs=cO n.toNat (dw rs):=by
 obtain⟨m,p,rfl,hm,rfl⟩:=nF h
 rw[dC]
 refine dL fun i j hi hj=>?_
 unfold dw
 rw[eH,tq hi]
 show p i j=fU (jH m (p i)) _
 rw[lf];simp[hj]
def wM (p:gk):Nat→gk
 |0,a,b=>p a b
 |k+1,a,b=>wM p k a b||(wM p k a k&&wM p k k b)
def wR (p:gk) (k i a b:Nat):Bool:=if a<i then wM p (k+1) a b else wM p k a b
theorem Wy (p:gk) (k b:Nat):wM p (k+1) k b=wM p k k b:=by
 show (wM p k k b||(wM p k k k&&wM p k k b))=wM p k k b
 cases wM p k k b<;>simp
theorem Ww (p:gk) (n k:Nat):cO n (wM p k)=cO n (wR p k 0):=dL fun a b _ _=>by unfold wR;simp
theorem Yh (p:gk) {n:Nat} (h:n≤i):cO n (wR p k i)=cO n (wM p (k+1)):=dL fun a b ha _=>by unfold wR;rw[alE ai]
theorem Pg {n:Nat} (hx:(cO n (wR p k i))[i]? =some x):x=jH n (wM p k i):=by
 rw[(pk hx).2]
 exact qo fun b _=>by unfold wR;rw[alG ai]
theorem Wx {n:Nat} (hy:(cO n (wR p k i))[k]? =some y):y=jH n (wM p k k):=by
 rw[(pk hy).2]
 exact qo fun b _=>by
  unfold wR;split
  ·exact Wy p k b
  ·rfl
theorem Yg {n:Nat} (hs:xs=cO n (wR p k i)) (hx:xs[i]? =some x) (hy:xs[k]? =some y) (hk:k<n) (h:fU x ((k:Nat):Int)=true):xs.set i (fZ x y)=cO n (wR p k (i+1)):=by
 subst hs
 rw[Pg hx] at h ⊢
 rw[Wx hy,LS,Dc]
 rw[lf] at h
 have lG:wM p k i k=true:=by simpa [hk] using h
 refine dL fun a b _ _=>?_
 by_cases e:a=i
 ·subst e
  rw[alE rfl]
  unfold wR
  rw[alE ai]
  show _=(wM p k a b||(wM p k a k&&wM p k k b))
  rw[lG,am8]
 ·rw[alG e]
  unfold wR
  by_cases h2:a<i
  ·rw[alE h2,alE ai]
  ·rw[alG h2,alG ai]
theorem acs {n:Nat} (hs:xs=cO n (wR p k i)) (hx:xs[i]? =some x) (hk:k<n) (h:fU x ((k:Nat):Int)=false):xs=cO n (wR p k (i+1)):=by
 subst hs
 rw[Pg hx,lf] at h
 have lG:wM p k i k=false:=by simpa [hk] using h
 refine dL fun a b _ _=>?_
 unfold wR
 by_cases h2:a<i
 ·rw[alE h2,alE ai]
 ·by_cases e:a=i
  ·subst e
   rw[alG h2,alE ai]
   show _=(wM p k a b||(wM p k a k&&wM p k k b))
   rw[lG];simp
  ·rw[alG h2,alG ai]
def bU (n:Int) (rs:Rows):Rows:=cO n.toNat (wM (dw rs) n.toNat)
theorem Ih {n q:Nat} (hx:(cO n (wR p k i))[q]? =some x):x.length=words ((n:Nat):Int):=by rw[(pk hx).2,lb]
end Go.Ew
namespace Go.Ew
variable {p P:gk} {a b n:Nat} {f:Nat→Bool}
inductive TC (n:Nat) (p:gk):Nat→bT
 |one {a b:Nat}:a<n→b<n→p a b=true→TC n p a b
 |cons {a b c:Nat}:a<n→b<n→p a b=true→TC n p b c→TC n p a c
section
variable {n:Nat} {p q:gk} {a b c:Nat}
theorem TC.lt (h:TC n p a b):a<n∧b<n:=by
 induction h with
 |one h1 h2 _=>exact⟨h1,h2⟩
 |cons h1 _ _ _ ih=>exact⟨h1,ih.2⟩
theorem TC.trans (h:TC n p a b) (k:TC n p b c):TC n p a c:=by
 induction h with
 |one h1 h2 h3=>exact .cons h1 h2 h3 k
 |cons h1 h2 h3 _ ih=>exact .cons h1 h2 h3 (ih k)
theorem TC.snoc (h:TC n p a b) (hc:c<n) (hp:p b c=true):TC n p a c:=h.trans (.one h.lt.2 hc hp)
theorem TC.mono (h:TC n p a b) (xo:∀x y,x<n→y<n→p x y=true→q x y=true):TC n q a b:=by
 induction h with
 |one h1 h2 h3=>exact .one h1 h2 (xo _ _ h1 h2 h3)
 |cons h1 h2 h3 _ ih=>exact .cons h1 h2 (xo _ _ h1 h2 h3) ih
theorem TC.least {R:Nat→bT} (h:TC n p a b) (h1:∀x y,x<n→y<n→p x y=true→R x y) (h2:∀x y z,x<n→y<n→z<n→R x y→R y z→R x z):R a b:=by
 induction h with
 |one k1 k2 k3=>exact h1 _ _ k1 k2 k3
 |cons k1 k2 k3 k4 ih=>exact h2 _ _ _ k1 k2 k4.lt.2 (h1 _ _ k1 k2 k3) ih
theorem TC.last (h:TC n p a c):p a c=true∨∃b,TC n p a b∧p b c=true:=by
 induction h with
 |one _ _ h3=>exact .inl h3
 |cons h1 h2 h3 _ ih=>
  rcases ih with h|⟨b,h4,h5⟩
  ·exact .inr ⟨_,.one h1 h2 h3,h⟩
  ·exact .inr ⟨b,.cons h1 h2 h3 h4,h5⟩
end
theorem ze {n:Nat} {p:gk}:∀k,k≤n→∀a b,a<n→b<n→wM p k a b=true→TC n p a b
 |0,_,a,b,ha,hb,h=>.one ha hb h
 |k+1,hk,a,b,ha,hb,h=>by
  have h:(wM p k a b||(wM p k a k&&wM p k k b))=true:=h
  rw[alI,cA] at h
  rcases h with h|⟨h1,h2⟩
  ·exact ze k ai a b ha hb h
  ·exact(ze k ai a k ha ai h1).trans (ze k ai k b ai hb h2)
theorem LF {k:Nat}:wM p (k+1) a b=true↔wM p k a b=true∨(wM p k a k=true∧wM p k k b=true):=by
 show (wM p k a b||(wM p k a k&&wM p k k b))=true↔_
 rw[alI,cA]
theorem Nc {p:gk} {a b:Nat}:∀k,p a b=true→wM p k a b=true
 |0,h=>h
 |k+1,h=>LF.2 (.inl (Nc k h))
theorem As {p:gk}:∀k a b c,c<k→wM p k a c=true→wM p k c b=true→wM p k a b=true
 |0,_,_,_,h,_,_=>absurd h (anv _)
 |k+1,a,b,c,h,h1,h2=>by
  have ih:=fun a b c=>As (p:=p) k a b c
  rw[LF] at h1 h2 ⊢
  by_cases hc:c<k
  ·rcases h1 with h1|⟨h1,h3⟩
   ·rcases h2 with h2|⟨h2,h4⟩
    ·exact .inl (ih _ _ _ hc h1 h2)
    ·exact .inr ⟨ih _ _ _ hc h1 h2,h4⟩
   ·rcases h2 with h2|⟨h2,h4⟩
    ·exact .inr ⟨h1,ih _ _ _ hc h3 h2⟩
    ·exact .inr ⟨h1,h4⟩
  ·have:c=k:=by omega
   subst this
   have e1:wM p c a c=true:=by
    rcases h1 with h1|⟨h1,_⟩<;>exact h1
   have e2:wM p c c b=true:=by
    rcases h2 with h2|⟨_,h2⟩<;>exact h2
   exact .inr ⟨e1,e2⟩
def cl (n:Nat) (p:gk) (a b:Nat):Bool:=wM p n a b
theorem om (ha:a<n) (hb:b<n):cl n p a b=true↔TC n p a b:=
 ⟨ze n (alL _) a b ha hb,fun h=>h.least (R:=fun x y=>cl n p x y=true) (fun x y _ _ hp=>Nc n hp) fun x y z _ hy _ h1 h2=>As n x z y hy h1 h2⟩
theorem tE {q:gk} (h:∀a b,a<n→b<n→p a b=q a b) (ha:a<n) (hb:b<n):cl n p a b=cl n q a b:=by
 rw[al0,om ha hb,om ha hb]
 exact⟨fun k=>k.mono fun x y hx hy hp=>by rw[←h x y hx hy];exact hp,fun k=>k.mono fun x y hx hy hp=>by rw[h x y hx hy];exact hp⟩
theorem l6 (h:p a b=true):cl n p a b=true:=Nc n h
theorem nK {c:Nat} (hb:b<n) (h1:cl n p a b=true) (h2:cl n p b c=true):cl n p a c=true:=As n a c b hb h1 h2
theorem eX (ha:a<n) (hb:b<n):dw (cO n p) a b=p a b:=by
 unfold dw
 rw[eH,tq ha]
 show fU (jH n (p a)) _=_
 rw[lf];simp[hb]
theorem mw:bU ((n:Nat):Int) (cO n p)=cO n (cl n p):=by
 unfold bU
 rw[dC]
 exact dL fun a b ha hb=>tE (fun x y hx hy=>eX hx hy) ha hb
theorem sH {n:Int} {rs:Rows} (h:cq n rs=true):cq n (bU n rs)=true:=by
 obtain⟨m,p,rfl,hm,rfl⟩:=nF h
 rw[mw];exact kx hm
def jB (l:List Nat):az:=l.map fun k=>((k:Nat):Int)
def iN (n:Nat) (f:Nat→Bool):az:=jB ((List.range n).filter f)
theorem tp {z:Int}:z∈iN n f↔∃k,k<n∧f k=true∧z=((k:Nat):Int):=by
 unfold iN jB
 simp only[amx,alO,alF]
 constructor
 ·rintro⟨k,⟨h1,h2⟩,rfl⟩;exact⟨k,h1,h2,rfl⟩
 ·rintro⟨k,h1,h2,rfl⟩;exact⟨k,⟨h1,h2⟩,rfl⟩
theorem Xu (hb:b<n):((b:Nat):Int)∈iN n f↔f b=true:=by
 rw[tp]
 constructor
 ·rintro⟨k,_,h2,h3⟩
  have:b=k:=by omega
  rw[this];exact h2
 ·intro h;exact⟨b,hb,h,rfl⟩
theorem yr (n:Nat) (f:Nat→Bool):(iN n f).length≤n:=by
 unfold iN jB
 rw[aml]
 have:=amQ f<|List.range n
 simpa using this
theorem QE {g:Nat→Bool} (h:∀k,k<n→f k=g k):iN n f=iN n g:=by
 unfold iN jB
 congr 1
 exact amR fun k hk=>h k (alF.1 hk)
theorem I5 (n:Nat) (f:Nat→Bool):iN (n+1) f=iN n f++(if f n=true then [((n:Nat):Int)] else []):=by
 unfold iN jB
 rw[al6,al8,amk]
 congr 1
 cases h:f n<;>simp[h]
theorem QH (n:Nat) (f:Nat→Bool):fH (jH n f)=iN n f:=Ec n f
def vH (n:Nat) (P:gk) (i q a b:Nat):Bool:=(decide (a<i)&&P a b)||(decide (a=i)&&decide (((b:Nat):Int)∈(iN n (P i)).take q))
theorem WW:tn ((n:Nat):Int)=cO n (vH n P 0 0):=by
 rw[tY]
 exact dL fun a b _ _=>by unfold vH;simp
theorem Yy {i q:Nat} (h:(iN n (P i)).length≤q):cO n (vH n P i q)=cO n (vH n P (i+1) 0):=by
 refine dL fun a b ha hb=>?_
 unfold vH
 rw[alU h,anV,al0]
 simp only[alI,cA,alC,Xu hb,amC,and_false,am3]
 constructor
 ·rintro(⟨h1,h2⟩|⟨rfl,h2⟩)
  ·exact⟨by omega,h2⟩
  ·exact⟨by omega,h2⟩
 ·rintro⟨h1,h2⟩
  by_cases e:a=i
  ·subst e;exact .inr ⟨rfl,h2⟩
  ·exact .inl ⟨by omega,h2⟩
theorem WX {i q:Nat} {x:Int} (hx:(iN n (P i))[q]? =some x) (hi:i<n):
  mH ((n:Nat):Int) [((i:Nat):Int),x]=true∧bL ((n:Nat):Int) (cO n (vH n P i q)) ((i:Nat):Int) x=cO n (vH n P i (q+1)):=by
 obtain⟨k,hk,hp,rfl⟩:=tp.1 (eh hx)
 have iw:mH ((n:Nat):Int) [((i:Nat):Int),((k:Nat):Int)]=true:=by rw[B6];simp[hi,hk]
 refine⟨iw,?_⟩
 rw[zo iw]
 refine dL fun a b ha hb=>?_
 unfold vH
 have e:=nV (r:=iN n (P i)) (k:=q) (x:=((k:Nat):Int))<|by rw[dC];exact hx
 rw[e,al0]
 simp only[alI,cA,alC,alR,alQ,amC,am3,dC]
 constructor
 ·rintro((h|⟨h1,h2⟩)|⟨h1,h2⟩)
  ·exact .inl h
  ·exact .inr ⟨h1,.inl h2⟩
  ·exact .inr ⟨h1,.inr ai⟩
 ·rintro(h|⟨h1,h2|h2⟩)
  ·exact .inl (.inl h)
  ·exact .inl (.inr ⟨h1,h2⟩)
  ·exact .inr ⟨h1,by omega⟩
end Go.Ew
namespace Go.Ew
variable {n:Int}
theorem RQ {rs xs:Rows} {q:Nat} (hs:xs=cO n.toNat (wM (dw rs) q)) (hq:q≤n.toNat) (j7:n.toNat≤q):xs=bU n rs:=by
 obtain rfl:q=n.toNat:=by omega
 exact hs
section
variable {n:Int} {rs:Rows} (h:cq n rs=true)
include h
theorem Lr:rs=cO n.toNat (wM (dw rs) 0):=Gs h
theorem yO {a b:Nat} (ha:((a:Nat):Int)<n) (hb:((b:Nat):Int)<n):dG n rs ((a:Nat):Int) ((b:Nat):Int)=dw rs a b:=by
 obtain⟨m,p,rfl,hm,rfl⟩:=nF h
 rw[fy ai ai,eX ai ai]
theorem rE {a b:Int} (ha:0≤a∧a<n) (hb:0≤b∧b<n):dG n rs a b=dw rs a.toNat b.toNat:=by
 have:=yO h (a:=a.toNat) (b:=b.toNat) ai ai
 rwa [alJ ha.1,alJ hb.1] at this
end
section
variable {n:Int} {rs xs:Rows} {i j:Int} (h:cq n rs=true)
include h
end
def LD (p:gk) (l:az) (a b:Nat):Bool:=p a b&&(decide (((a:Nat):Int)∈l)&&decide (((b:Nat):Int)∈l))
def gD (n:Int) (rs:Rows) (l:az):Rows:=cO n.toNat (LD (dw rs) l)
section
variable {n:Int} {rs xs:Rows} {l:az} {mk:Row} {k:Nat} (h:cq n rs=true)
include h
end
def xi (l:az) (z:Int×Int):Bool:=decide (z.1∈l)&&decide (z.2∈l)
theorem K5 {rs:Rows} (h:cq n rs=true) (l:az):foldM n ((cW n rs).filter (xi l))=gD n rs l:=by
 obtain⟨m,p,rfl,hm,rfl⟩:=nF h
 rw[EB fun z hz=>IN z (alO.1 hz).1]
 unfold gD
 rw[dC]
 refine dL fun a b ha hb=>?_
 unfold LD
 rw[eX ha hb,al0,amp]
 simp only[cA,alC]
 constructor
 ·rintro⟨z,hz,h1,h2⟩
  obtain⟨hz,hl⟩:=alO.1 hz
  obtain⟨c,d,hc,hd,hp,rfl⟩:=rV.1 hz
  simp only[dC] at h1 h2
  subst h1;subst h2
  unfold xi at hl
  simp only[cA,alC] at hl
  exact⟨hp,hl⟩
 ·rintro⟨hp,h1,h2⟩
  refine⟨(((a:Nat):Int),((b:Nat):Int)),alO.2 ⟨rV.2 ⟨a,b,ha,hb,hp,J⟩,?_⟩,by simp,by simp⟩
  unfold xi;simp[h1,h2]
theorem uh {l:List (Int×Int)} {f:Int×Int→Bool} {q:Nat} {z:Int×Int} (hz:l[((q:Nat):Int).toNat]? =some z):foldM n ((l.take (q+1)).filter f)=if f z=true then pO (foldM n ((l.take q).filter f)) z else foldM n ((l.take q).filter f):=by
 rw[nV hz,al8]
 unfold foldM
 rw[anE]
 cases h:f z<;>simp[h]
end Go.Ew
namespace Go.Ew
variable {b:Bool} {x n:Int} {j:Nat} {rs:Rows} {l:az}
structure uA (n:Nat) (p:gk) (i:Nat) (sn:List Bool) (td:az) (at_:Int) (j:Nat):Prop where
 len:sn.length=n
 snd:∀k,sn.getD k false=true→TC n p i k
 Pp:∀t∈td,∃k,t=((k:Nat):Int)∧k<n∧(k=i∨sn.getD k false=true)
 RO:∀x,x<n→(x=i∨sn.getD x false=true)→((x:Nat):Int)∈td∨(((x:Nat):Int)=at_∧∀y,y<j→p x y=true→sn.getD y false=true)∨∀y,y<n→p x y=true→sn.getD y false=true
section
variable {n:Nat} {p:gk} {i j:Nat} {sn:List Bool} {td:az} {at_:Int}
theorem wq {l:List Bool} {k m:Nat} (hk:k<l.length):(l.set k b).getD m false=if m=k then b else l.getD m false:=by
 rw[eH,anq]
 by_cases e:k=m
 ·subst e;rw[alE rfl,alE rfl,alE hk];rfl
 ·rw[alG e,alG fun e2=>e e2.symm,eH]
theorem P0 (hi:i<n):uA n p i (List.replicate n false) [((i:Nat):Int)] (-1) 0:=by
 have hg:∀k,(List.replicate n false).getD k false=false:=by
  intro k
  rw[eH,anf];split<;>rfl
 refine⟨by simp,fun k hk=>(by rw[hg] at hk;cases hk),fun t ht=>?_,fun x hx h=>?_⟩
 ·exact⟨i,by simpa using ht,hi,.inl rfl⟩
 ·rcases h with rfl|h
  ·exact .inl (by simp)
  ·rw[hg] at h;cases h
theorem Yx (h:uA n p i sn td (-1) 0) (hx:td[0]? =some x):∃k:Nat,x=((k:Nat):Int)∧k<n∧(k=i∨TC n p i k):=by
 obtain⟨k,h1,h2,h3⟩:=h.Pp x (eh hx)
 exact⟨k,h1,h2,h3.imp id (h.snd k)⟩
theorem WT {x:Int} (h:uA n p i sn td (-1) 0) (hx:td[0]? =some x):uA n p i sn (td.drop 1) x 0:=by
 cases td with
 |nil=>simp at hx
 |cons y td=>
  simp at hx
  subst hx
  refine⟨h.len,h.snd,fun t ht=>h.Pp t (alV _<|by simpa using ht),fun x Ef hs=>?_⟩
  rcases h.RO x Ef hs with h1|⟨h1, -⟩|h1
  ·rcases alQ.1 h1 with h1|h1
   ·exact .inr (.inl ⟨h1,fun y hy=>absurd hy (anv _)⟩)
   ·exact .inl (by simpa using h1)
  ·omega
  ·exact .inr (.inr h1)
theorem WS {a:Nat} (h:uA n p i sn td ((a:Nat):Int) j) (ha:a=i∨TC n p i a) (Eo:a<n) (hj:j<n) (hp:p a j=true):uA n p i (sn.set j true) (td++[((j:Nat):Int)]) ((a:Nat):Int) (j+1):=by
 have hl:j<sn.length:=by rw[h.len];exact hj
 have up:∀y,sn.getD y false=true→(sn.set j true).getD y false=true:=fun y hy=>by rw[wq hl];split<;>first|rfl|exact hy
 refine⟨by rw[alP];exact h.len,fun k hk=>?_,fun t ht=>?_,fun x hx hs=>?_⟩
 ·rw[wq hl] at hk
  split at hk
  ·rename_i e
   subst e
   rcases ha with rfl|ha
   ·exact .one Eo hj hp
   ·exact ha.snoc hj hp
  ·exact h.snd k hk
 ·rcases alR.1 ht with ht|ht
  ·obtain⟨k,h1,h2,h3⟩:=h.Pp t ht
   exact⟨k,h1,h2,h3.imp id (up k)⟩
  ·exact⟨j,by simpa using ht,hj,.inr (by rw[wq hl,alE rfl])⟩
 ·by_cases e:x=j
  ·subst e;exact .inl (by simp)
  ·have gM:x=i∨sn.getD x false=true:=hs.imp id fun hs=>by rw[wq hl,alG e] at hs;exact hs
   rcases h.RO x hx gM with h1|⟨h1,h2⟩|h1
   ·exact .inl (amM _ h1)
   ·refine .inr (.inl ⟨h1,fun y hy Jm=>?_⟩)
    by_cases e2:y=j
    ·subst e2;rw[wq hl,alE rfl]
    ·exact up y<|h2 y ai Jm
   ·exact .inr (.inr fun y hy Jm=>up y (h1 y hy Jm))
theorem P1 {a:Nat} (h:uA n p i sn td ((a:Nat):Int) j) (hp:p a j=false∨sn.getD j false=true):uA n p i sn td ((a:Nat):Int) (j+1):=by
 refine⟨h.len,h.snd,h.Pp,fun x hx hs=>?_⟩
 rcases h.RO x hx hs with h1|⟨h1,h2⟩|h1
 ·exact .inl h1
 ·refine .inr (.inl ⟨h1,fun y hy Jm=>?_⟩)
  by_cases e2:y=j
  ·subst e2
   rcases hp with hp|hp
   ·have:x=a:=by omega
    subst this;rw[hp] at Jm;cases Jm
   ·exact hp
  ·exact h2 y ai Jm
 ·exact .inr (.inr h1)
theorem Te (h:uA n p i sn td at_ j) (hj:n≤j):uA n p i sn td (-1) 0:=by
 refine⟨h.len,h.snd,h.Pp,fun x hx hs=>?_⟩
 rcases h.RO x hx hs with h1|⟨h1,h2⟩|h1
 ·exact .inl h1
 ·exact .inr (.inr fun y hy=>h2 y ai)
 ·exact .inr (.inr h1)
theorem WU (h:uA n p i sn [] (-1) 0) (hi:i<n) {k:Nat} (hk:k<n):sn.getD k false=cl n p i k:=by
 have step:∀x y,x<n→y<n→(x=i∨sn.getD x false=true)→p x y=true→sn.getD y false=true:=by
  intro x y hx hy hs hp
  rcases h.RO x hx hs with h1|⟨h1, -⟩|h1
  ·cases h1
  ·omega
  ·exact h1 y hy hp
 have all:∀a b,TC n p a b→(a=i∨sn.getD a false=true)→sn.getD b false=true:=by
  intro a b mK
  induction mK with
  |one h1 h2 h3=>exact fun hs=>step _ _ h1 h2 hs h3
  |cons h1 h2 h3 _ ih=>exact fun hs=>ih (.inr (step _ _ h1 h2 hs h3))
 rw[al0,om hi hk]
 exact⟨h.snd k,fun ht=>all i k ht (.inl rfl)⟩
theorem count_set {l:List Bool} {k:Nat} (h:l[k]? =some false):(l.set k true).count false+1=l.count false:=by
 induction l generalizing k with
 |nil=>simp at h
 |cons b l ih=>
  cases k with
  |zero=>simp at h;subst h;simp
  |succ k=>
   simp at h
   have:=ih h
   rw[List.set_cons_succ,List.count_cons,List.count_cons]
   omega
theorem wu {l:List Bool} {k:Nat} (h:l[((k:Nat):Int).toNat]? =some b):l.getD k false=b:=by
 rw[dC] at h
 rw[eH,h];rfl
end
theorem WB {td:az} (h:¬(0:Int)<((td.length:Nat):Int)):td=[]:=amK ai
section
variable {n:Int} {rs:Rows} {i a j:Nat} {sn:List Bool} {td:az} {x:Int} (rt:cq n rs=true) (e:x=((a:Nat):Int)) (h:uA n.toNat (dw rs) i sn td x j) (Eo:a<n.toNat) (hj:j<n.toNat)
include rt e h Eo hj
theorem Tf (ha:a=i∨TC n.toNat (dw rs) i a) (hp:dG n rs x ((j:Nat):Int)=true):uA n.toNat (dw rs) i (sn.set ((j:Nat):Int).toNat true) (td++[((j:Nat):Int)]) x (j+1):=by
 subst e
 exact WS h ha Eo hj<|by rw[←yO rt ai ai];exact hp
theorem WV (hp:dG n rs x ((j:Nat):Int)=false):uA n.toNat (dw rs) i sn td x (j+1):=by
 subst e
 exact P1 h<|.inl (by rw[←yO rt ai ai];exact hp)
theorem Tg (hb:sn[((j:Nat):Int).toNat]? =some b) (h2:b=true):uA n.toNat (dw rs) i sn td x (j+1):=by
 subst e
 exact P1 h<|.inr (by rw[wu hb];exact h2)
end
theorem OT {sn:List Bool} {td:az} {z:Nat} (hb:sn[((j:Nat):Int).toNat]? =some b) (h2:b=false) (hz:2*sn.count false+td.length≤z):2*(sn.set ((j:Nat):Int).toNat true).count false+(td++[((j:Nat):Int)]).length≤z:=by
 subst h2
 have:=count_set (l:=sn) (k:=j) hb
 rw[dC,im,List.length_singleton]
 omega
theorem UZ (h:cq n rs=true) (P:gk):(((cO n.toNat P).length:Nat):Int)=n∧(∀x∈cO n.toNat P,x.length≤1000000000)∧n≤4096:=by
 have h0:=iA h
 have h4:=(bQ h).2.2.1
 exact⟨by rw[lV];omega,sA ai,h4⟩
theorem ya {xs:Rows} (h:cq n rs=true) {P:gk} {i q:Nat} (hs:xs=cO n.toNat (vH n.toNat P i q)) (hx:(iN n.toNat (P i))[((q:Nat):Int).toNat]? =some x) (hi:((i:Nat):Int)<n):
  dP n ((i:Nat):Int) x=n∧bL n xs ((i:Nat):Int) x=cO n.toNat (vH n.toNat P i (q+1))∧iH n ((i:Nat):Int) x=0:=by
 have h0:=iA h
 have hn:((n.toNat:Nat):Int)=n:=by omega
 obtain⟨h1,h2⟩:=WX (n:=n.toNat) hx ai
 rw[hn] at h1 h2
 refine⟨(jx (rs:=rs) h1).1,?_,(jx (rs:=rs) h1).2.2⟩
 rw[hs];exact h2
theorem Th (h:cq n rs=true) (P:gk):bO n=cO n.toNat (vH n.toNat P 0 0):=by
 rw[(kA (zt h)).2.1]
 have:=WW (n:=n.toNat) (P:=P)
 rwa [alJ (iA h)] at this
theorem Yz {xs:Rows} {P:gk} {i:Nat} (hs:xs=cO n.toNat (vH n.toNat P i 0)) (hi:n≤((i:Nat):Int)):xs=cO n.toNat P:=by
 rw[hs]
 exact dL fun a b ha hb=>by unfold vH;simp[show a<i from by omega]
section
variable {k:Int} {l:List (BitVec 8×BitVec 8)} {z:BitVec 8×BitVec 8} (hk:0<k) (h4:k≤4096)
include hk h4
end
theorem Tw {y:Int} (hx:l[((j:Nat):Int).toNat]? =some y) (h:y=x):true=decide (x∈l):=by
 subst h;exact(alM (eh hx)).symm
theorem Xr (hs:x∉l.take j) (h:l.length≤j):false=decide (x∈l):=by
 rw[k0 h] at hs;exact(alH hs).symm
theorem QB {y:Int} (hs:x∉l.take j) (hx:l[((j:Nat):Int).toNat]? =some y) (h:¬y=x):x∉l.take (j+1):=by
 rw[nV hx]
 intro hm
 rcases alR.1 hm with hm|hm
 ·exact hs hm
 ·simp at hm;exact h hm.symm
end Go.Ew
namespace Go.Ew
section
variable {n:Int} {rs:Rows} (h:cq n rs=true)
include h
end
end Go.Ew
namespace Go.Ew
variable {n o:Int} {rs:Rows} {x:Row}
def ee (n:Int) (rs:Rows) (o:Int):az:=if 0≤o∧o<n then iN n.toNat (fun a=>dw rs a o.toNat) else []
def dm (n:Int) (rs:Rows) (o:Int):az:=if 0≤o∧o<n then iN n.toNat (fun a=>dw rs a o.toNat||decide (a=o.toNat)) else []
theorem CS (h:¬(0≤o∧o<n)):dm n rs o=[]:=by unfold dm;rw[alG h]
theorem K6 (h:cq n rs=true) (h0:0≤o∧o<n) (hx:(oJ n rs)[o.toNat]? =some x):x=jH n.toNat fun a=>dw rs a o.toNat:=by
 obtain⟨m,p,rfl,hm,rfl⟩:=nF h
 rw[Gg] at hx
 obtain⟨h1,rfl⟩:=pk hx
 rw[dC]
 exact qo fun a ha=>(eX ha h1).symm
theorem Pe (h:cq n rs=true) (h0:0≤o∧o<n) (hx:(oJ n rs)[o.toNat]? =some x):fH (ej x o)=dm n rs o:=by
 rw[K6 h h0 hx,AD h0.1 ai,QH];unfold dm;rw[alE h0]
theorem Aw (h:cq n rs=true) {i:Nat} (hx:(oJ n rs)[i]? =some x):x.length≤64:=(bQ (Ng h)).2.2.2.2 _ (eh hx)
theorem AL (h:cq n rs=true) (o:Int):(ee n rs o).length≤4096:=by
 have h4:=(bQ h).2.2.1
 unfold ee;split
 ·have:=yr n.toNat (fun a=>dw rs a o.toNat);omega
 ·simp
section
variable {n:Int} {rs:Rows} (h:cq n rs=true) {k:Int} (hk:0≤k∧k<n)
include h hk
end
end Go.Ew
namespace Go.Ew
variable {q:Nat} {n o:Int} {rs:Rows}
def aV (p:Int→Bool) (xs:az):az:=xs.filter fun x=>!p x
def DF (p:Int→Bool) (xs ys:az) (q:Int) (k:Nat):Prop:=ys.length=xs.length∧ys.take q.toNat=aV p (xs.take k)∧ys.drop k=xs.drop k
section
variable {p:Int→Bool} {xs ys:az} {q x:Int} {k:Nat}
theorem XT (h:gx p xs= -1):xs=aV p xs:=by
 have h1:=rC (p:=p) (r:=xs)
 rw[h,alH ai] at h1
 unfold aV
 refine(an7.2 fun x hx=>?_).symm
 have:=amF.1 h1.symm x hx
 simpa using this
theorem Un (h:¬gx p xs= -1):0≤gx p xs∧(gx p xs).toNat<xs.length∧DF p xs xs (gx p xs) ((gx p xs).toNat+1):=by
 unfold gx at h ⊢
 cases hf:xs.findIdx? p with
 |none=>rw[hf] at h;exact absurd rfl h
 |some i=>
  rw[hf] at h
  obtain⟨h1,h2,h3⟩:=amz.1 hf
  refine⟨by show (0:Int)≤((i:Nat):Int);omega,h1,J,?_,J⟩
  show xs.take i=aV p (xs.take (i+1))
  unfold aV
  rw[amY,dW h1,al8]
  have e1:(xs.take i).filter (fun x=>!p x)=xs.take i:=by
   refine an7.2 fun y hy=>?_
   obtain⟨j,hj⟩:=amt.1 hy
   have rZ:=(eW.1 hj).1
   rw[lY] at rZ
   have h4:=h3 j ai
   rw[aof ai,dW ai] at hj
   rw[←alD hj]
   simpa using h4
  rw[e1]
  simp[h2]
theorem OS (h:DF p xs ys q k) (hx:ys[k]? =some x):xs[k]? =some x:=by
 have h1:=h.2.2
 have:(ys.drop k)[0]? =some x:=by rw[amI];exact hx
 rw[h1,amI] at this
 exact this
theorem Cc (hx:xs[k]? =some x):aV p (xs.take (k+1))=aV p (xs.take k)++(if p x=true then [] else [x]):=by
 unfold aV
 rw[amY,hx,al8]
 cases hp:p x<;>simp[hp]
theorem Kl (h:DF p xs ys q k):ys.drop (k+1)=xs.drop (k+1):=by
 have h1:=h.2.2
 rw[←anm,←anm,h1]
theorem XV (h:DF p xs ys q k) (hx:ys[k]? =some x) (hp:p x=true):DF p xs ys q (k+1):=
 ⟨h.1,by rw[Cc (OS h hx),alE hp,amA];exact h.2.1,Kl h⟩
theorem XU (h:DF p xs ys q k) (hx:ys[k]? =some x) (hp:p x=false) (h0:0≤q) (hq:q<((k:Nat):Int)):DF p xs (ys.set q.toNat x) (q+1) (k+1):=by
 have hk:=(eW.1 hx).1
 refine⟨by rw[alP];exact h.1,?_,?_⟩
 ·rw[Cc (OS h hx),alG (by rw[hp];decide),←h.2.1,show (q+1).toNat=q.toNat+1 from by omega,amY,List.take_set_of_le (alL _),amj ai]
  rfl
 ·rw[List.drop_set_of_lt ai]
  exact Kl h
theorem abz (h:DF p xs ys q k) (hk:xs.length≤k) (h0:0≤q) (hq:q.toNat≤ys.length) (m:Nat):(ys.take q.toNat++(List.replicate m (0:Int)++[])).take q.toNat=aV p xs:=by
 rw[List.take_left' (by rw[lY];omega),h.2.1,alU hk]
end
def fe (aL:List aR) (v i:Int):Bool:=decide (i<0)||(match aL[i.toNat]? with
 |none=>true
 |some x=>!x.2.2.1||!decide (x.2.2.2.1=v))
def cm (aL:List aR) (i:Int):Bool:=((aL[i.toNat]?).map (fun x=>x.2.2.1)).getD false
section
variable {aL:List aR} {v i:Int} {x:aR}
theorem LC (h:i<0):fe aL v i=true:=by unfold fe;rw[alM h];rfl
theorem LB (h:((aL.length:Nat):Int)≤i):fe aL v i=true:=by
 unfold fe
 rw[amf ai];simp
theorem HZ (h0:¬i<0) (hx:aL[i.toNat]? =some x):fe aL v i=(!x.2.2.1||!decide (x.2.2.2.1=v)):=by
 unfold fe
 rw[alH h0,hx];rfl
theorem tf (h0:¬i<0) (hx:aL[i.toNat]? =some x) (hw:x.2.2.1=true) (hv:x.2.2.2.1=v):fe aL v i=false:=by rw[HZ h0 hx,hw,hv];simp
theorem Pc (h0:¬i<0) (hx:aL[i.toNat]? =some x) (hw:x.2.2.1=false):fe aL v i=true:=by rw[HZ h0 hx,hw];rfl
theorem Pd (h0:¬i<0) (hx:aL[i.toNat]? =some x) (hv:¬x.2.2.2.1=v):fe aL v i=true:=by rw[HZ h0 hx,alH hv];simp
theorem LA (hx:aL[i.toNat]? =some x) (h:(!x.2.2.1)=true):cm aL i=false:=by
 unfold cm;rw[hx];simpa using h
theorem Pb (hx:aL[i.toNat]? =some x) (h:(!x.2.2.1)=false):cm aL i=true:=by
 unfold cm;rw[hx];simpa using h
theorem HY (hx:aL[i.toNat]? =some x):cm aL i=x.2.2.1:=by unfold cm;rw[hx];rfl
theorem rB {l:az} {p:Int→Bool} {x:Int} (hx:l[q]? =some x) (hp:p x=false):aV p (l.take q)++[x]=aV p (l.take (q+1)):=by
 rw[Cc hx,alG (by rw[hp];decide)]
theorem tv {l:az} {p:Int→Bool} {x:Int} (hx:l[q]? =some x) (hp:p x=true):aV p (l.take q)=aV p (l.take (q+1)):=by
 rw[Cc hx,alE hp,amA]
theorem I9 (l:az) (q:Nat) (p:Int→Bool):(aV p (l.take q)).length≤q:=by
 unfold aV
 have:=amQ (fun x=>!p x)<|l.take q
 rw[lY] at this;omega
theorem P_ (o:et aL) {t:Int} {x:Int} (hx:(fG aL t)[q]? =some x):0≤x∧x<((aL.length:Nat):Int):=by
 by_cases h:0≤t∧t<(aL.length:Int)
 ·have:=W8 o h.1 h.2 hx
  omega
 ·rw[←C9 h] at hx;simp at hx
theorem P8 {t:Int} {j:Nat} {x:Int} (hx:(bS aL t j)[q]? =some x):0≤x∧x<((j:Nat):Int):=by
 unfold bS at hx
 rw[amc,al'] at hx
 obtain⟨a,h1,rfl⟩:=hx
 have:=alF.1 (alO.1<|eh h1).1
 omega
end
def sw (n:Int) (rs:Rows) (o:Int) (q:Nat):az:=((List.range q).filter fun a=>dG n rs ((a:Nat):Int) o).map fun a=>((a:Nat):Int)
theorem Gy (h:dG n rs ((q:Nat):Int) o=true):sw n rs o q++[((q:Nat):Int)]=sw n rs o (q+1):=by
 unfold sw;rw[al6,al8,amk];simp[h]
theorem IM (h:dG n rs ((q:Nat):Int) o=false):sw n rs o q=sw n rs o (q+1):=by
 unfold sw;rw[al6,al8,amk];simp[h]
theorem P7 (n:Int) (rs:Rows) (o:Int) (q:Nat):(sw n rs o q).length≤q:=by
 unfold sw;rw[aml]
 have:=amQ (fun a=>dG n rs ((a:Nat):Int) o)<|List.range q
 rw[amZ] at this;exact this
def rq (n:Int) (rs:Rows) (o:Int) (q:Nat):az:=((List.range q).filter fun a=>decide (((a:Nat):Int)=o)||dG n rs ((a:Nat):Int) o).map fun a=>((a:Nat):Int)
theorem rN (h:((q:Nat):Int)=o∨dG n rs ((q:Nat):Int) o=true):rq n rs o q++[((q:Nat):Int)]=rq n rs o (q+1):=by
 have h:(decide (((q:Nat):Int)=o)||dG n rs ((q:Nat):Int) o)=true:=by
  rcases h with h|h
  ·rw[alM h];rfl
  ·rw[h,Bool.or_true]
 unfold rq;rw[al6,al8,amk];simp[h]
theorem CR (h1:¬((q:Nat):Int)=o) (h2:dG n rs ((q:Nat):Int) o=false):rq n rs o q=rq n rs o (q+1):=by
 have h:(decide (((q:Nat):Int)=o)||dG n rs ((q:Nat):Int) o)=false:=by rw[alH h1,h2];rfl
 unfold rq;rw[al6,al8,amk];simp[h]
theorem Gb (n:Int) (rs:Rows) (o:Int) (q:Nat):(rq n rs o q).length≤q:=by
 unfold rq;rw[aml]
 have:=amQ (fun a=>decide (((a:Nat):Int)=o)||dG n rs ((a:Nat):Int) o)<|List.range q
 rw[amZ] at this;exact this
theorem T5 {n:Int} {rs:Rows} {a o:Int} (h:cq n rs=true) (ho:¬(0≤o∧o<n)):dG n rs a o=false:=by
 unfold dG
 first
  |(rw[alG (by rw[jC];omega)])
  |(cases hq:mH n [a,o] with
   |true=>exact absurd (jC.1 hq).2 ho
   |false=>rfl)
theorem W7 (h:cq n rs=true) (o:Int):sw n rs o n.toNat=ee n rs o:=by
 have h0:=iA h
 unfold ee sw
 split
 ·rename_i ho
  unfold iN jB
  congr 1
  refine amR fun a ha=>?_
  have:=alF.1 ha
  rw[rE h ⟨by omega,by omega⟩ ho,dC]
 ·rename_i ho
  rw[amb.2 fun a _=>by rw[T5 h ho];decide];rfl
theorem Ws (h:cq n rs=true) (ho:0≤o∧o<n):rq n rs o n.toNat=dm n rs o:=by
 unfold dm rq
 rw[alE ho]
 unfold iN jB
 congr 1
 refine amR fun a ha=>?_
 have:=alF.1 ha
 rw[rE h ⟨by omega,by omega⟩ ho,dC,Bool.or_comm]
 congr 1
 rw[am4];omega
theorem CQ (h:cq n rs=true) (hq:q=0∨(0≤o∧o<n)) (j7:q≤n.toNat) (hd:n.toNat≤q∨¬(0≤o∧o<n)):rq n rs o q=dm n rs o:=by
 by_cases ho:0≤o∧o<n
 ·rcases hd with hd|hd
  ·rw[show q=n.toNat from by omega,Ws h ho]
  ·exact absurd ho hd
 ·rcases hq with rfl|hq
  ·rw[CS ho];rfl
  ·exact absurd hq ho
end Go.Ew
namespace Go.Ew
variable {I:List aR} {k a b:Int}
abbrev aA:=Int×Int×Int×Int×Int
def xg (I:List aR) (i:Int):Bool:=decide (0≤i)&&decide (i<((I.length:Nat):Int))
def dV (I:List aR) (i:Int):Bool:=decide (i<0)||decide (((I.length:Nat):Int)≤i)
def gU (I:List aR) (i:Int):Int:=((I[i.toNat]?).map (fun x=>x.2.2.2.1)).getD 0
def dE (I:List aR) (a b:Int):Bool:=!decide (a=b)&&cm I a&&cm I b&&decide (gU I a=gU I b)
def bI (pre:List aA) (k:Int):Option aA:=if 0≤k then pre[k.toNat]? else none
def fP (pre:List aA) (k a b:Int):Bool:=match bI pre k with
 |some s=>decide (s.2.1=a)&&decide (s.2.2.1=b)
 |none=>false
def oU (pre:List aA) (s:aA):Bool:=match bI pre s.2.2.2.1,bI pre s.2.2.2.2 with
 |some x,some y=>decide (x.2.1=s.2.1)&&decide (x.2.2.1=y.2.1)&&decide (y.2.2.1=s.2.2.1)
 |_,_=>false
def fb (I:List aR) (fo:az) (pre:List aA) (s:aA):Bool:=
 if s.1=1 then decide (s.2.2.2.1= -1)&&decide (s.2.2.2.2= -1)&&ux I s.2.1 s.2.2.1
 else if s.1=2 then decide (s.2.2.2.1= -1)&&decide (s.2.2.2.2= -1)&&decide (fo.getD s.2.2.1.toNat 0=s.2.1)
 else if s.1=3 then oU pre s
 else if s.1=4 then xg I s.2.2.2.2&&decide (fo.getD s.2.2.2.2.toNat 0=s.2.2.1)&&dE I s.2.1 s.2.2.1&&fP pre s.2.2.2.1 s.2.1 s.2.2.2.2
 else false
def okO (I:List aR) (s:aA):Bool:=xg I s.2.1&&xg I s.2.2.1
def plainO (pre:List aA) (pl:List Bool) (s:aA):Bool:=
 if s.1=3∧oU pre s=true then pl.getD s.2.2.2.1.toNat false&&pl.getD s.2.2.2.2.toNat false else !decide (s.1=4)
theorem Xc {i:Int} (h:i<0):dV I i=true:=by unfold dV;rw[alM h];rfl
theorem Xd {i:Int} (h:¬i<0):decide (((I.length:Nat):Int)≤i)=dV I i:=by unfold dV;rw[alH h];rfl
theorem nf {pre:List aA} (h:k<0∨((pre.length:Nat):Int)≤k):bI pre k=none:=by
 unfold bI
 split
 ·exact amf ai
 ·rfl
theorem ql {pre:List aA} {s:aA} (h:0≤k) (hx:pre[k.toNat]? =some s):bI pre k=some s:=by unfold bI;rw[alE h,hx]
theorem Hy:(!([a,b].any (dV I)))=(xg I a&&xg I b):=by
 unfold dV xg
 simp only[anM,aoD,amn,ao2]
 have h:∀i:Int,(!decide (i<0)&&!decide (((I.length:Nat):Int)≤i))=(decide (0≤i)&&decide (i<((I.length:Nat):Int))):=by
  intro i
  rw[←decide_not,←decide_not]
  congr 1<;>rw[am4]<;>omega
 rw[←h a,←h b]
theorem WG {pre:List aA} {k a b:Int} (h:(bI pre k).isSome=false):false=fP pre k a b:=by
 unfold fP
 cases hs:bI pre k with
 |none=>rfl
 |some s=>rw[hs] at h;cases h
theorem LJ {pre:List aA} {k a b:Int} (h:(bI pre k).isSome=true):fP pre k a b=(decide ((bI pre k).elim 0 (·.2.1)=a)&&decide ((bI pre k).elim 0 (·.2.2.1)=b)):=by
 unfold fP
 cases hs:bI pre k with
 |none=>rw[hs] at h;cases h
 |some s=>rfl
theorem Yq {pre:List aA} (h:(bI pre k).isSome=true) (h2:decide ((bI pre k).elim 0 (·.2.1)=a)=false):false=fP pre k a b:=by rw[LJ h,h2];rfl
theorem Yp {pre:List aA} (h:(bI pre k).isSome=true) (h2:decide ((bI pre k).elim 0 (·.2.1)=a)=true):decide ((bI pre k).elim 0 (·.2.2.1)=b)=fP pre k a b:=by rw[LJ h,h2];rfl
theorem zw {x y:aR} (hx:I[a.toNat]? =some x) (hy:I[b.toNat]? =some y):dE I a b=(!decide (a=b)&&x.2.2.1&&y.2.2.1&&decide (x.2.2.2.1=y.2.2.2.1)):=by
 unfold dE gU
 rw[HY hx,HY hy,hx,hy];rfl
def xb (I:List aR) (fo:az) (pre:List aA) (s:aA):Bool:=okO I s&&fb I fo pre s
def qv (I:List aR) (pre:List aA) (s:aA):List aA:=if okO I s=true then pre++[s] else pre
def qw (I:List aR) (pre:List aA) (pl:List Bool) (s:aA):List Bool:=if okO I s=true then pl++[plainO pre pl s] else pl
theorem ok_eq {s:aA}:(!([s.2.1,s.2.2.1].any (dV I)))=okO I s:=Hy
def du (I:List aR) (fo:az):List aA→List Bool→List aA→Bool×List aA×List Bool
 |pre,pl,[]=>(true,pre,pl)
 |pre,pl,s::l=>if okO I s=true then (if fb I fo pre s=true then du I fo (pre++[s]) (pl++[plainO pre pl s]) l else (false,pre++[s],pl++[plainO pre pl s])) else (false,pre,pl)
def vy (I:List aR) (fo:az) (l:List aA):Bool:=(du I fo [] [] l).1
section
variable {I:List aR} {fo:az}
theorem Pr {l:List aA}:∀{pre:List aA} {pl:List Bool},(du I fo pre pl l).1=true→(du I fo pre pl l).2.1=pre++l:=by
 induction l with
 |nil=>intro pre pl _;simp[du]
 |cons s l ih=>
  intro pre pl h
  unfold du at h ⊢
  by_cases h1:okO I s=true
  ·rw[alE h1] at h ⊢
   by_cases h2:fb I fo pre s=true
   ·rw[alE h2] at h ⊢
    rw[ih h,alY];rfl
   ·rw[alG h2] at h;cases h
  ·rw[alG h1] at h;cases h
end
end Go.Ew
namespace Go.Ew
variable {x:Int}
section
variable {I:List aR} {fo:az} {pre:List aA} {pl:List Bool} {kd fr to sa sb:Int}
theorem sx (h:(!([fr,to].any (dV I)))=true):(0≤fr∧fr<((I.length:Nat):Int))∧0≤to∧to<((I.length:Nat):Int):=by
 rw[Hy,cA] at h
 unfold xg at h
 simp only[cA,alC] at h
 exact h
theorem AP:(!([sb].any (dV I)))=xg I sb:=by
 have h:=Hy (I:=I) (a:=sb) (b:=sb)
 simp only[anM,aoD,amn,Bool.or_self,Bool.and_self] at h ⊢
 exact h
theorem yi (h:(!([sb].any (dV I)))=true):0≤sb∧sb<((I.length:Nat):Int):=by
 rw[AP] at h
 unfold xg at h
 simp only[cA,alC] at h
 exact h
theorem vw (h:(bI pre sa).isSome=true):0≤sa∧sa<((pre.length:Nat):Int):=by
 unfold bI at h
 split at h
 ·rename_i h0
  refine⟨h0,?_⟩
  obtain⟨x,hx⟩:=alN.1 h
  have:=(eW.1 hx).1
  omega
 ·cases h
theorem acH (h:(!([fr,to].any (dV I)))=false):false=xb I fo pre (kd,fr,to,sa,sb):=by
 unfold xb
 rw[←ok_eq (s:=(kd,fr,to,sa,sb)),h];rfl
theorem Y_ (h:(!([fr,to].any (dV I)))=false):pre=qv I pre (kd,fr,to,sa,sb):=by
 unfold qv
 rw[alG (by rw[←ok_eq (s:=(kd,fr,to,sa,sb)),h];decide)]
theorem Y' (h:(!([fr,to].any (dV I)))=false):pl=qw I pre pl (kd,fr,to,sa,sb):=by
 unfold qw
 rw[alG (by rw[←ok_eq (s:=(kd,fr,to,sa,sb)),h];decide)]
theorem Y9 {g:Bool} (h:(!([fr,to].any (dV I)))=true) (hg:g=fb I fo pre (kd,fr,to,sa,sb)):g=xb I fo pre (kd,fr,to,sa,sb):=by
 unfold xb
 rw[←ok_eq (s:=(kd,fr,to,sa,sb)),h,hg];rfl
theorem Xn (h:(!([fr,to].any (dV I)))=true):pre++[(kd,fr,to,sa,sb)]=qv I pre (kd,fr,to,sa,sb):=by
 unfold qv
 rw[alE (by rw[←ok_eq (s:=(kd,fr,to,sa,sb)),h])]
theorem Xo {p:Bool} (h:(!([fr,to].any (dV I)))=true) (hp:p=plainO pre pl (kd,fr,to,sa,sb)):pl++[p]=qw I pre pl (kd,fr,to,sa,sb):=by
 unfold qw
 rw[alE (by rw[←ok_eq (s:=(kd,fr,to,sa,sb)),h]),hp]

theorem g_1 (h:kd=1):fb I fo pre (kd,fr,to,sa,sb)=(decide (sa= -1)&&decide (sb= -1)&&ux I fr to):=by unfold fb;rw[alE h]
theorem g1a (h:kd=1) (h1:decide (sa= -1)=false):false=fb I fo pre (kd,fr,to,sa,sb):=by rw[g_1 h,h1];rfl
theorem g1b (h:kd=1) (h1:decide (sa= -1)=true) (h2:decide (sb= -1)=false):false=fb I fo pre (kd,fr,to,sa,sb):=by rw[g_1 h,h1,h2];rfl
theorem g1c (h:kd=1) (h1:decide (sa= -1)=true) (h2:decide (sb= -1)=true):ux I fr to=fb I fo pre (kd,fr,to,sa,sb):=by rw[g_1 h,h1,h2];rfl
theorem g_2 (h:kd=2):fb I fo pre (kd,fr,to,sa,sb)=(decide (sa= -1)&&decide (sb= -1)&&decide (fo.getD to.toNat 0=fr)):=by unfold fb;rw[alG (by show ¬kd=1;omega),alE h]
theorem g2a (h:kd=2) (h1:decide (sa= -1)=false):false=fb I fo pre (kd,fr,to,sa,sb):=by rw[g_2 h,h1];rfl
theorem g2b (h:kd=2) (h1:decide (sa= -1)=true) (h2:decide (sb= -1)=false):false=fb I fo pre (kd,fr,to,sa,sb):=by rw[g_2 h,h1,h2];rfl
theorem g2c (h:kd=2) (h1:decide (sa= -1)=true) (h2:decide (sb= -1)=true) (hx:fo[to.toNat]? =some x):decide (x=fr)=fb I fo pre (kd,fr,to,sa,sb):=by
 rw[g_2 h,h1,h2,eH,hx];rfl
theorem Rn (h:kd=3):fb I fo pre (kd,fr,to,sa,sb)=oU pre (kd,fr,to,sa,sb):=by unfold fb;rw[alG (by show ¬kd=1;omega),alG (by show ¬kd=2;omega),alE h]
theorem Nn (h:(bI pre sa).isSome=false∨(bI pre sb).isSome=false):oU pre (kd,fr,to,sa,sb)=false:=by
 unfold oU
 rcases h with h|h
 ·rw[show bI pre (kd,fr,to,sa,sb).2.2.2.1=none from Option.isSome_eq_false_iff.1 h |> Option.isNone_iff_eq_none.1]
 ·rw[show bI pre (kd,fr,to,sa,sb).2.2.2.2=none from Option.isSome_eq_false_iff.1 h |> Option.isNone_iff_eq_none.1]
  cases bI pre (kd,fr,to,sa,sb).2.2.2.1<;>rfl
theorem CX (h:(bI pre sa).isSome=true) (h2:(bI pre sb).isSome=true):oU pre (kd,fr,to,sa,sb)=(decide ((bI pre sa).elim 0 (·.2.1)=fr)&&decide ((bI pre sa).elim 0 (·.2.2.1)=(bI pre sb).elim 0 (·.2.1))&&decide ((bI pre sb).elim 0 (·.2.2.1)=to)):=by
 unfold oU
 obtain⟨x,hx⟩:=alN.1 h
 obtain⟨y,hy⟩:=alN.1 h2
 rw[show bI pre (kd,fr,to,sa,sb).2.2.2.1=some x from hx,show bI pre (kd,fr,to,sa,sb).2.2.2.2=some y from hy]
 first|rfl|(rw[hx,hy];rfl)|(rw[hx];rfl)
theorem g3a (h:kd=3) (h1:(bI pre sa).isSome=false):false=fb I fo pre (kd,fr,to,sa,sb):=by rw[Rn h,Nn (.inl h1)]
theorem g3b (h:kd=3) (h1:(bI pre sb).isSome=false):false=fb I fo pre (kd,fr,to,sa,sb):=by rw[Rn h,Nn (.inr h1)]
theorem g3c (h:kd=3) (h1:(bI pre sa).isSome=true) (h2:(bI pre sb).isSome=true) (h3:decide ((bI pre sa).elim 0 (·.2.1)=fr)=false):false=fb I fo pre (kd,fr,to,sa,sb):=by rw[Rn h,CX h1 h2,h3];rfl
theorem g3d (h:kd=3) (h1:(bI pre sa).isSome=true) (h2:(bI pre sb).isSome=true) (h3:decide ((bI pre sa).elim 0 (·.2.1)=fr)=true) (h4:decide ((bI pre sa).elim 0 (·.2.2.1)=(bI pre sb).elim 0 (·.2.1))=false):false=fb I fo pre (kd,fr,to,sa,sb):=by rw[Rn h,CX h1 h2,h3,h4];rfl
theorem g3e (h:kd=3) (h1:(bI pre sa).isSome=true) (h2:(bI pre sb).isSome=true) (h3:decide ((bI pre sa).elim 0 (·.2.1)=fr)=true) (h4:decide ((bI pre sa).elim 0 (·.2.2.1)=(bI pre sb).elim 0 (·.2.1))=true):decide ((bI pre sb).elim 0 (·.2.2.1)=to)=fb I fo pre (kd,fr,to,sa,sb):=by rw[Rn h,CX h1 h2,h3,h4];rfl
theorem Rm (h:kd=4):fb I fo pre (kd,fr,to,sa,sb)=(xg I sb&&decide (fo.getD sb.toNat 0=to)&&dE I fr to&&fP pre sa fr sb):=by unfold fb;rw[alG (by show ¬kd=1;omega),alG (by show ¬kd=2;omega),alG (by show ¬kd=3;omega),alE h]
theorem g4a (h:kd=4) (h1:(!([sb].any (dV I)))=false):false=fb I fo pre (kd,fr,to,sa,sb):=by rw[Rm h,←AP,h1];rfl
theorem g4b (h:kd=4) (h1:(!([sb].any (dV I)))=true) (hx:fo[sb.toNat]? =some x) (h2:decide (x=to)=false):false=fb I fo pre (kd,fr,to,sa,sb):=by
 rw[Rm h,←AP,h1,eH,hx,show (some x).getD 0=x from rfl,h2];rfl
theorem g4c (h:kd=4) (h1:(!([sb].any (dV I)))=true) (hx:fo[sb.toNat]? =some x) (h2:decide (x=to)=true) (h3:dE I fr to=false):false=fb I fo pre (kd,fr,to,sa,sb):=by
 rw[Rm h,←AP,h1,eH,hx,show (some x).getD 0=x from rfl,h2,h3];rfl
theorem g4d (h:kd=4) (h1:(!([sb].any (dV I)))=true) (hx:fo[sb.toNat]? =some x) (h2:decide (x=to)=true) (h3:dE I fr to=true):fP pre sa fr sb=fb I fo pre (kd,fr,to,sa,sb):=by
 rw[Rm h,←AP,h1,eH,hx,show (some x).getD 0=x from rfl,h2,h3];rfl
theorem adB (h1:¬kd=1) (h2:¬kd=2) (h3:¬kd=3) (h4:¬kd=4):false=fb I fo pre (kd,fr,to,sa,sb):=by unfold fb;rw[alG h1,alG h2,alG h3,alG h4]

theorem YL (h3:¬kd=3) (h4:¬kd=4):true=plainO pre pl (kd,fr,to,sa,sb):=by
 unfold plainO
 rw[alG (fun h=>h3 h.1)]
 show true=!decide (kd=4)
 rw[alH h4];rfl
theorem YN (h:kd=1):true=plainO pre pl (kd,fr,to,sa,sb):=YL ai ai
theorem YM (h:kd=2):true=plainO pre pl (kd,fr,to,sa,sb):=YL ai ai
theorem U1 (h:kd=4):false=plainO pre pl (kd,fr,to,sa,sb):=by
 unfold plainO
 rw[alG (fun h2=>by have:kd=3:=h2.1;omega)]
 show false=!decide (kd=4)
 rw[alM h];rfl
theorem Qb (h:kd=3) (hg:oU pre (kd,fr,to,sa,sb)=false):true=plainO pre pl (kd,fr,to,sa,sb):=by
 unfold plainO
 rw[alG (fun h2=>by rw[hg] at h2;exact absurd h2.2 aJ)]
 show true=!decide (kd=4)
 rw[alH ai];rfl
theorem p3a (h:kd=3) (h1:(bI pre sa).isSome=false):true=plainO pre pl (kd,fr,to,sa,sb):=Qb h (Nn (.inl h1))
theorem p3b (h:kd=3) (h1:(bI pre sb).isSome=false):true=plainO pre pl (kd,fr,to,sa,sb):=Qb h (Nn (.inr h1))
theorem p3c (h:kd=3) (h1:(bI pre sa).isSome=true) (h2:(bI pre sb).isSome=true) (h3:decide ((bI pre sa).elim 0 (·.2.1)=fr)=false):true=plainO pre pl (kd,fr,to,sa,sb):=Qb h (by rw[CX h1 h2,h3];rfl)
theorem p3d (h:kd=3) (h1:(bI pre sa).isSome=true) (h2:(bI pre sb).isSome=true) (h3:decide ((bI pre sa).elim 0 (·.2.1)=fr)=true) (h4:decide ((bI pre sa).elim 0 (·.2.2.1)=(bI pre sb).elim 0 (·.2.1))=false):true=plainO pre pl (kd,fr,to,sa,sb):=Qb h (by rw[CX h1 h2,h3,h4];rfl)
theorem p3e (h:kd=3) (h1:(bI pre sa).isSome=true) (h2:(bI pre sb).isSome=true) (h3:decide ((bI pre sa).elim 0 (·.2.1)=fr)=true) (h4:decide ((bI pre sa).elim 0 (·.2.2.1)=(bI pre sb).elim 0 (·.2.1))=true) (h5:decide ((bI pre sb).elim 0 (·.2.2.1)=to)=false):true=plainO pre pl (kd,fr,to,sa,sb):=Qb h (by rw[CX h1 h2,h3,h4,h5];rfl)
theorem p_3 (h:kd=3) (h1:(bI pre sa).isSome=true) (h2:(bI pre sb).isSome=true) (h3:decide ((bI pre sa).elim 0 (·.2.1)=fr)=true) (h4:decide ((bI pre sa).elim 0 (·.2.2.1)=(bI pre sb).elim 0 (·.2.1))=true) (h5:decide ((bI pre sb).elim 0 (·.2.2.1)=to)=true):plainO pre pl (kd,fr,to,sa,sb)=(pl.getD sa.toNat false&&pl.getD sb.toNat false):=by
 unfold plainO
 rw[alE ⟨h,by rw[CX h1 h2,h3,h4,h5];rfl⟩]
theorem p3f {x:Bool} (h:kd=3) (h1:(bI pre sa).isSome=true) (h2:(bI pre sb).isSome=true) (h3:decide ((bI pre sa).elim 0 (·.2.1)=fr)=true) (h4:decide ((bI pre sa).elim 0 (·.2.2.1)=(bI pre sb).elim 0 (·.2.1))=true) (h5:decide ((bI pre sb).elim 0 (·.2.2.1)=to)=true)
  (hx:pl[sa.toNat]? =some x) (h6:x=false):false=plainO pre pl (kd,fr,to,sa,sb):=by
 rw[p_3 h h1 h2 h3 h4 h5,eH,hx,h6];rfl
theorem p3g {x y:Bool} (h:kd=3) (h1:(bI pre sa).isSome=true) (h2:(bI pre sb).isSome=true) (h3:decide ((bI pre sa).elim 0 (·.2.1)=fr)=true) (h4:decide ((bI pre sa).elim 0 (·.2.2.1)=(bI pre sb).elim 0 (·.2.1))=true) (h5:decide ((bI pre sb).elim 0 (·.2.2.1)=to)=true)
  (hx:pl[sa.toNat]? =some x) (h6:x=true) (hy:pl[sb.toNat]? =some y):y=plainO pre pl (kd,fr,to,sa,sb):=by
 rw[p_3 h h1 h2 h3 h4 h5,eH,eH,hx,hy,h6];rfl
end
end Go.Ew
namespace Go.Ew
variable {h:fC} {I:List aR} {fo:az} {j n:Nat} {w:Int}
def lE (h:fC):Bool:=kV h&&decide ((kh (j6 h)).2.2=0)
def kP (h:fC):List fO:=if lE h then qY h else []
def dX (h:fC):List aR:=if lE h then j6 h else []
def ef (h:fC):az:=if lE h then iU (j6 h) else []
theorem ym (hq:lE h=false):kP h=[]∧dX h=[]∧ef h=[]:=by unfold kP dX ef;simp[hq]
theorem yl (hq:lE h=true):kP h=qY h∧dX h=j6 h∧ef h=iU (j6 h):=by unfold kP dX ef;simp[hq]
theorem Xm {h:fC} (he:¬tW h=0):lE h=false:=by
 unfold lE
 cases hr:kV h with
 |false=>rfl
 |true=>exact absurd (zB hr).2.2 he
theorem acG {h:fC} (he:tW h=0):kV h=true:=by
 cases hr:kV h with
 |true=>rfl
 |false=>rw[(D7 hr).2.2] at he;cases he
theorem Xl (he:¬(kh (j6 h)).2.2=0):lE h=false:=by unfold lE;rw[alH he];simp
theorem Y8 (he:tW h=0) (hc:(kh (j6 h)).2.2=0):lE h=true:=by unfold lE;rw[acG he,alM hc];rfl
theorem Tt (h:fC):(dX h).length≤h.flatten.length:=by
 unfold dX;split
 ·exact LY h
 ·simp
theorem Xe:et ([]:List aR):=⟨fun h=>absurd h (anA 0),fun i h=>absurd h (anv _)⟩
theorem ng (h:fC):et (dX h):=by
 unfold dX;split
 ·exact Xk h
 ·exact Xe
theorem oP (h:fC):(ef h).length=(dX h).length:=by
 unfold ef dX;split
 ·exact Ro _
 ·rfl
theorem Uf {aL:List aR}:∀x∈iU aL,x<((aL.length:Nat):Int):=by
 intro x hx
 unfold iU at hx
 obtain⟨y,hy,rfl⟩:=amx.1 hx
 have:=(Lj (aL:=aL) (x:=y) J).2.2.2.1
 exact this
theorem rU (h:fC):∀x∈ef h,x<(((dX h).length:Nat):Int):=by
 unfold ef dX;split
 ·exact Uf
 ·intro x hx;cases hx
def Cm (fo:az) (a b:Nat):Bool:=decide (fo.getD b (-1)=((a:Nat):Int))
def gV (I:List aR) (fo:az):Rows:=cO I.length (Cm fo)
def qN (n:Nat) (fo:az) (j:Nat):Rows:=cO n fun a b=>decide (b<j)&&Cm fo a b
theorem LM (n:Nat) (fo:az):tn ((n:Nat):Int)=qN n fo 0:=by
 rw[tY];exact dL fun a b _ _=>by simp
theorem PS (hl:fo.length=I.length) (hj:fo.length≤j):qN I.length fo j=gV I fo:=
 dL fun a b _ hb=>by rw[alM (show b<j by omega)];rfl
theorem DW (hw:fo[((j:Nat):Int).toNat]? =some w) (h:w<0):qN n fo j=qN n fo (j+1):=by
 refine dL fun a b ha hb=>?_
 by_cases e:b=j
 ·subst e
  rw[dC] at hw
  unfold Cm
  rw[eH,hw,alH (show ¬(some w).getD (-1)=((a:Nat):Int) by simp;omega)];simp
 ·have:decide (b<j)=decide (b<j+1):=by rw[am4];omega
  rw[this]
theorem UY (h0:0≤w) (hw:w<((n:Nat):Int)) (hj:j<n):mH ((n:Nat):Int) [w,((j:Nat):Int)]=true:=jC.2 ai
theorem PQ (hw:fo[((j:Nat):Int).toNat]? =some w) (h0:0≤w) (h1:w<((n:Nat):Int)) (hj:j<n):pO (qN n fo j) (w,((j:Nat):Int))=qN n fo (j+1):=by
 unfold qN
 rw[AE (UY h0 h1 hj)]
 refine dL fun a b ha hb=>?_
 rw[dC] at hw ⊢
 by_cases e:b=j
 ·subst e
  rw[alH (anA b),alM (am5 b),alM rfl]
  unfold Cm
  rw[eH,hw]
  show (false&&_||decide (a=w.toNat)&&true)=(true&&decide (w=((a:Nat):Int)))
  rw[aop,am9,an6,am8,am4]
  omega
 ·rw[alH e,aoq,amn]
  have:decide (b<j)=decide (b<j+1):=by rw[am4];omega
  rw[this]
theorem Yw {xs:Rows} {x:Row} (hs:xs=qN n fo j) (hw:fo[((j:Nat):Int).toNat]? =some w) (h0:0≤w) (h1:w<((n:Nat):Int)) (hj:j<n) (hx:xs[w.toNat]? =some x):xs.set w.toNat (ej x ((j:Nat):Int))=qN n fo (j+1):=by
 rw[E3 hx,hs];exact PQ hw h0 h1 hj
theorem pQ {xs:Rows} (hs:xs=qN n fo j) (hw:fo[((j:Nat):Int).toNat]? =some w) (h0:0≤w) (h1:w<((n:Nat):Int)) (hj:j<n):
  dP ((n:Nat):Int) w ((j:Nat):Int)=((n:Nat):Int)∧bL ((n:Nat):Int) xs w ((j:Nat):Int)=qN n fo (j+1):=by
 have iw:=UY h0 h1 hj
 exact⟨(jx (rs:=xs) iw).1,by rw[(jx iw).2.1,hs];exact PQ hw h0 h1 hj⟩
theorem S8 (n:Nat) (fo:az) (j:Nat):(qN n fo j).length=n:=lV _ _
theorem WR (I:List aR) (fo:az):(gV I fo).length=I.length:=lV _ _
theorem E7 (h:n≤4096) (fo:az) (j:Nat):(((qN n fo j).length:Nat):Int)=((n:Nat):Int)∧∀x∈qN n fo j,x.length≤1000000000:=⟨by rw[S8],sA h⟩
theorem tZ (h:n≤4096) (P:gk):(((cO n P).length:Nat):Int)=((n:Nat):Int)∧∀x∈cO n P,x.length≤1000000000:=⟨by rw[lV],sA h⟩
def ur (I:List aR) (fo:az) (a b:Nat):Bool:=xC I a b||Cm fo a b
def bl (I:List aR) (fo:az):Rows:=cO I.length (ur I fo)
theorem HO (I:List aR) (fo:az):j1 ((I.length:Nat):Int) ((I.length:Nat):Int)=((I.length:Nat):Int)∧ga ((I.length:Nat):Int) (gP I) ((I.length:Nat):Int) (gV I fo)=bl I fo:=by
 refine⟨(rT (ar:=gP I) (br:=gV I fo) J).1,?_⟩
 rw[(rT rfl).2.1,dC]
 exact Qe _ _
def jq (I:List aR) (fo:az):gk:=cl I.length (ur I fo)
def bw (I:List aR) (fo:az):Rows:=cO I.length (jq I fo)
theorem Kp (I:List aR) (fo:az):bU ((I.length:Nat):Int) (bl I fo)=bw I fo:=mw
theorem tB (fo:az) (h:I.length≤4096):cq ((I.length:Nat):Int) (bl I fo)=true:=kx h
theorem zS (fo:az) (h:I.length≤4096):cq ((I.length:Nat):Int) (bw I fo)=true:=kx h
end Go.Ew
namespace Go.Ew
variable {pre l:List aA} {s:aA} {pl:List Bool} {j:Nat}
def fk (l:az) (n:Int):Bool:=l.any (fun z_=>decide (n=z_))
def ez (lv:Int):az:=bif decide (lv=1) then [1,2,3,4] else bif decide (lv=2) then [1,2,3,4]++[5] else bif decide (lv=3) then [1,2,3,4]++[6,7] else []
def gA (kd r w1 w2 o fs sn:Int):az:=bif decide (kd=1) then [w1,w2,o,fs,sn] else bif decide (kd=2) then [r,w1,w2,sn] else bif decide (kd=5) then [r,w1,w2,sn] else bif decide (kd=3) then [w2,o,sn] else bif decide (kd=4) then [o] else bif decide (kd=6) then [w2,sn] else [r,w2,sn]
def jU (pl:List Bool) (s:aA):Bool:=decide (s.1=4)&&!(pl.getD s.2.2.2.1.toNat false)
def kI (wl kl:az) (s:aA):Bool:=bif decide (s.1=1) then !fk wl s.2.2.1 else bif decide (s.1=2) then !fk wl s.2.2.1 else bif decide (s.1=4) then !fk kl s.2.2.2.2 else false
section
variable (I:List aR) (fo:az)
def nT (o:Int):az:=dm ((I.length:Nat):Int) (bw I fo) o
def dB (o:Int):az:=aV (cm I) (fG I o)
def te (bf:List aA) (o:Int):Bool:=!(bf.any (kI (nT I fo o) (dB I o)))
def l5 (r w:Int):Bool:=!(([r,w]:az).any (dV I))&&decide (fo.getD r.toNat 0= -1)&&cm I w&&decide (gU I w=gU I r)
def iy (bf:List aA) (pl:List Bool) (kd r w1 w2 o fs sn:Int):Bool:=
 bif decide (kd=1) then !(([r]:az).any (dV I))&&decide (fo.getD r.toNat 0= -2)&&decide (((bf.length:Nat):Int)=0)
 else bif decide (kd=2) then !(([o]:az).any (dV I))&&!(pl.any (fun z_=>false==z_))&&fP bf fs o o
 else bif decide (kd=3) then l5 I fo r w1&&!(pl.any (fun z_=>false==z_))&&fP bf fs w1 r
 else bif decide (kd=4) then !(([r,w1,w2]:az).any (dV I))&&decide (fo.getD r.toNat 0=w1)&&dE I w1 w2&&!(pl.any (fun z_=>false==z_))&&fP bf fs w1 w2&&fP bf sn w2 r
 else bif decide (kd=5) then !(([o]:az).any (dV I))&&!(bf.any (jU pl))&&fP bf fs o o
 else bif decide (kd=6) then !(([o]:az).any (dV I))&&l5 I fo r w1&&fk (dB I o) r&&te I fo bf o&&fP bf fs w1 r
 else bif decide (kd=7) then !(([o,w1]:az).any (dV I))&&te I fo bf o&&fP bf fs w1 w1
 else false
def eA (lv kd r w1 w2 o:Int) (l:List aA) (fs sn:Int):Bool:=
 fk (ez lv) kd&&!((gA kd r w1 w2 o fs sn).any (fun x_=>!decide (x_= -1)))&&(du I fo [] [] l).1&&iy I fo (du I fo [] [] l).2.1 (du I fo [] [] l).2.2 kd r w1 w2 o fs sn
end
section
variable {I:List aR} {fo:az}
theorem B4 {fr to sb:Int} (h:(!(([fr,to,sb]:az).any (dV I)))=true):(0≤fr∧fr<((I.length:Nat):Int))∧(0≤to∧to<((I.length:Nat):Int))∧0≤sb∧sb<((I.length:Nat):Int):=by
 have e:(!(([fr,to,sb]:az).any (dV I)))=(!(([fr,to]:az).any (dV I))&&!(([sb]:az).any (dV I))):=by
  simp only[anM,aoD,amn,ao2,aoK]
 rw[e,cA] at h
 exact⟨(sx h.1).1,(sx h.1).2,yi h.2⟩
theorem D8:xb I fo pre s=true↔okO I s=true∧fb I fo pre s=true:=by unfold xb;rw[cA]
theorem Pq (hx:l[((j:Nat):Int).toNat]? =some s) (h:xb I fo pre s=true):du I fo pre pl (l.drop j)=du I fo (qv I pre s) (qw I pre pl s) (l.drop (j+1)):=by
 rw[dC] at hx
 obtain⟨hj,he⟩:=eW.1 hx
 rw[anG hj,he]
 obtain⟨h1,h2⟩:=D8.1 h
 unfold qv qw
 rw[alE h1,alE h1,du,alE h1,alE h2]
theorem CW (hx:l[((j:Nat):Int).toNat]? =some s) (h:xb I fo pre s=false):du I fo pre pl (l.drop j)=(false,qv I pre s,qw I pre pl s):=by
 rw[dC] at hx
 obtain⟨hj,he⟩:=eW.1 hx
 rw[anG hj,he]
 unfold qv qw
 rw[du]
 by_cases h1:okO I s=true
 ·rw[alE h1,alE h1,alE h1]
  by_cases h2:fb I fo pre s=true
  ·rw[D8.2 ⟨h1,h2⟩] at h;cases h
  ·rw[alG h2]
 ·rw[alG h1,alG h1,alG h1]
theorem AA (h:l.length≤j):du I fo pre pl (l.drop j)=(true,pre,pl):=by
 rw[am_ h];rfl
theorem L3 (h:xb I fo pre s=true):(qv I pre s).length=pre.length+1:=by
 unfold qv;rw[alE (D8.1 h).1,im];rfl
theorem Xp (h:xb I fo pre s=true):(qw I pre pl s).length=pl.length+1:=by
 unfold qw;rw[alE (D8.1 h).1,im];rfl
theorem Nl {l:List aA}:∀{pre:List aA} {pl:List Bool},(du I fo pre pl l).1=true→pl.length=pre.length→(du I fo pre pl l).2.2.length=(du I fo pre pl l).2.1.length:=by
 induction l with
 |nil=>intro pre pl _ h;exact h
 |cons s l ih=>
  intro pre pl h hl
  unfold du at h ⊢
  by_cases h1:okO I s=true
  ·rw[alE h1] at h ⊢
   by_cases h2:fb I fo pre s=true
   ·rw[alE h2] at h ⊢
    exact ih h<|by rw[im,im,hl];rfl
   ·rw[alG h2] at h;cases h
  ·rw[alG h1] at h;cases h
theorem ac8 {pre:List aA} {s:aA} (h:fb I fo pre s=true) (h4:s.1=4):0≤s.2.2.2.1∧s.2.2.2.1<((pre.length:Nat):Int):=by
 obtain⟨kd,fr,to,sa,sb⟩:=s
 rw[Rm h4] at h
 simp only[cA] at h
 have hs:=h.2
 unfold fP at hs
 cases hq:bI pre sa with
 |none=>rw[hq] at hs;cases hs
 |some x=>exact vw (by rw[hq];rfl)
theorem Nk {l:List aA}:∀{pre:List aA} {pl:List Bool},(du I fo pre pl l).1=true→(∀x∈pre,x.1=4→0≤x.2.2.2.1∧x.2.2.2.1<((pre.length:Nat):Int))→∀x∈(du I fo pre pl l).2.1,x.1=4→0≤x.2.2.2.1∧x.2.2.2.1<(((du I fo pre pl l).2.1.length:Nat):Int):=by
 induction l with
 |nil=>intro pre pl _ h;exact h
 |cons s l ih=>
  intro pre pl h hl
  unfold du at h ⊢
  by_cases h1:okO I s=true
  ·rw[alE h1] at h ⊢
   by_cases h2:fb I fo pre s=true
   ·rw[alE h2] at h ⊢
    refine ih h fun x hx hk=>?_
    rw[im]
    rcases alR.1 hx with hx|hx
    ·have:=hl x hx hk;simp only[jv,gW];omega
    ·rw[amm.1 hx] at hk ⊢
     have:=ac8 h2 hk;simp only[jv,gW];omega
   ·rw[alG h2] at h;cases h
  ·rw[alG h1] at h;cases h
theorem WJ (h:(du I fo [] [] l).1=true):∀x∈(du I fo [] [] l).2.1,x.1=4→0≤x.2.2.2.1∧x.2.2.2.1<(((du I fo [] [] l).2.2.length:Nat):Int):=by
 rw[Nl h rfl]
 exact Nk h<|fun x hx=>by cases hx
end
end Go.Ew
namespace Go.Ew
section
variable (I:List aR) (fo:az)
def Vg (o:Int):az:=aV (cm I) (bS I o I.length)
def gR (lv:Int):az:=bif decide (lv=1) then [1,2,3,4] else bif decide (lv=2) then [1,2,3,4,5] else bif decide (lv=3) then [1,2,3,4,6,7] else []
end
section
variable {I:List aR} {fo:az}
theorem tu (o:et I) (t:Int):Vg I t=dB I t:=by unfold Vg dB;rw[LO o]
end
end Go.Ew
namespace Go.Ew
abbrev gr:fC:=[[(false,⟨#[120]⟩,1)]]
section
variable {I:List aR} {fo:az} {l:List aA}
theorem wv {α:Type} {xs:List α} {j:Nat} {x z:α} (h:xs[((j:Nat):Int).toNat]? =some x):xs.getD j z=x:=by
 rw[dC] at h
 rw[eH,h];rfl
end

section
variable {α:Type} {l:List α} {p:α→Bool} {q:Nat→Bool} {j n:Nat} {x:α}
end
section
variable {l:List aA} {j:Nat} {s:aA} {ys:List Bool} {x:Bool}
end
section
variable {I:List aR} {fo:az} {l:List aA}
end
end Go.Ew
namespace Go.Ew
abbrev i':=Int×Int×Int
end Go.Ew
namespace Go.Ew
variable {p:Nat→Bool} {j:Nat}
def iB (I:List aR) (n:Int) (rs:Rows) (r:Int):az:=aV (fe I (gU I r)) (ee n rs r)
section
variable (I:List aR) (fo:az) (n:Int) (rs:Rows)
def yX (r:Nat):Bool:=decide (fo.getD r 0= -1)&&decide (0<(((iB I n rs ((r:Nat):Int)).length:Nat):Int))
def ED:Option Nat:=(List.range fo.length).find? (yX I fo n rs)
end
theorem FW {n:Nat} (hs:∀q,q<j→p q=false) (hj:j<n) (h:p j=true):(List.range n).find? p=some j:=by
 rw[List.find?_range_eq_some]
 refine⟨h,alF.2 hj,fun q hq=>?_⟩
 rw[hs q hq];rfl
theorem Du {n:Nat} (hs:∀q,q<j→p q=false) (hj:n≤j):(List.range n).find? p=none:=by
 rw[am2]
 intro q hq
 rw[hs q (ams (alF.1 hq) hj)];decide
theorem Dt (hs:∀q,q<j→p q=false) (h:p j=false):∀q,q<j+1→p q=false:=by
 intro q hq
 by_cases e:q=j
 ·rw[e];exact h
 ·exact hs q ai
theorem yL {l:az} {x:Int} (h:l[(0:Int).toNat]? =some x):l.headD 0=x:=by
 cases l with
 |nil=>simp at h
 |cons a l=>simp at h;exact h
def wI (n:Int) (rs:Rows) (a k:Int):Bool:=!decide (k=a)&&dG n rs a k
section
variable (I:List aR) (fo:az) (n:Int) (rs:Rows)
def qT (r:Nat):Option Int:=(iB I n rs ((r:Nat):Int)).find? (wI n rs (fo.getD r 0))
def tG (r:Nat):Bool:=!decide (fo.getD r 0<0)&&(qT I fo n rs r).isSome
def BJ:Option Nat:=(List.range fo.length).find? (tG I fo n rs)
end
theorem L7 {α:Type} {l:List α} {p:α→Bool} {x:α} (hs:∀y∈l.take j,p y=false) (hx:l[((j:Nat):Int).toNat]? =some x) (h:p x=false):∀y∈l.take (j+1),p y=false:=by
 rw[dC] at hx
 intro y hy
 rw[amY,hx] at hy
 rcases alR.1 hy with hy|hy
 ·exact hs y hy
 ·simp at hy;rw[hy];exact h
theorem Zj {α:Type} {p:α→Bool}:∀{l:List α} {j:Nat} {x:α},(∀y∈l.take j,p y=false)→l[((j:Nat):Int).toNat]? =some x→p x=true→l.find? p=some x:=by
 intro l j x hs hx h
 rw[dC] at hx
 have hj:=(eW.1 hx).1
 have e:l=l.take j++x::l.drop (j+1):=by
  rw[←(eW.1 hx).2,aot,ank]
 rw[e,List.find?_append,am2.2 (fun y hy=>by rw[hs y hy];decide),List.find?_cons_of_pos h];rfl
theorem Xw {α:Type} {l:List α} {p:α→Bool} (hs:∀y∈l.take j,p y=false) (hj:l.length≤j):l.find? p=none:=by
 rw[alU hj] at hs
 exact am2.2 fun y hy=>by rw[hs y hy];decide
theorem abL {I:List aR} {fo:az} {n:Int} {rs:Rows} {j q:Nat} {a x:Int} (hs:∀q,q<j→tG I fo n rs q=false) (hj:j<fo.length) (aq:fo[((j:Nat):Int).toNat]? =some a) (h0:decide (a<0)=false)
  (gM:∀y∈(iB I n rs (j:Int)).take q,wI n rs a y=false) (cw:(iB I n rs (j:Int))[((q:Nat):Int).toNat]? =some x) (h1:decide (x=a)=false) (h2:dG n rs a x=true):
  BJ I fo n rs=some j∧qT I fo n rs j=some x∧fo.getD j 0=a:=by
 have hq:wI n rs a x=true:=by unfold wI;rw[h1,h2];rfl
 have hk:qT I fo n rs j=some x:=by unfold qT;rw[wv aq];exact Zj gM cw hq
 refine⟨FW hs hj ?_,hk,wv aq⟩
 unfold tG
 rw[wv aq,h0,hk];rfl
theorem abK {I:List aR} {fo:az} {n:Int} {rs:Rows} {a:Int} (hs:∀q,q<j→tG I fo n rs q=false) (aq:fo[((j:Nat):Int).toNat]? =some a) (h0:decide (a<0)=true):∀q,q<j+1→tG I fo n rs q=false:=
 Dt hs (by unfold tG;rw[wv aq,h0];rfl)
theorem UB {I:List aR} {fo:az} {n:Int} {rs:Rows} {j q:Nat} {a:Int} (hs:∀q,q<j→tG I fo n rs q=false) (aq:fo[((j:Nat):Int).toNat]? =some a)
  (gM:∀y∈(iB I n rs (j:Int)).take q,wI n rs a y=false) (hq:(iB I n rs (j:Int)).length≤q):∀q,q<j+1→tG I fo n rs q=false:=
 Dt hs (by unfold tG qT;rw[wv aq,Xw gM hq];simp)
theorem O0 {n:Int} {rs:Rows} (h:cq n rs=true) (I:List aR) (r:Int):(iB I n rs r).length≤4096:=by
 unfold iB aV
 exact Nat.le_trans (amQ _ _)<|AL h r
end Go.Ew
namespace Go.Ew
open Go.RowKit Go.Sort Go.Proofs
section
variable {β:Type} [Inhabited β] {enc:β→List Value} {k:Nat}
end
variable {α β:Type} [GT α] [Inhabited β] {val:β→α} {enc:β→List Value}
theorem Ext.grow {w w':aI} (h:Ext w w'):∃q os',w'=Go.Sort.grow (w.drewN q) os':=by
 refine⟨w'.drawn-w.drawn,w'.heap.extract w.heap.size w'.heap.size,?_⟩
 have hh:w'.heap=w.heap++w'.heap.extract w.heap.size w'.heap.size:=by
  apply Array.ext_getElem?
  intro c
  by_cases hc:c<w.heap.size
  ·rw[Array.getElem?_append_left hc,h.block c hc]
  ·rw[Array.getElem?_append_right ai,Array.getElem?_extract]
   split
   ·congr 1;omega
   ·exact Array.getElem?_eq_none ai
 have hd:=h.drawn
 obtain⟨h1,h2,h3,h4⟩:_∧_∧_∧_:=⟨h.os,h.tape,h.output,hh⟩
 cases w';cases w
 simp only[Go.Sort.grow,World.drewN] at *
 subst h1 h2 h3
 congr 1
 omega
end Go.Ew
namespace Go.Ew
open Go.RowKit Go.Sort Go.Proofs
def EdB:Type:={x:i' //aN x.1∧aN x.2.1∧aN x.2.2}
instance :Inhabited EdB:=⟨⟨(0,0,0),by simp[aN],by simp[aN],by simp[aN]⟩⟩
end Go.Ew
namespace Go.Ew
section
variable (I:List aR) (fo:az) (n:Int) (rs:Rows)
end
section
variable {I:List aR} {fo:az} {n:Int} {rs:Rows} {j q:Nat} {w x v:Int} {es es2:List i'}
end
end Go.Ew
namespace Go.Ew
open Go.RowKit
section
variable {κ ν:Type} [DecidableEq κ]
end
section
variable {P:Program}
variable {κ ν:Type} [DecidableEq κ] {ek:κ→Value} {ev:ν→Value} {z:ν} {iv:ν→Prop}
variable {n:Nat} {ops:Array Oper} {f:aP} {w:aI} {K:aP→aI→Prop} {x y c:Operand} {d:Nat} {ty T:TypeId} {ps:String} {af:Array Edge} {M0:bT} {w0:aI} {l:List Item} {m:List (κ×ν)} {b:Nat}
end
section
variable {P:Program} {n:Nat} {ops:Array Oper} {f:aP} {w:aI} {K:aP→aI→Prop} {x y c:Operand} {d:Nat} {dd:Option Nat} {ty T:TypeId} {ps:String} {af:Array Edge} {M0:bT} {w0:aI} {l:List Item} {b:Nat}
end
end Go.Ew
namespace Go.Ew
section
variable {α σ:Type} (st:σ→α→Bool×σ)
variable {st} {s s':σ} {xs ys:List α} {x:α} {j k:Nat} {q:Int}
end
end Go.Ew
namespace Go.Ew
def TrP (n:Nat) (p:gk):Prop:=∀i j k,i<n→j<n→k<n→p i j=true→p j k=true→p i k=true
def BA (es:List i') (a b:Nat):Bool:=es.any fun e=>decide (e.1=((a:Nat):Int))&&decide (e.2.1=((b:Nat):Int))
def xD (n:Nat) (es:List i'):Prop:=∀e∈es,mH ((n:Nat):Int) [e.1,e.2.1]=true
theorem adE (n:Nat) (p:gk):TrP n (cl n p):=fun i j k _ hj _ h1 h2=>nK hj h1 h2
def Kq (n:Nat) (p:gk):Nat:=(List.range (n*n)).countP fun k=>p (k/n) (k%n)
theorem XZ (n:Nat) (p:gk):Kq n p≤n*n:=by
 unfold Kq;exact Nat.le_trans List.countP_le_length (by simp)
theorem G' {α:Type} {p q:α→Bool}:∀{l:List α},(∀x∈l,p x=true→q x=true)→(∃x∈l,p x=false∧q x=true)→l.countP p<l.countP q
 |[],_,h=>by obtain⟨x,hx,_⟩:=h;cases hx
 |a::l,h,⟨x,hx,h1,h2⟩=>by
  have hm:l.countP p≤l.countP q:=List.countP_mono_left fun y hy=>h y (by simp[hy])
  rw[List.countP_cons,List.countP_cons]
  rcases alQ.1 hx with rfl|hx
  ·rw[h1,h2];simp;omega
  ·have ih:=G' (l:=l) (fun y hy=>h y<|by simp[hy]) ⟨x,hx,h1,h2⟩
   have:=h a<|by simp
   cases hp:p a<;>cases hq:q a<;>simp_all<;>omega
theorem ML {n:Nat} {p q:gk} (h:∀a b,a<n→b<n→p a b=true→q a b=true) {a b:Nat} (ha:a<n) (hb:b<n) (h1:p a b=false) (h2:q a b=true):Kq n p<Kq n q:=by
 have hn:0<n:=by omega
 refine G' (fun k hk hp=>h _ _ ?_ (Nat.mod_lt _ hn) hp) ⟨a*n+b,?_,?_,?_⟩
 ·exact(Nat.div_lt_iff_lt_mul hn).2 (alF.1 hk)
 ·rw[alF]
  calc a*n+b<a*n+n:=by omega
   _=(a+1)*n:=by rw[amH,Nat.one_mul]
   _≤n*n:=amG _ ha
 ·rw[show (a*n+b)/n=a by rw[aoa,Nat.mul_add_div hn,aoW hb,amw],show (a*n+b)%n=b by rw[aoa,Nat.mul_add_mod,an0 hb]];exact h1
 ·rw[show (a*n+b)/n=a by rw[aoa,Nat.mul_add_div hn,aoW hb,amw],show (a*n+b)%n=b by rw[aoa,Nat.mul_add_mod,an0 hb]];exact h2
structure Na (I:List aR) (fo:az) (p:Nat→bT) (a b r:Nat):Prop where
 a1:a<I.length
 r1:r<I.length
 fr:fo[r]? =some ((b:Nat):Int)
 ne:a≠b
 wr:fe I (gU I ((b:Nat):Int)) ((a:Nat):Int)=false
 ah:p a r
structure MX (I:List aR) (fo:az) (o:Int) (R:Nat→bT):Prop where
 base:∀a b,a<I.length→b<I.length→jq I fo a b=true→((a:Nat):Int)∈dm ((I.length:Nat):Int) (bw I fo) o→((b:Nat):Int)∈dm ((I.length:Nat):Int) (bw I fo) o→R a b
 trans:∀a b c,a<I.length→b<I.length→c<I.length→R a b→R b c→R a c
 IC:∀a b r,((r:Nat):Int)∈dB I o→Na I fo R a b r→R a b
noncomputable def pN (I:List aR) (fo:az) (o:Int) (a b:Nat):Bool:=@decide (∀R,MX I fo o R→R a b) (Classical.propDecidable _)
noncomputable def iu (I:List aR) (fo:az) (o:Int):Rows:=cO I.length (pN I fo o)
theorem pd {I:List aR} {fo:az} {o:Int} {a b:Nat}:pN I fo o a b=true↔∀R,MX I fo o R→R a b:=by unfold pN;exact @decide_eq_true_iff _ (Classical.propDecidable _)
theorem Pu (I:List aR) (fo:az) (o:Int):MX I fo o (fun a b=>pN I fo o a b=true) where
 base a b ha hb hc h1 h2:=pd.2 fun R hR=>hR.base a b ha hb hc h1 h2
 trans a b c ha hb hc h1 h2:=pd.2 fun R hR=>hR.trans a b c ha hb hc (pd.1 h1 R hR) (pd.1 h2 R hR)
 IC a b r hr h:=pd.2 fun R hR=>hR.IC a b r hr ⟨h.a1,h.r1,h.fr,h.ne,h.wr,pd.1 h.ah R hR⟩
structure SnQ (I:List aR) (fo:az) (o:Int) (p:gk):Prop where
 tr:TrP I.length p
 base:∀a b,a<I.length→b<I.length→jq I fo a b=true→((a:Nat):Int)∈dm ((I.length:Nat):Int) (bw I fo) o→((b:Nat):Int)∈dm ((I.length:Nat):Int) (bw I fo) o→p a b=true
 le:∀R,MX I fo o R→∀a b,a<I.length→b<I.length→p a b=true→R a b
def Sf (I:List aR) (fo:az) (o:Int) (n:Int) (rs:Rows):Prop:=n=((I.length:Nat):Int)∧∃p,rs=cO I.length p∧SnQ I fo o p
def pv (I:List aR) (rs:Rows):Nat:=Kq I.length (dw rs)
section
variable {I:List aR} {fo:az} {o n:Int} {rs:Rows} {es:List i'}
theorem SH (I:List aR) (fo:az) (o:Int):Sf I fo o ((I.length:Nat):Int) (gD ((I.length:Nat):Int) (bw I fo) (dm ((I.length:Nat):Int) (bw I fo) o)):=by
 have hm:∀a b,a<I.length→b<I.length→(LD (dw (bw I fo)) (dm ((I.length:Nat):Int) (bw I fo) o) a b=true↔jq I fo a b=true∧((a:Nat):Int)∈dm ((I.length:Nat):Int) (bw I fo) o∧((b:Nat):Int)∈dm ((I.length:Nat):Int) (bw I fo) o):=by
  intro a b ha hb
  unfold LD
  rw[show dw (bw I fo) a b=jq I fo a b from eX ha hb]
  simp only[cA,alC]
 refine⟨J,_,by unfold gD;rw[dC],?_,?_,?_⟩
 ·intro i j k hi hj hk h1 h2
  obtain⟨a1,a2,a3⟩:=(hm i j hi hj).1 h1
  obtain⟨b1,b2,b3⟩:=(hm j k hj hk).1 h2
  exact(hm i k hi hk).2 ⟨nK hj a1 b1,a2,b3⟩
 ·intro a b ha hb h1 h2 h3
  exact(hm a b ha hb).2 ⟨h1,h2,h3⟩
 ·intro R hR a b ha hb h
  obtain⟨h1,h2,h3⟩:=(hm a b ha hb).1 h
  exact hR.base a b ha hb h1 h2 h3
theorem SI (h:Sf I fo o n rs) (hn:I.length≤4096):cq n rs=true:=by
 obtain⟨rfl,p,rfl,_⟩:=h;exact kx hn
theorem vz (rs:Rows) (I:List aR):pv I rs≤I.length*I.length:=XZ _ _
end
end Go.Ew
namespace Go.Ew
variable {r:Int} {j:Nat}
abbrev wO:=Int×Int×Int×Int×Int
structure Hg (k r a b o:Int):Prop where
 k:aN k
 r:aN r
 a:aN a
 b:aN b
 o:aN o
def oE (x:Option wO) (k r a b o:Int):Prop:=Hg k r a b o∧∀y,x=some y→y=(k,r,a,b,o)
theorem ve {x:Option wO} {k a b o:Int} (h:x=none) (i:Hg k r a b o):oE x k r a b o:=⟨i,fun y hy=>by rw[h] at hy;cases hy⟩
theorem vc {x:Option wO} {k a b o:Int} (h:x=some (k,r,a,b,o)) (i:Hg k r a b o):oE x k r a b o:=⟨i,fun y hy=>by rw[h] at hy;exact(alD hy).symm⟩
section
variable (I:List aR) (fo:az)
def l9 (kd:Int):Option wO:=if 0≤gx (fun z_=>decide ((-2)=z_)) fo then some (kd,gx (fun z_=>decide ((-2)=z_)) fo, -1, -1, -1) else none
def m_ (n:Int) (rs:Rows) (kd:Int):Option wO:=(eC n rs).map fun i=>(kd, -1, -1, -1,((i:Nat):Int))
def Dy (n:Int) (rs:Rows) (kd:Int):Option wO:=(ED I fo n rs).map fun r=>(kd,((r:Nat):Int),(iB I n rs ((r:Nat):Int)).headD 0, -1, -1)
def oT (n:Int) (rs:Rows) (kd:Int):Option wO:=(BJ I fo n rs).map fun r=>(kd,((r:Nat):Int),fo.getD r 0,(qT I fo n rs r).getD 0, -1)
noncomputable def xB (a b:Nat):Bool:=jq I fo a b||@decide (∃r,Na I fo (fun x y=>jq I fo x y=true) a b r) (Classical.propDecidable _)
noncomputable def MM:Rows:=cO I.length (cl I.length (xB I fo))
def xZ (n:Int) (rs:Rows) (r:Int):Bool:=decide (fo.getD r.toNat 0= -1)&&decide (0<(((iB I n rs r).length:Nat):Int))
def Gk (n:Int) (rs:Rows) (o:Int):Option Int:=(dB I o).find? (xZ I fo n rs)
noncomputable def Iw (o:Nat):Bool:=(Gk I fo ((I.length:Nat):Int) (iu I fo ((o:Nat):Int)) ((o:Nat):Int)).isSome
noncomputable def PB:Option Nat:=(List.range I.length).find? (Iw I fo)
noncomputable def Gl (kd:Int):Option wO:=(PB I fo).map fun o=>(kd,(Gk I fo ((I.length:Nat):Int) (iu I fo ((o:Nat):Int)) ((o:Nat):Int)).getD 0,(iB I ((I.length:Nat):Int) (iu I fo ((o:Nat):Int)) ((Gk I fo ((I.length:Nat):Int) (iu I fo ((o:Nat):Int)) ((o:Nat):Int)).getD 0)).headD 0, -1,((o:Nat):Int))
noncomputable def UQ (o:Nat):Bool:=(eC ((I.length:Nat):Int) (iu I fo ((o:Nat):Int))).isSome
noncomputable def Pm:Option Nat:=(List.range I.length).find? (UQ I fo)
noncomputable def Gi (kd:Int):Option wO:=(Pm I fo).map fun o=>(kd, -1,(((eC ((I.length:Nat):Int) (iu I fo ((o:Nat):Int))).getD 0:Nat):Int), -1,((o:Nat):Int))
noncomputable def fT (kd:Int):Option wO:=
 if kd=1 then l9 fo kd else if kd=2 then m_ ((I.length:Nat):Int) (bw I fo) kd else if kd=3 then Dy I fo ((I.length:Nat):Int) (bw I fo) kd else if kd=4 then oT I fo ((I.length:Nat):Int) (bw I fo) kd
 else if kd=5 then m_ ((I.length:Nat):Int) (MM I fo) kd else if kd=6 then Gl I fo kd else Gi I fo kd
noncomputable def nz (lv:Int):Option wO:=(ez lv).findSome? (fT I fo)
end
section
variable {I:List aR} {fo:az}
theorem XI {α β:Type} {l:List α} {f:α→Option β} {x:α} (hs:∀y∈l.take j,f y=none) (hx:l[((j:Nat):Int).toNat]? =some x) (h:f x=none):∀y∈l.take (j+1),f y=none:=by
 rw[dC] at hx
 intro y hy
 rw[amY,hx] at hy
 rcases alR.1 hy with hy|hy
 ·exact hs y hy
 ·simp at hy;rw[hy];exact h
theorem XH {α β:Type} {l:List α} {f:α→Option β} {x:α} {y:β} (hs:∀y∈l.take j,f y=none) (hx:l[((j:Nat):Int).toNat]? =some x) (h:f x=some y):l.findSome? f=some y:=by
 rw[dC] at hx
 have e:l=l.take j++x::l.drop (j+1):=by
  rw[←(eW.1 hx).2,aot,ank]
 rw[e,List.findSome?_append,an5.2 hs,List.findSome?_cons,h];rfl
theorem aa9 {α β:Type} {l:List α} {f:α→Option β} (hs:∀y∈l.take j,f y=none) (hj:l.length≤j):l.findSome? f=none:=by
 rw[alU hj] at hs
 exact an5.2 hs
theorem vS {lv x:Int} (h:x∈ez lv):x=1∨x=2∨x=3∨x=4∨x=5∨x=6∨x=7:=by
 unfold ez at h
 cases h1:decide (lv=1)<;>cases h2:decide (lv=2)<;>cases h3:decide (lv=3)<;>simp[h1,h2,h3] at h<;>omega
end
theorem uG:aN (-1):=by unfold aN;omega
theorem De:aN 0:=by unfold aN;omega
theorem Zw (h:j≤9223372036854775807):aN ((j:Nat):Int):=by unfold aN;omega
theorem wi0:Hg 0 0 0 0 0:=⟨De,De,De,De,De⟩
section
variable {I:List aR} {fo:az} {n kd:Int} {rs:Rows} {j:Nat} {x a:Int}
theorem wiN (h:aN kd):Hg kd (-1) (-1) (-1) (-1):=⟨h,uG,uG,uG,uG⟩
theorem WA:decide (0≤gx (fun z_=>decide ((-2)=z_)) fo)=(l9 fo kd).isSome:=by
 unfold l9;split<;>simp_all
theorem DU:(eC n rs).isSome=(m_ n rs kd).isSome:=by unfold m_;simp
theorem zE {i:Nat} (h:eC n rs=some i):i<n.toNat:=by
 unfold eC at h;exact alF.1 (amL h)
theorem UU (hk:aN kd) (hn:n≤9223372036854775807) (h:(eC n rs).isSome=true):oE (m_ n rs kd) kd (-1) (-1) (-1) (((eC n rs).getD 0:Nat):Int):=by
 obtain⟨i,hi⟩:=alN.1 h
 have hl:=zE hi
 unfold m_
 rw[hi]
 exact vc J ⟨hk,uG,uG,uG,Zw (by simp only[amv];omega)⟩
theorem UW (hk:aN kd) (h:(eC n rs).isSome=false):oE (m_ n rs kd) kd (-1) (-1) (-1) (-1):=
 ve (by unfold m_;cases e:eC n rs<;>simp_all) (wiN hk)
theorem abH (h:BJ I fo n rs=some j):true=(oT I fo n rs kd).isSome:=by unfold oT;rw[h];rfl
theorem RX (h:BJ I fo n rs=none):oT I fo n rs kd=none:=by unfold oT;rw[h];rfl
theorem adF (hk:aN kd) (h:BJ I fo n rs=some j) (hb:qT I fo n rs j=some x) (ha:fo.getD j 0=a) (hj:j≤9223372036854775807) (ia:aN a) (ix:aN x):oE (oT I fo n rs kd) kd ((j:Nat):Int) a x (-1):=by
 refine vc ?_ ⟨hk,Zw hj,ia,ix,uG⟩
 unfold oT;rw[h];show some (kd,_,fo.getD j 0,(qT I fo n rs j).getD 0,_)=_
 rw[hb,ha];rfl
end
theorem R_ {I:List aR} {n:Int} {rs:Rows} {k:Nat} {x:Int} (h:cq n rs=true) (hx:(iB I n rs r)[k]? =some x):aN x:=by
 have hm:=eh hx
 unfold iB aV at hm
 have hm:=(alO.1 hm).1
 unfold ee at hm
 split at hm
 ·obtain⟨k,hk,_,rfl⟩:=tp.1 hm
  have:=(bQ h).2.2.1
  unfold aN;omega
 ·cases hm
section
variable {I:List aR} {fo:az} {cn n2 kd:Int} {cr m2:Rows} {es:List i'} {q:Nat}
end
end Go.Ew
namespace Go.Ew
section
variable {α:Type} {l:List α} {p:α→Bool} {j:Nat} {x:α}
theorem HN (hs:∀y∈l.take j,p y=false) (hx:l[((j:Nat):Int).toNat]? =some x) (h:p x=false):∀y∈l.take (j+1),p y=false:=by
 rw[dC] at hx
 intro y hy
 rw[amY,hx] at hy
 rcases alR.1 hy with hy|hy
 ·exact hs y hy
 ·simp at hy;rw[hy];exact h
theorem Rp (hs:∀y∈l.take j,p y=false) (hx:l[((j:Nat):Int).toNat]? =some x) (h:p x=true):l.find? p=some x:=by
 rw[dC] at hx
 have e:l=l.take j++x::l.drop (j+1):=by
  rw[←(eW.1 hx).2,aot,ank]
 rw[e,List.find?_append,am2.2 (fun y hy=>by rw[hs y hy];exact aoQ),List.find?_cons,h];rfl
theorem aa_ (hs:∀y∈l.take j,p y=false) (hj:l.length≤j):l.find? p=none:=by
 rw[alU hj] at hs
 exact am2.2 fun y hy=>by rw[hs y hy];exact aoQ
end
section
variable {I:List aR} {fo:az} {kd:Int} {j:Nat} {r y x:Int} {X:Int×Rows}
theorem Nv (hn:I.length≤64) (hj:j<I.length):cq ((I.length:Nat):Int) (iu I fo ((j:Nat):Int))=true:=by
 unfold iu;exact kx ai
end
section
variable {I:List aR} {fo:az} {lv x:Int} {j:Nat} {P:Option wO} {k r a b o:Int}
theorem acE (hs:∀y∈(ez lv).take j,fT I fo y=none) (hx:(ez lv)[((j:Nat):Int).toNat]? =some x) (e:fT I fo x=P) (h:P.isSome=false):∀y∈(ez lv).take (j+1),fT I fo y=none:=
 XI hs hx (by rw[e];cases P<;>simp_all)
theorem YE (hs:∀y∈(ez lv).take j,fT I fo y=none) (hx:(ez lv)[((j:Nat):Int).toNat]? =some x) (e:fT I fo x=P) (h:P.isSome=true):nz I fo lv=P:=by
 obtain⟨y,rfl⟩:=alN.1 h
 exact XH hs hx e
theorem WY (hs:∀y∈(ez lv).take j,fT I fo y=none) (h:(ez lv).length≤j):nz I fo lv=none:=aa9 hs h
noncomputable def iX (I:List aR) (fo:az) (lv:Int):Int:=if (nz I fo lv).isSome=true then 0 else 8
theorem Uu (e:nz I fo lv=P) (h:P.isSome=true):0=iX I fo lv:=by unfold iX;rw[alE (by rw[e];exact h)]
theorem XX (e:nz I fo lv=none):8=iX I fo lv:=by unfold iX;rw[alG (by rw[e];exact aoQ)]
theorem Yc (e:nz I fo lv=P) (h:oE P k r a b o):oE (nz I fo lv) k r a b o:=by rw[e];exact h
theorem Tz (h:lv=1∨lv=2∨lv=3):ez lv≠[]:=by
 rcases h with rfl|rfl|rfl<;>simp[ez]
theorem QO:(ez lv).length≤6:=by
 unfold ez
 cases h1:decide (lv=1)<;>cases h2:decide (lv=2)<;>cases h3:decide (lv=3)<;>simp
end
end Go.Ew
namespace Go.Ew
variable {r a b:Nat} {k:Int}
section
variable (I:List aR) (fo:az)
def DN (k:Int):Prop:=
 (k=1∧∃r:Nat,fo[r]? =some (-2))∨
 (k=2∧∃i,i<I.length∧jq I fo i i=true)∨
 (k=3∧∃r a,r<I.length∧a<I.length∧fo[r]? =some (-1)∧fe I (gU I ((r:Nat):Int)) ((a:Nat):Int)=false∧jq I fo a r=true)∨
 (k=4∧∃r a b,r<I.length∧a<I.length∧b<I.length∧fo[r]? =some ((b:Nat):Int)∧a≠b∧fe I (gU I ((r:Nat):Int)) ((a:Nat):Int)=false∧jq I fo a r=true∧jq I fo b a=true)∨
 (k=5∧∃i,i<I.length∧cl I.length (xB I fo) i i=true)∨
 (k=6∧∃o r a,o<I.length∧r<I.length∧a<I.length∧((r:Nat):Int)∈dB I ((o:Nat):Int)∧fo[r]? =some (-1)∧fe I (gU I ((r:Nat):Int)) ((a:Nat):Int)=false∧pN I fo ((o:Nat):Int) a r=true)∨
 (k=7∧∃o i,o<I.length∧i<I.length∧pN I fo ((o:Nat):Int) i i=true)
end
section
variable {I:List aR} {fo:az} {n:Nat} {p:gk}
theorem nj {α:Type} {l:List α} {q:α→Bool}:(l.find? q).isSome=true↔∃x∈l,q x=true:=by
 rw[List.find?_isSome]
theorem zD:(eC ((n:Nat):Int) (cO n p)).isSome=true↔∃i,i<n∧p i i=true:=by
 unfold eC
 rw[nj,dC]
 constructor
 ·rintro⟨i,hi,h⟩
  have hi:=alF.1 hi
  rw[fy hi hi] at h
  exact⟨i,hi,h⟩
 ·rintro⟨i,hi,h⟩
  exact⟨i,alF.2 hi,by rw[fy hi hi];exact h⟩
theorem nC (hr:r<n) {z:Int}:z∈iB I ((n:Nat):Int) (cO n p) ((r:Nat):Int)↔∃a,a<n∧p a r=true∧fe I (gU I ((r:Nat):Int)) ((a:Nat):Int)=false∧z=((a:Nat):Int):=by
 unfold iB aV
 rw[alO]
 unfold ee
 rw[alE ai,tp,dC]
 constructor
 ·rintro⟨⟨a,ha,h,rfl⟩,h2⟩
  refine⟨a,by omega,?_,by simpa using h2,J⟩
  rw[dC,eX ai hr] at h
  exact h
 ·rintro⟨a,ha,h,h2,rfl⟩
  refine⟨⟨a,by omega,?_,J⟩,by rw[h2];rfl⟩
  rw[dC,eX ha hr]
  exact h
theorem yw {l:az}:decide (0<((l.length:Nat):Int))=true↔∃z,z∈l:=by
 rw[alC]
 cases l with
 |nil=>simp
 |cons a l=>simp only[jv];exact⟨fun _=>⟨a,by simp⟩,fun _=>by omega⟩
theorem iI (hl:fo.length=I.length) (hr:r<I.length) {x d:Int}:fo.getD r d=x↔fo[r]? =some x:=by
 rw[eH,dW ai]
 simp
theorem SF:(l9 fo k).isSome=true↔∃r:Nat,fo[r]? =some (-2):=by
 rw[←WA,alC]
 have h:=rC (p:=fun z_:Int=>decide ((-2)=z_)) (r:=fo)
 rw[←alC (p:=0≤_),h,amp]
 simp only[alC]
 constructor
 ·rintro⟨x,hx,rfl⟩
  obtain⟨r,hr⟩:=aoB hx
  exact⟨r,hr⟩
 ·rintro⟨r,hr⟩
  exact⟨_,eh hr,J⟩
theorem u3 {n:Nat} {q:Nat→Bool}:((List.range n).find? q).isSome=true↔∃i,i<n∧q i=true:=by
 rw[nj]
 simp only[alF]
theorem LN (hl:fo.length=I.length) (dx:∀x∈fo,x<((I.length:Nat):Int)) (hk:k=1∨k=2∨k=3∨k=4∨k=5∨k=6∨k=7):(fT I fo k).isSome=true↔DN I fo k:=by
 unfold fT DN
 rcases hk with rfl|rfl|rfl|rfl|rfl|rfl|rfl
 ·simp[SF]
 ·simp only[Int.reduceEq,ana,amo,aoM,anZ,aoT,am3]
  rw[←DU]
  exact zD
 ·simp only[Int.reduceEq,ana,amo,aoM,anZ,aoT,am3]
  unfold Dy ED
  rw[anQ,u3,hl]
  constructor
  ·rintro⟨r,hr,h⟩
   unfold yX at h
   rw[cA,alC,iI hl hr] at h
   obtain⟨z,hz⟩:=yw.1 h.2
   unfold bw at hz
   obtain⟨a,ha,h1,h2,_⟩:=(nC hr).1 hz
   exact⟨r,a,hr,ha,h.1,h2,h1⟩
  ·rintro⟨r,a,hr,ha,h1,h2,h3⟩
   refine⟨r,hr,?_⟩
   unfold yX
   rw[cA,alC,iI hl hr]
   exact⟨h1,yw.2 ⟨((a:Nat):Int),(nC hr).2 ⟨a,ha,h3,h2,J⟩⟩⟩
 ·simp only[Int.reduceEq,ana,amo,aoM,anZ,aoT,am3]
  unfold oT BJ
  rw[anQ,u3,hl]
  constructor
  ·rintro⟨r,hr,h⟩
   unfold tG qT at h
   rw[cA,nj] at h
   obtain⟨h0,z,hz,hq⟩:=h
   have h0:¬fo.getD r 0<0:=by simpa using h0
   unfold bw at hz
   obtain⟨a,ha,h1,h2,rfl⟩:=(nC hr).1 hz
   have hb:fo[r]? =some (((fo.getD r 0).toNat:Nat):Int):=by
    rw[←iI hl hr (d:=0)];omega
   have Bg:=dx _<|eh hb
   unfold wI at hq
   rw[cA] at hq
   obtain⟨yC,j7⟩:=hq
   have ff:¬((a:Nat):Int)=fo.getD r 0:=by simpa using yC
   have hcc:((((fo.getD r 0).toNat:Nat)):Int)=fo.getD r 0:=by omega
   rw[←hcc] at j7
   unfold bw at j7
   rw[fy ai ha] at j7
   exact⟨r,a,(fo.getD r 0).toNat,hr,ha,by omega,hb,by omega,h2,h1,j7⟩
  ·rintro⟨r,a,b,hr,ha,hb,h1,h2,h3,h4,h5⟩
   refine⟨r,hr,?_⟩
   have h1':=(iI hl hr (d:=0)).2 h1
   unfold tG qT
   rw[cA,nj,h1']
   refine⟨by simp,((a:Nat):Int),(nC hr).2 ⟨a,ha,h4,h3,J⟩,?_⟩
   unfold wI bw
   rw[cA,fy hb ha]
   exact⟨by simp;omega,h5⟩
 ·simp only[Int.reduceEq,ana,amo,aoM,anZ,aoT,am3]
  rw[←DU]
  exact zD
 ·simp only[Int.reduceEq,ana,amo,aoM,anZ,aoT,am3]
  unfold Gl PB
  rw[anQ,u3]
  constructor
  ·rintro⟨o,ho,h⟩
   unfold Iw Gk at h
   obtain⟨z,hz,hq⟩:=nj.1 h
   have GL:z∈fG I ((o:Nat):Int):=by
    unfold dB aV at hz
    exact(alO.1 hz).1
   unfold xZ at hq
   rw[cA,alC] at hq
   obtain⟨h1,h2⟩:=hq
   have hzn:0≤z∧z<((I.length:Nat):Int):=by
    by_cases hz0:0≤z∧z<((I.length:Nat):Int)
    ·exact hz0
    ·exfalso
     rw[yw] at h2
     obtain⟨y,hy⟩:=h2
     unfold iB aV ee at hy
     rw[alG hz0] at hy
     simp at hy
   obtain⟨r,rfl⟩:∃r:Nat,z=((r:Nat):Int):=⟨z.toNat,by omega⟩
   have hr:r<I.length:=by omega
   rw[dC,iI hl hr] at h1
   obtain⟨y,hy⟩:=yw.1 h2
   unfold iu at hy
   obtain⟨a,ha,h3,h4,_⟩:=(nC hr).1 hy
   exact⟨o,r,a,ho,hr,ha,hz,h1,h4,h3⟩
  ·rintro⟨o,r,a,ho,hr,ha,h1,h2,h3,h4⟩
   refine⟨o,ho,?_⟩
   unfold Iw Gk
   refine nj.2 ⟨((r:Nat):Int),h1,?_⟩
   unfold xZ
   rw[cA,alC,dC,iI hl hr]
   exact⟨h2,yw.2 ⟨((a:Nat):Int),(nC hr).2 ⟨a,ha,h4,h3,J⟩⟩⟩
 ·simp only[Int.reduceEq,ana,amo,aoM,anZ,aoT,am3]
  unfold Gi Pm
  rw[anQ,u3]
  constructor
  ·rintro⟨o,ho,h⟩
   unfold UQ at h
   obtain⟨i,hi,h⟩:=zD.1 h
   exact⟨o,i,ho,hi,h⟩
  ·rintro⟨o,i,ho,hi,h⟩
   exact⟨o,ho,zD.2 ⟨i,hi,h⟩⟩
end
structure Hl (kn:List aR) (ui:az) (I:List aR) (fo:az) (g:Nat→Nat):Prop where
 lt:∀a,a<kn.length→g a<I.length
 inj:∀a b,a<kn.length→b<kn.length→g a=g b→a=b
 ah:∀a b,a<kn.length→b<kn.length→xC kn a b=true→xC I (g a) (g b)=true
 fr:∀r x,ui[r]? =some x→fo[g r]? =some (if 0≤x then ((g x.toNat:Nat):Int) else x)
 wr:∀a r,a<kn.length→r<kn.length→fe kn (gU kn ((r:Nat):Int)) ((a:Nat):Int)=false→fe I (gU I ((g r:Nat):Int)) ((g a:Nat):Int)=false
 kp:∀o r,o<kn.length→r<kn.length→((r:Nat):Int)∈dB kn ((o:Nat):Int)→((g r:Nat):Int)∈dB I ((g o:Nat):Int)
section
variable {kn I:List aR} {ui fo:az} {g:Nat→Nat}
theorem Hl.ed (E:Hl kn ui I fo g) (hl:ui.length=kn.length) (pA:fo.length=I.length) (ha:a<kn.length) (hb:b<kn.length) (h:ur kn ui a b=true):ur I fo (g a) (g b)=true:=by
 unfold ur at h ⊢
 rw[alI] at h ⊢
 rcases h with h|h
 ·exact .inl (E.ah a b ha hb h)
 ·refine .inr ?_
  unfold Cm at h ⊢
  rw[alC,iI hl hb] at h
  have:=E.fr b _ h
  rw[alE ai,dC] at this
  rw[alC,iI pA (E.lt b hb)]
  exact this
theorem Hl.co (E:Hl kn ui I fo g) (hl:ui.length=kn.length) (pA:fo.length=I.length) (ha:a<kn.length) (hb:b<kn.length) (h:jq kn ui a b=true):jq I fo (g a) (g b)=true:=by
 unfold jq at h
 refine((om ha hb).1 h).least (R:=fun x y=>jq I fo (g x) (g y)=true) (fun x y hx hy hp=>l6<|E.ed hl pA hx hy hp) fun x y z hx hy hz h1 h2=>nK (E.lt y hy) h1 h2
theorem Hl.cf (E:Hl kn ui I fo g) (dx:∀x∈ui,x<((kn.length:Nat):Int)) {p' p:Nat→bT} (hp:∀a b,a<kn.length→b<kn.length→p' a b→p (g a) (g b)) (h:Na kn ui p' a b r):Na I fo p (g a) (g b) (g r):=by
 have hb:=dx _<|eh h.fr
 have hf:=E.fr r _ h.fr
 rw[alE ai,dC] at hf
 exact⟨E.lt a h.a1,E.lt r h.r1,hf,fun e=>h.ne (E.inj a b h.a1 ai e),E.wr a b h.a1 ai h.wr,hp a r h.a1 h.r1 h.ah⟩
theorem zC {I:List aR} {fo:az} {o:Nat} (ho:o<I.length) (ha:a<I.length):((a:Nat):Int)∈dm ((I.length:Nat):Int) (bw I fo) ((o:Nat):Int)↔jq I fo a o=true∨a=o:=by
 unfold dm
 rw[alE ai,tp,dC,dC]
 constructor
 ·rintro⟨k,hk,h,e⟩
  obtain rfl:k=a:=by omega
  rw[alI,alC] at h
  unfold bw at h
  rw[eX hk ho] at h
  exact h
 ·intro h
  refine⟨a,ha,?_,J⟩
  rw[alI,alC]
  unfold bw
  rw[eX ha ho]
  exact h
theorem Hl.sn (E:Hl kn ui I fo g) (hl:ui.length=kn.length) (pA:fo.length=I.length) (dx:∀x∈ui,x<((kn.length:Nat):Int)) {o:Nat} (ho:o<kn.length) (ha:a<kn.length) (hb:b<kn.length) (h:pN kn ui ((o:Nat):Int) a b=true):pN I fo ((g o:Nat):Int) (g a) (g b)=true:=by
 have hR:=Pu I fo ((g o:Nat):Int)
 have key:MX kn ui ((o:Nat):Int) (fun x y=>x<kn.length→y<kn.length→pN I fo ((g o:Nat):Int) (g x) (g y)=true):=by
  refine⟨fun x y hx hy hc h1 h2 _ _=>?_,fun x y z hx hy hz h1 h2 _ _=>?_,fun x y r hr k hx hy=>?_⟩
  ·rw[zC ho hx] at h1
   rw[zC ho hy] at h2
   refine hR.base _ _ (E.lt x hx) (E.lt y hy) (E.co hl pA hx hy hc) ((zC (E.lt o ho)<|E.lt x hx).2 ?_)<|(zC (E.lt o ho)<|E.lt y hy).2 ?_
   ·exact h1.imp (E.co hl pA hx ho)<|alB g
   ·exact h2.imp (E.co hl pA hy ho)<|alB g
  ·exact hR.trans _ _ _ (E.lt x hx) (E.lt y hy) (E.lt z hz) (h1 hx hy) (h2 hy hz)
  ·exact hR.IC _ _ (g r) (E.kp o r ho k.r1 hr)<|E.cf dx (p:=fun x y=>pN I fo ((g o:Nat):Int) x y=true) (fun a b ha hb hp=>hp ha hb) k
 exact pd.1 h _ key ha hb
end
structure BX (I:List aR) (fo:az) (t:Nat→Nat):Prop where
 inj:∀a b,a<I.length→b<I.length→t a=t b→a=b
 ah:∀a b,a<I.length→b<I.length→xC I a b=true→t a<t b
 thin:∀r:Nat,fo[r]?≠some (-2)
 rf:∀(r b:Nat),r<I.length→b<I.length→fo[r]? =some ((b:Nat):Int)→t b<t r∧gU I ((b:Nat):Int)=gU I ((r:Nat):Int)
 last:∀(r a b:Nat),r<I.length→a<I.length→b<I.length→fo[r]? =some ((b:Nat):Int)→fe I (gU I ((r:Nat):Int)) ((a:Nat):Int)=false→t a<t r→a≠b→t a<t b
 init:∀(r a:Nat),r<I.length→a<I.length→fo[r]? =some (-1)→fe I (gU I ((r:Nat):Int)) ((a:Nat):Int)=false→¬t a<t r
section
variable {I:List aR} {fo:az} {t:Nat→Nat}
theorem BX.co (E:BX I fo t) (hl:fo.length=I.length) (ha:a<I.length) (hb:b<I.length) (h:jq I fo a b=true):t a<t b:=by
 refine((om ha hb).1 h).least (R:=fun x y=>t x<t y) (fun x y hx hy hp=>?_) fun x y z _ _ _ h1 h2=>aoV h1 h2
 unfold ur at hp
 rw[alI] at hp
 rcases hp with hp|hp
 ·exact E.ah x y hx hy hp
 ·unfold Cm at hp
  rw[alC,iI hl hy] at hp
  exact(E.rf y x hy hx hp).1
theorem BX.cf (E:BX I fo t) (dx:∀x∈fo,x<((I.length:Nat):Int)) {p:Nat→bT} (h:Na I fo p a b r) (hp:p a r→t a<t r):t a<t b:=by
 have hb:=dx _<|eh h.fr
 have hw:=h.wr
 rw[(E.rf r b h.r1 ai h.fr).2] at hw
 exact E.last r a b h.r1 h.a1 ai h.fr hw (hp h.ah) h.ne
theorem BX.sn (E:BX I fo t) (hl:fo.length=I.length) (dx:∀x∈fo,x<((I.length:Nat):Int)) {o:Int} (ha:a<I.length) (hb:b<I.length) (h:pN I fo o a b=true):t a<t b:=by
 refine pd.1 h (fun x y=>t x<t y) ⟨fun x y hx hy hc _ _=>E.co hl hx hy hc,fun x y z _ _ _ h1 h2=>aoV h1 h2,fun x y r _ k=>E.cf dx k id⟩
theorem BX.none (E:BX I fo t) (hl:fo.length=I.length) (dx:∀x∈fo,x<((I.length:Nat):Int)):¬DN I fo k:=by
 unfold DN
 rintro(⟨h0,r,hr⟩|⟨h0,i,hi,h⟩|⟨h0,r,a,hr,ha,h1,h2,h3⟩|⟨h0,r,a,b,hr,ha,hb,h1,h2,h3,h4,h5⟩|⟨h0,i,hi,h⟩|⟨h0,o,r,a,ho,hr,ha,h1,h2,h3,h4⟩|⟨h0,o,i,ho,hi,h⟩)
 ·exact E.thin r hr
 ·exact anA _<|E.co hl hi hi h
 ·exact E.init r a hr ha h1 h2<|E.co hl ha hr h3
 ·have:=E.last r a b hr ha hb h1 h3 (E.co hl ha hr h4) h2
  have:=E.co hl hb ha h5
  omega
 ·refine anA (t i)<|((om hi hi).1 h).least (R:=fun x y=>t x<t y) (fun x y hx hy hp=>?_) fun x y z _ _ _ h1 h2=>aoV h1 h2
  unfold xB at hp
  rw[alI,@decide_eq_true_iff _ (Classical.propDecidable _)] at hp
  rcases hp with hp|⟨r,hp⟩
  ·exact E.co hl hx hy hp
  ·exact E.cf dx hp fun h=>E.co hl hp.a1 hp.r1 h
 ·exact E.init r a hr ha h2 h3<|E.sn hl dx ha hr h4
 ·exact anA _<|E.sn hl dx hi hi h
end
section
variable {I kn:List aR} {fo ui:az}
theorem Hu (hl:fo.length=I.length) (dx:∀x∈fo,x<((I.length:Nat):Int)) {lv:Int}:nz I fo lv=none↔∀k∈ez lv,¬DN I fo k:=by
 unfold nz
 rw[an5]
 refine forall_congr' fun k=>forall_congr' fun hk=>?_
 rw[←LN hl dx (vS hk)]
 cases fT I fo k<;>simp
end
end Go.Ew
namespace Go.Ew
def O4 (h:fC) (s p:Nat) (o:oF):Prop:=∃l,h[s]? =some l∧l[p]? =some o
theorem O4.mem {h:fC} {s p:Nat} {o:oF} (a:O4 h s p o):o∈h.flatten:=by
 obtain⟨l,h1,h2⟩:=a
 exact List.mem_flatten.2 ⟨l,eh h1,eh h2⟩
theorem O4.lt {h:fC} {s p:Nat} {o:oF} (a:O4 h s p o):s<h.length:=by
 obtain⟨l,h1,h2⟩:=a
 exact(eW.1 h1).1
section
variable {h:fC} {s p s' p':Nat} {op op':oF}
end
section
variable {h:fC} {s p s' p':Nat} {op op':oF}
end
end Go.Ew
namespace Go.Ew
theorem Qs {h:fC} (ho:lE h=true):kV h=true∧(kh (xA h)).2.2=0∧dX h=xA h∧ef h=iU (xA h):=by
 have h1:=ho
 unfold lE at h1
 rw[cA,alC] at h1
 obtain⟨hr,hc⟩:=h1
 rw[(zB hr).2.1] at hc
 exact⟨hr,hc,by rw[(yl ho).2.1,(zB hr).2.1],by rw[(yl ho).2.2,(zB hr).2.1]⟩
section
variable {h:fC} {s n:Nat} {l:List oF} {o:oF}
end
section
variable {h g:fC} {σ σ':Nat→Nat} {ρ:fO→fO}
end
end Go.Ew
namespace Go.Ew
variable {l:List aA} {s:aA} {a b o:Int}
section
variable {I:List aR} {fo:az}
theorem Fe {α:Type} {p:α→Bool} {r:List α} (h:0≤gx p r):∃y,r[(gx p r).toNat]? =some y∧p y=true:=by
 unfold gx at h ⊢
 cases e:r.findIdx? p with
 |none=>rw[e] at h;exact absurd h aJ
 |some i=>
  obtain⟨h1,h2,_⟩:=amz.1 e
  exact⟨r[i],by simp,h2⟩
def nD (I:List aR) (fo:az):Prop:=∀r a:Nat,fo[r]? =some ((a:Nat):Int)→gU I ((r:Nat):Int)=gU I ((a:Nat):Int)∧cm I ((a:Nat):Int)=true
theorem XG (aL:List aR):nD aL (iU aL):=by
 intro r a h
 unfold iU at h
 rw[amc] at h
 obtain⟨x,hx,e⟩:=al'.1 h
 unfold uU at e
 split at e
 ·omega
 ·split at e
  ·omega
  ·split at e
   ·rename_i h0
    have e:g_ aL x.2.2.2.1 x.2.2.2.2=((a:Nat):Int):=by omega
    unfold g_ at h0 e
    obtain⟨y,hy,hp⟩:=Fe h0
    rw[e,dC] at hy
    unfold sD at hp
    simp only[cA,alC] at hp
    unfold gU cm
    rw[dC,dC,hx,hy]
    exact⟨hp.1.2.symm,hp.1.1⟩
   ·omega
theorem aa8 {h:fC} (ho:lE h=true):nD (dX h) (ef h):=by
 obtain⟨_,_,h3,h4⟩:=Qs ho
 rw[h3,h4];exact XG _
inductive jZ (I:List aR) (fo:az):List aA→List Bool→Prop
 |nil:jZ I fo [] []
 |snoc {l pl s}:jZ I fo l pl→okO I s=true→fb I fo l s=true→jZ I fo (l++[s]) (pl++[plainO l pl s])
theorem jZ.of {l:List aA}:∀{pre:List aA} {pl:List Bool},jZ I fo pre pl→(du I fo pre pl l).1=true→jZ I fo (du I fo pre pl l).2.1 (du I fo pre pl l).2.2:=by
 induction l with
 |nil=>intro pre pl h _;exact h
 |cons s l ih=>
  intro pre pl h k
  unfold du at k ⊢
  by_cases h1:okO I s=true
  ·rw[alE h1] at k ⊢
   by_cases h2:fb I fo pre s=true
   ·rw[alE h2] at k ⊢;exact ih (h.snoc h1 h2) k
   ·rw[alG h2] at k;cases k
  ·rw[alG h1] at k;cases k
theorem Nj {l:List aA} {s:aA}:∀{pre:List aA} {pl:List Bool},(du I fo pre pl l).1=true→du I fo pre pl (l++[s])=du I fo (du I fo pre pl l).2.1 (du I fo pre pl l).2.2 [s]:=by
 induction l with
 |nil=>intro pre pl _;rfl
 |cons x l ih=>
  intro pre pl k
  rw[aoZ]
  unfold du at k
  by_cases h1:okO I x=true
  ·rw[alE h1] at k
   by_cases h2:fb I fo pre x=true
   ·rw[alE h2] at k
    have e:=ih k
    rw[du,alE h1,alE h2,e]
    conv=>rhs;rw[show du I fo pre pl (x::l)=du I fo (pre++[x]) (pl++[plainO pre pl x]) l by rw[du,alE h1,alE h2]]
   ·rw[alG h2] at k;cases k
  ·rw[alG h1] at k;cases k
theorem jZ.take {l:List aA} {pl:List Bool} (h:jZ I fo l pl):du I fo [] [] l=(true,l,pl):=by
 induction h with
 |nil=>rfl
 |@snoc l pl s h h1 h2 ih=>
  rw[Nj (by rw[ih]),ih]
  show du I fo l pl [s]=_
  rw[du,alE h1,alE h2];rfl
theorem jZ.len {l:List aA} {pl:List Bool} (h:jZ I fo l pl):pl.length=l.length:=by
 induction h with
 |nil=>rfl
 |snoc _ _ _ ih=>rw[im,im,ih];rfl
theorem xY {k:Int} (h:bI l k=some s):0≤k∧l[k.toNat]? =some s:=by
 unfold bI at h
 split at h
 ·exact⟨by assumption,h⟩
 ·cases h
theorem k' {l:List aA} {k a b:Int}:fP l k a b=true↔∃s,0≤k∧l[k.toNat]? =some s∧s.2.1=a∧s.2.2.1=b:=by
 unfold fP
 cases e:bI l k with
 |none=>
  constructor
  ·intro h;cases h
  ·rintro⟨s,h0,h1,_⟩
   rw[ql h0 h1] at e;cases e
 |some s=>
  obtain⟨h0,h1⟩:=xY e
  simp only[cA,alC]
  constructor
  ·rintro⟨h2,h3⟩;exact⟨s,h0,h1,h2,h3⟩
  ·rintro⟨s',_,h2,h3,h4⟩
   rw[h1] at h2
   obtain rfl:=alD h2
   exact⟨h3,h4⟩
theorem Ay {l:List aA} {s:aA}:oU l s=true↔∃x y,bI l s.2.2.2.1=some x∧bI l s.2.2.2.2=some y∧x.2.1=s.2.1∧x.2.2.1=y.2.1∧y.2.2.1=s.2.2.1:=by
 unfold oU
 cases e1:bI l s.2.2.2.1 with
 |none=>simp
 |some x=>
  cases e2:bI l s.2.2.2.2 with
  |none=>simp
  |some y=>simp[and_assoc]
theorem vV {i:Int}:xg I i=true↔0≤i∧i<((I.length:Nat):Int):=by unfold xg;rw[cA,alC,alC]
theorem qX:okO I s=true↔(0≤s.2.1∧s.2.1<((I.length:Nat):Int))∧0≤s.2.2.1∧s.2.2.1<((I.length:Nat):Int):=by unfold okO;rw[cA,vV,vV]
theorem jZ.ok {l:List aA} {pl:List Bool} (h:jZ I fo l pl):∀s∈l,okO I s=true:=by
 induction h with
 |nil=>intro s hs;cases hs
 |snoc _ h1 _ ih=>
  intro x hx
  rcases alR.1 hx with hx|hx
  ·exact ih x hx
  ·simp at hx;rw[hx];exact h1
def edI (I:List aR) (fo:az) (a b:Int):Prop:=ur I fo a.toNat b.toNat=true
theorem zO (hl:fo.length=I.length) (ho:okO I s=true) (hk:s.1=1∨s.1=2) (h:fb I fo l s=true):edI I fo s.2.1 s.2.2.1:=by
 obtain⟨⟨a0,a1⟩,b0,b1⟩:=qX.1 ho
 unfold fb at h
 unfold edI ur
 rcases hk with hk|hk
 ·rw[alE hk,cA] at h
  rw[alI]
  refine .inl ?_
  rw[←EO,alJ a0,alJ b0]
  exact h.2
 ·rw[alG ai,alE hk,cA,alC] at h
  rw[alI]
  refine .inr ?_
  unfold Cm
  rw[alC,iI hl ai]
  have:=(iI hl (r:=s.2.2.1.toNat) ai (d:=0)).1 h.2
  rw[this];congr 1;omega
theorem Et (hk:s.1=3) (h:fb I fo l s=true):oU l s=true:=by
 unfold fb at h
 rwa [alG ai,alG ai,alE hk] at h
theorem G2 (hk:s.1=4) (h:fb I fo l s=true):xg I s.2.2.2.2=true∧fo.getD s.2.2.2.2.toNat 0=s.2.2.1∧dE I s.2.1 s.2.2.1=true∧fP l s.2.2.2.1 s.2.1 s.2.2.2.2=true:=by
 unfold fb at h
 rw[alG ai,alG ai,alG ai,alE hk] at h
 simp only[cA,alC] at h
 exact⟨h.1.1.1,h.1.1.2,h.1.2,h.2⟩
theorem Eu (h:fb I fo l s=true):s.1=1∨s.1=2∨s.1=3∨s.1=4:=by
 unfold fb at h
 by_cases h1:s.1=1
 ·exact .inl h1
 by_cases h2:s.1=2
 ·exact .inr (.inl h2)
 by_cases h3:s.1=3
 ·exact .inr (.inr (.inl h3))
 by_cases h4:s.1=4
 ·exact .inr (.inr (.inr h4))
 rw[alG h1,alG h2,alG h3,alG h4] at h;cases h
theorem jZ.sound {R:Nat→bT} {l:List aA} {pl:List Bool} (hl:fo.length=I.length) (h:jZ I fo l pl)
  (tr:∀a b c,a<I.length→b<I.length→c<I.length→R a b→R b c→R a c)
  (ed:∀s∈l,s.1=1∨s.1=2→edI I fo s.2.1 s.2.2.1→R s.2.1.toNat s.2.2.1.toNat)
  (ru:∀s∈l,s.1=4→xg I s.2.2.2.2=true→fo.getD s.2.2.2.2.toNat 0=s.2.2.1→dE I s.2.1 s.2.2.1=true→(∃x∈l,x.2.1=s.2.1∧x.2.2.1=s.2.2.2.2∧R x.2.1.toNat x.2.2.1.toNat)→R s.2.1.toNat s.2.2.1.toNat):
  ∀s∈l,R s.2.1.toNat s.2.2.1.toNat:=by
 have key:∀{l' mR},jZ I fo l' mR→(∀s∈l',s∈l)→∀s∈l',R s.2.1.toNat s.2.2.1.toNat:=by
  intro l' mR h'
  induction h' with
  |nil=>intro _ s hs;cases hs
  |@snoc l' mR s h' h1 h2 ih=>
   intro hm x hx
   have ih:=ih fun y hy=>hm y (amM _ hy)
   rcases alR.1 hx with hx|hx
   ·exact ih x hx
   ·simp only[amm] at hx
    subst hx
    have Jh:=hm x<|am0 _<|amm.2 J
    rcases Eu h2 with k|k|k|k
    ·exact ed x Jh (.inl k)<|zO hl h1 (.inl k) h2
    ·exact ed x Jh (.inr k)<|zO hl h1 (.inr k) h2
    ·obtain⟨u,v,e1,e2,e3,e4,e5⟩:=Ay.1 (Et k h2)
     have hu:=eh (xY e1).2
     have hv:=eh (xY e2).2
     have ru:=ih u hu
     have rv:=ih v hv
     obtain⟨⟨a0,a1⟩,b0,b1⟩:=qX.1 (h'.ok u hu)
     obtain⟨⟨c0,c1⟩,d0,d1⟩:=qX.1 (h'.ok v hv)
     rw[←e3,←e5]
     rw[←e4] at rv
     exact tr _ _ _ ai ai ai ru rv
    ·obtain⟨g1,g2,g3,g4⟩:=G2 k h2
     obtain⟨u,_,hu,e1,e2⟩:=k'.1 g4
     have hu:=eh hu
     exact ru x Jh k g1 g2 g3 ⟨u,hm u (amM _ hu),e1,e2,ih u hu⟩
 exact key h fun _ h=>h
theorem jZ.plain {l:List aA} {pl:List Bool} (hl:fo.length=I.length) (h:jZ I fo l pl):∀(i:Nat) s,l[i]? =some s→pl[i]? =some true→jq I fo s.2.1.toNat s.2.2.1.toNat=true:=by
 induction h with
 |nil=>intro i s hs;simp at hs
 |@snoc l pl s h h1 h2 ih=>
  intro i x hx hp
  by_cases hi:i<l.length
  ·rw[y9 hi] at hx
   rw[y9 (by rw[h.len];exact hi)] at hp
   exact ih i x hx hp
  ·rw[nQ ai] at hx
   rw[nQ (by rw[h.len];omega),h.len] at hp
   cases hd:i-l.length with
   |succ n=>rw[hd] at hx;simp at hx
   |zero=>
    rw[hd] at hx hp
    simp only[alX,al2] at hx hp
    subst hx
    unfold plainO at hp
    rcases Eu h2 with k|k|k|k
    ·exact l6<|zO hl h1 (.inl k) h2
    ·exact l6<|zO hl h1 (.inr k) h2
    ·have ht:=Et k h2
     rw[alE ⟨k,ht⟩,cA] at hp
     obtain⟨u,v,e1,e2,e3,e4,e5⟩:=Ay.1 ht
     have g:∀{q:Int} {u:aA},bI l q=some u→pl.getD q.toNat false=true→jq I fo u.2.1.toNat u.2.2.1.toNat=true:=by
      intro q u e hq
      obtain⟨_,e⟩:=xY e
      refine ih _ u e ?_
      rw[eH] at hq
      cases e2:pl[q.toNat]? with
      |none=>rw[e2] at hq;cases hq
      |some z=>rw[e2] at hq;rw[show z=true from hq]
     have ru:=g e1 hp.1
     have rv:=g e2 hp.2
     obtain⟨_,b0,b1⟩:=qX.1 (h.ok u (eh (xY e1).2))
     rw[←e3,←e5]
     rw[←e4] at rv
     exact nK ai ru rv
    ·rw[alG ai,k] at hp
     simp at hp
theorem vL {a b:Int} (hb:0≤b) (ha:0≤a) (h:dE I a b=true):a≠b∧fe I (gU I b) a=false∧cm I b=true:=by
 unfold dE at h
 simp only[cA,alW,al1,alC] at h
 obtain⟨⟨⟨h1,h2⟩,h3⟩,h4⟩:=h
 refine⟨h1,?_,h3⟩
 unfold cm at h2
 cases e:I[a.toNat]? with
 |none=>rw[e] at h2;cases h2
 |some x=>
  rw[e] at h2
  refine tf ai e h2 ?_
  unfold gU at h4
  rw[e] at h4
  exact h4
theorem HX {a b:Int} (ha:0≤a) (ff:a≠b) (hw:fe I (gU I b) a=false) (hb:cm I b=true):dE I a b=true:=by
 unfold fe at hw
 rw[an4] at hw
 unfold dE cm
 cases e:I[a.toNat]? with
 |none=>rw[e] at hw;cases hw.2
 |some x=>
  rw[e] at hw
  have h:=hw.2
  simp only[an4,aoP,alC] at h
  unfold cm at hb
  rw[alH ff,hb]
  have:gU I a=gU I b:=by unfold gU at h ⊢;rw[e];exact h.2
  rw[this]
  simp[h.1]
theorem Nw (h:(!(([a]:az).any (dV I)))=true):0≤a∧a<((I.length:Nat):Int):=yi h
theorem G_ {r w:Int} (h:l5 I fo r w=true):(0≤r∧r<((I.length:Nat):Int))∧(0≤w∧w<((I.length:Nat):Int))∧fo.getD r.toNat 0= -1∧fe I (gU I r) w=false:=by
 unfold l5 at h
 simp only[cA,alC] at h
 obtain⟨⟨⟨h1,h2⟩,h3⟩,h4⟩:=h
 obtain⟨k1,k2⟩:=sx h1
 refine⟨k1,k2,h2,?_⟩
 unfold cm at h3
 cases e:I[w.toNat]? with
 |none=>rw[e] at h3;cases h3
 |some x=>
  rw[e] at h3
  refine tf ai e h3 ?_
  unfold gU at h4
  rw[e] at h4
  exact h4
theorem Cf {pl:List Bool} (h:(!(pl.any (fun z_=>false==z_)))=true):∀x∈pl,x=true:=by
 intro x hx
 rw[alW,amF] at h
 have:=h x hx
 cases x with
 |true=>rfl
 |false=>exact absurd rfl this
theorem jZ.bare {pl:List Bool} (hl:fo.length=I.length) (h:jZ I fo l pl) (hp:∀x∈pl,x=true) {k:Int} (hs:fP l k a b=true):jq I fo a.toNat b.toNat=true:=by
 obtain⟨s,_,h1,rfl,rfl⟩:=k'.1 hs
 have hi:=(eW.1 h1).1
 refine h.plain hl _ s h1 ?_
 rw[dW (by rw[h.len];exact hi)]
 congr 1
 exact hp _<|ant _
theorem F_ (hw:fk (nT I fo o) b=true):0≤b∧b<((I.length:Nat):Int)∧(0≤o∧o<((I.length:Nat):Int))∧(jq I fo b.toNat o.toNat=true∨b=o):=by
 unfold fk at hw
 obtain⟨z,hz,e⟩:=amp.1 hw
 have e:=alT e
 subst e
 unfold nT dm at hz
 split at hz
 ·rename_i ho
  obtain⟨k,hk,h,rfl⟩:=tp.1 hz
  rw[dC] at hk
  refine⟨by omega,by omega,ho,?_⟩
  unfold bw at h
  rw[eX hk ai,alI,alC] at h
  rw[dC]
  rcases h with h|h
  ·exact .inl h
  ·exact .inr ai
 ·cases hz
theorem zc (ho:0≤o∧o<((I.length:Nat):Int)) {b:Nat} (hb:b<I.length) (h:jq I fo b o.toNat=true∨((b:Nat):Int)=o):((b:Nat):Int)∈dm ((I.length:Nat):Int) (bw I fo) o:=by
 unfold dm
 rw[alE ho,tp,dC]
 refine⟨b,hb,?_,J⟩
 unfold bw
 rw[eX hb ai,alI,alC]
 rcases h with h|h
 ·exact .inl h
 ·exact .inr ai
theorem mz {l:az} {n:Int}:fk l n=true↔n∈l:=by
 unfold fk
 rw[amp]
 constructor
 ·rintro⟨z,hz,e⟩;rw[alT e];exact hz
 ·intro h;exact⟨n,h,alM rfl⟩
theorem jZ.seen {pl:List Bool} (hl:fo.length=I.length) (h:jZ I fo l pl) (hw:te I fo l o=true):∀s∈l,pN I fo o s.2.1.toNat s.2.2.1.toNat=true:=by
 have hs:=Pu I fo o
 have w:∀s∈l,kI (nT I fo o) (dB I o) s=false:=by
  intro s hm
  unfold te at hw
  rw[alW,amF] at hw
  simpa using hw s hm
 have jl:=h.ok
 refine h.sound (R:=fun a b=>pN I fo o a b=true) hl hs.trans (fun s hm hk he=>?_) fun s hm hk h1 h2 h3 ⟨x,hx,e1,e2,hR⟩=>?_
 ·obtain⟨⟨a0,a1⟩,b0,b1⟩:=qX.1 (jl s hm)
  have:=w s hm
  unfold kI at this
  have hb:fk (nT I fo o) s.2.2.1=true:=by
   rcases hk with hk|hk
   ·rw[hk] at this;simpa using this
   ·rw[hk] at this;simpa using this
  obtain⟨_,_,ho,hc⟩:=F_ hb
  have co:jq I fo s.2.1.toNat s.2.2.1.toNat=true:=l6 he
  refine hs.base _ _ ai ai co (zc ho ai<|.inl ?_)<|zc ho ai ?_
  ·rcases hc with hc|hc
   ·exact nK ai co hc
   ·rw[←hc];exact co
  ·rcases hc with hc|hc
   ·exact .inl hc
   ·exact .inr ai
 ·obtain⟨⟨a0,a1⟩,b0,b1⟩:=qX.1 (jl s hm)
  have:=w s hm
  unfold kI at this
  rw[hk] at this
  have hb:fk (dB I o) s.2.2.2.2=true:=by simpa using this
  obtain⟨r0,r1⟩:=vV.1 h1
  obtain⟨n1,n2,_⟩:=vL b0 a0 h3
  refine hs.IC _ _ s.2.2.2.2.toNat (by rw[alJ r0];exact mz.1 hb) ⟨by omega,by omega,?_,by omega,?_,?_⟩
  ·rw[(iI hl ai (d:=0)).1 h2];congr 1;omega
  ·rw[alJ a0,alJ b0];exact n2
  ·rw[e1,e2] at hR;exact hR
theorem jZ.XJ {l:List aA} {pl:List Bool} (hl:fo.length=I.length) (h:jZ I fo l pl) (hf:(!(l.any (jU pl)))=true):∀s∈l,cl I.length (xB I fo) s.2.1.toNat s.2.2.1.toNat=true:=by
 have jl:=h.ok
 have f:∀s∈l,jU pl s=false:=by
  intro s hm
  rw[alW,amF] at hf
  simpa using hf s hm
 have ru:∀{l' mR},jZ I fo l' mR→∀t q,l=l'++t→pl=mR++q→∀s∈l',s.1=4→jq I fo s.2.1.toNat s.2.2.2.2.toNat=true:=by
  intro l' mR h'
  induction h' with
  |nil=>intro _ _ _ _ s hs;cases hs
  |@snoc l' mR s h' h1 h2 ih=>
   intro t q e1 e2 x hx hk
   rcases alR.1 hx with hx|hx
   ·exact ih ([s]++t) ([plainO l' mR s]++q) (by rw[e1,alY]) (by rw[e2,alY]) x hx hk
   ·simp only[amm] at hx
    subst hx
    obtain⟨g1,g2,g3,g4⟩:=G2 hk h2
    obtain⟨u,ji,hu,e3,e4⟩:=k'.1 g4
    have hi:=(eW.1 hu).1
    have Q9:=f x<|by rw[e1];exact amM _ (am0 _<|amm.2 J)
    unfold jU at Q9
    rw[hk] at Q9
    have hp:pl.getD x.2.2.2.1.toNat false=true:=by simpa using Q9
    have:=h'.plain hl _ u hu (by
     rw[eH,e2,alY,y9 (by rw[h'.len];exact hi)] at hp
     rw[dW (by rw[h'.len];exact hi)] at hp ⊢
     exact alB some hp)
    rwa [e3,e4] at this
 have ru:=ru h [] [] (by simp)<|by simp
 refine h.sound (R:=fun a b=>cl I.length (xB I fo) a b=true) hl (fun a b c _ hb _ h1 h2=>nK hb h1 h2) (fun s hm hk he=>?_) fun s hm hk h1 h2 h3 _=>?_
 ·refine l6 ?_
  unfold xB
  rw[show jq I fo s.2.1.toNat s.2.2.1.toNat=true from l6 he];rfl
 ·obtain⟨⟨a0,a1⟩,b0,b1⟩:=qX.1 (jl s hm)
  obtain⟨r0,r1⟩:=vV.1 h1
  obtain⟨n1,n2,_⟩:=vL b0 a0 h3
  refine l6 ?_
  unfold xB
  rw[alI]
  refine .inr ((@decide_eq_true_iff _ (Classical.propDecidable _)).2 ⟨s.2.2.2.2.toNat,by omega,by omega,?_,by omega,?_,ru s hm hk⟩)
  ·rw[(iI hl ai (d:=0)).1 h2];congr 1;omega
  ·rw[alJ a0,alJ b0];exact n2
theorem Q0 {lv kd r:Int} {fs sn:Int} (hl:fo.length=I.length) (hv:nD I fo) (h:eA I fo lv kd r a b o l fs sn=true):kd∈ez lv∧DN I fo kd:=by
 unfold eA at h
 simp only[cA] at h
 obtain⟨⟨⟨h1,h2⟩,h3⟩,h4⟩:=h
 have B:=jZ.of jZ.nil h3
 generalize (du I fo [] [] l).2.1=st at *
 generalize (du I fo [] [] l).2.2=pl at *
 refine⟨mz.1 h1,?_⟩
 unfold iy at h4
 unfold DN
 by_cases k1:kd=1
 ·rw[alM k1] at h4
  simp only[anj,cA,alC] at h4
  obtain⟨r0,r1⟩:=Nw h4.1.1
  exact .inl ⟨k1,r.toNat,(iI hl ai (d:=0)).1 h4.1.2⟩
 rw[alH k1] at h4
 by_cases k2:kd=2
 ·rw[alM k2] at h4
  simp only[anj,ane,cA] at h4
  obtain⟨o0,o1⟩:=Nw h4.1.1
  exact .inr (.inl ⟨k2,o.toNat,by omega,B.bare hl (Cf h4.1.2) h4.2⟩)
 rw[alH k2] at h4
 by_cases k3:kd=3
 ·rw[alM k3] at h4
  simp only[anj,ane,cA] at h4
  obtain⟨⟨r0,r1⟩,⟨w0,w1⟩,e1,e2⟩:=G_ h4.1.1
  refine .inr (.inr (.inl ⟨k3,r.toNat,a.toNat,by omega,by omega,(iI hl ai (d:=0)).1 e1,?_,B.bare hl (Cf h4.1.2) h4.2⟩))
  rw[alJ r0,alJ w0];exact e2
 rw[alH k3] at h4
 by_cases k4:kd=4
 ·rw[alM k4] at h4
  simp only[anj,ane,cA,alC] at h4
  obtain⟨⟨⟨⟨⟨h5,h6⟩,h7⟩,h8⟩,h9⟩,Mu⟩:=h4
  obtain⟨⟨r0,r1⟩,⟨a0,a1⟩,b0,b1⟩:=B4 h5
  have h7':dE I b a=true:=by
   unfold dE at h7 ⊢
   simp only[cA,alW,al1,alC] at h7 ⊢
   exact⟨⟨⟨fun e=>h7.1.1.1 e.symm,h7.1.2⟩,h7.1.1.2⟩,h7.2.symm⟩
  obtain⟨n1,n2,n3⟩:=vL a0 b0 h7'
  have fr:=(iI hl (r:=r.toNat) ai (d:=0)).1 h6
  refine .inr (.inr (.inr (.inl ⟨k4,r.toNat,b.toNat,a.toNat,by omega,by omega,by omega,?_,by omega,?_,B.bare hl (Cf h8) Mu,B.bare hl (Cf h8) h9⟩)))
  ·rw[fr];congr 1;omega
  ·have e:=(hv r.toNat a.toNat<|by rw[fr];congr 1;omega).1
   rw[e,alJ b0,alJ a0];exact n2
 rw[alH k4] at h4
 by_cases k5:kd=5
 ·rw[alM k5] at h4
  simp only[anj,ane,cA] at h4
  obtain⟨o0,o1⟩:=Nw h4.1.1
  obtain⟨s,_,h5,e1,e2⟩:=k'.1 h4.2
  have:=B.XJ hl h4.1.2 s<|eh h5
  rw[e1,e2] at this
  exact .inr (.inr (.inr (.inr (.inl ⟨k5,o.toNat,by omega,this⟩))))
 rw[alH k5] at h4
 by_cases k6:kd=6
 ·rw[alM k6] at h4
  simp only[anj,ane,cA] at h4
  obtain⟨⟨⟨⟨h5,h6⟩,h7⟩,h8⟩,h9⟩:=h4
  obtain⟨o0,o1⟩:=Nw h5
  obtain⟨⟨r0,r1⟩,⟨w0,w1⟩,e1,e2⟩:=G_ h6
  obtain⟨s,_,Mu,e3,e4⟩:=k'.1 h9
  have:=B.seen hl h8 s<|eh Mu
  rw[e3,e4] at this
  refine .inr (.inr (.inr (.inr (.inr (.inl ⟨k6,o.toNat,r.toNat,a.toNat,by omega,by omega,by omega,?_,(iI hl ai (d:=0)).1 e1,?_,?_⟩)))))
  ·rw[alJ o0,alJ r0];exact mz.1 h7
  ·rw[alJ r0,alJ w0];exact e2
  ·rw[alJ o0];exact this
 rw[alH k6] at h4
 by_cases k7:kd=7
 ·rw[alM k7] at h4
  simp only[anj,ane,cA] at h4
  obtain⟨⟨h5,h6⟩,h7⟩:=h4
  obtain⟨⟨o0,o1⟩,a0,a1⟩:=sx h5
  obtain⟨s,_,Mu,e3,e4⟩:=k'.1 h7
  have:=B.seen hl h6 s<|eh Mu
  rw[e3,e4] at this
  exact .inr (.inr (.inr (.inr (.inr (.inr ⟨k7,o.toNat,a.toNat,by omega,by omega,by rw[alJ o0];exact this⟩)))))
 rw[alH k7] at h4
 cases h4
theorem Ei {lv kd r a b o:Int} {l:List aA} {fs sn:Int} (hl:fo.length=I.length) (hv:nD I fo) (dx:∀x∈fo,x<((I.length:Nat):Int)) (h:eA I fo lv kd r a b o l fs sn=true):(nz I fo lv).isSome=true∧(fT I fo kd).isSome=true:=by
 obtain⟨h1,h2⟩:=Q0 hl hv h
 refine⟨?_,(LN hl dx<|vS h1).2 h2⟩
 cases e:nz I fo lv with
 |some y=>rfl
 |none=>exact absurd h2 ((Hu hl dx).1 e kd h1)
end
end Go.Ew
namespace Go.Ew
variable {x y w:List Nat} {a b:Nat}
def mA (n:Nat) (p:gk):Nat→Nat→Nat→List Nat→Prop
 |0,a,b,w=>a=b∧w=[a]
 |L+1,a,b,w=>∃k v,k<n∧p a k=true∧mA n p L k b v∧w=a::v
def L6:List Nat→List Nat→Prop
 |a::x,b::y=>a<b∨(a=b∧L6 x y)
 |_,_=>False
def slt (x y:List Nat):Prop:=x.length<y.length∨(x.length=y.length∧L6 x y)
def sle (x y:List Nat):Prop:=x=y∨slt x y
section
variable {n:Nat} {p:gk}
theorem Ea:∀x,¬L6 x x
 |[],h=>h
 |a::x,h=>by
  rcases h with h|⟨-,h⟩
  ·exact anA _ h
  ·exact Ea x h
theorem GH:∀{x y z:List Nat},L6 x y→L6 y z→L6 x z
 |a::x,b::y,c::z,h,k=>by
  rcases h with h|⟨rfl,h⟩
  ·rcases k with k|⟨rfl,k⟩
   ·exact .inl (aoV h k)
   ·exact .inl h
  ·rcases k with k|⟨rfl,k⟩
   ·exact .inl k
   ·exact .inr ⟨J,GH h k⟩
 |[],_,_,h,_=>h.elim
 |_::_,[],_,h,_=>h.elim
 |_::_,_::_,[],_,k=>k.elim
theorem No (x:List Nat):¬slt x x:=by
 rintro(h|⟨-,h⟩)
 ·exact anA _ h
 ·exact Ea x h
theorem PA {z:List Nat} (h:slt x y) (k:slt y z):slt x z:=by
 rcases h with h|⟨h1,h2⟩<;>rcases k with k|⟨k1,k2⟩
 ·exact .inl ai
 ·exact .inl ai
 ·exact .inl ai
 ·exact .inr ⟨by omega,GH h2 k2⟩
theorem Iu (h:sle x y) (k:sle y x):x=y:=by
 rcases h with rfl|h
 ·rfl
 ·rcases k with rfl|k
  ·rfl
  ·exact absurd (PA h k)<|No _
theorem E1 (h:sle x y):x.length≤y.length:=by
 rcases h with rfl|h|⟨h, -⟩<;>omega
theorem It (a:Nat) (h:sle x y):sle (a::x) (a::y):=by
 rcases h with rfl|h|⟨h1,h2⟩
 ·exact .inl rfl
 ·exact .inr (.inl (by simp;omega))
 ·exact .inr (.inr ⟨by simp;omega,.inr ⟨J,h2⟩⟩)
theorem ja:∀{L a b:Nat} {w:List Nat},mA n p L a b w→w.length=L+1
 |0,a,b,w,h=>by rw[h.2];rfl
 |L+1,a,b,w,h=>by
  obtain⟨k,v,_,_,h,rfl⟩:=h
  rw[jv,ja h]
theorem pK:∀{L a b:Nat} {w:List Nat},mA n p L a b w→w[0]? =some a
 |0,a,b,w,h=>by rw[h.2];rfl
 |L+1,a,b,w,h=>by
  obtain⟨k,v,_,_,h,rfl⟩:=h
  rfl
theorem Ic:∀{L a b:Nat} {w:List Nat},mA n p L a b w→w[L]? =some b
 |0,a,b,w,h=>by rw[h.2,h.1];rfl
 |L+1,a,b,w,h=>by
  obtain⟨k,v,_,_,h,rfl⟩:=h
  have:=Ic h
  simpa using this
theorem EU {L a b:Nat} {w:List Nat} (h:mA n p L a b w) (ha:a<n):∀x∈w,x<n:=by
 induction L generalizing a w with
 |zero=>obtain⟨rfl,rfl⟩:=h;simpa using ha
 |succ L ih=>
  obtain⟨k,v,h1,h2,h,rfl⟩:=h
  intro x hx
  rcases alQ.1 hx with rfl|hx
  ·exact ha
  ·exact ih h h1 x hx
theorem Ib:∀{L a b t:Nat} {w:List Nat} {x y:Nat},mA n p L a b w→w[t]? =some x→w[t+1]? =some y→p x y=true
 |0,a,b,t,w,x,y,h,hx,hy=>by obtain⟨rfl,rfl⟩:=h;simp at hy
 |L+1,a,b,t,w,x,y,h,hx,hy=>by
  obtain⟨k,v,h1,h2,h,rfl⟩:=h
  cases t with
  |zero=>
   have h0:=pK h
   simp at hx hy
   rw[h0] at hy
   rw[←hx,←alD hy];exact h2
  |succ t=>exact Ib h (by simpa using hx) (by simpa using hy)
theorem Ar:∀{L a b t:Nat} {w:List Nat} {x:Nat},mA n p L a b w→w[t]? =some x→(∃u,mA n p t a x u)∧∃v,mA n p (L-t) x b v
 |L,a,b,0,w,x,h,hx=>by
  rw[pK h] at hx;cases hx
  exact⟨⟨[a],J,J⟩,w,h⟩
 |0,a,b,t+1,w,x,h,hx=>by obtain⟨rfl,rfl⟩:=h;simp at hx
 |L+1,a,b,t+1,w,x,h,hx=>by
  obtain⟨k,v,h1,h2,h,rfl⟩:=h
  obtain⟨⟨u,hu⟩,v',hv⟩:=Ar h (by simpa using hx)
  exact⟨⟨a::u,k,u,h1,h2,hu,J⟩,v',by rwa [show L+1-(t+1)=L-t from by omega]⟩
theorem Ie:∀{L M a b c:Nat} {u v:List Nat},mA n p L a b u→mA n p M b c v→∃w,mA n p (L+M) a c w
 |0,M,a,b,c,u,v,h,k=>by obtain⟨rfl,rfl⟩:=h;exact⟨v,by rwa [ama]⟩
 |L+1,M,a,b,c,u,v,h,k=>by
  obtain⟨x,u',h1,h2,h,rfl⟩:=h
  obtain⟨w,hw⟩:=Ie h k
  exact⟨a::w,by rw[show L+1+M=(L+M)+1 from by omega];exact⟨x,w,h1,h2,hw,J⟩⟩
theorem Yd {a b:Nat} (ha:a<n):(∃L w,mA n p (L+1) a b w)↔TC n p a b:=by
 constructor
 ·rintro⟨L,w,h⟩
  induction L generalizing a w with
  |zero=>obtain⟨k,v,h1,h2,⟨rfl, -⟩, -⟩:=h;exact .one ha h1 h2
  |succ L ih=>obtain⟨k,v,h1,h2,h, -⟩:=h;exact .cons ha h1 h2 (ih h1 _ h)
 ·intro h
  induction h with
  |one h1 h2 h3=>exact⟨0,_,_,_,h2,h3,⟨rfl,rfl⟩,rfl⟩
  |cons h1 h2 h3 _ ih=>obtain⟨L,w,h⟩:=ih h2;exact⟨L+1,_,_,w,h2,h3,h,rfl⟩
def fo {α:Type} (f:Nat→Option α):Nat→Option α
 |0=>none
 |k+1=>match fo f k with
  |some x=>some x
  |none=>f k
theorem vj {α:Type} {f:Nat→Option α} {x:α}:∀{n:Nat},fo f n=some x→∃k,k<n∧f k=some x∧∀j,j<k→f j=none
 |k+1,h=>by
  unfold fo at h
  have iZ:∀m,fo f m=none→∀j,j<m→f j=none:=by
   intro m
   induction m with
   |zero=>intro _ j hj;omega
   |succ m ih=>
    intro hm j hj
    unfold fo at hm
    cases h1:fo f m with
    |some y=>rw[h1] at hm;cases hm
    |none=>
     rw[h1] at hm
     rcases amO.1 hj with hj|rfl
     ·exact ih h1 j hj
     ·exact hm
  cases h1:fo f k with
  |some y=>
   rw[h1] at h;cases h
   obtain⟨j,h2,h3,h4⟩:=vj h1
   exact⟨j,by omega,h3,h4⟩
  |none=>rw[h1] at h;exact⟨k,by omega,h,iZ k h1⟩
theorem FV {α:Type} {f:Nat→Option α}:∀{n:Nat},fo f n=none→∀j,j<n→f j=none
 |m+1,hm,j,hj=>by
  unfold fo at hm
  cases h1:fo f m with
  |some y=>rw[h1] at hm;cases hm
  |none=>
   rw[h1] at hm
   rcases amO.1 hj with hj|rfl
   ·exact FV h1 j hj
   ·exact hm
theorem VV {α:Type} {f:Nat→Option α} {x:α} {n k:Nat} (hk:k<n) (h:f k=some x) (hj:∀j,j<k→f j=none):fo f n=some x:=by
 cases h1:fo f n with
 |none=>rw[FV h1 k hk] at h;cases h
 |some y=>
  obtain⟨m,_,h3,h4⟩:=vj h1
  rcases aos m k with hm|rfl|hm
  ·rw[hj m hm] at h3;cases h3
  ·rw[h3] at h;rw[h]
  ·rw[h4 k hm] at h;cases h
def wl (n:Nat) (p:gk):Nat→Nat→Nat→Option (List Nat)
 |0,a,b=>if a=b then some [a] else none
 |L+1,a,b=>fo (fun k=>if p a k=true then (wl n p L k b).map (a::·) else none) n
theorem vf:∀{L a b:Nat},wl n p L a b=none→∀w,¬mA n p L a b w
 |0,a,b,h,w,hw=>by obtain⟨rfl,rfl⟩:=hw;unfold wl at h;simp at h
 |L+1,a,b,h,w,hw=>by
  obtain⟨k,v,h1,h2,h3,rfl⟩:=hw
  have h4:=FV h k h1
  rw[alE h2,Option.map_eq_none_iff] at h4
  exact vf h4 v h3
theorem rM:∀{L a b:Nat} {w:List Nat},wl n p L a b=some w→mA n p L a b w∧∀v,mA n p L a b v→sle w v
 |0,a,b,w,h=>by
  unfold wl at h
  split at h
  ·rename_i e;cases h;exact⟨⟨e,rfl⟩,fun v hv=>.inl hv.2.symm⟩
  ·cases h
 |L+1,a,b,w,h=>by
  obtain⟨k,h1,h2,h3⟩:=vj h
  have hp:p a k=true:=by
   cases hp:p a k with
   |true=>rfl
   |false=>rw[hp] at h2;simp at h2
  rw[alE hp,al'] at h2
  obtain⟨u,h2,rfl⟩:=h2
  obtain⟨h4,h5⟩:=rM h2
  refine⟨⟨k,u,h1,hp,h4,J⟩,?_⟩
  rintro v ⟨m,v,k1,k2,k3,rfl⟩
  rcases aos m k with hm|rfl|hm
  ·have:=h3 m hm
   rw[alE k2,Option.map_eq_none_iff] at this
   exact absurd k3<|vf this v
  ·exact It a<|h5 v k3
  ·refine .inr (.inr ⟨by simp[ja h4,ja k3],.inr ⟨J,?_⟩⟩)
   have e1:=pK h4;have e2:=pK k3
   cases u with
   |nil=>simp at e1
   |cons x u=>
    cases v with
    |nil=>simp at e2
    |cons y v=>
     simp at e1 e2
     subst e1;subst e2
     exact .inl hm
theorem UI {L a b:Nat} {w:List Nat} (h:mA n p L a b w):(wl n p L a b).isSome=true:=by
 cases h1:wl n p L a b with
 |none=>exact absurd h (vf h1 w)
 |some v=>rfl
def pH (n:Nat) (p:gk) (a b:Nat):Option (List Nat):=fo (fun L=>wl n p (L+1) a b) n
def xW (n:Nat) (p:gk) (a b:Nat) (w:List Nat):Prop:=(∃L,mA n p (L+1) a b w)∧∀L v,mA n p (L+1) a b v→sle w v
theorem IY:∀{n:Nat} {l:List Nat},l.Nodup→(∀x∈l,x<n)→l.length≤n
 |0,l,_,h=>by
  cases l with
  |nil=>simp
  |cons x l=>exact absurd (h x al5) ai
 |n+1,l,hd,h=>by
  have h1:(l.filter (fun x=>decide (x≠n))).length≤n:=IY (aoh List.filter_sublist hd) fun x hx=>by
   have:=alO.1 hx
   have h2:=h x this.1
   have h3:=alT this.2
   omega
  have h2:∀l:List Nat,l.Nodup→l.length≤(l.filter (fun x=>decide (x≠n))).length+1:=by
   intro l
   induction l with
   |nil=>simp
   |cons a l ih=>
    intro hd
    have hd:=amr.1 hd
    by_cases ha:a=n
    ·subst ha
     have hf:l.filter (fun x=>decide (x≠a))=l:=an7.2<|fun x hx=>alM<|fun (e:x=a)=>hd.1<|by rw[←e];exact hx
     rw[List.filter_cons_of_neg (by simp),hf]
     simp
    ·rw[List.filter_cons_of_pos (by simpa using ha)]
     have:=ih hd.2
     simp only[jv];omega
  have:=h2 l hd
  omega
theorem UC (h:xW n p a b w) {s t x:Nat} (jG:s<t) (hs:w[s]? =some x) (ht:w[t]? =some x):s=0∧t+1=w.length:=by
 obtain⟨⟨L,hw⟩,hl⟩:=h
 have hlen:=ja hw
 have htl:t<w.length:=(eW.1 ht).1
 obtain⟨⟨u,hu⟩, -⟩:=Ar hw hs
 obtain⟨-,v,hv⟩:=Ar hw ht
 obtain⟨y,hy⟩:=Ie hu hv
 refine amu fun hc=>?_
 have Dh:∃M,s+(L+1-t)=M+1:=⟨s+(L+1-t)-1,by omega⟩
 obtain⟨M,hM⟩:=Dh
 rw[hM] at hy
 have h1:=E1<|hl _ _ hy
 have h2:=ja hy
 omega
theorem zX (h:xW n p a b w) (ha:a<n):w.length≤n+1:=by
 have h0:=h
 obtain⟨⟨L,hw⟩,hl⟩:=h
 have hlen:=ja hw
 have hm:=EU hw ha
 have hd:w.dropLast.Nodup:=by
  rw[List.nodup_iff_pairwise_ne,List.pairwise_iff_getElem]
  intro i j hi hj Jz e
  rw[List.length_dropLast] at hi hj
  rw[List.getElem_dropLast,List.getElem_dropLast] at e
  have:=UC h0 Jz (dW ai)<|by rw[e];exact dW ai
  omega
 have:=IY hd fun x hx=>hm x (List.dropLast_subset _ hx)
 rw[List.length_dropLast] at this
 omega
theorem tH {a b:Nat} {w:List Nat} (h:xW n p a b w) (ha:a<n):pH n p a b=some w:=by
 have hlen:=zX h ha
 have h0:=h
 obtain⟨⟨L,hw⟩,hl⟩:=h
 have hwl:=ja hw
 have acU:wl n p (L+1) a b=some w:=by
  cases h1:wl n p (L+1) a b with
  |none=>exact absurd hw (vf h1 w)
  |some v=>
   obtain⟨h2,h3⟩:=rM h1
   rw[Iu (h3 _ hw) (hl _ _ h2)]
 refine VV (k:=L) ai acU fun j hj=>?_
 cases h1:wl n p (j+1) a b with
 |none=>rfl
 |some v=>
  have h2:=E1<|hl _ _ (rM h1).1
  have h3:=ja (rM h1).1
  omega
theorem zV (h:pH n p a b=some w):xW n p a b w:=by
 obtain⟨L,h1,h2,h3⟩:=vj h
 obtain⟨h4,h5⟩:=rM h2
 refine⟨⟨L,h4⟩,fun M v hv=>?_⟩
 rcases aos M L with hm|rfl|hm
 ·exact absurd hv<|vf (h3 M hm) v
 ·exact h5 v hv
 ·exact .inr (.inl (by rw[ja h4,ja hv];omega))
theorem F3 {L a b:Nat} {w:List Nat} (h:mA n p (L+1) a b w):∃v,xW n p a b v:=by
 have key:∀L,(∃w,mA n p (L+1) a b w)→∃v,xW n p a b v:=by
  intro L
  induction L using Nat.strongRecOn with
  |ind L ih=>
   rintro⟨w,hw⟩
   by_cases hc:∃M,M<L∧∃v,mA n p (M+1) a b v
   ·obtain⟨M,hM,hv⟩:=hc
    exact ih M hM hv
   ·cases h1:wl n p (L+1) a b with
    |none=>exact absurd hw (vf h1 w)
    |some u=>
     obtain⟨h2,h3⟩:=rM h1
     refine⟨u,⟨L,h2⟩,fun M v hv=>?_⟩
     rcases aos M L with hm|rfl|hm
     ·exact absurd ⟨M,hm,v,hv⟩ hc
     ·exact h3 v hv
     ·exact .inr (.inl (by rw[ja h2,ja hv];omega))
 exact key L ⟨w,h⟩
theorem abJ {a b:Nat} (h:∀L w,¬mA n p (L+1) a b w):pH n p a b=none:=by
 cases h1:pH n p a b with
 |none=>rfl
 |some w=>obtain⟨⟨L,h2⟩,_⟩:=zV h1;exact absurd h2 (h L w)
end
end Go.Ew
namespace Go.Ew
structure Bk (bs:az) (i j:Int) (w:az):Prop where
 head:w[0]? =some i
 last:w[w.length-1]? =some j
 len:2≤w.length
 by_:∀t x y,w[t]? =some x→w[t+1]? =some y→bs[y.toNat]? =some x
 ne:∀t,1≤t→t+1<w.length→w[t]?≠some i
 rng:∀x∈w,0≤x∧x<(bs.length:Int)
section
variable {bs:az} {i j:Int} {w:az} (h:Bk bs i j w)
include h
end
section
variable {n:Nat} {p:gk} {i j:Nat} {bs:az} {E:List (List Nat)} {c t:Nat}
end
end Go.Ew
namespace Go.Ew
section
variable {n:Nat} {p:gk} {i j:Int} {bs td:az} {x k v:Int} {q:Nat}
theorem B5 {w:List Nat} {t:Nat}:(jB w)[t]? =some x↔∃m,w[t]? =some m∧x=((m:Nat):Int):=by
 unfold jB
 rw[amc,al']
 exact⟨fun ⟨m,h1,h2⟩=>⟨m,h1,h2.symm⟩,fun ⟨m,h1,h2⟩=>⟨m,h1,h2.symm⟩⟩
end
def cD (n:Int) (rs:Rows) (i j:Int):Option az:=if 0≤i∧i<n∧0≤j∧j<n then (pH n.toNat (dw rs) i.toNat j.toNat).map jB else none
theorem rQ {n:Int} {rs:Rows} {i j:Int} (h:i<0∨n≤i∨j<0∨n≤j):cD n rs i j=none:=by unfold cD;rw[alG ai]
theorem vg {n:Int} {rs:Rows} {i j:Int} (h:0≤i∧i<n∧0≤j∧j<n):cD n rs i j=(pH n.toNat (dw rs) i.toNat j.toNat).map jB:=by unfold cD;rw[alE h]
end Go.Ew
namespace Go.Ew
theorem QI {P:bT} (h:∃n,P n):∃n,P n∧∀m,P m→n≤m:=by
 obtain⟨n,hn⟩:=h
 induction n using Nat.strongRecOn with
 |ind n ih=>
  by_cases hc:∃m,m<n∧P m
  ·obtain⟨m,hm,hp⟩:=hc
   exact ih m hm hp
  ·exact⟨n,hn,fun m hm=>Nat.le_of_not_lt fun dx=>hc ⟨m,dx,hm⟩⟩
def dl (n:Nat) (p:gk) (j k:Nat):Option Nat:=fo (fun s=>if (wl n p s k j).isSome=true then some s else none) (n+1)
def dU (n:Nat) (p:gk) (j s k:Nat):Int:=match dl n p j k with
 |some t=>if t<s then ((t:Nat):Int) else -1
 |none=> -1
def dS (n:Nat) (p:gk) (j s q:Nat):az:=(List.range n).map fun k=>if k<q then dU n p j (s+1) k else dU n p j s k
def nJ (n:Nat) (p:gk) (j:Nat):az:=dS n p j (n+1) 0
section
variable {n:Nat} {p:gk} {j k s t q i:Nat} {d:az} {x y:Int}
theorem sc (hk:k<n):dl n p j k=some s↔(∃w,mA n p s k j w)∧∀t w,mA n p t k j w→s≤t:=by
 constructor
 ·intro h
  obtain⟨m,h1,h2,h3⟩:=vj h
  split at h2
  ·rename_i hs
   cases h2
   refine⟨?_,fun t w hw=>Nat.le_of_not_lt fun dx=>?_⟩
   ·cases h4:wl n p s k j with
    |none=>rw[h4] at hs;cases hs
    |some w=>exact⟨w,(rM h4).1⟩
   ·have:=h3 t dx
    rw[alE (UI hw)] at this;cases this
  ·cases h2
 ·rintro⟨⟨w,hw⟩,hm⟩
  have hsn:s≤n:=by
   cases s with
   |zero=>omega
   |succ s=>
    obtain⟨v,hv⟩:=F3 hw
    have h1:=zX hv hk
    obtain⟨⟨L,hL⟩,_⟩:=hv
    have h2:=hm _ _ hL
    rw[ja hL] at h1
    omega
  refine VV (k:=s) ai (by rw[alE (UI hw)]) fun t ht=>?_
  rw[alG]
  intro hc
  cases h4:wl n p t k j with
  |none=>rw[h4] at hc;cases hc
  |some v=>have:=hm t v (rM h4).1;omega
theorem MK (hk:k<n) (h:dl n p j k=none):∀t w,¬mA n p t k j w:=by
 intro t w hw
 obtain⟨s,⟨v,hv⟩,hm⟩:=QI (P:=fun t=>∃w,mA n p t k j w) ⟨t,w,hw⟩
 rw[(sc hk).2 ⟨⟨v,hv⟩,fun t w hw=>hm t ⟨w,hw⟩⟩] at h
 cases h
theorem V3 {w:List Nat} (hk:k<n) (h:mA n p t k j w):∃s,dl n p j k=some s∧s≤t:=by
 cases h1:dl n p j k with
 |none=>exact absurd h (MK hk h1 t _)
 |some s=>exact⟨s,rfl,((sc hk).1 h1).2 _ _ h⟩
theorem rH (n:Nat) (p:gk) (j s k:Nat):(dU n p j s k= -1∧∀t,dl n p j k=some t→s≤t)∨∃t,dl n p j k=some t∧t<s∧dU n p j s k=((t:Nat):Int):=by
 unfold dU
 cases h:dl n p j k with
 |none=>exact .inl ⟨rfl,fun t ht=>by cases ht⟩
 |some t=>
  by_cases ht:t<s
  ·exact .inr ⟨t,J,ht,alE ht⟩
  ·exact .inl ⟨alG ht,fun u hu=>by cases hu;omega⟩
theorem EH:dU n p j s k=((t:Nat):Int)↔dl n p j k=some t∧t<s:=by
 rcases rH n p j s k with ⟨h1,h2⟩|⟨u,h1,h2,h3⟩
 ·rw[h1]
  exact⟨fun h=>by omega,fun h=>by have:=h2 t h.1;omega⟩
 ·rw[h3,h1]
  exact⟨fun h=>(by have:u=t:=ai;subst this;exact⟨J,h2⟩),fun h=>by cases h.1;rfl⟩
theorem uu (s q:Nat):(dS n p j s q).length=n:=by unfold dS;simp
theorem uv (hk:k<n):(dS n p j s q)[k]? =some (if k<q then dU n p j (s+1) k else dU n p j s k):=by
 unfold dS;rw[amc,anK hk];rfl
theorem EI (hl:d.length=n) (h:∀k,k<n→d[k]? =some (if k<q then dU n p j (s+1) k else dU n p j s k)):d=dS n p j s q:=by
 apply am'
 intro k
 by_cases hk:k<n
 ·rw[h k hk,uv hk]
 ·rw[amf ai,amf (by rw[uu];omega)]
theorem Rx (hj:j<n):(List.replicate n (-1:Int)).set j 0=dS n p j 1 0:=by
 refine EI (by simp) fun k hk=>?_
 rw[alG ai,anq]
 have key:dl n p j k=some 0↔k=j:=by
  rw[sc hk]
  exact⟨fun ⟨⟨w,hw⟩,_⟩=>hw.1,fun e=>⟨⟨[k],e,J⟩,fun t w _=>anu t⟩⟩
 by_cases e:j=k
 ·subst e
  rw[alE rfl,alE (by simpa using hj)]
  exact alB some (EH.2 ⟨key.2 rfl,by omega⟩).symm
 ·rw[alG e,anf,alE hk]
  rcases rH n p j 1 k with ⟨h1,_⟩|⟨u,h1,h2,_⟩
  ·rw[h1]
  ·have:u=0:=by omega
   subst this
   exact absurd (key.1 h1).symm e
theorem XN (h:d=dS n p j s q) (hq:n≤q):d=dS n p j (s+1) 0:=by
 rw[h]
 refine EI (uu _ _) fun k hk=>?_
 rw[uv hk,alE ai,alG ai]
def BW (n:Nat) (p:gk) (j s i k:Nat) (d:az):Prop:=
 (d=dS n p j s i∧dU n p j s i= -1∧∀m,m<k→p i m=true→dl n p j m≠some (s-1))∨(d=dS n p j s (i+1)∧0≤dU n p j (s+1) i)
theorem V4 (h:dU n p j (s+1) i=dU n p j s i):dS n p j s i=dS n p j s (i+1):=by
 refine EI (uu _ _) fun k hk=>?_
 rw[uv hk]
 by_cases e:k=i
 ·subst e;rw[alG ai,alE ai,h]
 ·by_cases h2:k<i
  ·rw[alE h2,alE ai]
  ·rw[alG h2,alG ai]
theorem aa' (h:d=dS n p j s i):BW n p j s i 0 d:=by
 rcases rH n p j s i with ⟨h1,_⟩|⟨t,h1,h2,h3⟩
 ·exact .inl ⟨h,h1,fun m hm=>by omega⟩
 ·have h4:dU n p j (s+1) i=((t:Nat):Int):=EH.2 ⟨h1,by omega⟩
  exact .inr ⟨by rw[h];exact V4 (by rw[h3,h4]),by rw[h4];omega⟩
theorem Kb (h:BW n p j s i k d) (hi:i<n) (hx:d[i]? =some x) (aq:x<0):d=dS n p j s i∧dU n p j s i= -1∧∀m,m<k→p i m=true→dl n p j m≠some (s-1):=by
 rcases h with h|⟨h1,h2⟩
 ·exact h
 ·rw[h1,uv hi,alE ai] at hx
  cases hx;omega
theorem ME (hk:k<n) (hs:1≤s) (h:(dS n p j s i)[k]? =some y):y=((s:Nat):Int)-1↔dl n p j k=some (s-1):=by
 rw[uv hk] at h
 have hc:((s:Nat):Int)-1=((s-1:Nat):Int):=by omega
 split at h
 ·cases h;rw[hc,EH];exact⟨fun h=>h.1,fun h=>⟨h,by omega⟩⟩
 ·cases h;rw[hc,EH];exact⟨fun h=>h.1,fun h=>⟨h,by omega⟩⟩
theorem Ry (h:BW n p j s i k d) (hi:i<n) (hk:k<n) (hs:1≤s) (hx:d[i]? =some x) (aq:x<0) (hy:d[k]? =some y) (hn:¬y=((s:Nat):Int)-1∨p i k=false):BW n p j s i (k+1) d:=by
 obtain⟨h1,h2,h3⟩:=Kb h hi hx aq
 refine .inl ⟨h1,h2,fun m hm hp=>?_⟩
 rcases amO.1 hm with hm|rfl
 ·exact h3 m hm hp
 ·rcases hn with hn|hn
  ·rw[h1] at hy
   exact fun hc=>hn<|(ME hk hs hy).2 hc
  ·rw[hn] at hp;cases hp
theorem XS (hi:i<n) (hs:1≤s) (hk:k<n) (hp:p i k=true) (hd:dl n p j k=some (s-1)) (hu:dU n p j s i= -1):dl n p j i=some s:=by
 obtain⟨⟨w,hw⟩,_⟩:=(sc hk).1 hd
 have hw2:mA n p (s-1+1) i j (i::w):=⟨k,w,hk,hp,hw,J⟩
 rw[show s-1+1=s from by omega] at hw2
 obtain⟨t,h1,h2⟩:=V3 hi hw2
 rcases rH n p j s i with ⟨_,h3⟩|⟨u,_,_,h3⟩
 ·have:=h3 t h1
  rw[h1,show t=s from by omega]
 ·omega
theorem XR (hi:i<n) (hs:1≤s) (h:dl n p j i=some s):∃k,k<n∧p i k=true∧dl n p j k=some (s-1):=by
 obtain⟨⟨w,hw⟩,hm⟩:=(sc hi).1 h
 cases s with
 |zero=>omega
 |succ s=>
  obtain⟨k,v,h1,h2,h3,rfl⟩:=hw
  refine⟨k,h1,h2,(sc h1).2 ⟨⟨v,h3⟩,fun t u hu=>?_⟩⟩
  have:=hm (t+1) (i::u) ⟨k,u,h1,h2,hu,J⟩
  omega
theorem XM (h:BW n p j s i k d) (hi:i<n) (hk:k<n) (hs:1≤s) (hx:d[i]? =some x) (aq:x<0) (hy:d[k]? =some y) (Zy:y=((s:Nat):Int)-1) (hp:p i k=true):BW n p j s i (k+1) (d.set i ((s:Nat):Int)):=by
 obtain⟨h1,h2,h3⟩:=Kb h hi hx aq
 rw[h1] at hy
 have h4:=XS hi hs hk hp ((ME hk hs hy).1 Zy) h2
 have h5:dU n p j (s+1) i=((s:Nat):Int):=EH.2 ⟨h4,by omega⟩
 refine .inr ⟨?_,by rw[h5];omega⟩
 rw[h1]
 refine EI (by rw[alP,uu]) fun m hm=>?_
 rw[anq]
 by_cases e:i=m
 ·subst e
  rw[alE rfl,alE (by rw[uu];exact hi),alE ai,h5]
 ·rw[alG e,uv hm]
  by_cases h6:m<i
  ·rw[alE h6,alE ai]
  ·rw[alG h6,alG ai]
theorem MF (h:BW n p j s i k d) (hi:i<n) (hs:1≤s) (he:n≤k∨∃x,d[i]? =some x∧¬x<0):d=dS n p j s (i+1):=by
 rcases h with ⟨h1,h2,h3⟩|⟨h1,_⟩
 ·rcases he with he|⟨x,hx,aq⟩
  ·rw[h1]
   refine V4 ?_
   rw[h2]
   rcases rH n p j (s+1) i with ⟨h4,_⟩|⟨u,h4,h5,h6⟩
   ·exact h4
   ·exfalso
    rcases rH n p j s i with ⟨_,h7⟩|⟨v,_,_,h7⟩
    ·have:=h7 u h4
     have:u=s:=by omega
     subst this
     obtain⟨m,k1,k2,k3⟩:=XR hi hs h4
     exact h3 m ai k2 k3
    ·omega
  ·rw[h1,uv hi,alG ai,h2] at hx
   cases hx;omega
 ·exact h1
theorem Rv {d:az} {q:Nat} (h:d.take q=List.replicate q (-1)) (hq:q<d.length):(d.set q (-1)).take (q+1)=List.replicate (q+1) (-1):=by
 rw[amY,List.take_set_of_le (alL q),h,amj hq,an2]
 rfl
theorem Ui {d:az} {q:Nat} (h:d.take q=List.replicate q (-1)) (hq:d.length≤q) (j7:q≤d.length):d=List.replicate d.length (-1):=by
 rw[alU hq] at h
 have:q=d.length:=by omega
 rw[this] at h;exact h
theorem DA (hk:k<n):∃v,(nJ n p j)[k]? =some v∧((v<0∧dl n p j k=none)∨∃t,v=((t:Nat):Int)∧dl n p j k=some t):=by
 refine⟨_,uv hk,?_⟩
 rw[alG ai]
 rcases rH n p j (n+1) k with ⟨h1,h2⟩|⟨t,h1,_,h3⟩
 ·rw[h1]
  left
  refine⟨by omega,?_⟩
  cases h4:dl n p j k with
  |none=>rfl
  |some t=>
   obtain⟨m,h5,h6,_⟩:=vj h4
   have:=h2 t h4
   split at h6
   ·cases h6;omega
   ·cases h6
 ·exact .inr ⟨t,h3,h1⟩
theorem Kk (hk:k<n) (hx:(nJ n p j)[k]? =some x) (h:x<0):dl n p j k=none:=by
 obtain⟨v,h1,⟨_,h2⟩|⟨t,h2,_⟩⟩:=DA (p:=p) (j:=j) hk
 ·exact h2
 ·rw[hx] at h1;cases h1;omega
theorem Dz (hk:k<n) (hx:(nJ n p j)[k]? =some x) (h:0≤x):dl n p j k=some x.toNat:=by
 obtain⟨v,h1,⟨h2,_⟩|⟨t,h2,h3⟩⟩:=DA (p:=p) (j:=j) hk
 ·rw[hx] at h1;cases h1;omega
 ·rw[hx] at h1;cases h1
  rw[h2,dC];exact h3
theorem Lp {a:Nat} (h:∀m,m<n→p a m=true→dl n p j m=none):pH n p a j=none:=abJ fun L w hw=>by
 obtain⟨m,v,h1,h2,h3,rfl⟩:=hw
 exact MK h1 (h m h1 h2) _ _ h3
theorem zW {b s:Nat} (hb:b<n) (hd:dl n p j b=some s) (qF:b≠j):∃v,xW n p b j v∧v.length=s+1:=by
 obtain⟨⟨w,hw⟩,hm⟩:=(sc hb).1 hd
 cases s with
 |zero=>exact absurd hw.1 qF
 |succ s=>
  obtain⟨v,hv⟩:=F3 hw
  refine⟨v,hv,?_⟩
  obtain⟨⟨L,hL⟩,hl⟩:=hv
  have h1:=hm _ _ hL
  have h2:=E1<|hl _ _ hw
  rw[ja hL,ja hw] at h2
  rw[ja hL];omega
theorem aaK {a b s:Nat} (ha:a<n) (hb:b<n) (hp:p a b=true) (hd:dl n p j b=some s) (afs:∀m t,m<n→p a m=true→dl n p j m=some t→s≤t∧(t=s→b≤m)):
  pH n p a j=if b=j then some [a,j] else (pH n p b j).map (a::·):=by
 have n9:b=j→s=0:=by
  rintro rfl
  have:=((sc hb).1 hd).2 0 [b] ⟨J,J⟩
  omega
 have key:∀v,(if b=j then v=[j] else xW n p b j v)→v.length=s+1→(∃L,mA n p L b j v)→v[0]? =some b→xW n p a j (a::v):=by
  intro v hv hvl ⟨L,hL⟩ iC
  refine⟨⟨L,b,v,hb,hp,hL,J⟩,?_⟩
  rintro M u ⟨m,u,h1,h2,h3,rfl⟩
  obtain⟨t,h4,h5⟩:=V3 h1 h3
  obtain⟨h6,h7⟩:=afs m t h1 h2 h4
  have hul:=ja h3
  by_cases dx:s<M
  ·exact .inr (.inl (by simp only[jv];omega))
  ·have e1:t=s:=by omega
   have e2:M=s:=by omega
   have h8:=h7 e1
   by_cases hbm:b=m
   ·subst hbm
    refine It a ?_
    by_cases qF:b=j
    ·rw[alE qF] at hv
     have:=n9 qF
     subst this;subst e2
     rw[hv,←qF,h3.2];exact .inl rfl
    ·rw[alG qF] at hv
     cases M with
     |zero=>exact absurd h3.1 qF
     |succ M=>exact hv.2 _ _ h3
   ·have e3:=pK h3
    refine .inr (.inr ⟨by simp only[jv];omega,.inr ⟨J,?_⟩⟩)
    cases v with
    |nil=>simp at iC
    |cons x v=>
     cases u with
     |nil=>simp at e3
     |cons y u=>
      simp at iC e3
      subst iC;subst e3
      exact .inl ai
 by_cases qF:b=j
 ·rw[alE qF]
  have:=n9 qF
  subst this
  exact tH (key [j] (by rw[alE qF]) J ⟨0,qF,by rw[qF]⟩<|by rw[qF];rfl) ha
 ·rw[alG qF]
  obtain⟨v,hv,hvl⟩:=zW hb hd qF
  obtain⟨L,hL⟩:=hv.1
  rw[tH hv hb]
  exact tH (key v (by rw[alG qF];exact hv) hvl ⟨L+1,hL⟩<|pK hL) ha
def BI (n:Nat) (p:gk) (j a k:Nat) (b:Int):Prop:=
 (b= -1∧∀m,m<k→p a m=true→dl n p j m=none)∨
 ∃c t,b=((c:Nat):Int)∧c<k∧p a c=true∧dl n p j c=some t∧∀m s,m<k→p a m=true→dl n p j m=some s→t≤s∧(s=t→c≤m)
variable {a:Nat} {b:Int}
theorem UA:BI n p j a 0 (-1):=.inl ⟨rfl,fun m hm=>by omega⟩
theorem Kz (h:BI n p j a k b) (hk:k≤n) (hb:¬b<0):0≤b∧b<((n:Nat):Int)∧b.toNat<n:=by
 rcases h with ⟨h,_⟩|⟨c,t,h,h2,_⟩
 ·omega
 ·omega
theorem R3 (h:BI n p j a k b) (hk:k<n) (hp:p a k=true) (hx:(nJ n p j)[k]? =some x) (aq:¬x<0) (hb:b<0∨∃y,(nJ n p j)[b.toNat]? =some y∧x<y):BI n p j a (k+1) ((k:Nat):Int):=by
 have hd:=Dz hk hx ai
 refine .inr ⟨k,x.toNat,J,by omega,hp,hd,fun m s hm Cw hs=>?_⟩
 rcases amO.1 hm with hm|rfl
 ·rcases h with ⟨h1,h2⟩|⟨c,t,rfl,h2,h3,h4,h5⟩
  ·rw[h2 m hm Cw] at hs;cases hs
  ·rcases hb with hb|⟨y,hy,hxy⟩
   ·omega
   ·rw[dC] at hy
    have h6:=Dz ai hy ai
    rw[h4] at h6
    have h6:=alD h6
    have:=(h5 m s hm Cw hs).1
    omega
 ·rw[hd] at hs
  have:=alD hs
  omega
theorem OW (h:BI n p j a k b) (hk:k<n) (hn:p a k=false∨(∃x,(nJ n p j)[k]? =some x∧x<0)∨(¬b<0∧∃x y,(nJ n p j)[k]? =some x∧¬x<0∧(nJ n p j)[b.toNat]? =some y∧¬x<y)):BI n p j a (k+1) b:=by
 rcases h with ⟨h1,h2⟩|⟨c,t,rfl,h2,h3,h4,h5⟩
 ·refine .inl ⟨h1,fun m hm Cw=>?_⟩
  rcases amO.1 hm with hm|rfl
  ·exact h2 m hm Cw
  ·rcases hn with hn|⟨x,hx,aq⟩|⟨hb,_⟩
   ·rw[hn] at Cw;cases Cw
   ·exact Kk hk hx aq
   ·omega
 ·refine .inr ⟨c,t,J,by omega,h3,h4,fun m s hm Cw hs=>?_⟩
  rcases amO.1 hm with hm|rfl
  ·exact h5 m s hm Cw hs
  ·rcases hn with hn|⟨x,hx,aq⟩|⟨hb,x,y,hx,aq,hy,hxy⟩
   ·rw[hn] at Cw;cases Cw
   ·rw[Kk hk hx aq] at hs;cases hs
   ·have h6:=Dz hk hx ai
    rw[hs] at h6
    have h6:=alD h6
    rw[dC] at hy
    obtain⟨v,h7,⟨_,h8⟩|⟨u,h8,h9⟩⟩:=DA (p:=p) (j:=j) (show c<n by omega)
    ·rw[h4] at h8;cases h8
    ·rw[hy] at h7;cases h7
     rw[h4] at h9
     have h9:=alD h9
     omega
def RI (n:Nat) (p:gk) (i j:Nat) (out:az) (at_:Int):Prop:=
 ∃oN a,out=jB oN∧at_=((a:Nat):Int)∧a<n∧oN.length≤n+1∧pH n p i j=(pH n p a j).map (fun g=>oN++g.drop 1)
variable {out:az} {at_:Int}
theorem MR {g:List Nat} (h:pH n p i j=some g):∃g',g=i::g':=by
 obtain⟨⟨L,hL⟩,_⟩:=zV h
 have:=pK hL
 cases g with
 |nil=>simp at this
 |cons x g=>simp at this;exact⟨g,by rw[this]⟩
theorem S7 {i:Int} (h0:0≤i) (hi:i.toNat<n):RI n p i.toNat j [i] i:=by
 refine⟨[i.toNat],i.toNat,by simp[jB,alJ h0],(alJ h0).symm,hi,by simp,?_⟩
 cases h:pH n p i.toNat j with
 |none=>rfl
 |some g=>
  obtain⟨g',rfl⟩:=MR h
  rfl
theorem acC (h:RI n p i j out at_):0≤at_∧at_<((n:Nat):Int)∧at_.toNat<n∧out.length≤n+1:=by
 obtain⟨oN,a,h1,rfl,h3,h4,_⟩:=h
 refine⟨by omega,by omega,by omega,?_⟩
 rw[h1];unfold jB;rw[aml];exact h4
theorem LL (h:RI n p i j out at_) (hb:BI n p j at_.toNat k b) (hk:n≤k) (qG:b<0):pH n p i j=none:=by
 obtain⟨oN,a,h1,rfl,h3,_,h4⟩:=h
 rw[dC] at hb
 rcases hb with ⟨_,h5⟩|⟨c,t,h5,_⟩
 ·rw[h4,Lp fun m hm hp=>h5 m ai hp];rfl
 ·omega
theorem E6 (h:RI n p i j out at_) (hb:BI n p j at_.toNat k b) (hk:n≤k) (qz:k≤n) (qG:¬b<0):
  pH n p at_.toNat j=if b.toNat=j then some [at_.toNat,j] else (pH n p b.toNat j).map (at_.toNat::·):=by
 obtain⟨oN,a,h1,rfl,h3,_,h4⟩:=h
 rw[dC] at hb ⊢
 rcases hb with ⟨h5,_⟩|⟨c,t,rfl,h5,h6,h7,h8⟩
 ·omega
 ·rw[dC]
  exact aaK h3 ai h6 h7 fun m s hm hp hs=>h8 m s ai hp hs
theorem IG {j:Int} (h:RI n p i j.toNat out at_) (hb:BI n p j.toNat at_.toNat k b) (hk:n≤k) (qz:k≤n) (qG:¬b<0) (qF:b=j):(pH n p i j.toNat).map jB=some (out++[b]):=by
 have h0:=E6 h hb hk qz qG
 obtain⟨oN,a,h1,rfl,h3,_,h4⟩:=h
 rw[dC] at h0
 rw[h4,h0,alE (by rw[qF]),h1]
 subst qF
 have:b=((b.toNat:Nat):Int):=(alJ ai).symm
 simp only[jB,an8,anW,amk,amD,aod,amq];rw[←this]
theorem WO {j:Int} (hj:0≤j) (h:RI n p i j.toNat out at_) (hb:BI n p j.toNat at_.toNat k b) (hk:n≤k) (qz:k≤n) (qG:¬b<0) (qF:¬b=j) (hi:i<n):RI n p i j.toNat (out++[b]) b:=by
 have h0:=E6 h hb hk qz qG
 obtain⟨rX,Mj,hr⟩:=Kz hb qz qG
 have qc:=hb
 obtain⟨oN,a,h1,rfl,h3,_,h4⟩:=h
 rw[dC] at h0
 rw[alG ai] at h0
 have he:b=((b.toNat:Nat):Int):=(alJ ai).symm
 have h5:pH n p i j.toNat=(pH n p b.toNat j.toNat).map (fun g=>(oN++[b.toNat])++g.drop 1):=by
  rw[h4,h0,Option.map_map]
  cases h6:pH n p b.toNat j.toNat with
  |none=>rfl
  |some g=>
   obtain⟨g',rfl⟩:=MR h6
   simp
 refine⟨oN++[b.toNat],b.toNat,by rw[h1];simp only[jB,amk,amD,aod];rw[←he],he,hr,?_,h5⟩
 obtain⟨v,hv⟩:∃v,pH n p b.toNat j.toNat=some v:=by
  rcases qc with ⟨h6,_⟩|⟨c,t,h6,_,_,h7,_⟩
  ·omega
  ·obtain⟨v,hv,_⟩:=zW (show c<n by omega) h7 ai
   exact⟨v,by rw[h6,dC];exact tH hv ai⟩
 rw[hv] at h5
 have h7:=zX (zV h5) hi
 simp only[im] at h7 ⊢
 omega
def UX (n:Nat) (p:gk) (j:Nat) (at_:Int):Nat:=((pH n p at_.toNat j).map List.length).getD 0
theorem WQ {j:Int} (hj:0≤j) (h:RI n p i j.toNat out at_) (hb:BI n p j.toNat at_.toNat k b) (hk:n≤k) (qz:k≤n) (qG:¬b<0) (qF:¬b=j):UX n p j.toNat b<UX n p j.toNat at_:=by
 have h0:=E6 h hb hk qz qG
 rw[alG ai] at h0
 obtain⟨v,hv⟩:∃v,pH n p b.toNat j.toNat=some v:=by
  rcases hb with ⟨h6,_⟩|⟨c,t,h6,_,_,h7,_⟩
  ·omega
  ·obtain⟨v,hv,_⟩:=zW (show c<n by omega) h7 ai
   exact⟨v,by rw[h6,dC];exact tH hv ai⟩
 unfold UX
 rw[h0,hv]
 simp
end
def QR (n:Int) (rs:Rows) (l:az):Bool:=decide (2≤l.length)&&(List.range (l.length-1)).all fun k=>dG n rs (l.getD k 0) (l.getD (k+1) 0)
def Zt (n:Int) (rs:Rows) (l:az) (q:Nat):Prop:=∀k,k<q→dG n rs (l.getD k 0) (l.getD (k+1) 0)=true
section
variable {n:Int} {rs:Rows} {l:az} {q:Nat} {x y:Int}
theorem Mw {l:az} {k:Nat} (h:l[k]? =some x):l.getD k 0=x:=by rw[eH,h];rfl
theorem Zs (h:Zt n rs l q) (hq:l.length≤q+1):QR n rs l=decide (2≤l.length):=by
 unfold QR
 rw[alK.2 fun k hk=>h k (by have:=alF.1 hk;omega),an6]
end
end Go.Ew
namespace Go.Ew
section
variable {n:Int} {rs:Rows} {a b c x y:Int} (h:cq n rs=true) (ha:0≤a∧a<n) (hb:0≤b∧b<n)
include h ha hb
theorem tS (hs:(cD n rs a b).isSome=true):∃w,(cD n rs a b).getD []=jB w∧xW n.toNat (dw rs) a.toNat b.toNat w∧a.toNat<n.toNat:=by
 rw[vg ⟨ha.1,ha.2,hb.1,hb.2⟩] at hs ⊢
 cases hf:pH n.toNat (dw rs) a.toNat b.toNat with
 |none=>rw[hf] at hs;cases hs
 |some w=>exact⟨w,rfl,zV hf,by omega⟩
theorem W4 {L:Nat} {w:List Nat} (hw:mA n.toNat (dw rs) (L+1) a.toNat b.toNat w):(cD n rs a b).isSome=true:=by
 rw[vg ⟨ha.1,ha.2,hb.1,hb.2⟩]
 obtain⟨v,hv⟩:=F3 hw
 rw[tH hv ai];rfl
theorem P5:(cD n rs a b).isSome=dG n (bU n rs) a b:=by
 have hn:((n.toNat:Nat):Int)=n:=alJ ai
 rw[rE (sH h) ha hb]
 have h1:dw (bU n rs) a.toNat b.toNat=cl n.toNat (dw rs) a.toNat b.toNat:=by
  unfold bU
  exact eX ai ai
 rw[h1,al0,om ai ai,←Yd ai]
 constructor
 ·intro hs
  obtain⟨w,_,hB,_⟩:=tS h ha hb hs
  obtain⟨L,hL⟩:=hB.1
  exact⟨L,w,hL⟩
 ·rintro⟨L,w,hw⟩
  exact W4 h ha hb hw
theorem NP (hs:(cD n rs a b).isSome=true):((cD n rs a b).getD [])[0]? =some a:=by
 obtain⟨w,e,hB,_⟩:=tS h ha hb hs
 obtain⟨L,hL⟩:=hB.1
 rw[e,B5]
 exact⟨_,pK hL,(alJ ha.1).symm⟩
theorem C7 (hs:(cD n rs a b).isSome=true):2≤((cD n rs a b).getD []).length∧(((cD n rs a b).getD []).length:Int)≤n+1:=by
 obtain⟨w,e,hB,Eo⟩:=tS h ha hb hs
 have h2:=zX hB Eo
 obtain⟨L,hL⟩:=hB.1
 have h1:=ja hL
 rw[e];unfold jB;rw[aml]
 omega
theorem P4 (hs:(cD n rs a b).isSome=true) {t:Nat} (ht:t+1=((cD n rs a b).getD []).length):((cD n rs a b).getD [])[t]? =some b:=by
 obtain⟨w,e,hB,_⟩:=tS h ha hb hs
 obtain⟨L,hL⟩:=hB.1
 rw[e] at ht ⊢
 rw[B5]
 have h1:=ja hL
 unfold jB at ht
 rw[aml] at ht
 have:t=L+1:=by omega
 subst this
 exact⟨_,Ic hL,(alJ hb.1).symm⟩
theorem IL (hs:(cD n rs a b).isSome=true):QR n rs ((cD n rs a b).getD [])=true:=by
 obtain⟨w,e,hB,Eo⟩:=tS h ha hb hs
 obtain⟨L,hL⟩:=hB.1
 have h1:=ja hL
 have Vr:(jB w).length=L+2:=by unfold jB;rw[aml,h1]
 rw[e]
 have hto:Zt n rs (jB w) (L+1):=by
  intro k hk
  have g1:w[k]? =some w[k]:=dW ai
  have g2:w[k+1]? =some w[k+1]:=dW ai
  have m1:=EU hL Eo _<|eh g1
  have m2:=EU hL Eo _<|eh g2
  rw[Mw (B5.2 ⟨_,g1,rfl⟩),Mw (B5.2 ⟨_,g2,rfl⟩),rE h ai ai,dC,dC]
  exact Ib hL g1 g2
 rw[Zs hto ai,Vr]
 exact alM ai
end
end Go.Ew
namespace Go.Ew
variable {l:List aA} {a b:Int} {pl:List Bool}
section
variable {I:List aR} {fo:az}
def qQ (a b:Int) (s:aA):Bool:=decide (s.1=4)&&decide (s.2.1=a)&&decide (s.2.2.1=b)
def iR (l:List aA) (a b:Int):Int:=gx (qQ a b) l
def qf (I:List aR) (fo:az) (a b:Int):Bool:=decide (fo.getD b.toNat 0=a)||ux I a b
def dg (I:List aR) (fo:az) (l:List aA) (a b:Int):List aA×Int:=
 if qf I fo a b=true then (l++[((if fo.getD b.toNat 0=a then 2 else 1),a,b, -1, -1)],((l.length:Nat):Int)) else (l,iR l a b)
def jr (I:List aR) (fo:az) (l:List aA) (p:az):Nat→List aA×Int
 |0=>dg I fo l (p.getD 0 0) (p.getD 1 0)
 |k+1=>((dg I fo (jr I fo l p k).1 (p.getD (k+1) 0) (p.getD (k+2) 0)).1++[(3,p.getD 0 0,p.getD (k+2) 0,(jr I fo l p k).2,(dg I fo (jr I fo l p k).1 (p.getD (k+1) 0) (p.getD (k+2) 0)).2)],
   (((dg I fo (jr I fo l p k).1 (p.getD (k+1) 0) (p.getD (k+2) 0)).1.length:Nat):Int))
def bq (I:List aR) (fo:az) (l:List aA) (n:Int) (rs:Rows) (a b:Int):List aA×Int:=jr I fo l ((cD n rs a b).getD []) (((cD n rs a b).getD []).length-2)
def sG (I:List aR) (fo:az) (n:Int) (rs:Rows) (l:List aA) (x:i'):List aA:=
 if 0≤iR l x.1 x.2.1 then l else (bq I fo l n rs x.1 x.2.2).1++[(4,x.1,x.2.1,(bq I fo l n rs x.1 x.2.2).2,x.2.2)]
def eg (I:List aR) (fo:az) (n:Int) (rs:Rows) (l:List aA) (es:List i'):List aA:=es.foldl (sG I fo n rs) l
def dp (n:Int) (rs:Rows) (es:List i'):Rows:=es.foldl (fun m e=>bL n m e.1 e.2.1) rs
structure Md (I:List aR) (fo:az) where
 Sa:Int→Int→Prop
 Ok:List aA→List Bool→Prop
 PH:List Bool→aA→Prop
 nil:Ok [] []
 ed:∀{l pl s},Ok l pl→pl.length=l.length→(s.1=1∨s.1=2)→Sa s.2.1 s.2.2.1→Ok (l++[s]) (pl++[true])
 tr:∀{l pl s},Ok l pl→pl.length=l.length→s.1=3→s.2.2.2.1.toNat<l.length→s.2.2.2.2.toNat<l.length→Ok (l++[s]) (pl++[pl.getD s.2.2.2.1.toNat false&&pl.getD s.2.2.2.2.toNat false])
 ru:∀{l pl s},Ok l pl→pl.length=l.length→s.1=4→PH pl s→Ok (l++[s]) (pl++[false])
structure Al (M:Md I fo) (l:List aA) (pl:List Bool) (l':List aA) (mR:List Bool) (c:Nat):Prop where
 pre:∃t q,l'=l++t∧mR=pl++q
 pG:jZ I fo l' mR
 ok:M.Ok l' mR
 len:l'.length≤l.length+c
structure V9 (M:Md I fo) (l:List aA) (pl:List Bool) (r:List aA×Int) (mR:List Bool) (a b:Int) (c:Nat) (P:Prop):Prop where
 res:Al M l pl r.1 mR c
 th:fP r.1 r.2 a b=true
 P3:P→mR.getD r.2.toNat false=true
def Gd (M:Md I fo) (l:List aA) (a b:Int):Prop:=(qf I fo a b=true∧M.Sa a b)∨0≤iR l a b∧qf I fo a b=false
theorem DS {l t:List aA} {a b:Int} (h:0≤iR l a b):0≤iR (l++t) a b:=by
 unfold iR gx at *
 rw[List.findIdx?_append]
 cases e:l.findIdx? (qQ a b) with
 |none=>rw[e] at h;exact absurd h aJ
 |some i=>exact ami i
theorem PG {l:List aA} {s:aA} {a b:Int} (h:qQ a b s=true):0≤iR (l++[s]) a b:=by
 unfold iR gx
 cases e:(l++[s]).findIdx? (qQ a b) with
 |some i=>exact ami i
 |none=>
  rw[anF] at e
  have:=e s<|by simp
  rw[h] at this;cases this
theorem Gd.mono {M:Md I fo} {t:List aA} (h:Gd M l a b):Gd M (l++t) a b:=h.imp id fun k=>⟨DS k.1,k.2⟩
theorem Gp {t:List aA} {k:Int} (h:fP l k a b=true):fP (l++t) k a b=true:=by
 obtain⟨s,h0,h1,h2,h3⟩:=k'.1 h
 exact k'.2 ⟨s,h0,by rw[y9 (eW.1 h1).1];exact h1,h2,h3⟩
theorem Gq {s:aA}:fP (l++[s]) ((l.length:Nat):Int) s.2.1 s.2.2.1=true:=
 k'.2 ⟨s,ami _,by rw[dC,nQ (alL _),amN];rfl,rfl,rfl⟩
theorem B0 {k:Int} (h:fP l k a b=true):k.toNat<l.length:=by
 obtain⟨s,_,h1,_⟩:=k'.1 h
 exact(eW.1 h1).1
theorem Br {q:List Bool} {i:Nat} (h:i<pl.length):(pl++q).getD i false=pl.getD i false:=by
 rw[eH,eH,y9 h]
theorem Al.refl {M:Md I fo} (B:jZ I fo l pl) (O:M.Ok l pl) (c:Nat):Al M l pl l pl c:=⟨⟨[],[],by simp,by simp⟩,B,O,by omega⟩
theorem Al.trans {M:Md I fo} {l1 l2:List aA} {p1 p2:List Bool} {c d:Nat} (h:Al M l pl l1 p1 c) (k:Al M l1 p1 l2 p2 d):Al M l pl l2 p2 (c+d):=by
 obtain⟨t,q,e1,e2⟩:=h.pre
 obtain⟨t',q',e3,e4⟩:=k.pre
 exact⟨⟨t++t',q++q',by rw[e3,e1,alY],by rw[e4,e2,alY]⟩,k.pG,k.ok,by have:=h.len;have:=k.len;omega⟩
theorem Ke {M:Md I fo} (B:jZ I fo l pl) (O:M.Ok l pl) (ha:0≤a∧a<((I.length:Nat):Int)) (hb:0≤b∧b<((I.length:Nat):Int)) (h:Gd M l a b):
  ∃mR,V9 M l pl (dg I fo l a b) mR a b 1 (qf I fo a b=true):=by
 unfold dg
 rcases h with ⟨h1,h2⟩|⟨h1,h2⟩
 ·rw[alE h1]
  have hk:((if fo.getD b.toNat 0=a then 2 else 1:Int),a,b,(-1:Int),(-1:Int)).1=1∨((if fo.getD b.toNat 0=a then 2 else 1:Int),a,b,(-1:Int),(-1:Int)).1=2:=by
   show (if fo.getD b.toNat 0=a then (2:Int) else 1)=1∨(if fo.getD b.toNat 0=a then (2:Int) else 1)=2
   split
   ·exact .inr rfl
   ·exact .inl rfl
  have GR:plainO l pl ((if fo.getD b.toNat 0=a then 2 else 1:Int),a,b,(-1:Int),(-1:Int))=true:=by
   unfold plainO
   rw[alG ai]
   simp only at hk ⊢
   rw[alH ai];rfl
  refine⟨pl++[true],⟨⟨[_],[_],J,J⟩,?_,M.ed O B.len hk h2,by simp⟩,Gq,fun _=>?_⟩
  ·rw[←GR]
   refine B.snoc (qX.2 ⟨ha,hb⟩) ?_
   unfold fb
   by_cases e:fo.getD b.toNat 0=a
   ·rw[alG (by simp only[alE e];omega),alE (by simp only[alE e])]
    show (decide ((-1:Int)= -1)&&decide ((-1:Int)= -1)&&decide (fo.getD b.toNat 0=a))=true
    rw[alM e];rfl
   ·rw[alE (by simp only[alG e])]
    unfold qf at h1
    rw[alH e,am9] at h1
    simp[h1]
  ·simp only[dC]
   rw[eH,nQ (by rw[B.len];exact alL _),B.len,amN];rfl
 ·rw[alG (by rw[h2];simp)]
  refine⟨pl,Al.refl B O 1,?_,fun k=>by rw[h2] at k;cases k⟩
  unfold iR at h1 ⊢
  obtain⟨s,hs,hp⟩:=Fe h1
  unfold qQ at hp
  simp only[cA,alC] at hp
  exact k'.2 ⟨s,h1,hs,hp.1.2,hp.2⟩
theorem Ha {M:Md I fo} {l:List aA} {pl:List Bool} {p:az} (B:jZ I fo l pl) (O:M.Ok l pl):∀k,k+2≤p.length→(∀j,j≤k+1→0≤p.getD j 0∧p.getD j 0<((I.length:Nat):Int))→(∀j,j≤k→Gd M l (p.getD j 0) (p.getD (j+1) 0))→
  ∃mR,V9 M l pl (jr I fo l p k) mR (p.getD 0 0) (p.getD (k+1) 0) (2*k+1) (∀j,j≤k→qf I fo (p.getD j 0) (p.getD (j+1) 0)=true)
 |0,hp,hr,hg=>by
  obtain⟨mR,S⟩:=Ke B O (hr 0 ai) (hr 1 ai) (hg 0 ai)
  exact⟨mR,S.res,S.th,fun h=>S.P3 (h 0 ai)⟩
 |k+1,hp,hr,hg=>by
  obtain⟨p1,S1⟩:=Ha B O k ai (fun j hj=>hr j ai) fun j hj=>hg j ai
  obtain⟨t1,q1,e1,e2⟩:=S1.res.pre
  obtain⟨p2,S2⟩:=Ke S1.res.pG S1.res.ok (hr (k+1) ai) (hr (k+2) ai) (by rw[e1];exact(hg (k+1) ai).mono)
  unfold jr
  generalize (jr I fo l p k)=c at *
  generalize (dg I fo c.1 (p.getD (k+1) 0) (p.getD (k+2) 0))=e at *
  obtain⟨t2,q2,e3,e4⟩:=S2.res.pre
  have R:=S1.res.trans S2.res
  obtain⟨t3,q3,e5,e6⟩:=R.pre
  have xm:fP e.1 c.2 (p.getD 0 0) (p.getD (k+1) 0)=true:=by rw[e3];exact Gp S1.th
  have htr:oU e.1 (3,p.getD 0 0,p.getD (k+2) 0,c.2,e.2)=true:=by
   obtain⟨x,x0,x1,x2,x3⟩:=k'.1 xm
   obtain⟨y,y0,y1,y2,y3⟩:=k'.1 S2.th
   exact Ay.2 ⟨x,y,ql x0 x1,ql y0 y1,x2,by rw[x3,y2],y3⟩
  have GR:plainO e.1 p2 (3,p.getD 0 0,p.getD (k+2) 0,c.2,e.2)=(p2.getD c.2.toNat false&&p2.getD e.2.toNat false):=by unfold plainO;rw[alE ⟨J,htr⟩]
  refine⟨p2++[p2.getD c.2.toNat false&&p2.getD e.2.toNat false],⟨⟨t3++[(3,p.getD 0 0,p.getD (k+2) 0,c.2,e.2)],q3++[p2.getD c.2.toNat false&&p2.getD e.2.toNat false],?_,?_⟩,?_,M.tr R.ok R.pG.len rfl (B0 xm) (B0 S2.th),?_⟩,Gq,fun h=>?_⟩
  ·show e.1++[_]=_;rw[e5,alY]
  ·rw[e6,alY]
  ·rw[←GR]
   refine R.pG.snoc (qX.2 ⟨hr 0 ai,hr (k+2) ai⟩) ?_
   unfold fb
   rw[alG (by show ¬(3:Int)=1;decide),alG (by show ¬(3:Int)=2;decide),alE rfl]
   exact htr
  ·show (e.1++[_]).length≤_
   rw[im]
   have:=R.len
   show e.1.length+1≤_
   omega
  ·have h1:=S1.P3 fun j hj=>h j ai
   have h2:=S2.P3<|h (k+1) ai
   have h3:p2.getD c.2.toNat false=true:=by rw[e4,Br (by rw[S1.res.pG.len];exact B0 S1.th)];exact h1
   rw[h2,h3]
   simp only[dC]
   rw[eH,nQ (by rw[R.pG.len];exact alL _),R.pG.len,amN];rfl
theorem B1 {M:Md I fo} {rs:Rows} (B:jZ I fo l pl) (O:M.Ok l pl) (hR:cq ((I.length:Nat):Int) rs=true) (hp:(cD ((I.length:Nat):Int) rs a b).isSome=true) (hg:∀x y,dG ((I.length:Nat):Int) rs x y=true→Gd M l x y):
  ∃mR,V9 M l pl (bq I fo l ((I.length:Nat):Int) rs a b) mR a b (2*I.length+1) (∀x y,dG ((I.length:Nat):Int) rs x y=true→qf I fo x y=true):=by
 have mK:(0≤a∧a<((I.length:Nat):Int))∧0≤b∧b<((I.length:Nat):Int):=by
  unfold cD at hp
  split at hp
  ·rename_i h;exact⟨⟨h.1,h.2.1⟩,h.2.2⟩
  ·cases hp
 have h1:=NP hR mK.1 mK.2 hp
 have h2:=C7 hR mK.1 mK.2 hp
 have h3:=IL hR mK.1 mK.2 hp
 have h4:=P4 hR mK.1 mK.2 hp (t:=((cD ((I.length:Nat):Int) rs a b).getD []).length-1) ai
 unfold bq
 generalize (cD ((I.length:Nat):Int) rs a b).getD []=p at *
 unfold QR at h3
 rw[cA,alK] at h3
 have he:∀j,j+2≤p.length→dG ((I.length:Nat):Int) rs (p.getD j 0) (p.getD (j+1) 0)=true:=fun j hj=>h3.2 j<|alF.2 ai
 have iw:∀{x y},dG ((I.length:Nat):Int) rs x y=true→(0≤x∧x<((I.length:Nat):Int))∧0≤y∧y<((I.length:Nat):Int):=by
  intro x y h
  unfold dG at h
  rw[cA] at h
  exact jC.1 h.1
 obtain⟨mR,S⟩:=Ha (M:=M) (p:=p) B O (p.length-2) ai (fun j hj=>by
  by_cases pB:j+2≤p.length
  ·exact(iw<|he j pB).1
  ·have:=(iw<|he (j-1) ai).2
   rwa [show j-1+1=j by omega] at this) fun j hj=>hg _ _ (he j ai)
 have g0:p.getD 0 0=a:=by rw[eH,h1];rfl
 have g1:p.getD (p.length-2+1) 0=b:=by rw[show p.length-2+1=p.length-1 by omega,eH,h4];rfl
 rw[g0,g1] at S
 refine⟨mR,⟨S.res.pre,S.res.pG,S.res.ok,by have:=S.res.len;omega⟩,S.th,fun h=>S.P3 fun j hj=>h _ _ (he j ai)⟩
structure EdX (I:List aR) (fo:az) (rs:Rows) (x:i'):Prop where
 a:0≤x.1∧x.1<((I.length:Nat):Int)
 b:0≤x.2.1∧x.2.1<((I.length:Nat):Int)
 r:0≤x.2.2∧x.2.2<((I.length:Nat):Int)
 fr:fo.getD x.2.2.toNat 0=x.2.1
 ot:dE I x.1 x.2.1=true
 pt:(cD ((I.length:Nat):Int) rs x.1 x.2.2).isSome=true
theorem FZ {M:Md I fo} {rs:Rows} (hR:cq ((I.length:Nat):Int) rs=true):∀{es:List i'} {l:List aA} {pl:List Bool},jZ I fo l pl→M.Ok l pl→(∀x∈es,EdX I fo rs x)→(∀x y,dG ((I.length:Nat):Int) rs x y=true→Gd M l x y)→
  (∀x∈es,∀(pl:List Bool) (k:Int),((∀x y,dG ((I.length:Nat):Int) rs x y=true→qf I fo x y=true)→pl.getD k.toNat false=true)→M.PH pl (4,x.1,x.2.1,k,x.2.2))→
  ∃mR,Al M l pl (eg I fo ((I.length:Nat):Int) rs l es) mR (es.length*(2*I.length+2))∧∀x∈es,0≤iR (eg I fo ((I.length:Nat):Int) rs l es) x.1 x.2.1
 |[],l,pl,B,O,_,_,_=>⟨pl,Al.refl B O _,fun x hx=>by cases hx⟩
 |x::es,l,pl,B,O,he,hg,hr=>by
  have key:∃p1,Al M l pl (sG I fo ((I.length:Nat):Int) rs l x) p1 (2*I.length+2)∧0≤iR (sG I fo ((I.length:Nat):Int) rs l x) x.1 x.2.1:=by
   unfold sG
   by_cases h0:0≤iR l x.1 x.2.1
   ·rw[alE h0];exact⟨pl,Al.refl B O _,h0⟩
   ·rw[alG h0]
    have E:=he x al5
    obtain⟨p1,S⟩:=B1 (M:=M) B O hR E.pt hg
    generalize bq I fo l ((I.length:Nat):Int) rs x.1 x.2.2=c at *
    obtain⟨t,q,e1,e2⟩:=S.res.pre
    have GR:plainO c.1 p1 (4,x.1,x.2.1,c.2,x.2.2)=false:=by unfold plainO;rw[alG (by rintro⟨h,_⟩;exact absurd (show (4:Int)=3 from h) aJ)];rfl
    refine⟨p1++[false],⟨⟨t++[(4,x.1,x.2.1,c.2,x.2.2)],q++[false],by rw[e1,alY],by rw[e2,alY]⟩,?_,M.ru S.res.ok S.res.pG.len rfl (hr x al5 p1 c.2 S.P3),?_⟩,PG (by unfold qQ;simp)⟩
    ·rw[←GR]
     refine S.res.pG.snoc (qX.2 ⟨E.a,E.b⟩) ?_
     unfold fb
     rw[alG (by show ¬(4:Int)=1;decide),alG (by show ¬(4:Int)=2;decide),alG (by show ¬(4:Int)=3;decide),alE rfl]
     simp only[cA,alC]
     exact⟨⟨⟨vV.2 E.r,E.fr⟩,E.ot⟩,S.th⟩
    ·rw[im]
     have:=S.res.len
     show c.1.length+1≤_
     omega
  obtain⟨p1,R1,h1⟩:=key
  obtain⟨t,q,e1,e2⟩:=R1.pre
  obtain⟨p2,R2,h2⟩:=FZ (M:=M) (rs:=rs) hR (es:=es) R1.pG R1.ok (fun y hy=>he y (alV _ hy)) (fun a b h=>by rw[e1];exact(hg a b h).mono) fun y hy=>hr y (alV _ hy)
  refine⟨p2,?_,fun y hy=>?_⟩
  ·have:=R1.trans R2
   refine⟨this.pre,this.pG,this.ok,Nat.le_trans this.len ?_⟩
   rw[jv,amH];omega
  ·rcases alQ.1 hy with rfl|hy
   ·obtain⟨t2,q2,e3,_⟩:=R2.pre
    show 0≤iR (eg I fo ((I.length:Nat):Int) rs (sG I fo ((I.length:Nat):Int) rs l y) es) y.1 y.2.1
    rw[e3];exact DS h1
   ·exact h2 y hy
theorem JW (h:∀x∈pl,x=true) {i:Nat} (hi:i<pl.length):pl.getD i false=true:=by
 rw[eH,dW hi]
 exact h _<|ant hi
theorem Mx {pl:List Bool} {i:Nat} (h:pl.getD i false=true):i<pl.length:=by
 rw[eH] at h
 cases e:pl[i]? with
 |none=>rw[e] at h;cases h
 |some _=>exact(eW.1 e).1
def MdA (I:List aR) (fo:az):Md I fo where
 Sa _ _:=True
 Ok _ pl:=∀x∈pl,x=true
 PH _ _:=False
 nil:=fun _ h=>by cases h
 ed h _ _ _:=fun x hx=>by
  rcases alR.1 hx with hx|hx
  ·exact h x hx
  ·simp at hx;exact hx
 tr h hl _ ha hb:=fun x hx=>by
  rcases alR.1 hx with hx|hx
  ·exact h x hx
  ·simp only[amm] at hx
   rw[hx,cA]
   exact⟨JW h (by rw[hl];exact ha),JW h (by rw[hl];exact hb)⟩
 ru _ _ _ h:=h.elim
theorem Dr {x:Bool} {s:aA} (h:jU pl s=false):jU (pl++[x]) s=false:=by
 unfold jU at *
 rw[anx] at h ⊢
 rcases h with h|h
 ·exact .inl h
 ·refine .inr ?_
  rw[aoP] at h ⊢
  rw[Br (Mx h)];exact h
def MdB (I:List aR) (fo:az):Md I fo where
 Sa _ _:=True
 Ok l pl:=∀s∈l,jU pl s=false
 PH pl s:=pl.getD s.2.2.2.1.toNat false=true
 nil:=fun _ h=>by cases h
 ed h _ hk _:=fun x hx=>by
  rcases alR.1 hx with hx|hx
  ·exact Dr<|h x hx
  ·simp only[amm] at hx
   subst hx
   unfold jU
   rw[alH ai];rfl
 tr h _ hk _ _:=fun x hx=>by
  rcases alR.1 hx with hx|hx
  ·exact Dr<|h x hx
  ·simp only[amm] at hx
   subst hx
   unfold jU
   rw[alH ai];rfl
 ru h _ hk hp:=fun x hx=>by
  rcases alR.1 hx with hx|hx
  ·exact Dr<|h x hx
  ·simp only[amm] at hx
   subst hx
   unfold jU
   rw[Br (Mx hp),hp];simp
def Sh (I:List aR) (fo:az) (o:Int):Md I fo where
 Sa _ b:=fk (nT I fo o) b=true
 Ok l _:=∀s∈l,kI (nT I fo o) (dB I o) s=false
 PH _ s:=fk (dB I o) s.2.2.2.2=true
 nil:=fun _ h=>by cases h
 ed h _ hk ha:=fun x hx=>by
  rcases alR.1 hx with hx|hx
  ·exact h x hx
  ·simp only[amm] at hx
   subst hx
   unfold kI
   rcases hk with hk|hk<;>rw[hk]<;>simp[ha]
 tr h _ hk _ _:=fun x hx=>by
  rcases alR.1 hx with hx|hx
  ·exact h x hx
  ·simp only[amm] at hx
   subst hx
   unfold kI
   rw[hk];rfl
 ru h _ hk hp:=fun x hx=>by
  rcases alR.1 hx with hx|hx
  ·exact h x hx
  ·simp only[amm] at hx
   subst hx
   unfold kI
   rw[hk];simp[hp]
end
end Go.Ew
namespace Go.Ew
variable {r a b o x y n:Int} {pl:List Bool} {rs:Rows}
section
variable {I:List aR} {fo:az}
abbrev fB (I:List aR) (i:Int):Prop:=0≤i∧i<((I.length:Nat):Int)
def mX (I:List aR) (fo:az) (k r a b o:Int):Prop:=
 (k=1∧a= -1∧b= -1∧o= -1∧fB I r∧fo.getD r.toNat 0= -2)∨
 (k=2∧r= -1∧a= -1∧b= -1∧fB I o∧jq I fo o.toNat o.toNat=true)∨
 (k=3∧b= -1∧o= -1∧fB I r∧fB I a∧fo.getD r.toNat 0= -1∧fe I (gU I r) a=false∧jq I fo a.toNat r.toNat=true)∨
 (k=4∧o= -1∧fB I r∧fB I a∧fB I b∧fo.getD r.toNat 0=a∧a≠b∧fe I (gU I r) b=false∧jq I fo b.toNat r.toNat=true∧jq I fo a.toNat b.toNat=true)∨
 (k=5∧r= -1∧a= -1∧b= -1∧fB I o∧cl I.length (xB I fo) o.toNat o.toNat=true)∨
 (k=6∧b= -1∧fB I o∧fB I r∧fB I a∧r∈dB I o∧fo.getD r.toNat 0= -1∧fe I (gU I r) a=false∧pN I fo o a.toNat r.toNat=true)∨
 (k=7∧r= -1∧b= -1∧fB I o∧fB I a∧pN I fo o a.toNat a.toNat=true)
def Hd (I:List aR) (fo:az) (k r a b o:Int) (l:List aA) (f s:Int):Prop:=∀lv,fk (ez lv) k=true→eA I fo lv k r a b o l f s=true
theorem zM {k:Int} {l:List aA} {f s:Int} (B:jZ I fo l pl) (hu:∀x∈gA k r a b o f s,x= -1) (hp:iy I fo l pl k r a b o f s=true):Hd I fo k r a b o l f s:=by
 intro lv hk
 unfold eA
 rw[hk,B.take]
 simp only[am8,hp,an6,alW]
 rw[amF]
 intro x hx
 rw[hu x hx];decide
theorem D0 (h:fB I a):(!(([a]:az).any (dV I)))=true:=by
 have h1:=h.1;have h2:=h.2
 unfold dV
 simp only[anM,aoD,amn,ao2,cA,alW,al1]
 omega
theorem NM (h:fB I a) (k:fB I b):(!(([a,b]:az).any (dV I)))=true:=by
 rw[Hy,cA,vV,vV];exact⟨h,k⟩
theorem acD {c:Int} (h:fB I a) (k:fB I b) (m:fB I c):(!(([a,b,c]:az).any (dV I)))=true:=by
 have h1:=NM h k
 have h2:=D0 m
 simp only[anM,aoD,amn,ao2,cA] at h1 h2 ⊢
 exact⟨h1.1,h1.2,h2⟩
theorem Sz {v w:Int} (hw:fe I v w=false):cm I w=true∧gU I w=v:=by
 unfold fe at hw
 rw[an4] at hw
 unfold cm gU
 cases e:I[w.toNat]? with
 |none=>rw[e] at hw;cases hw.2
 |some x=>
  rw[e] at hw
  have h:=hw.2
  simp only[an4,aoP,alC] at h
  exact⟨h.1,h.2⟩
theorem Kh {w:Int} (hr:fB I r) (hw:fB I w) (h0:fo.getD r.toNat 0= -1) (h1:fe I (gU I r) w=false):l5 I fo r w=true:=by
 obtain⟨k1,k2⟩:=Sz h1
 unfold l5
 rw[NM hr hw,h0,k1,k2];simp
theorem NT (h:dE I a b=true):dE I b a=true:=by
 unfold dE at h ⊢
 simp only[cA,alW,al1,alC] at h ⊢
 exact⟨⟨⟨fun e=>h.1.1.1 e.symm,h.1.2⟩,h.1.1.2⟩,h.2.symm⟩
theorem En {n:Nat} (h:dG ((n:Nat):Int) rs x y=true):∃a b:Nat,x=((a:Nat):Int)∧y=((b:Nat):Int)∧a<n∧b<n:=by
 unfold dG at h
 rw[cA] at h
 obtain⟨⟨h1,h2⟩,h3,h4⟩:=jC.1 h.1
 exact⟨x.toNat,y.toNat,by omega,by omega,by omega,by omega⟩
theorem Kf (hl:fo.length=I.length) {a b:Nat} (hb:b<I.length) (h:ur I fo a b=true):qf I fo ((a:Nat):Int) ((b:Nat):Int)=true:=by
 unfold ur at h
 unfold qf
 rw[alI] at h ⊢
 rcases h with h|h
 ·exact .inr (by rw[EO];exact h)
 ·refine .inl ?_
  unfold Cm at h
  rw[alC,iI hl hb] at h
  rw[alC,dC,iI hl hb];exact h
theorem FY (hl:fo.length=I.length) (h:dG ((I.length:Nat):Int) (bl I fo) x y=true):qf I fo x y=true:=by
 obtain⟨a,b,rfl,rfl,ha,hb⟩:=En h
 unfold bl at h
 rw[fy ha hb] at h
 exact Kf hl hb h
theorem yc {n:Nat} {p:gk} (hn:n≤4096) {a b:Nat} (ha:a<n) (hb:b<n) (h:cl n p a b=true):(cD ((n:Nat):Int) (cO n p) ((a:Nat):Int) ((b:Nat):Int)).isSome=true:=by
 rw[P5 (kx hn) ⟨by omega,by omega⟩ ⟨by omega,by omega⟩,mw,fy ha hb];exact h
theorem yd {n:Nat} {p:gk} (hn:n≤4096) (hx:0≤x∧x<((n:Nat):Int)) (hy:0≤y∧y<((n:Nat):Int)) (h:cl n p x.toNat y.toNat=true):(cD ((n:Nat):Int) (cO n p) x y).isSome=true:=by
 have:=yc hn (a:=x.toNat) (b:=y.toNat) ai ai h
 rwa [alJ hx.1,alJ hy.1] at this
theorem y5 (hn:I.length≤64) (hx:fB I x) (hy:fB I y) (h:jq I fo x.toNat y.toNat=true):(cD ((I.length:Nat):Int) (bl I fo) x y).isSome=true:=yd ai hx hy h
theorem aac (hr:fB I r) (h:fo.getD r.toNat 0= -2):Hd I fo 1 r (-1) (-1) (-1) [] (-1) (-1):=by
 refine zM jZ.nil (by unfold gA;simp) ?_
 unfold iy
 simp only[anO,anj,cA,alC]
 exact⟨⟨D0 hr,h⟩,J⟩
theorem F4 (h:∀x∈pl,x=true):(!(pl.any (fun z_=>false==z_)))=true:=by
 rw[alW,amF]
 intro x hx
 rw[h x hx];decide
theorem Nu (hl:fo.length=I.length) (hn:I.length≤64) {l:List aA} (B:jZ I fo l pl) (O:∀x∈pl,x=true) (hx:fB I x) (hy:fB I y) (h:jq I fo x.toNat y.toNat=true):
  ∃mR,V9 (MdA I fo) l pl (bq I fo l ((I.length:Nat):Int) (bl I fo) x y) mR x y (2*I.length+1) (∀x y,dG ((I.length:Nat):Int) (bl I fo) x y=true→qf I fo x y=true):=
 B1 (M:=MdA I fo) B O (tB fo ai) (y5 hn hx hy h) fun x y h=>.inl ⟨FY hl h,trivial⟩
theorem aaa (hl:fo.length=I.length) (hn:I.length≤64) (ho:fB I o) (h:jq I fo o.toNat o.toNat=true):
  Hd I fo 2 (-1) (-1) (-1) o (bq I fo [] ((I.length:Nat):Int) (bl I fo) o o).1 (bq I fo [] ((I.length:Nat):Int) (bl I fo) o o).2 (-1)∧(bq I fo [] ((I.length:Nat):Int) (bl I fo) o o).1.length≤200:=by
 obtain⟨pl,S⟩:=Nu hl hn jZ.nil (fun _ h=>by cases h) ho ho h
 refine⟨zM S.res.pG (by unfold gA;simp) ?_,by have:=S.res.len;simp only[gW] at this;omega⟩
 unfold iy
 simp only[show decide ((2:Int)=1)=false from rfl,anO,anj,ane,cA]
 exact⟨⟨D0 ho,F4 S.res.ok⟩,S.th⟩
theorem T0 (hl:fo.length=I.length) (hn:I.length≤64) (hr:fB I r) (ha:fB I a) (h0:fo.getD r.toNat 0= -1) (h1:fe I (gU I r) a=false) (h:jq I fo a.toNat r.toNat=true):
  Hd I fo 3 r a (-1) (-1) (bq I fo [] ((I.length:Nat):Int) (bl I fo) a r).1 (bq I fo [] ((I.length:Nat):Int) (bl I fo) a r).2 (-1)∧(bq I fo [] ((I.length:Nat):Int) (bl I fo) a r).1.length≤200:=by
 obtain⟨pl,S⟩:=Nu hl hn jZ.nil (fun _ h=>by cases h) ha hr h
 refine⟨zM S.res.pG (by unfold gA;simp) ?_,by have:=S.res.len;simp only[gW] at this;omega⟩
 unfold iy
 simp only[show decide ((3:Int)=1)=false from rfl,show decide ((3:Int)=2)=false from rfl,anO,anj,ane,cA]
 exact⟨⟨Kh hr ha h0 h1,F4 S.res.ok⟩,S.th⟩
theorem XB (hl:fo.length=I.length) (hn:I.length≤64) (hv:nD I fo) (hr:fB I r) (ha:fB I a) (hb:fB I b) (h0:fo.getD r.toNat 0=a) (ff:a≠b) (h1:fe I (gU I r) b=false) (h2:jq I fo b.toNat r.toNat=true) (h3:jq I fo a.toNat b.toNat=true):
  Hd I fo 4 r a b (-1) (bq I fo (bq I fo [] ((I.length:Nat):Int) (bl I fo) a b).1 ((I.length:Nat):Int) (bl I fo) b r).1 (bq I fo [] ((I.length:Nat):Int) (bl I fo) a b).2 (bq I fo (bq I fo [] ((I.length:Nat):Int) (bl I fo) a b).1 ((I.length:Nat):Int) (bl I fo) b r).2∧
   (bq I fo [] ((I.length:Nat):Int) (bl I fo) a b).1.length≤200∧(bq I fo (bq I fo [] ((I.length:Nat):Int) (bl I fo) a b).1 ((I.length:Nat):Int) (bl I fo) b r).1.length≤400:=by
 obtain⟨p1,S1⟩:=Nu hl hn jZ.nil (fun _ h=>by cases h) ha hb h3
 generalize bq I fo [] ((I.length:Nat):Int) (bl I fo) a b=c at *
 obtain⟨p2,S2⟩:=Nu hl hn S1.res.pG S1.res.ok hb hr h2
 obtain⟨t,q,e1,e2⟩:=S2.res.pre
 have n1:=S1.res.len
 have n2:=S2.res.len
 simp only[gW] at n1
 refine⟨zM S2.res.pG (by unfold gA;simp) ?_,by omega,by omega⟩
 have fr:fo[r.toNat]? =some ((a.toNat:Nat):Int):=by rw[(iI hl (by have:=hr.1;have:=hr.2;omega) (d:=0)).1 h0];congr 1;have:=ha.1;omega
 obtain⟨v1,v2⟩:=hv _ _ fr
 rw[alJ hr.1,alJ ha.1] at v1
 rw[alJ ha.1] at v2
 rw[v1] at h1
 have ot:=NT<|HX hb.1 (fun e=>ff e.symm) h1 v2
 unfold iy
 simp only[show decide ((4:Int)=1)=false from rfl,show decide ((4:Int)=2)=false from rfl,show decide ((4:Int)=3)=false from rfl,anO,anj,ane,cA,alC]
 exact⟨⟨⟨⟨⟨acD hr ha hb,h0⟩,ot⟩,F4 S2.res.ok⟩,by rw[e1];exact Gp S1.th⟩,S2.th⟩
theorem oz {n:Nat}:∀{es:List i'} {p:gk},xD n es→dp ((n:Nat):Int) (cO n p) es=cO n fun a b=>p a b||BA es a b
 |[],p,_=>dL fun a b _ _=>by simp[BA]
 |e::es,p,h=>by
  have hi:=h e al5
  have hr:=jC.1 hi
  show dp ((n:Nat):Int) (bL ((n:Nat):Int) (cO n p) e.1 e.2.1) es=_
  rw[zo hi,oz fun x hx=>h x (alV _ hx)]
  refine dL fun a b _ _=>?_
  rw[Bool.or_assoc]
  congr 1
  unfold BA
  rw[anM]
  congr 1
  rw[al0]
  simp only[cA,alC]
  omega
theorem r9 {es:List i'} {a b:Nat}:BA es a b=true↔∃e∈es,e.1=((a:Nat):Int)∧e.2.1=((b:Nat):Int):=by
 unfold BA
 rw[amp]
 simp only[cA,alC]
def Dx (I:List aR) (fo:az) (n:Int) (rs:Rows) (a b r:Nat):Option i':=if (dE I ((a:Nat):Int) ((b:Nat):Int)&&decide (fo.getD r 0=((b:Nat):Int))&&dG n rs ((a:Nat):Int) ((r:Nat):Int))=true then some (((a:Nat):Int),((b:Nat):Int),((r:Nat):Int)) else none
def mQ (I:List aR) (fo:az) (n:Int) (rs:Rows) (a b q:Nat):List i':=(List.range q).filterMap (Dx I fo n rs a b)
def ry (I:List aR) (fo:az) (n:Int) (rs:Rows) (a q:Nat):List i':=(List.range q).flatMap fun b=>mQ I fo n rs a b I.length
def bP (I:List aR) (fo:az) (n:Int) (rs:Rows) (q:Nat):List i':=(List.range q).flatMap fun a=>ry I fo n rs a I.length
theorem rG {e:i'}:e∈bP I fo n rs I.length↔∃a b r:Nat,a<I.length∧b<I.length∧r<I.length∧dE I ((a:Nat):Int) ((b:Nat):Int)=true∧fo.getD r 0=((b:Nat):Int)∧dG n rs ((a:Nat):Int) ((r:Nat):Int)=true∧e=(((a:Nat):Int),((b:Nat):Int),((r:Nat):Int)):=by
 unfold bP ry mQ
 simp only[aox,al4,alF]
 constructor
 ·rintro⟨a,ha,b,hb,r,hr,h⟩
  unfold Dx at h
  split at h
  ·rename_i k
   simp only[cA,alC] at k
   exact⟨a,b,r,ha,hb,hr,k.1.1,k.1.2,k.2,(alD h).symm⟩
  ·cases h
 ·rintro⟨a,b,r,ha,hb,hr,h1,h2,h3,rfl⟩
  refine⟨a,ha,b,hb,r,hr,?_⟩
  unfold Dx
  rw[alE (by rw[h1,h3,alM h2];rfl)]
theorem JY {α β:Type} {f:α→Option β} {l:List α}:(l.filterMap f).length≤l.length:=List.length_filterMap_le _ _
theorem Ca {α β:Type} {f:α→List β} {c:Nat}:∀{l:List α},(∀x∈l,(f x).length≤c)→(l.flatMap f).length≤l.length*c
 |[],_=>by simp
 |x::l,h=>by
  rw[amE,im,jv,amH]
  have h1:=h x al5
  have h2:=Ca (l:=l) fun y hy=>h y (alV _ hy)
  omega
theorem G6 (a b q:Nat):(mQ I fo n rs a b q).length≤q:=by unfold mQ;exact Nat.le_trans JY (by simp)
theorem G8 (a q:Nat):(ry I fo n rs a q).length≤q*I.length:=by
 unfold ry;have:=Ca (c:=I.length) (l:=List.range q) (f:=fun b=>mQ I fo n rs a b I.length) fun b _=>G6 a b _;rwa [amZ] at this
theorem Bz (q:Nat):(bP I fo n rs q).length≤q*(I.length*I.length):=by
 unfold bP;have:=Ca (c:=I.length*I.length) (l:=List.range q) (f:=fun a=>ry I fo n rs a I.length) fun a _=>G8 a _;rwa [amZ] at this
theorem rI (hv:nD I fo) {p:Nat→bT} {a b r:Nat} (h:Na I fo p a b r):dE I ((a:Nat):Int) ((b:Nat):Int)=true:=
 HX (ami _) (fun e=>h.ne ai) h.wr (hv _ _ h.fr).2
theorem tC:xD I.length (bP I fo n rs I.length):=by
 intro e he
 obtain⟨a,b,r,ha,hb,hr,_,_,_,rfl⟩:=rG.1 he
 exact jC.2 ⟨⟨ami _,anY.2 ha⟩,ami _,anY.2 hb⟩
theorem XC (hl:fo.length=I.length) (hn:I.length≤12) (hv:nD I fo) (dx:∀x∈fo,x<((I.length:Nat):Int)) (ho:fB I o) (h:cl I.length (xB I fo) o.toNat o.toNat=true) {es:List i'} (he:es=bP I fo ((I.length:Nat):Int) (bw I fo) I.length):
  Hd I fo 5 (-1) (-1) (-1) o (bq I fo (eg I fo ((I.length:Nat):Int) (bl I fo) [] es) ((I.length:Nat):Int) (dp ((I.length:Nat):Int) (bl I fo) es) o o).1 (bq I fo (eg I fo ((I.length:Nat):Int) (bl I fo) [] es) ((I.length:Nat):Int) (dp ((I.length:Nat):Int) (bl I fo) es) o o).2 (-1)∧
   (bq I fo (eg I fo ((I.length:Nat):Int) (bl I fo) [] es) ((I.length:Nat):Int) (dp ((I.length:Nat):Int) (bl I fo) es) o o).1.length≤100000:=by
 have iw:xD I.length es:=by rw[he];exact tC
 have yF:∀e∈es,∃a b r:Nat,a<I.length∧b<I.length∧r<I.length∧dE I ((a:Nat):Int) ((b:Nat):Int)=true∧fo.getD r 0=((b:Nat):Int)∧jq I fo a r=true∧e=(((a:Nat):Int),((b:Nat):Int),((r:Nat):Int)):=by
  intro e hm
  rw[he] at hm
  obtain⟨a,b,r,ha,hb,hr,h1,h2,h3,h4⟩:=rG.1 hm
  unfold bw at h3
  rw[fy ha hr] at h3
  exact⟨a,b,r,ha,hb,hr,h1,h2,h3,h4⟩
 have yE:∀a b r:Nat,a<I.length→b<I.length→r<I.length→dE I ((a:Nat):Int) ((b:Nat):Int)=true→fo.getD r 0=((b:Nat):Int)→jq I fo a r=true→(((a:Nat):Int),((b:Nat):Int),((r:Nat):Int))∈es:=by
  intro a b r ha hb hr h1 h2 h3
  rw[he]
  exact rG.2 ⟨a,b,r,ha,hb,hr,h1,h2,by unfold bw;rw[fy ha hr];exact h3,J⟩
 obtain⟨p1,R1,ZI⟩:=FZ (M:=MdB I fo) (rs:=bl I fo) (tB fo ai) (es:=es) jZ.nil (MdB I fo).nil (fun e hm=>by
  obtain⟨a,b,r,ha,hb,hr,h1,h2,h3,rfl⟩:=yF e hm
  exact⟨⟨ami _,anY.2 ha⟩,⟨ami _,anY.2 hb⟩,⟨ami _,anY.2 hr⟩,by simpa using h2,h1,yc ai ha hr h3⟩) (fun x y k=>.inl ⟨FY hl k,trivial⟩) (fun x _ pl k hk=>hk fun x y=>FY hl)
 have vZ:dp ((I.length:Nat):Int) (bl I fo) es=cO I.length fun a b=>ur I fo a b||BA es a b:=oz iw
 have hlen:es.length≤12*144:=by
  rw[he]
  refine Nat.le_trans (Bz _) ?_
  exact amB ai<|amB ai ai
 have hd:=R1.len
 simp only[gW,ama] at hd
 have uT:es.length*(2*I.length+2)≤12*144*26:=amB hlen ai
 generalize eg I fo ((I.length:Nat):Int) (bl I fo) [] es=l at *
 rw[vZ]
 obtain⟨p2,S⟩:=B1 (M:=MdB I fo) (l:=l) (rs:=cO I.length fun a b=>ur I fo a b||BA es a b) (a:=o) (b:=o) R1.pG R1.ok (kx ai) (yd ai ho ho (by
  rw[om (by have:=ho.1;have:=ho.2;omega) (by have:=ho.1;have:=ho.2;omega)] at h ⊢
  refine h.least (fun x y hx hy k=>?_) fun x y z _ _ _=>TC.trans
  unfold xB at k
  rw[alI] at k
  rcases k with k|k
  ·exact((om hx hy).1 k).mono fun x y _ _ k=>by simp[k]
  ·obtain⟨r,k⟩:=(@decide_eq_true_iff _ (Classical.propDecidable _)).1 k
   refine .one hx hy ?_
   rw[alI]
   refine .inr (r9.2 ⟨(((x:Nat):Int),((y:Nat):Int),((r:Nat):Int)),yE x y r hx hy k.r1 (rI hv k) ((iI hl k.r1).2 k.fr) k.ah,rfl,rfl⟩))) (fun x y k=>by
  obtain⟨a,b,rfl,rfl,ha,hb⟩:=En k
  rw[fy ha hb,alI] at k
  by_cases hE:qf I fo ((a:Nat):Int) ((b:Nat):Int)=true
  ·exact .inl ⟨hE,trivial⟩
  ·rcases k with k|k
   ·exact absurd (Kf hl hb k) hE
   ·obtain⟨e,hm,e1,e2⟩:=r9.1 k
    have:=ZI e hm
    rw[e1,e2] at this
    exact .inr ⟨this,by simpa using hE⟩)
 refine⟨zM S.res.pG (by unfold gA;simp) ?_,by have:=S.res.len;omega⟩
 unfold iy
 simp only[show decide ((5:Int)=1)=false from rfl,show decide ((5:Int)=2)=false from rfl,show decide ((5:Int)=3)=false from rfl,show decide ((5:Int)=4)=false from rfl,anO,anj,ane,cA]
 refine⟨⟨D0 ho,?_⟩,S.th⟩
 rw[alW,amF]
 intro s hs
 rw[S.res.ok s hs];decide
end
end Go.Ew
namespace Go.Ew
variable {n o:Int} {rs:Rows} {kp:az} {l:List aA}
section
variable {I:List aR} {fo:az}
def Da (I:List aR) (fo:az) (n:Int) (rs:Rows) (kp:az) (a b:Nat):Option i':=
 if (dE I ((a:Nat):Int) ((b:Nat):Int)&&!dG n rs ((a:Nat):Int) ((b:Nat):Int))=true then (kp.find? fun r=>decide (fo.getD r.toNat 0=((b:Nat):Int))&&dG n rs ((a:Nat):Int) r).map fun r=>(((a:Nat):Int),((b:Nat):Int),r) else none
def ma (I:List aR) (fo:az) (n:Int) (rs:Rows) (kp:az) (a q:Nat):List i':=(List.range q).filterMap (Da I fo n rs kp a)
def cJ (I:List aR) (fo:az) (n:Int) (rs:Rows) (kp:az) (q:Nat):List i':=(List.range q).flatMap fun a=>ma I fo n rs kp a I.length
theorem GF (a q:Nat):(ma I fo n rs kp a q).length≤q:=by unfold ma;exact Nat.le_trans JY (by simp)
theorem tX (q:Nat):(cJ I fo n rs kp q).length≤q*I.length:=by
 unfold cJ;have:=Ca (c:=I.length) (l:=List.range q) (f:=fun a=>ma I fo n rs kp a I.length) fun a _=>GF a _;rwa [amZ] at this
theorem C' {e:i'} (h:e∈cJ I fo n rs kp I.length):∃a b:Nat,a<I.length∧b<I.length∧dE I ((a:Nat):Int) ((b:Nat):Int)=true∧dG n rs ((a:Nat):Int) ((b:Nat):Int)=false∧∃r,r∈kp∧fo.getD r.toNat 0=((b:Nat):Int)∧dG n rs ((a:Nat):Int) r=true∧e=(((a:Nat):Int),((b:Nat):Int),r):=by
 unfold cJ ma at h
 simp only[aox,al4,alF] at h
 obtain⟨a,ha,b,hb,h⟩:=h
 unfold Da at h
 split at h
 ·rename_i k
  simp only[cA,alW] at k
  obtain⟨r,hr,h⟩:=al'.1 h
  have h1:=anh hr
  simp only[cA,alC] at h1
  exact⟨a,b,ha,hb,k.1,k.2,r,amL hr,h1.1,h1.2,h.symm⟩
 ·cases h
theorem IW {n:Int} {rs:Rows} {kp:az} (h:cJ I fo n rs kp I.length=[]) {a b:Nat} (ha:a<I.length) (hb:b<I.length) (ho:dE I ((a:Nat):Int) ((b:Nat):Int)=true) {r:Int} (hr:r∈kp) (h1:fo.getD r.toNat 0=((b:Nat):Int)) (h2:dG n rs ((a:Nat):Int) r=true):dG n rs ((a:Nat):Int) ((b:Nat):Int)=true:=by
 cases hh:dG n rs ((a:Nat):Int) ((b:Nat):Int) with
 |true=>rfl
 |false=>
  exfalso
  cases e:kp.find? (fun r=>decide (fo.getD r.toNat 0=((b:Nat):Int))&&dG n rs ((a:Nat):Int) r) with
  |none=>
   have:=am2.1 e r hr
   simp[h1,h2] at this
   exact this<|by simpa using h1
  |some q=>
   have hm:(((a:Nat):Int),((b:Nat):Int),q)∈cJ I fo n rs kp I.length:=by
    unfold cJ ma
    simp only[aox,al4,alF]
    refine⟨a,ha,b,hb,?_⟩
    unfold Da
    rw[alE (by rw[ho,hh];rfl),e];rfl
   rw[h] at hm;cases hm
theorem mc (O:et I) {r:Int} (hr:r∈dB I o) (ho:fB I o):fB I r∧fk (nT I fo o) r=true:=by
 unfold dB aV at hr
 have hr:=(alO.1 hr).1
 rw[←LO O] at hr
 unfold bS at hr
 simp only[amx,alO,alF] at hr
 obtain⟨i,⟨hi,h⟩,rfl⟩:=hr
 refine⟨⟨by simp,by omega⟩,mz.2 (zc ho hi ?_)⟩
 rw[alI,alC] at h
 rcases h with h|h
 ·exact .inr h
 ·refine .inl (l6 ?_)
  unfold ur
  rw[alI]
  refine .inl ?_
  rw[←EO,alJ ho.1,←Cg O];exact h
theorem zd {a b:Nat} (ha:a<I.length) (h:jq I fo a b=true) (hb:fk (nT I fo o) ((b:Nat):Int)=true):fk (nT I fo o) ((a:Nat):Int)=true:=by
 obtain⟨_,b1,ho,hc⟩:=F_ hb
 refine mz.2<|zc ho ha<|.inl ?_
 rw[dC] at hc
 rcases hc with hc|hc
 ·exact nK ai h hc
 ·rw[←hc,dC];exact h
structure wT (I:List aR) (fo:az) (o:Int) (rs:Rows) (l:List aA):Prop where
 rel:∃p,rs=cO I.length p
 base:∀a b,a<I.length→b<I.length→ur I fo a b=true→fk (nT I fo o) ((a:Nat):Int)=true→fk (nT I fo o) ((b:Nat):Int)=true→dw rs a b=true
 gd:∀x y,dG ((I.length:Nat):Int) rs x y=true→Gd (Sh I fo o) l x y
 pG:∃pl,jZ I fo l pl∧(Sh I fo o).Ok l pl
 len:l.length≤pv I rs*(I.length*I.length*(2*I.length+2))
theorem JI (hl:fo.length=I.length) (o:Int):wT I fo o (gD ((I.length:Nat):Int) (bl I fo) (dm ((I.length:Nat):Int) (bw I fo) o)) [] where
 rel:=⟨_,by unfold gD;rw[dC]⟩
 base a b ha hb he h1 h2:=by
  unfold gD
  rw[dC,eX ha hb]
  unfold LD bl
  rw[eX ha hb,he]
  simp only[am8,cA,alC]
  exact⟨mz.1 h1,mz.1 h2⟩
 gd x y h:=by
  obtain⟨a,b,rfl,rfl,ha,hb⟩:=En h
  unfold gD at h
  rw[dC,fy ha hb] at h
  unfold LD bl at h
  rw[eX ha hb] at h
  simp only[cA,alC] at h
  exact .inl ⟨Kf hl hb h.1,mz.2 h.2.2⟩
 pG:=⟨[],jZ.nil,(Sh I fo o).nil⟩
 len:=anu _
theorem zN (H:wT I fo o rs l) (hn:I.length≤4096):cq ((I.length:Nat):Int) rs=true:=by
 obtain⟨p,rfl⟩:=H.rel;exact kx hn
theorem Mn (hl:fo.length=I.length) (hn:I.length≤12) (hv:nD I fo) (O:et I) (ho:fB I o) (H:wT I fo o rs l) {es:List i'} (he:es=cJ I fo ((I.length:Nat):Int) (bU ((I.length:Nat):Int) rs) (dB I o) I.length):
  wT I fo o (dp ((I.length:Nat):Int) rs es) (eg I fo ((I.length:Nat):Int) rs l es)∧(es≠[]→pv I rs<pv I (dp ((I.length:Nat):Int) rs es))∧xD I.length es:=by
 obtain⟨p,hp⟩:=H.rel
 obtain⟨pl,B,K⟩:=H.pG
 have qD:bU ((I.length:Nat):Int) rs=cO I.length (cl I.length p):=by rw[hp];exact mw
 rw[qD] at he
 have qR:∀{e},e∈es→∃a b r:Nat,a<I.length∧b<I.length∧r<I.length∧dE I ((a:Nat):Int) ((b:Nat):Int)=true∧cl I.length p a b=false∧((r:Nat):Int)∈dB I o∧fo.getD r 0=((b:Nat):Int)∧cl I.length p a r=true∧e=(((a:Nat):Int),((b:Nat):Int),((r:Nat):Int)):=by
  intro e hm
  rw[he] at hm
  obtain⟨a,b,ha,hb,h1,h2,r,h3,h4,h5,rfl⟩:=C' hm
  have hr:=(mc (fo:=fo) O h3 ho).1
  obtain⟨r,rfl⟩:∃q:Nat,r=((q:Nat):Int):=⟨r.toNat,by have:=hr.1;omega⟩
  have xn:r<I.length:=by have:=hr.2;omega
  rw[fy ha hb] at h2
  rw[fy ha xn] at h5
  exact⟨a,b,r,ha,hb,xn,h1,h2,h3,by simpa using h4,h5,J⟩
 have iw:xD I.length es:=by
  intro e hm
  obtain⟨a,b,r,ha,hb,_,_,_,_,_,_,rfl⟩:=qR hm
  exact jC.2 ⟨⟨by simp,by simp only;omega⟩,by simp,by simp only;omega⟩
 have hR:cq ((I.length:Nat):Int) rs=true:=zN H ai
 obtain⟨p1,R1,ZI⟩:=FZ (M:=Sh I fo o) (rs:=rs) hR (es:=es) B K (fun e hm=>by
  obtain⟨a,b,r,ha,hb,hr,h1,h2,h3,h4,h5,rfl⟩:=qR hm
  refine⟨⟨by simp,by simp only;omega⟩,⟨by simp,by simp only;omega⟩,⟨by simp,by simp only;omega⟩,by simpa using h4,h1,?_⟩
  rw[hp];exact yc ai ha hr h5) H.gd (fun e hm pl k _=>by
  obtain⟨a,b,r,ha,hb,hr,h1,h2,h3,h4,h5,rfl⟩:=qR hm
  exact mz.2 h3)
 have vZ:dp ((I.length:Nat):Int) rs es=cO I.length fun a b=>p a b||BA es a b:=by rw[hp];exact oz iw
 have aae:es≠[]→pv I rs<pv I (dp ((I.length:Nat):Int) rs es):=by
  intro ff
  obtain⟨e,hm⟩:=List.exists_mem_of_ne_nil _ ff
  obtain⟨a,b,r,ha,hb,hr,h1,h2,h3,h4,h5,rfl⟩:=qR hm
  unfold pv
  refine ML (a:=a) (b:=b) (fun x y hx hy h=>?_) ha hb ?_ ?_
  ·rw[hp,eX hx hy] at h
   rw[vZ,eX hx hy,h];rfl
  ·rw[hp,eX ha hb]
   cases hpp:p a b with
   |false=>rfl
   |true=>rw[l6 hpp] at h2;cases h2
  ·rw[vZ,eX ha hb,alI]
   exact .inr (r9.2 ⟨_,hm,J,J⟩)
 obtain⟨t,q,e1,e2⟩:=R1.pre
 refine⟨⟨⟨_,vZ⟩,fun a b ha hb h1 h2 h3=>?_,fun x y h=>?_,⟨p1,R1.pG,R1.ok⟩,?_⟩,aae,iw⟩
 ·have:=H.base a b ha hb h1 h2 h3
  rw[hp,eX ha hb] at this
  rw[vZ,eX ha hb,this];rfl
 ·obtain⟨a,b,rfl,rfl,ha,hb⟩:=En h
  rw[vZ,fy ha hb,alI] at h
  rcases h with h|h
  ·rw[e1]
   refine(H.gd _ _ ?_).mono
   rw[hp,fy ha hb];exact h
  ·obtain⟨e,hm,e3,e4⟩:=r9.1 h
   have hr:=ZI e hm
   obtain⟨a',b',r,_,_,Ab,h1,h2,h3,h4,h5,rfl⟩:=qR hm
   simp only at e3 e4 hr
   obtain rfl:a'=a:=by omega
   obtain rfl:b'=b:=by omega
   by_cases hE:qf I fo ((a':Nat):Int) ((b':Nat):Int)=true
   ·refine .inl ⟨hE,zd hb (l6 ?_) (mc O h3 ho).2⟩
    unfold ur Cm
    rw[alI,alC]
    exact .inr ((iI hl Ab).2 ((iI hl Ab).1 h4))
   ·exact .inr ⟨hr,by simpa using hE⟩
 ·have h1:=R1.len
  have h2:=H.len
  by_cases ff:es=[]
  ·have:dp ((I.length:Nat):Int) rs es=rs:=by rw[ff];rfl
   rw[this]
   rw[ff] at h1 ⊢
   simp only[gW,aoz,amw] at h1
   omega
  ·have h3:=aae ff
   have h4:es.length≤I.length*I.length:=by rw[he];exact tX _
   have h5:es.length*(2*I.length+2)≤I.length*I.length*(2*I.length+2):=amG _ h4
   have h6:(pv I rs+1)*(I.length*I.length*(2*I.length+2))≤pv I (dp ((I.length:Nat):Int) rs es)*(I.length*I.length*(2*I.length+2)):=amG _ h3
   rw[amH] at h6
   omega
theorem Rb (hl:fo.length=I.length) (hv:nD I fo) (O:et I) (ho:fB I o) (H:wT I fo o rs l) (hz:cJ I fo ((I.length:Nat):Int) (bU ((I.length:Nat):Int) rs) (dB I o) I.length=[]) {a b:Nat} (h:pN I fo o a b=true):cl I.length (dw rs) a b=true:=by
 obtain⟨p,hp⟩:=H.rel
 have qD:bU ((I.length:Nat):Int) rs=cO I.length (cl I.length p):=by rw[hp];exact mw
 rw[qD] at hz
 have hpr:∀x y,x<I.length→y<I.length→dw rs x y=p x y:=fun x y hx hy=>by rw[hp,eX hx hy]
 refine pd.1 h (fun a b=>cl I.length (dw rs) a b=true) ⟨fun x y hx hy hc h1 h2=>?_,fun x y z _ hy _ h1 h2=>nK hy h1 h2,fun x y r hr k=>?_⟩
 ·have key:=((om hx hy).1 hc).least (R:=fun u v=>jq I fo u v=true∧(fk (nT I fo o) ((v:Nat):Int)=true→cl I.length (dw rs) u v=true)) (fun u v hu yA he=>⟨l6 he,fun hw=>l6 (H.base u v hu yA he (zd hu (l6 he) hw) hw)⟩)
   fun u v w hu yA hw h1 h2=>⟨nK yA h1.1 h2.1,fun k=>nK yA (h1.2 (zd yA h2.1 k)) (h2.2 k)⟩
  exact key.2<|mz.2 h2
 ·have hb:y<I.length:=by
   have:=rI hv k
   unfold dE at this
   simp only[cA] at this
   have h3:=this.1.2
   unfold cm at h3
   rw[dC] at h3
   cases e:I[y]? with
   |none=>rw[e] at h3;cases h3
   |some _=>exact(eW.1 e).1
  have e1:cl I.length (dw rs) x r=cl I.length p x r:=tE (fun u v hu yA=>hpr u v hu yA) k.a1 k.r1
  have e2:cl I.length (dw rs) x y=cl I.length p x y:=tE (fun u v hu yA=>hpr u v hu yA) k.a1 hb
  have ah:=k.ah
  rw[e1] at ah
  rw[e2]
  have:=IW hz k.a1 hb (rI hv k) hr (by rw[dC];exact(iI hl k.r1).2 k.fr)<|by rw[fy k.a1 k.r1];exact ah
  rwa [fy k.a1 hb] at this
theorem Rc (hn:I.length≤12):pv I rs*(I.length*I.length*(2*I.length+2))≤144*(144*26):=by
 have h1:pv I rs≤I.length*I.length:=vz rs I
 have h2:I.length*I.length≤144:=by have:=amB hn hn;omega
 exact amB ai<|amB h2 ai
theorem Ra (hl:fo.length=I.length) (hn:I.length≤12) (hv:nD I fo) (O:et I) (ho:fB I o) (H:wT I fo o rs l) (hz:cJ I fo ((I.length:Nat):Int) (bU ((I.length:Nat):Int) rs) (dB I o) I.length=[]) {x y:Int} (hx:fB I x) (hy:fB I y) (h:pN I fo o x.toNat y.toNat=true):
  ∃pl,jZ I fo (bq I fo l ((I.length:Nat):Int) rs x y).1 pl∧te I fo (bq I fo l ((I.length:Nat):Int) rs x y).1 o=true∧fP (bq I fo l ((I.length:Nat):Int) rs x y).1 (bq I fo l ((I.length:Nat):Int) rs x y).2 x y=true∧(bq I fo l ((I.length:Nat):Int) rs x y).1.length≤600000:=by
 have hc:=Rb hl hv O ho H hz h
 obtain⟨pl,B,K⟩:=H.pG
 obtain⟨p,hp⟩:=H.rel
 have hR:=zN H ai
 obtain⟨p1,S⟩:=B1 (M:=Sh I fo o) (rs:=rs) (a:=x) (b:=y) B K hR (by
  rw[hp] at hc ⊢
  refine yd ai hx hy ?_
  rw[←hc]
  exact tE (fun u v hu yA=>(eX hu yA).symm) (by have:=hx.1;have:=hx.2;omega) (by have:=hy.1;have:=hy.2;omega)) H.gd
 have h1:=S.res.len
 have h2:=H.len
 have h3:=Rc (rs:=rs) hn
 refine⟨p1,S.res.pG,?_,S.th,by omega⟩
 unfold te
 rw[alW,amF]
 intro s hs
 rw[S.res.ok s hs];decide
theorem aab (hl:fo.length=I.length) (hn:I.length≤12) (hv:nD I fo) (O:et I) {r a:Int} (ho:fB I o) (hr:fB I r) (ha:fB I a) (hk:r∈dB I o) (h0:fo.getD r.toNat 0= -1) (h1:fe I (gU I r) a=false) (h:pN I fo o a.toNat r.toNat=true) (H:wT I fo o rs l) (hz:cJ I fo ((I.length:Nat):Int) (bU ((I.length:Nat):Int) rs) (dB I o) I.length=[]):
  Hd I fo 6 r a (-1) o (bq I fo l ((I.length:Nat):Int) rs a r).1 (bq I fo l ((I.length:Nat):Int) rs a r).2 (-1)∧(bq I fo l ((I.length:Nat):Int) rs a r).1.length≤600000:=by
 obtain⟨pl,B,hw,hs,hlen⟩:=Ra hl hn hv O ho H hz ha hr h
 refine⟨zM B (by unfold gA;simp) ?_,hlen⟩
 unfold iy
 simp only[show decide ((6:Int)=1)=false from rfl,show decide ((6:Int)=2)=false from rfl,show decide ((6:Int)=3)=false from rfl,show decide ((6:Int)=4)=false from rfl,show decide ((6:Int)=5)=false from rfl,anO,anj,ane,cA]
 exact⟨⟨⟨⟨D0 ho,Kh hr ha h0 h1⟩,mz.2 hk⟩,hw⟩,hs⟩
theorem T1 (hl:fo.length=I.length) (hn:I.length≤12) (hv:nD I fo) (O:et I) {a:Int} (ho:fB I o) (ha:fB I a) (h:pN I fo o a.toNat a.toNat=true) (H:wT I fo o rs l) (hz:cJ I fo ((I.length:Nat):Int) (bU ((I.length:Nat):Int) rs) (dB I o) I.length=[]):
  Hd I fo 7 (-1) a (-1) o (bq I fo l ((I.length:Nat):Int) rs a a).1 (bq I fo l ((I.length:Nat):Int) rs a a).2 (-1)∧(bq I fo l ((I.length:Nat):Int) rs a a).1.length≤600000:=by
 obtain⟨pl,B,hw,hs,hlen⟩:=Ra hl hn hv O ho H hz ha ha h
 refine⟨zM B (by unfold gA;simp) ?_,hlen⟩
 unfold iy
 simp only[show decide ((7:Int)=1)=false from rfl,show decide ((7:Int)=2)=false from rfl,show decide ((7:Int)=3)=false from rfl,show decide ((7:Int)=4)=false from rfl,show decide ((7:Int)=5)=false from rfl,show decide ((7:Int)=6)=false from rfl,anO,anj,ane,cA]
 exact⟨⟨NM ho ha,hw⟩,hs⟩
theorem yK {lv k r a b o:Int} {l:List aA} {s:Int}:eA I fo lv k r a b o l ((l.length:Nat):Int) s=false:=by
 cases h:eA I fo lv k r a b o l ((l.length:Nat):Int) s with
 |false=>rfl
 |true=>
  exfalso
  unfold eA at h
  simp only[cA] at h
  obtain⟨⟨⟨h1,h2⟩,h3⟩,h4⟩:=h
  have ZR:=Pr h3
  rw[an9] at ZR
  rw[ZR] at h4
  have p_:∀x y,fP l ((l.length:Nat):Int) x y=false:=by
   intro x y
   cases e:fP l ((l.length:Nat):Int) x y with
   |false=>rfl
   |true=>have:=B0 e;rw[dC] at this;omega
  unfold iy at h4
  by_cases k1:k=1
  ·subst k1
   rw[alW,amF] at h2
   have:=h2 ((l.length:Nat):Int)<|by unfold gA;simp
   simp only[alW,al1,Decidable.not_not] at this
   omega
  ·rw[alH k1] at h4
   simp only[p_,aoq,aop,ane] at h4
   repeat' split at h4
   all_goals first|cases h4|(revert h4;cases decide (k=2)<;>cases decide (k=3)<;>cases decide (k=4)<;>cases decide (k=5)<;>cases decide (k=6)<;>cases decide (k=7)<;>simp)
end
end Go.Ew
namespace Go.Ew
variable {y:wO}
section
variable {I:List aR} {fo:az}
theorem SE (hl:fo.length=I.length) (h:l9 fo 1=some y):mX I fo y.1 y.2.1 y.2.2.1 y.2.2.2.1 y.2.2.2.2:=by
 unfold l9 at h
 split at h
 ·rename_i h0
  obtain rfl:=alD h
  obtain⟨z,hz,e⟩:=Fe h0
  have e:=alT e
  subst e
  have dx:=(eW.1 hz).1
  refine .inl ⟨J,J,J,J,⟨h0,by show gx _ fo<_;omega⟩,?_⟩
  show fo.getD (gx (fun z_=>decide ((-2)=z_)) fo).toNat 0= -2
  rw[eH,hz];rfl
 ·cases h
theorem PN {n:Nat} {p:gk} {kd:Int} (h:m_ ((n:Nat):Int) (cO n p) kd=some y):∃i,i<n∧p i i=true∧y=(kd, -1, -1, -1,((i:Nat):Int)):=by
 unfold m_ at h
 obtain⟨i,hi,e⟩:=al'.1 h
 have dx:=zE hi
 rw[dC] at dx
 unfold eC at hi
 have:=anh hi
 rw[fy dx dx] at this
 exact⟨i,dx,this,e.symm⟩
theorem head_mem {l:az} (h:decide (0<((l.length:Nat):Int))=true):l.headD 0∈l:=by
 rw[alC] at h
 cases l with
 |nil=>simp at h
 |cons a l=>simp
theorem XQ (hl:fo.length=I.length) (h:Dy I fo ((I.length:Nat):Int) (bw I fo) 3=some y):mX I fo y.1 y.2.1 y.2.2.1 y.2.2.2.1 y.2.2.2.2:=by
 unfold Dy at h
 obtain⟨r,hr,rfl⟩:=al'.1 h
 unfold ED at hr
 have dx:=alF.1<|amL hr
 have hp:=anh hr
 unfold yX at hp
 rw[cA,alC] at hp
 have hm:=head_mem hp.2
 unfold bw at hm
 obtain⟨a,ha,h1,h2,h3⟩:=(nC ai).1 hm
 refine .inr (.inr (.inl ⟨J,J,J,⟨by simp,by show ((r:Nat):Int)<_;omega⟩,?_,?_,?_,?_⟩))
 ·show fB I ((iB I ((I.length:Nat):Int) (bw I fo) ((r:Nat):Int)).headD 0)
  unfold bw;rw[h3];exact⟨by simp,by omega⟩
 ·show fo.getD (((r:Nat):Int)).toNat 0= -1
  rw[dC];exact hp.1
 ·show fe I (gU I ((r:Nat):Int)) ((iB I ((I.length:Nat):Int) (bw I fo) ((r:Nat):Int)).headD 0)=false
  unfold bw;rw[h3];exact h2
 ·show jq I fo ((iB I ((I.length:Nat):Int) (bw I fo) ((r:Nat):Int)).headD 0).toNat (((r:Nat):Int)).toNat=true
  unfold bw;rw[h3];exact h1
theorem X1 (hl:fo.length=I.length) (dx:∀x∈fo,x<((I.length:Nat):Int)) (h:oT I fo ((I.length:Nat):Int) (bw I fo) 4=some y):mX I fo y.1 y.2.1 y.2.2.1 y.2.2.2.1 y.2.2.2.2:=by
 unfold oT at h
 obtain⟨r,hr,rfl⟩:=al'.1 h
 unfold BJ at hr
 have hrl:=alF.1<|amL hr
 have hp:=anh hr
 unfold tG at hp
 rw[cA] at hp
 have h0:¬fo.getD r 0<0:=by simpa using hp.1
 obtain⟨z,hz⟩:=alN.1 hp.2
 have GL:=hz
 unfold qT at GL
 have hm:=amL GL
 have hq:=anh GL
 unfold wI at hq
 rw[cA] at hq
 have ff:¬z=fo.getD r 0:=by simpa using hq.1
 have hc:=hq.2
 unfold bw at hm
 obtain⟨b,hb,h1,h2,rfl⟩:=(nC ai).1 hm
 have ln:fo[r]? =some (fo.getD r 0):=(iI hl ai).1 rfl
 have GZ:=dx _<|eh ln
 obtain⟨a,ha⟩:∃a:Nat,fo.getD r 0=((a:Nat):Int):=⟨(fo.getD r 0).toNat,by omega⟩
 rw[ha] at hc GZ ff
 unfold bw at hc
 rw[fy ai hb] at hc
 refine .inr (.inr (.inr (.inl ⟨J,J,⟨by simp,by show ((r:Nat):Int)<_;omega⟩,?_,?_,?_,?_,?_,?_,?_⟩)))
 ·show fB I (fo.getD r 0);rw[ha];exact⟨by simp,GZ⟩
 ·show fB I ((qT I fo _ _ r).getD 0);rw[hz];exact⟨by simp,by show ((b:Nat):Int)<_;omega⟩
 ·show fo.getD (((r:Nat):Int)).toNat 0=fo.getD r 0;rw[dC]
 ·show fo.getD r 0≠(qT I fo _ _ r).getD 0;rw[hz,ha];exact fun e=>ff e.symm
 ·show fe I (gU I ((r:Nat):Int)) ((qT I fo _ _ r).getD 0)=false;rw[hz];exact h2
 ·show jq I fo ((qT I fo _ _ r).getD 0).toNat (((r:Nat):Int)).toNat=true;rw[hz];exact h1
 ·show jq I fo (fo.getD r 0).toNat ((qT I fo _ _ r).getD 0).toNat=true;rw[hz,ha];exact hc
theorem Yo (hl:fo.length=I.length) (O:et I) (h:Gl I fo 6=some y):mX I fo y.1 y.2.1 y.2.2.1 y.2.2.2.1 y.2.2.2.2:=by
 unfold Gl at h
 obtain⟨o,ho,rfl⟩:=al'.1 h
 unfold PB at ho
 have ib:=alF.1<|amL ho
 have hp:=anh ho
 unfold Iw at hp
 obtain⟨z,hz⟩:=alN.1 hp
 have GL:=hz
 unfold Gk at GL
 have hm:=amL GL
 have hq:=anh GL
 have hoN:fB I ((o:Nat):Int):=⟨by simp,by omega⟩
 obtain⟨Zx,_⟩:=mc (fo:=fo) O hm hoN
 obtain⟨r,rfl⟩:∃r:Nat,z=((r:Nat):Int):=⟨z.toNat,by have:=Zx.1;omega⟩
 have hr:r<I.length:=by have:=Zx.2;omega
 unfold xZ at hq
 rw[cA,alC] at hq
 have hh:=head_mem hq.2
 unfold iu at hh
 obtain⟨a,ha,h1,h2,h3⟩:=(nC hr).1 hh
 have e:iB I ((I.length:Nat):Int) (iu I fo ((o:Nat):Int)) ((r:Nat):Int)=iB I ((I.length:Nat):Int) (cO I.length (pN I fo ((o:Nat):Int))) ((r:Nat):Int):=rfl
 simp only[hz,amv]
 rw[e,h3]
 exact .inr (.inr (.inr (.inr (.inr (.inl ⟨J,J,hoN,Zx,⟨by simp,by show ((a:Nat):Int)<_;omega⟩,hm,hq.1,h2,h1⟩)))))
theorem Yk (h:Gi I fo 7=some y):mX I fo y.1 y.2.1 y.2.2.1 y.2.2.2.1 y.2.2.2.2:=by
 unfold Gi at h
 obtain⟨o,ho,rfl⟩:=al'.1 h
 unfold Pm at ho
 have ib:=alF.1<|amL ho
 have hp:=anh ho
 unfold UQ at hp
 obtain⟨i,hi⟩:=alN.1 hp
 have dx:=zE hi
 rw[dC] at dx
 have r5:=hi
 unfold eC at r5
 have hx:=anh r5
 unfold iu at hx
 rw[fy dx dx] at hx
 simp only[hi,amv]
 exact .inr (.inr (.inr (.inr (.inr (.inr ⟨J,J,J,⟨by simp,by show ((o:Nat):Int)<_;omega⟩,⟨by simp,by show ((i:Nat):Int)<_;omega⟩,hx⟩)))))
theorem W5 (hl:fo.length=I.length) (dx:∀x∈fo,x<((I.length:Nat):Int)) (O:et I) {k:Int} (hk:k=1∨k=2∨k=3∨k=4∨k=5∨k=6∨k=7) (h:fT I fo k=some y):y.1=k∧mX I fo y.1 y.2.1 y.2.2.1 y.2.2.2.1 y.2.2.2.2:=by
 unfold fT at h
 rcases hk with rfl|rfl|rfl|rfl|rfl|rfl|rfl
 ·simp only[ana] at h
  refine⟨?_,SE hl h⟩
  unfold l9 at h;split at h
  ·rw[←alD h]
  ·cases h
 ·simp only[Int.reduceEq,ana,amo] at h
  unfold bw at h
  obtain⟨i,hi,h1,rfl⟩:=PN h
  exact⟨J,.inr (.inl ⟨J,J,J,J,⟨by simp,by show ((i:Nat):Int)<_;omega⟩,h1⟩)⟩
 ·simp only[Int.reduceEq,ana,amo] at h
  refine⟨?_,XQ hl h⟩
  unfold Dy at h
  obtain⟨_,_,rfl⟩:=al'.1 h;rfl
 ·simp only[Int.reduceEq,ana,amo] at h
  refine⟨?_,X1 hl dx h⟩
  unfold oT at h
  obtain⟨_,_,rfl⟩:=al'.1 h;rfl
 ·simp only[Int.reduceEq,ana,amo] at h
  unfold MM at h
  obtain⟨i,hi,h1,rfl⟩:=PN h
  exact⟨J,.inr (.inr (.inr (.inr (.inl ⟨J,J,J,J,⟨by simp,by show ((i:Nat):Int)<_;omega⟩,h1⟩))))⟩
 ·simp only[Int.reduceEq,ana,amo] at h
  refine⟨?_,Yo hl O h⟩
  unfold Gl at h
  obtain⟨_,_,rfl⟩:=al'.1 h;rfl
 ·simp only[Int.reduceEq,ana,amo] at h
  refine⟨?_,Yk h⟩
  unfold Gi at h
  obtain⟨_,_,rfl⟩:=al'.1 h;rfl
theorem Ug (hl:fo.length=I.length) (dx:∀x∈fo,x<((I.length:Nat):Int)) (O:et I) {lv:Int} (h:nz I fo lv=some y):y.1∈ez lv∧mX I fo y.1 y.2.1 y.2.2.1 y.2.2.2.1 y.2.2.2.2:=by
 unfold nz at h
 obtain⟨k,hk,h⟩:=List.exists_of_findSome?_eq_some h
 obtain⟨h1,h2⟩:=W5 hl dx O (vS hk) h
 exact⟨by rw[h1];exact hk,h2⟩
end
end Go.Ew
namespace Go.Ew
variable {a b x n:Int} {p:az} {ls:List aA} {rs:Rows} {es:List i'} {q:Nat}
section
variable {I:List aR} {fo:az} {l:List aA}
theorem S0 {a b:Int} {j:Nat} (h:(l.take j).any (qQ a b)=false) (hj:l.length≤j): -1=iR l a b:=by
 rw[alU hj] at h
 unfold iR gx
 cases e:l.findIdx? (qQ a b) with
 |none=>rfl
 |some i=>
  obtain⟨h1,h2,_⟩:=amz.1 e
  rw[amF] at h
  exact absurd h2<|h _<|ant h1
theorem SZ {j:Nat} {x:aA} (hx:l[((j:Nat):Int).toNat]? =some x) (h:(l.take j).any (qQ a b)=false) (hp:qQ a b x=true):((j:Nat):Int)=iR l a b:=pY hx h hp
theorem SY: -1≤iR l a b∧iR l a b≤((l.length:Nat):Int):=by
 unfold iR
 have h:=u7 (p:=qQ a b) (r:=l)
 exact h
theorem MJ (O:et I) (hx:fo[b.toNat]? =some x) (h1:decide (x=a)=false) (h2:sf I a b=false):dg I fo l a b=(l,iR l a b):=by
 unfold dg qf
 rw[eH,hx,←Cg O,h2]
 simp only[amv,h1,amn,aoi,amo]
theorem MH (hx:fo[b.toNat]? =some x) (h1:decide (x=a)=true):dg I fo l a b=(l++[(2,a,b, -1, -1)],((l.length:Nat):Int)):=by
 have e:=alT h1
 subst e
 have g:fo.getD b.toNat 0=x:=by rw[eH,hx];rfl
 unfold dg qf
 rw[g,alE (by rw[alM rfl];rfl),alE rfl]
theorem MI (O:et I) (hx:fo[b.toNat]? =some x) (h1:decide (x=a)=false) (h2:sf I a b=true):dg I fo l a b=(l++[(1,a,b, -1, -1)],((l.length:Nat):Int)):=by
 unfold dg qf
 rw[eH,hx,←Cg O,h2]
 simp only[amv,Bool.or_true,ana,alG (al3 h1)]
theorem Dw:(dg I fo l a b).1.length≤l.length+1∧ -1≤(dg I fo l a b).2∧(dg I fo l a b).2≤((l.length:Nat):Int):=by
 unfold dg
 split
 ·refine⟨by rw[im];exact alL _,?_,ao1 _⟩
  show -1≤((l.length:Nat):Int);omega
 ·have:=SY (l:=l) (a:=a) (b:=b)
  exact⟨ao0 _,this.1,by show iR l a b≤_;omega⟩
theorem wo {k:Nat} {i:Int} (h:p[i.toNat]? =some x) (e:i=((k:Nat):Int)):p.getD k 0=x:=by
 subst e
 rw[dC] at h
 rw[eH,h];rfl
theorem tF {y:Int} (hx:p[(0:Int).toNat]? =some x) (hy:p[(1:Int).toNat]? =some y):dg I fo l x y=jr I fo l p 0:=by
 unfold jr
 rw[wo (k:=0) hx rfl,wo (k:=1) hy rfl]
theorem X0 {k:Nat} {at_:Int} {y u v:Int} (h:ls=(jr I fo l p k).1∧at_=(jr I fo l p k).2) (hx:p[(((k:Nat):Int)+2-1).toNat]? =some x) (hy:p[(((k:Nat):Int)+2).toNat]? =some y) (hu:p[(0:Int).toNat]? =some u) (hv:p[(((k:Nat):Int)+2).toNat]? =some v):
  (dg I fo ls x y).1++[(3,u,v,at_,(dg I fo ls x y).2)]=(jr I fo l p (k+1)).1∧(((dg I fo ls x y).1.length:Nat):Int)=(jr I fo l p (k+1)).2:=by
 obtain⟨h1,h2⟩:=h
 obtain rfl:=alD (hy.symm.trans hv)
 unfold jr
 rw[wo (k:=k+1) hx ai,wo (k:=k+2) hy ai,wo (k:=0) hu rfl,←h1,←h2]
 exact⟨J,J⟩
theorem Tk (hR:cq n rs=true) (hs:(cD n rs a b).isSome=true) (hx:x∈(cD n rs a b).getD []):0≤x∧x<n:=by
 have mK:(0≤a∧a<n)∧0≤b∧b<n:=by
  unfold cD at hs
  split at hs
  ·rename_i h;exact⟨⟨h.1,h.2.1⟩,h.2.2⟩
  ·cases hs
 have h2:=C7 hR mK.1 mK.2 hs
 have h3:=IL hR mK.1 mK.2 hs
 generalize (cD n rs a b).getD []=p at *
 unfold QR at h3
 rw[cA,alK] at h3
 obtain⟨j,hj⟩:=aoB hx
 have rZ:=(eW.1 hj).1
 have iw:∀{x y},dG n rs x y=true→(0≤x∧x<n)∧0≤y∧y<n:=by
  intro x y h
  unfold dG at h
  rw[cA] at h
  exact jC.1 h.1
 have g:p.getD j 0=x:=by rw[eH,hj];rfl
 by_cases pB:j+1<p.length
 ·have:=(iw<|h3.2 j<|alF.2 ai).1
  rwa [g] at this
 ·have:=(iw<|h3.2 (j-1)<|alF.2 ai).2
  rwa [show j-1+1=j by omega,g] at this
theorem Gw (hR:cq n rs=true) (hs:(cD n rs a b).isSome=true):2≤((cD n rs a b).getD []).length∧((((cD n rs a b).getD []).length:Nat):Int)≤n+1:=by
 have mK:(0≤a∧a<n)∧0≤b∧b<n:=by
  unfold cD at hs
  split at hs
  ·rename_i h;exact⟨⟨h.1,h.2.1⟩,h.2.2⟩
  ·cases hs
 exact C7 hR mK.1 mK.2 hs
theorem F1 {p:az}:∀k,(jr I fo l p k).1.length≤l.length+(2*k+1)∧ -1≤(jr I fo l p k).2∧(jr I fo l p k).2≤((l.length+(2*k+1):Nat):Int)
 |0=>by
  have:=Dw (I:=I) (fo:=fo) (l:=l) (a:=p.getD 0 0) (b:=p.getD 1 0)
  unfold jr
  omega
 |k+1=>by
  have h1:=F1 (p:=p) k
  have h2:=Dw (I:=I) (fo:=fo) (l:=(jr I fo l p k).1) (a:=p.getD (k+1) 0) (b:=p.getD (k+2) 0)
  unfold jr
  refine⟨?_,?_,?_⟩
  ·rw[im]
   show _+1≤_
   omega
  ·show -1≤((_:Nat):Int);omega
  ·show ((_:Nat):Int)≤_;omega
theorem C2 (hR:cq n rs=true) (hs:(cD n rs a b).isSome=true):(bq I fo l n rs a b).1.length≤l.length+(2*n.toNat+1)∧ -1≤(bq I fo l n rs a b).2∧(bq I fo l n rs a b).2≤((l.length+(2*n.toNat+1):Nat):Int):=by
 have h1:=Gw hR hs
 have h2:=F1 (I:=I) (fo:=fo) (l:=l) (p:=(cD n rs a b).getD [])<|((cD n rs a b).getD []).length-2
 unfold bq
 omega
theorem DB {n:Int} {rs:Rows} (hR:cq n rs=true) (hn:n.toNat≤64):∀{es:List i'} {l:List aA},(∀x∈es,(cD n rs x.1 x.2.2).isSome=true)→(eg I fo n rs l es).length≤l.length+es.length*130
 |[],l,_=>alL _
 |x::es,l,h=>by
  have h1:(sG I fo n rs l x).length≤l.length+130:=by
   unfold sG
   split
   ·omega
   ·have:=(C2 (I:=I) (fo:=fo) (l:=l) hR<|h x al5).1
    rw[im]
    show _+1≤_
    omega
  have h2:=DB hR hn (es:=es) (l:=sG I fo n rs l x) fun y hy=>h y (alV _ hy)
  show (eg I fo n rs (sG I fo n rs l x) es).length≤_
  rw[jv,amH];omega
theorem Uq (hR:cq n rs=true) (hn:n.toNat≤64) (h:∀x∈es,(cD n rs x.1 x.2.2).isSome=true) (he:ls=eg I fo n rs l (es.take q)):ls.length≤l.length+q*130:=by
 rw[he]
 refine Nat.le_trans (DB hR hn fun x hx=>h x (aoA hx)) ?_
 have:(es.take q).length≤q:=by rw[lY];omega
 have:=amG 130 this
 omega
theorem Nq {n:Nat} (hn:n≤4096) (h:cq ((n:Nat):Int) rs=true) (he:xD n es):cq ((n:Nat):Int) (dp ((n:Nat):Int) rs es)=true:=by
 have:=Gs h
 rw[dC] at this
 rw[this,oz he];exact kx hn
theorem sm {n:Nat} {k m:Int} {ms:Rows} (hn:n≤4096) (hk:k=((n:Nat):Int)) (h:cq k rs=true) (he:xD n es) (hm:m=k∧ms=dp k rs (es.take q)):cq m ms=true:=by
 obtain⟨rfl,rfl⟩:=hm
 subst hk
 exact Nq hn h fun e h=>he e (aoA h)
theorem CY {n2:Int} {ms:Rows} {x:i'} (h:n2=n∧ms=dp n rs (es.take q)) (hx:es[((q:Nat):Int).toNat]? =some x) (hi:mH n [x.1,x.2.1]=true):dP n2 x.1 x.2.1=n∧bL n2 ms x.1 x.2.1=dp n rs (es.take (q+1)):=by
 obtain⟨rfl,rfl⟩:=h
 rw[dC] at hx
 refine⟨by unfold dP;rw[alE hi],?_⟩
 rw[amY,hx]
 unfold dp
 rw[anE];rfl
theorem Km {x:i'} (h:ls=eg I fo n rs l (es.take q)) (hx:es[((q:Nat):Int).toNat]? =some x):sG I fo n rs ls x=eg I fo n rs l (es.take (q+1)):=by
 rw[dC] at hx
 rw[amY,hx,h]
 unfold eg
 rw[anE];rfl
theorem Uo {x:i'} (h:decide (0≤iR l x.1 x.2.1)=true):l=sG I fo n rs l x:=by unfold sG;rw[alE (alT h)]
theorem XW {x:i'} (h:decide (0≤iR l x.1 x.2.1)=false):(bq I fo l n rs x.1 x.2.2).1++[(4,x.1,x.2.1,(bq I fo l n rs x.1 x.2.2).2,x.2.2)]=sG I fo n rs l x:=by unfold sG;rw[alG (al3 h)]
theorem QN (lv:Int):gR lv=ez lv:=by unfold gR ez;rfl
end
end Go.Ew
namespace Go.Ew
variable {x:Int}
section
variable {I:List aR} {fo:az} {n:Int} {rs:Rows} {a b q:Nat}
def tO (I:List aR) (a b:Int):Bool:=cm I a&&cm I b&&decide (gU I a=gU I b)
theorem D3 (a b:Int):dE I a b=(!decide (a=b)&&tO I a b):=by unfold dE tO;rw[aoK,aoK,aoK]
theorem RG (hx:fo[((q:Nat):Int).toNat]? =some x) {c:Bool} (h:(!decide (((a:Nat):Int)=((b:Nat):Int))&&tO I ((a:Nat):Int) ((b:Nat):Int)&&decide (x=((b:Nat):Int))&&dG n rs ((a:Nat):Int) ((q:Nat):Int))=c):
  (dE I ((a:Nat):Int) ((b:Nat):Int)&&decide (fo.getD q 0=((b:Nat):Int))&&dG n rs ((a:Nat):Int) ((q:Nat):Int))=c:=by
 rw[dC] at hx
 rw[D3,eH,hx]
 exact h
theorem RD (hx:fo[((q:Nat):Int).toNat]? =some x) (h:(!decide (((a:Nat):Int)=((b:Nat):Int))&&tO I ((a:Nat):Int) ((b:Nat):Int)&&decide (x=((b:Nat):Int))&&dG n rs ((a:Nat):Int) ((q:Nat):Int))=true):mQ I fo n rs a b q++[(((a:Nat):Int),((b:Nat):Int),((q:Nat):Int))]=mQ I fo n rs a b (q+1):=by
 have:=RG hx h
 unfold mQ
 rw[al6,am1]
 congr 1
 simp only[ame,aog]
 unfold Dx
 rw[alE this]
theorem Kg (h:Dx I fo n rs a b q=none):mQ I fo n rs a b q=mQ I fo n rs a b (q+1):=by
 unfold mQ
 rw[al6,am1]
 simp only[ame,aog,h,amA]
theorem G5 (hx:fo[((q:Nat):Int).toNat]? =some x) (h:(!decide (((a:Nat):Int)=((b:Nat):Int))&&tO I ((a:Nat):Int) ((b:Nat):Int)&&decide (x=((b:Nat):Int))&&dG n rs ((a:Nat):Int) ((q:Nat):Int))=false):mQ I fo n rs a b q=mQ I fo n rs a b (q+1):=by
 have:=RG hx h
 refine Kg ?_
 unfold Dx
 rw[alG (by rw[this];simp)]
theorem G7 (h:(!decide (((a:Nat):Int)=((b:Nat):Int))&&tO I ((a:Nat):Int) ((b:Nat):Int))=false):mQ I fo n rs a b q=mQ I fo n rs a b (q+1):=by
 refine Kg ?_
 unfold Dx
 rw[D3,h,alG (by simp)]
theorem RE (hq:I.length≤q) (j7:q≤I.length):ry I fo n rs a b++mQ I fo n rs a b q=ry I fo n rs a (b+1):=by
 have:q=I.length:=by omega
 subst this
 unfold ry
 rw[al6,amJ]
 simp
theorem RF (hq:I.length≤b) (j7:b≤I.length):bP I fo n rs a++ry I fo n rs a b=bP I fo n rs (a+1):=by
 have:b=I.length:=by omega
 subst this
 unfold bP
 rw[al6,amJ]
 simp
theorem G9 (h1:a≤64) (h2:b≤64) (h3:q≤64) (hn:I.length≤64):(bP I fo n rs a++ry I fo n rs a b++mQ I fo n rs a b q).length≤300000:=by
 have k1:=Bz (I:=I) (fo:=fo) (n:=n) (rs:=rs) a
 have k2:=G8 (I:=I) (fo:=fo) (n:=n) (rs:=rs) a b
 have k3:=G6 (I:=I) (fo:=fo) (n:=n) (rs:=rs) a b q
 have k4:a*(I.length*I.length)≤64*(64*64):=amB h1<|amB hn hn
 have k5:b*I.length≤64*64:=amB h2 hn
 rw[im,im];omega
theorem B_ {l:az} {r:Int} (h:l[r.toNat]? =some x):l.getD r.toNat 0=x:=by rw[eH,h];rfl
theorem OY {α:Type} {x A B R R':List α} (h:x=A++B++R) (k:R=R'):x=A++B++R':=by rw[h,k]
theorem agz {α:Type} {x A B R R' e:List α} (h:x=A++B++R) (k:R++e=R'):x++e=A++B++R':=by rw[h,alY,k]
def D9 (fo:az) (n:Int) (rs:Rows) (a b:Nat) (r:Int):Bool:=decide (fo.getD r.toNat 0=((b:Nat):Int))&&dG n rs ((a:Nat):Int) r
variable {kp:az}
theorem D_ (h:Da I fo n rs kp a b=none):ma I fo n rs kp a b=ma I fo n rs kp a (b+1):=by
 unfold ma
 rw[al6,am1]
 simp only[ame,aog,h,amA]
theorem sz (h:(dE I ((a:Nat):Int) ((b:Nat):Int)&&!dG n rs ((a:Nat):Int) ((b:Nat):Int))=false):ma I fo n rs kp a b=ma I fo n rs kp a (b+1):=by
 refine D_ ?_
 unfold Da
 rw[alG (by rw[h];simp)]
theorem Qu {j:Nat} (h:(dE I ((a:Nat):Int) ((b:Nat):Int)&&!dG n rs ((a:Nat):Int) ((b:Nat):Int))=true) (hs:∀y∈kp.take j,D9 fo n rs a b y=false) (hj:kp.length≤j):ma I fo n rs kp a b=ma I fo n rs kp a (b+1):=by
 rw[alU hj] at hs
 refine D_ ?_
 unfold Da
 rw[alE h,am2.2 (fun y hy=>by have:=hs y hy;unfold D9 at this;rw[this];simp)];rfl
theorem Qt {j:Nat} (h:(dE I ((a:Nat):Int) ((b:Nat):Int)&&!dG n rs ((a:Nat):Int) ((b:Nat):Int))=true) (hs:∀y∈kp.take j,D9 fo n rs a b y=false) (hx:kp[((j:Nat):Int).toNat]? =some x) (hq:D9 fo n rs a b x=true):ma I fo n rs kp a b++[(((a:Nat):Int),((b:Nat):Int),x)]=ma I fo n rs kp a (b+1):=by
 have hf:=Rp hs hx hq
 unfold ma
 rw[al6,am1]
 congr 1
 simp only[ame,aog]
 unfold Da
 unfold D9 at hf
 rw[alE h,hf];rfl
theorem Qv (hq:I.length≤b) (j7:b≤I.length):cJ I fo n rs kp a++ma I fo n rs kp a b=cJ I fo n rs kp (a+1):=by
 have:b=I.length:=by omega
 subst this
 unfold cJ
 rw[al6,amJ]
 simp
theorem Qw (h1:a≤64) (h2:b≤64) (hn:I.length≤64):(cJ I fo n rs kp a++ma I fo n rs kp a b).length≤5000:=by
 have k1:=tX (I:=I) (fo:=fo) (n:=n) (rs:=rs) (kp:=kp) a
 have k2:=GF (I:=I) (fo:=fo) (n:=n) (rs:=rs) (kp:=kp) a b
 have k4:a*I.length≤64*64:=amB h1 hn
 rw[im];omega
end
end Go.Ew
namespace Go.Ew
variable {j:Nat} {x kd r:Int}
section
variable {I:List aR} {fo:az} {n:Int} {rs:Rows} {o:Int}
theorem Po (hx:fo[((j:Nat):Int).toNat]? =some x) (hs:(fo.take j).any (fun z_=>decide ((-2)=z_))=false) (h:decide (x= -2)=true):l9 fo 1=some (1,((j:Nat):Int), -1, -1, -1):=by
 have e:((j:Nat):Int)=gx (fun z_:Int=>decide ((-2)=z_)) fo:=pY hx hs<|by rw[alT h];rfl
 unfold l9
 rw[←e,alE (ami _)]
theorem acu (hx:fo[((j:Nat):Int).toNat]? =some x) (hs:(fo.take j).any (fun z_=>decide ((-2)=z_))=false) (h:decide (x= -2)=false):(fo.take (j+1)).any (fun z_=>decide ((-2)=z_))=false:=kF hx hs (by rw[al1] at h ⊢;omega)
theorem LH (hs:(fo.take j).any (fun z_=>decide ((-2)=z_))=false) (hj:fo.length≤j):l9 fo 1=none:=by
 rw[alU hj] at hs
 have h:=rC (p:=fun z_:Int=>decide ((-2)=z_)) (r:=fo)
 rw[hs] at h
 unfold l9
 rw[alG (al3 h)]
def j2 (I:List aR) (fo:az) (n:Int) (rs:Rows) (kd:Int) (l:az):Option wO:=(l.find? (xZ I fo n rs)).map fun r=>(kd,r,(iB I n rs r).headD 0, -1, -1)
theorem XP {l:az} (hs:∀y∈l.take j,xZ I fo n rs y=false) (hj:l.length≤j):j2 I fo n rs kd l=none:=by unfold j2;rw[aa_ hs hj];rfl
theorem ac3 {l:az} {y:Int} (h:l[(0:Int).toNat]? =some y):l.headD 0=y:=by
 cases l with
 |nil=>cases h
 |cons a l=>exact alD h
theorem abg {l:az} {y:Int} (hs:∀y∈l.take j,xZ I fo n rs y=false) (hx:l[((j:Nat):Int).toNat]? =some x) (h:xZ I fo n rs x=true) (hy:(iB I n rs x)[(0:Int).toNat]? =some y):j2 I fo n rs kd l=some (kd,x,y, -1, -1):=by
 unfold j2;rw[Rp hs hx h,amq,ac3 hy]
theorem abh (hl:fo.length=I.length):j2 I fo n rs kd (jB (List.range I.length))=Dy I fo n rs kd:=by
 unfold j2 Dy ED jB
 rw[hl,List.find?_map,Option.map_map]
 have:(xZ I fo n rs∘fun k:Nat=>((k:Nat):Int))=yX I fo n rs:=by
  funext k
  simp only[Function.comp]
  unfold xZ yX
  rw[dC]
 rw[this];rfl
theorem zZ {x:aR} (hx:I[r.toNat]? =some x):iB I n rs r=aV (fe I x.2.2.2.1) (ee n rs r):=by unfold iB gU;rw[hx];rfl
theorem Iv {y:Int} {x:aR} (hx:I[r.toNat]? =some x) (hy:fo[r.toNat]? =some y):xZ I fo n rs r=(decide (y= -1)&&decide (0<(((aV (fe I x.2.2.2.1) (ee n rs r)).length:Nat):Int))):=by unfold xZ;rw[zZ hx,B_ hy]
theorem snw (hl:fo.length=I.length) (hv:nD I fo) (O:et I) (ho:fB I o) (h:Sf I fo o n rs) {es:List i'} (he:es=cJ I fo n rs (dB I o) I.length):
  Sf I fo o n (bU n (dp n rs es))∧(es≠[]→pv I rs<pv I (bU n (dp n rs es)))∧xD I.length es∧(es=[]→rs=iu I fo o):=by
 obtain⟨rfl,p,rfl,q⟩:=h
 have qR:∀{e},e∈es→∃a b r:Nat,a<I.length∧b<I.length∧r<I.length∧dE I ((a:Nat):Int) ((b:Nat):Int)=true∧p a b=false∧((r:Nat):Int)∈dB I o∧fo.getD r 0=((b:Nat):Int)∧p a r=true∧e=(((a:Nat):Int),((b:Nat):Int),((r:Nat):Int)):=by
  intro e hm
  rw[he] at hm
  obtain⟨a,b,ha,hb,h1,h2,r,h3,h4,h5,rfl⟩:=C' hm
  have hr:=(mc (fo:=fo) O h3 ho).1
  obtain⟨r,rfl⟩:∃q:Nat,r=((q:Nat):Int):=⟨r.toNat,by have:=hr.1;omega⟩
  have xn:r<I.length:=by have:=hr.2;omega
  rw[fy ha hb] at h2
  rw[fy ha xn] at h5
  exact⟨a,b,r,ha,hb,xn,h1,h2,h3,by simpa using h4,h5,J⟩
 have iw:xD I.length es:=by
  intro e hm
  obtain⟨a,b,r,ha,hb,_,_,_,_,_,_,rfl⟩:=qR hm
  exact jC.2 ⟨⟨ami _,anY.2 ha⟩,ami _,anY.2 hb⟩
 have vZ:bU ((I.length:Nat):Int) (dp ((I.length:Nat):Int) (cO I.length p) es)=cO I.length (cl I.length fun a b=>p a b||BA es a b):=by rw[oz iw];exact mw
 rw[vZ]
 refine⟨⟨J,_,J,adE _ _,?_,?_⟩,?_,iw,?_⟩
 ·intro a b ha hb h1 h2 h3
  exact l6<|by simp[q.base a b ha hb h1 h2 h3]
 ·intro R hR a b ha hb h
  refine((om ha hb).1 h).least (fun x y hx hy hp=>?_) fun x y z hx hy hz=>hR.trans x y z hx hy hz
  rcases alI _ _▸hp with hp|hp
  ·exact q.le R hR x y hx hy hp
  ·obtain⟨e,hm,e1,e2⟩:=r9.1 hp
   obtain⟨a',b',r',Rg,Af,Ab,h1,h2,h3,h4,h5,rfl⟩:=qR hm
   simp only at e1 e2
   obtain rfl:a'=x:=by omega
   obtain rfl:b'=y:=by omega
   obtain⟨n1,n2,_⟩:=vL (ami _) (ami _) h1
   exact hR.IC a' b' r' h3 ⟨Rg,Ab,(iI hl Ab).1 h4,fun e=>n1 (by rw[e]),n2,q.le R hR a' r' Rg Ab h5⟩
 ·intro ff
  obtain⟨e,hm⟩:=List.exists_mem_of_ne_nil _ ff
  obtain⟨a,b,r,ha,hb,_,_,h2,_,_,_,rfl⟩:=qR hm
  unfold pv
  refine ML (a:=a) (b:=b) (fun x y hx hy h=>?_) ha hb ?_ ?_
  ·rw[eX hx hy] at h ⊢
   exact l6<|by simp[h]
  ·rw[eX ha hb];exact h2
  ·rw[eX ha hb]
   refine l6 ?_
   rw[alI]
   exact .inr (r9.2 ⟨_,hm,J,J⟩)
 ·intro hz
  rw[he] at hz
  have hR:MX I fo o (fun a b=>p a b=true):=by
   refine⟨q.base,q.tr,fun a b r hr k=>?_⟩
   have hb:b<I.length:=by
    have:=rI hv k
    unfold dE at this
    simp only[cA] at this
    have h3:=this.1.2
    unfold cm at h3
    rw[dC] at h3
    cases e:I[b]? with
    |none=>rw[e] at h3;cases h3
    |some _=>exact(eW.1 e).1
   have:=IW hz k.a1 hb (rI hv k) hr (by rw[dC];exact(iI hl k.r1).2 k.fr)<|by rw[fy k.a1 k.r1];exact k.ah
   rwa [fy k.a1 hb] at this
  refine dL fun a b ha hb=>?_
  rw[al0,pd]
  exact⟨fun h R hR=>q.le R hR a b ha hb h,fun h=>h _ hR⟩
noncomputable def kR (I:List aR) (fo:az) (kd:Int):Option wO:=if kd=6 then Gl I fo 6 else Gi I fo kd
noncomputable def l_ (I:List aR) (fo:az) (kd:Int) (q:Nat):Bool:=if kd=6 then Iw I fo q else UQ I fo q
theorem Gn (hs:∀q,q<j→l_ I fo kd q=false) (hj:I.length≤j):kR I fo kd=none:=by
 unfold kR
 by_cases h:kd=6
 ·rw[alE h]
  unfold Gl PB
  rw[Du (fun q hq=>by have:=hs q hq;unfold l_ at this;rwa [alE h] at this) hj];rfl
 ·rw[alG h]
  unfold Gi Pm
  rw[Du (fun q hq=>by have:=hs q hq;unfold l_ at this;rwa [alG h] at this) hj];rfl
theorem RH (kd:Int):(j2 I fo ((I.length:Nat):Int) (iu I fo ((j:Nat):Int)) kd (dB I ((j:Nat):Int))).isSome=Iw I fo j:=by unfold j2 Iw Gk;rw[anQ]
theorem SL (hs:∀q,q<j→l_ I fo 6 q=false) (hj:j<I.length) {k a b z:Int} (h:oE (j2 I fo ((I.length:Nat):Int) (iu I fo ((j:Nat):Int)) 6 (dB I ((j:Nat):Int))) k r a b z) (h2:(j2 I fo ((I.length:Nat):Int) (iu I fo ((j:Nat):Int)) 6 (dB I ((j:Nat):Int))).isSome=true):kR I fo 6=some (k,r,a,b,((j:Nat):Int)):=by
 obtain⟨y,hy⟩:=alN.1 h2
 have e:=h.2 y hy
 rw[RH] at h2
 have hf:PB I fo=some j:=FW (fun q hq=>by have:=hs q hq;unfold l_ at this;rwa [alE J] at this) hj h2
 rw[e] at hy
 unfold kR
 rw[alE rfl]
 unfold Gl
 rw[hf,amq]
 unfold j2 at hy
 obtain⟨r',Ab,hy⟩:=al'.1 hy
 simp only[Prod.mk.injEq] at hy
 obtain⟨rfl,rfl,rfl,rfl,rfl⟩:=hy
 unfold Gk
 rw[Ab];rfl
theorem Nt (hk:kd≠6) (hs:∀q,q<j→l_ I fo kd q=false) (hj:j<I.length) (h2:(eC ((I.length:Nat):Int) (iu I fo ((j:Nat):Int))).isSome=true):kR I fo kd=some (kd, -1,(((eC ((I.length:Nat):Int) (iu I fo ((j:Nat):Int))).getD 0:Nat):Int), -1,((j:Nat):Int)):=by
 have hf:Pm I fo=some j:=FW (fun q hq=>by have:=hs q hq;unfold l_ at this;rwa [alG hk] at this) hj h2
 unfold kR
 rw[alG hk]
 unfold Gi
 rw[hf];rfl
theorem Gm (hs:∀q,q<j→l_ I fo kd q=false) (h:l_ I fo kd j=false):∀q,q<j+1→l_ I fo kd q=false:=Dt hs h
theorem SN (h:(j2 I fo ((I.length:Nat):Int) (iu I fo ((j:Nat):Int)) 6 (dB I ((j:Nat):Int))).isSome=false):l_ I fo 6 j=false:=by unfold l_;rw[alE rfl,←RH 6];exact h
theorem SM (hk:kd≠6) (h:(eC ((I.length:Nat):Int) (iu I fo ((j:Nat):Int))).isSome=false):l_ I fo kd j=false:=by unfold l_;rw[alG hk];exact h
theorem YK:fT I fo 1=l9 fo 1:=by unfold fT;rw[alE rfl]
theorem YJ:fT I fo 2=m_ ((I.length:Nat):Int) (bw I fo) 2:=by unfold fT;simp
theorem YI (hl:fo.length=I.length):fT I fo 3=j2 I fo ((I.length:Nat):Int) (bw I fo) 3 (jB (List.range I.length)):=by rw[abh hl];unfold fT;simp
theorem YH:fT I fo 4=oT I fo ((I.length:Nat):Int) (bw I fo) 4:=by unfold fT;simp
theorem YG:fT I fo 5=m_ ((I.length:Nat):Int) (MM I fo) 5:=by unfold fT;simp
theorem W6 (h:kd=6∨kd=7):fT I fo kd=kR I fo kd:=by
 unfold fT kR
 rcases h with rfl|rfl<;>simp
theorem Uw (hl:fo.length=I.length) (hv:nD I fo) {es:List i'} (he:es=bP I fo ((I.length:Nat):Int) (bw I fo) I.length):bU ((I.length:Nat):Int) (dp ((I.length:Nat):Int) (bw I fo) es)=MM I fo:=by
 have iw:xD I.length es:=by rw[he];exact tC
 unfold bw at he ⊢
 rw[oz iw,mw]
 unfold MM
 refine dL fun a b ha hb=>tE (fun x y hx hy=>?_) ha hb
 rw[al0]
 unfold xB
 rw[alI,alI,r9,@decide_eq_true_iff _ (Classical.propDecidable _)]
 refine or_congr Iff.rfl ⟨?_,?_⟩
 ·rintro⟨e,hm,e1,e2⟩
  rw[he] at hm
  obtain⟨a',b',r,Rg,Af,hr,h1,h2,h3,rfl⟩:=rG.1 hm
  rw[fy Rg hr] at h3
  simp only at e1 e2
  obtain rfl:a'=x:=by omega
  obtain rfl:b'=y:=by omega
  obtain⟨n1,n2,_⟩:=vL (ami _) (ami _) h1
  exact⟨r,Rg,hr,(iI hl hr).1 h2,fun e=>n1 (by rw[e]),n2,h3⟩
 ·rintro⟨r,k⟩
  refine⟨(((x:Nat):Int),((y:Nat):Int),((r:Nat):Int)),?_,J,J⟩
  rw[he]
  exact rG.2 ⟨x,y,r,hx,hy,k.r1,rI hv k,(iI hl k.r1).2 k.fr,by rw[fy hx k.r1];exact k.ah,J⟩
end
end Go.Ew
namespace Go.Ew
section
variable {I:List aR} {fo:az} {kd:Int} {j:Nat}
theorem acB (O:et I) (h6:kd=6) (hs:∀q,q<j→l_ I fo kd q=false) (hj:j<I.length) (hn:I.length≤64) {k r a b z:Int}
  (h:oE (j2 I fo ((I.length:Nat):Int) (iu I fo ((j:Nat):Int)) kd (aV (cm I) (bS I ((j:Nat):Int) I.length))) k r a b z)
  (h2:(j2 I fo ((I.length:Nat):Int) (iu I fo ((j:Nat):Int)) kd (aV (cm I) (bS I ((j:Nat):Int) I.length))).isSome=true):
  oE (kR I fo kd) k r a b ((j:Nat):Int)∧true=(kR I fo kd).isSome:=by
 subst h6
 rw[show aV (cm I) (bS I ((j:Nat):Int) I.length)=dB I ((j:Nat):Int) from tu O _] at h h2
 have e:=SL hs hj h h2
 obtain⟨i1,i2,i3,i4,i5⟩:=h.1
 exact⟨vc e ⟨i1,i2,i3,i4,by unfold aN;omega⟩,by rw[e];rfl⟩
theorem acA (h7:kd≠6) (hk:aN kd) (hs:∀q,q<j→l_ I fo kd q=false) (hj:j<I.length) (hn:I.length≤64) (h2:(eC ((I.length:Nat):Int) (iu I fo ((j:Nat):Int))).isSome=true):
  oE (kR I fo kd) kd (-1) (((eC ((I.length:Nat):Int) (iu I fo ((j:Nat):Int))).getD 0:Nat):Int) (-1) ((j:Nat):Int)∧true=(kR I fo kd).isSome:=by
 have e:=Nt h7 hs hj h2
 obtain⟨i,hi⟩:=alN.1 h2
 have hl:=zE hi
 refine⟨vc e ⟨hk,uG,?_,uG,by unfold aN;omega⟩,by rw[e];rfl⟩
 rw[hi]
 show aN ((i:Nat):Int)
 unfold aN;omega
theorem acz (hk:aN kd) (hs:∀q,q<j→l_ I fo kd q=false) (hj:I.length≤j):oE (kR I fo kd) kd (-1) (-1) (-1) (-1)∧false=(kR I fo kd).isSome:=
 ⟨ve (Gn hs hj) (wiN hk),by rw[Gn hs hj];rfl⟩
theorem PD (O:et I) (h6:kd=6) (h:(j2 I fo ((I.length:Nat):Int) (iu I fo ((j:Nat):Int)) kd (aV (cm I) (bS I ((j:Nat):Int) I.length))).isSome=false):l_ I fo kd j=false:=by
 subst h6
 rw[show aV (cm I) (bS I ((j:Nat):Int) I.length)=dB I ((j:Nat):Int) from tu O _] at h
 exact SN h
end
theorem Ul {I:List aR} {fo:az} {n:Int} {rs:Rows} (hn:I.length≤64):(bP I fo n rs I.length).length≤300000:=by
 have h:=G9 (I:=I) (fo:=fo) (n:=n) (rs:=rs) (a:=I.length) (b:=0) (q:=0) hn ai ai hn
 rw[im,im] at h
 omega
theorem Qz {k:Nat}:jB (List.range k)++[((k:Nat):Int)]=jB (List.range (k+1)):=by
 unfold jB;rw[al6,amk];rfl
theorem Xq {n:Nat}:∀x∈jB (List.range n),0≤x∧x<((n:Nat):Int):=by
 intro x h
 unfold jB at h
 obtain⟨y,hy,rfl⟩:=amx.1 h
 have:=alF.1 hy
 omega
theorem Tv {n:Nat}:(jB (List.range n)).length=n:=by unfold jB;simp
end Go.Ew
