/- Plain laws: the fixed history of the top: consistent by CM, not by CCv. -/
import Derived.Test.YtgjakhpjmapelaaGreatDoorVwnC
import Derived.Test.YtgjakhpjmapelaaGreatDoorVwnB
import Derived.Shelf.Strings.SlTrimAscii
import Derived.Shelf.Spec.SlicesGrow
import Derived.JoinedCond
import Derived.Test.YtgjakhpjmapelaaGreatDoorVwnA
set_option linter.unusedVariables false
set_option linter.unusedSimpArgs false
set_option linter.unusedSectionVars false
namespace Go.Ew
set_option maxRecDepth 100000
abbrev Ke:bh:=⟨#[119,58,120,61,49,32,114,58,120,61,50,10,119,58,120,61,50,32,114,58,120,61,49,10]⟩
def Zk:cR:=[[(true,⟨#[120]⟩,1),(false,⟨#[120]⟩,2)],[(true,⟨#[120]⟩,2),(false,⟨#[120]⟩,1)]]
def lb:List aN:=[(0,0,true,0,1),(0,1,false,0,2),(1,0,true,0,2),(1,1,false,0,1)]
def nt:aA:=[-3,2, -3,0]
theorem IW:kJ Ke=(Zk,0,0):=by decide +kernel
theorem UM:fe Zk=true:=by decide +kernel
theorem ae7:lP Zk=lb:=by decide +kernel
theorem ae8:lQ Zk=nt:=by decide +kernel
theorem HQ:∀x∈nt,x<((lb.length:Nat):Int):=by decide
def za (o:Int) (a b:Nat):Bool:=(decide (o=1)&&((a,b)==(0,1)||(a,b)==(2,1)||(a,b)==(0,2)))||(decide (o=3)&&((a,b)==(2,3)||(a,b)==(0,3)||(a,b)==(2,0)))
theorem ae4:∀r:Nat,¬nt[r]? =some (-2):=by
 intro r h
 have:(-2:Int)∈nt:=dz h
 exact absurd this au
theorem UO:∀r:Nat,¬nt[r]? =some (-1):=by
 intro r h
 have:(-1:Int)∈nt:=dz h
 exact absurd this au
theorem ae3:∀i,i<4→pO lb nt i i=false:=by decide +kernel
theorem tI {p:Nat→Bool} (h:(List.range 4).all p=true) {i:Nat} (hi:i<4):p i=true:=an9.1 h i (an7.2 hi)
def Pe (a b:Bool):Bool:=!a||b
theorem imp {a b:Bool} (h:Pe a b=true) (ha:a=true):b=true:=by unfold Pe at h;rw[ha] at h;simpa using h
theorem ag1:((List.range 4).all fun r=>(List.range 4).all fun a=>(List.range 4).all fun b=>Pe (decide (nt[r]? =some ((b:Nat):Int))&&(decide (a≠b)&&(!(iP lb (qC lb ((r:Nat):Int)) ((a:Nat):Int))&&pO lb nt a r))) (!(pO lb nt b a)))=true:=by decide +kernel
theorem ae2:∀r,r<4→∀a,a<4→∀b,b<4→nt[r]? =some ((b:Nat):Int)→a≠b→iP lb (qC lb ((r:Nat):Int)) ((a:Nat):Int)=false→pO lb nt a r=true→pO lb nt b a=false:=by
 intro r hr a ha b hb h1 h2 h3 h4
 have:=imp (tI (tI (tI ag1 hr) ha) hb)<|by rw[an6 h1,an6 h2,h3,h4];rfl
 simpa using this
theorem ag0:((List.range 4).all fun o=>(List.range 4).all fun a=>(List.range 4).all fun b=>Pe (pO lb nt a b&&(decide (((a:Nat):Int)∈bN ((lb.length:Nat):Int) (ct lb nt) ((o:Nat):Int))&&decide (((b:Nat):Int)∈bN ((lb.length:Nat):Int) (ct lb nt) ((o:Nat):Int)))) (za ((o:Nat):Int) a b))=true:=by decide +kernel
theorem aba:∀o,o<4→∀a,a<4→∀b,b<4→pO lb nt a b=true→((a:Nat):Int)∈bN ((lb.length:Nat):Int) (ct lb nt) ((o:Nat):Int)→((b:Nat):Int)∈bN ((lb.length:Nat):Int) (ct lb nt) ((o:Nat):Int)→za ((o:Nat):Int) a b=true:=by
 intro o ho a ha b hb h1 h2 h3
 exact imp (tI (tI (tI ag0 ho) ha) hb)<|by rw[h1,an6 h2,an6 h3];rfl
theorem agY:((List.range 4).all fun o=>(List.range 4).all fun a=>(List.range 4).all fun b=>(List.range 4).all fun c=>Pe (za ((o:Nat):Int) a b&&za ((o:Nat):Int) b c) (za ((o:Nat):Int) a c))=true:=by decide +kernel
theorem Xz:∀o,o<4→∀a,a<4→∀b,b<4→∀c,c<4→za ((o:Nat):Int) a b=true→za ((o:Nat):Int) b c=true→za ((o:Nat):Int) a c=true:=by
 intro o ho a ha b hb c hc h1 h2
 exact imp (tI (tI (tI (tI agY ho) ha) hb) hc)<|by rw[h1,h2];rfl
theorem agZ:((List.range 4).all fun o=>(List.range 4).all fun a=>(List.range 4).all fun b=>(List.range 4).all fun r=>Pe (decide (((r:Nat):Int)∈lj lb ((o:Nat):Int))&&(decide (nt[r]? =some ((b:Nat):Int))&&(decide (a≠b)&&(!(iP lb (qC lb ((b:Nat):Int)) ((a:Nat):Int))&&za ((o:Nat):Int) a r)))) (za ((o:Nat):Int) a b))=true:=by decide +kernel
theorem aa':∀o,o<4→∀a,a<4→∀b,b<4→∀r,r<4→((r:Nat):Int)∈lj lb ((o:Nat):Int)→nt[r]? =some ((b:Nat):Int)→a≠b→iP lb (qC lb ((b:Nat):Int)) ((a:Nat):Int)=false→za ((o:Nat):Int) a r=true→za ((o:Nat):Int) a b=true:=by
 intro o ho a ha b hb r hr h1 h2 h3 h4 h5
 exact imp (tI (tI (tI (tI agZ ho) ha) hb) hr)<|by rw[an6 h1,an6 h2,an6 h3,h4,h5];rfl
theorem ae5:∀o,o<4→∀i,i<4→za ((o:Nat):Int) i i=false:=by decide +kernel
theorem ae1:∀o i,o<4→i<4→¬BR lb nt ((o:Nat):Int) i i=true:=by
 intro o i ho hi h
 have:=pU.1 h (fun a b=>za ((o:Nat):Int) a b=true) ⟨fun a b ha hb=>aba o ho a ha b hb,fun a b c ha hb hc=>Xz o ho a ha b hb c hc,fun a b r hr k=>by
  have hb:=HQ _<|dz k.fr
  have hb:b<4:=by have:lb.length=4:=rfl;omega
  exact aa' o ho a k.a1 b hb r k.r1 hr k.fr k.ne k.wr k.ah⟩
 rw[ae5 o ho i hi] at this
 cases this
theorem Zj:gL lb nt 3=none:=by
 rw[B7 rfl HQ]
 intro k hk
 unfold BN
 rintro(⟨h0,r,hr⟩|⟨h0,i,hi,h⟩|⟨h0,r,a,hr,ha,h1,h2,h3⟩|⟨h0,r,a,b,hr,ha,hb,h1,h2,h3,h4,h5⟩|⟨h0,i,hi,h⟩|⟨h0,o,r,a,ho,hr,ha,h1,h2,h3,h4⟩|⟨h0,o,i,ho,hi,h⟩)
 ·exact ae4 r hr
 ·rw[ae3 i hi] at h;cases h
 ·exact UO r h1
 ·rw[ae2 r hr a ha b hb h1 h2 h3 h4] at h5;cases h5
 ·subst h0;exact absurd hk au
 ·exact UO r h2
 ·exact ae1 o i ho hi h
theorem ae6:∃y,gL lb nt 2=some y∧y.1=5:=by
 have h5:(jj lb nt 5).isSome=true:=by
  rw[Ab rfl HQ aj]
  refine .inr (.inr (.inr (.inr (.inl ⟨J,0,by decide,?_⟩))))
  have e1:EW lb nt 0 2=true:=by
   unfold EW
   rw[aoc,@decide_eq_true_iff _ (Classical.propDecidable _)]
   exact .inr ⟨1,by decide,by decide,J,by decide,by decide +kernel,by decide +kernel⟩
  have e2:EW lb nt 2 0=true:=by
   unfold EW
   rw[aoc,@decide_eq_true_iff _ (Classical.propDecidable _)]
   exact .inr ⟨3,by decide,by decide,J,by decide,by decide +kernel,by decide +kernel⟩
  exact xV (b:=2) au (vA e1)<|vA e2
 have hn:∀k,k=1∨k=2∨k=3∨k=4→jj lb nt k=none:=by
  intro k hk
  have:¬(jj lb nt k).isSome=true:=by
   rw[Ab rfl HQ aj]
   have:=(B7 (U:=lb) (fo:=nt) (lv:=3) J HQ).1 Zj k
   refine this ?_
   rcases hk with rfl|rfl|rfl|rfl<;>decide
  cases e:jj lb nt k with
  |none=>rfl
  |some x=>rw[e] at this;exact absurd rfl this
 obtain⟨y,hy⟩:=aos.1 h5
 refine⟨y,?_,yy hy⟩
 unfold gL
 rw[show dS 2=[1,2,3,4,5] from rfl]
 simp only[aqu,hn 1 aj,hn 2 aj,hn 3 aj,hn 4 aj,hy]
theorem UP:(kJ Ke).2.2=0→(kJ Ke).1.flatten.length≤64:=by rw[IW];decide
theorem Gl:uU Ke 3=0∧rn Ke 3=true:=by
 obtain⟨h1,_,_,_,h2,_⟩:=Qb (lv:=3) rfl IW rfl
 obtain⟨k1,_,_,k2,_⟩:=Hb (lv:=3) UM aj
 rw[h1,h2,k1,k2,ae7,ae8,Zj]
 exact⟨J,J⟩
theorem zJ:uU Ke 2=0∧rn Ke 2=false∧(kH Ke 2).1=5:=by
 obtain⟨h1,_,_,_,h2,h3⟩:=Qb (lv:=2) rfl IW rfl
 obtain⟨k1,_,_,k2,k3⟩:=Hb (lv:=2) UM aj
 obtain⟨y,e1,e2⟩:=ae6
 rw[h1,h2,h3,k1,k2,k3,ae7,ae8,e1]
 exact⟨J,J,e2⟩
end Go.Ew
namespace Go.Ew
def EL (h:cR) (m:Int):List bh:=bif iJ h m then tl h else []
def B5 (h:cR) (m:Int):List aN:=bif iJ h m then lP h else []
def B6 (h:cR) (m:Int):aA:=bif iJ h m then lQ h else []
theorem agN {h:cR} {m:Int} (hk:(iJ h m&&fe h)=true):B5 h m=lP h∧B6 h m=lQ h∧fe h=true∧(h.flatten.length:Int)≤m:=by
 rw[ez] at hk
 unfold B5 B6
 rw[hk.1]
 exact⟨J,J,hk.2,(Jb.1 hk.1).2.1⟩
section
variable {h:cR}
end
end Go.Ew
namespace Go.Ew
variable {b:BitVec 8} {j:Nat} {l ys:List (BitVec 8)} {s:bh} {o:jw}
def Cv (b:BitVec 8):BitVec 8:=BitVec.ofInt 8 (97+((((b.toNat:Nat):Int)-97+13)%26))
def vK (j:Nat) (l:List (BitVec 8)):List (BitVec 8):=(l.take j).map Cv++l.drop j
def rC (s:bh):bh:=kB ((gU s).map Cv)
def uO (o:jw):jw:=(o.1,rC o.2.1,o.2.2)
def DG (b:BitVec 8):Prop:=97≤((b.toNat:Nat):Int)∧((b.toNat:Nat):Int)≤122
theorem Cu (h:DG b):(((Cv b).toNat:Nat):Int)=97+((((b.toNat:Nat):Int)-97+13)%26):=by
 obtain⟨h1,h2⟩:=h
 exact(w8 aj aj).2
theorem OH (h:DG b):DG (Cv b):=by
 unfold DG
 rw[Cu h]
 obtain⟨h1,h2⟩:=h
 omega
theorem Z6 (h:DG b):Cv (Cv b)=b:=by
 apply apg
 have h1:=Cu<|OH h
 rw[Cu h] at h1
 obtain⟨h2,h3⟩:=h
 omega
theorem qF (j:Nat) (l:List (BitVec 8)):(vK j l).length=l.length:=by
 unfold vK
 rw[fJ,aoo,ic,aog];omega
theorem Jh (hj:j<l.length):vK j l=(l.take j).map Cv++(l[j]::l.drop (j+1)):=by
 unfold vK;rw[aoS hj]
theorem yk (hj:j<l.length):((l.take j).map Cv).length=j:=by rw[aoo,ic];omega
theorem LI (h:(vK j l)[((j:Nat):Int).toNat]? =some b):l[j]? =some b:=by
 rw[dq] at h
 have hj:j<l.length:=by have:=(dJ.1 h).1;rwa [qF] at this
 rw[Jh hj,nH (by rw[yk hj];exact an3 _),yk hj,aoZ,aoe] at h
 rw[dW hj];exact h
theorem Sm (hy:ys=vK j l) (h:ys[((j:Nat):Int).toNat]? =some b):ys.set ((j:Nat):Int).toNat (BitVec.ofInt 8 (97+((((b.toNat:Nat):Int)-97+13)%26)))=vK (j+1) l:=by
 subst hy
 have hg:=LI h
 obtain⟨hj,hb⟩:=dJ.1 hg
 rw[dq,Jh hj,apd _ _ (by rw[yk hj];exact an3 _),yk hj,aoZ,apU]
 unfold vK
 rw[aoy,hg,api,aoA]
 rfl
theorem FI (hn:gT s=true) (hb:b∈gU s):DG b:=by
 unfold gT at hn
 rw[ez,ez] at hn
 unfold gU at hb
 obtain⟨c,hc,rfl⟩:=aoE.1 hb
 have:=an9.1 hn.1.1 c hc
 unfold tS at this
 simp only[ez,ao4,aob] at this
 have e:c.toBitVec.toNat=c.toNat:=rfl
 unfold DG
 rw[e];omega
theorem V5 (hn:gT s=true):(gU s).length≤8:=by
 unfold gT at hn
 rw[ez,an2] at hn
 rw[ns];exact hn.2
theorem AI (hn:gT s=true) (hy:ys=vK j (gU s)) (hx:ys[((j:Nat):Int).toNat]? =some b):97≤((b.toNat:Nat):Int)∧((b.toNat:Nat):Int)≤122:=by
 subst hy
 exact FI hn<|dz<|LI hx
theorem PM (xs:List (BitVec 8)):gU (kB xs)=xs:=by
 unfold gU kB strOfNums
 simp only[aqh]
 conv=>rhs;rw[←List.map_id xs]
 apply aoP
 intro b _
 apply apg
 simp
theorem ZV (s:bh):kB (gU s)=s:=by
 apply ByteArray.ext
 apply Array.ext'
 unfold kB gU strOfNums
 simp only[aqh]
 show List.map _ s.data.toList=s.data.toList
 conv=>rhs;rw[←List.map_id s.data.toList]
 apply aoP
 intro b _
 simp
theorem yp (hn:gT s=true):rC (rC s)=s:=by
 unfold rC
 rw[PM,aqh]
 conv=>rhs;rw[←ZV s]
 congr 1
 conv=>rhs;rw[←List.map_id (gU s)]
 apply aoP
 intro b hb
 exact Z6<|FI hn hb
theorem Sn (s:bh):(rC s).size=s.size:=by unfold rC;rw[Ja,aoo,ns]
theorem Ji (hn:gT s=true):gT (rC s)=true:=by
 have h0:=hn
 unfold gT at hn ⊢
 rw[ez,ez] at hn ⊢
 rw[Sn]
 refine⟨⟨an9.2 fun c hc=>?_,hn.1.2⟩,hn.2⟩
 have hm:c.toBitVec∈gU (rC s):=by unfold gU;exact aoE.2 ⟨c,hc,J⟩
 unfold rC at hm
 rw[PM] at hm
 obtain⟨b,hb,e⟩:=aoE.1 hm
 have h1:=OH<|FI h0 hb
 rw[e] at h1
 have e2:c.toBitVec.toNat=c.toNat:=rfl
 unfold DG at h1
 rw[e2] at h1
 unfold tS
 rw[an' aj,an' aj];rfl
theorem Fx {t:bh} (hs:gT s=true) (ht:gT t=true) (e:rC s=rC t):s=t:=by rw[←yp hs,e,yp ht]
def kI (h:cR) (n j:Nat):cR:=(List.range j).map fun i=>((h[(i+n)%h.length]?).getD []).map uO
theorem Qc {x:List jw} {k c:Nat} {o2:jw} (h1:x[((k:Nat):Int).toNat]? =some o) (h2:x[((k:Nat):Int).toNat]? =some o2) (hy:ys=vK c (gU o.2.1)) (hc:(gU o.2.1).length≤c):(x.take k).map uO++[(o2.1,kB ys,o2.2.2)]=(x.take (k+1)).map uO:=by
 obtain rfl:=an5 (h1.symm.trans h2)
 rw[dq] at h1
 rw[aoy,h1,api,hy]
 unfold vK
 rw[an_ hc,apo hc,aps]
 rfl
theorem Qd {h:cR} {n:Int} {x ms:List jw} {k:Nat} (h0:0≤n) (hx:h[(((j:Nat):Int)+n)%((h.length:Nat):Int) |>.toNat]? =some x) (hm:ms=(x.take k).map uO) (hk:x.length≤k):kI h n.toNat j++[ms]=kI h n.toNat (j+1):=by
 obtain⟨m,rfl⟩:=Int.eq_ofNat_of_zero_le h0
 have e:((((j:Nat):Int)+((m:Nat):Int))%((h.length:Nat):Int)).toNat=(j+m)%h.length:=by
  rw[←Int.natCast_add,←Int.natCast_emod,dq]
 rw[e] at hx
 unfold kI
 rw[apq,api,hm,an_ hk,dq]
 simp only[aoq,List.map_nil,hx,apR]
theorem Cj (h:cR) (n j:Nat):(kI h n j).length=j:=by unfold kI;simp
theorem md {a L:Nat} (h:a<2*L):a%L=if a<L then a else a-L:=by
 split
 ·exact apS bt
 ·rw[Nat.mod_eq_sub_mod aj,apS aj]
theorem Gx {h:cR} {n:Nat} (hn:n<h.length):(kI h n h.length).flatten.length=h.flatten.length:=by
 have e:(List.range h.length).map (fun i=>(h[(i+n)%h.length]?).getD [])=h.drop n++h.take n:=by
  apply aoz
  intro i
  rw[aoa]
  by_cases hi:i<h.length
  ·rw[aoL hi,aoV,md aj]
   split
   ·rw[oB (by rw[aog];omega),aoG,Nat.add_comm n i,dW aj];rfl
   ·rw[nH (by rw[aog];omega),aog,apf aj,show i-(h.length-n)=i+n-h.length by omega,dW aj];rfl
  ·rw[aof (by rw[apM];omega),aof (by rw[fJ,aog,ic];omega)];rfl
 have e2:kI h n h.length=(h.drop n++h.take n).map (List.map uO):=by rw[←e,aqh];rfl
 rw[e2,←List.map_flatten,aoo,aqt,fJ,Nat.add_comm,←fJ,←aqt,ao2]
section
variable {h:cR} {n:Nat}
theorem rb (hn:n<h.length) {s p:Nat}:gV (kI h n h.length) s p o↔s<h.length∧∃o',gV h ((s+n)%h.length) p o'∧o=uO o':=by
 unfold gV
 constructor
 ·rintro⟨l,h1,h2⟩
  have hs:s<h.length:=by have:=(dJ.1 h1).1;rwa [Cj] at this
  have hm:(s+n)%h.length<h.length:=aqS _ aj
  unfold kI at h1
  rw[aoa,aoL hs,aoV,dW hm,apR] at h1
  obtain rfl:=an5 h1
  rw[aoa] at h2
  obtain⟨o',h3,h4⟩:=aop.1 h2
  exact⟨hs,o',⟨_,dW hm,h3⟩,h4.symm⟩
 ·rintro⟨hs,o',⟨l,h1,h2⟩,rfl⟩
  refine⟨l.map uO,?_,by rw[aoa,h2];rfl⟩
  unfold kI
  rw[aoa,aoL hs,aoV,h1];rfl
theorem GU (ho:fe h=true) {a b:Nat} {l:List jw} (hl:h[a]? =some l) (hb:l[b]? =some o):gT o.2.1=true:=
 (Cy.1 (yD ho).1).1 o (gV.mem ⟨l,hl,hb⟩)
theorem oe (hn:n<h.length) {s:Nat} (hs:s<h.length):((s+n)%h.length+(h.length-n))%h.length=s∧((s+(h.length-n))%h.length+n)%h.length=s:=by
 constructor
 ·rw[md (a:=s+n) aj]
  split
  ·rw[md aj];split<;>omega
  ·rw[md aj];split<;>omega
 ·rw[md (a:=s+(h.length-n)) aj]
  split
  ·rw[md aj];split<;>omega
  ·rw[md aj];split<;>omega
theorem ZP (ho:fe h=true) (hn:n<h.length):P3 (kI h n h.length) h (fun s=>(s+n)%h.length) rC:=by
 have nm:∀{s p o},gV h s p o→gT o.2.1=true:=fun {s p o} ⟨l,h1,h2⟩=>GU ho h1 h2
 have gm:∀{o},o∈(kI h n h.length).flatten→gT o.2.1=true:=by
  intro o hm
  obtain⟨s,p,hp⟩:=Iu hm
  obtain⟨_,o',h1,rfl⟩:=(rb hn).1 hp
  exact Ji<|nm h1
 refine⟨fun s p o hp=>?_,fun s s' hs Pg e=>?_,fun o o' hm Ts e=>Fx (gm hm) (gm Ts) e,fun s p o hp hw=>?_⟩
 ·obtain⟨_,o',h1,rfl⟩:=(rb hn).1 hp
  have:(uO o').2.1=rC o'.2.1:=rfl
  rw[this,yp (nm h1)]
  exact h1
 ·rw[Cj] at hs Pg
  have h1:=(oe hn hs).1
  have h2:=(oe hn Pg).1
  have e:(s+n)%h.length=(s'+n)%h.length:=e
  rw[e,h2] at h1
  exact h1.symm
 ·have hs:=hp.lt
  refine⟨(s+(h.length-n))%h.length,uO o,(oe hn hs).2.symm,(rb hn).2 ⟨aqS _ aj,o,?_,J⟩,?_⟩
  ·rw[(oe hn hs).2];exact hp
  ·show o=(o.1,rC (rC o.2.1),o.2.2)
   rw[yp (nm hp)]
theorem Vg (ho:fe h=true) (hn:n<h.length):P3 h (kI h n h.length) (fun s=>(s+(h.length-n))%h.length) rC:=by
 have nm:∀{s p o},gV h s p o→gT o.2.1=true:=fun {s p o} ⟨l,h1,h2⟩=>GU ho h1 h2
 have hm:∀{o},o∈h.flatten→gT o.2.1=true:=fun hm=>let ⟨s,p,hp⟩:=Iu hm;nm hp
 refine⟨fun s p o hp=>?_,fun s s' hs Pg e=>?_,fun o o' h1 h2 e=>Fx (hm h1) (hm h2) e,fun s p o hp hw=>?_⟩
 ·have hs:=hp.lt
  refine(rb hn).2 ⟨aqS _ aj,o,?_,J⟩
  show gV h (((s+(h.length-n))%h.length+n)%h.length) p o
  rw[(oe hn hs).2];exact hp
 ·have h1:=(oe hn hs).2
  have h2:=(oe hn Pg).2
  have e:(s+(h.length-n))%h.length=(s'+(h.length-n))%h.length:=e
  rw[e,h2] at h1
  exact h1.symm
 ·obtain⟨hs,o',h1,rfl⟩:=(rb hn).1 hp
  exact⟨(s+n)%h.length,o',(oe hn hs).1.symm,h1,J⟩
theorem Vh (ho:fe h=true) (hn:n<h.length):fe (kI h n h.length)=true:=by
 obtain⟨hr,hc,_,_⟩:=yD ho
 have nm:∀{s p o},gV h s p o→gT o.2.1=true:=fun {s p o} ⟨l,h1,h2⟩=>GU ho h1 h2
 refine acm (Cy.2 ⟨fun o hm=>?_,by rw[Gx hn];exact(Cy.1 hr).2⟩)<|aeQ (fun s p o hp hw=>?_) fun s p o s' p' o' hp hp' hw yM e1 e2=>?_
 ·obtain⟨s,p,hp⟩:=Iu hm
  obtain⟨_,o',h1,rfl⟩:=(rb hn).1 hp
  exact Ji<|nm h1
 ·obtain⟨_,o',h1,rfl⟩:=(rb hn).1 hp
  have h3:o'.2.2≠0:=Oe hc h1<|show o'.1=true from hw
  exact h3
 ·obtain⟨hs,q,h1,rfl⟩:=(rb hn).1 hp
  obtain⟨Pg,q',h2,rfl⟩:=(rb hn).1 hp'
  obtain⟨k1,k2⟩:=Xd hc h1 h2 (show q.1=true from hw) (show q'.1=true from yM) (Fx (nm h1) (nm h2) e1) e2
  refine⟨?_,k2⟩
  rw[←(oe hn hs).1,k1,(oe hn Pg).1]
theorem ZO (ho:fe h=true) (hn:n<h.length) {lv:Int} (hl:lv=1∨lv=2∨lv=3):nY h lv=nY (kI h n h.length) lv∧rp h lv=rp (kI h n h.length) lv∧(hG h lv).1=(hG (kI h n h.length) lv).1:=by
 have hg:=Vh ho hn
 obtain⟨a1,a2,a3,a4,a5⟩:=Hb ho hl
 obtain⟨b1,b2,b3,b4,b5⟩:=Hb hg hl
 have key:=NN ho hg (ZP ho hn) (Vg ho hn) (lv:=lv)
 refine⟨a1.trans b1.symm,?_,?_⟩
 ·rw[a4,b4]
  cases e1:gL (lP h) (lQ h) lv<;>cases e2:gL (lP (kI h n h.length)) (lQ (kI h n h.length)) lv<;>rw[e1,e2] at key<;>first|rfl|cases key
 ·rw[a5,b5]
  cases e1:gL (lP h) (lQ h) lv<;>cases e2:gL (lP (kI h n h.length)) (lQ (kI h n h.length)) lv<;>rw[e1,e2] at key<;>first|rfl|cases key|exact an5 key
end
end Go.Ew
namespace Go.Ew
variable {q:Nat}
def tg {α:Type} (xs:List α) (q:Nat):List α:=xs.mapIdx fun i x=>if i<q∨xs.length-q≤i then (xs[xs.length-1-i]?).getD x else x
theorem uW {α:Type} (xs:List α) (q:Nat):(tg xs q).length=xs.length:=by unfold tg;simp
theorem xi {α:Type} (xs:List α) (q i:Nat) (hi:i<xs.length):(tg xs q)[i]? =if i<q∨xs.length-q≤i then xs[xs.length-1-i]? else xs[i]?:=by
 unfold tg
 rw[List.getElem?_mapIdx,dW hi]
 simp only[aoV]
 split
 ·rw[dW aj];rfl
 ·rfl
theorem Qu {α:Type} (xs:List α):xs=tg xs 0:=by
 apply aoz
 intro i
 by_cases hi:i<xs.length
 ·rw[xi xs 0 i hi,an8 aj]
 ·rw[aof aj,aof (by rw[uW];omega)]
theorem Qv {α:Type} {xs ys:List α} {x y:α} (hs:ys=tg xs q) (h:q+q+1<xs.length) (hx:ys[xs.length-1-q]? =some x) (hy:ys[q]? =some y):(ys.set q x).set (xs.length-1-q) y=tg xs (q+1):=by
 subst hs
 rw[xi _ _ _ aj,an8 aj] at hx hy
 apply aoz
 intro i
 by_cases hi:i<xs.length
 ·rw[xi xs (q+1) i hi,apa,apa,an1,uW]
  by_cases e1:xs.length-1-q=i
  ·subst e1
   rw[an4 rfl,an4 aj,an4 aj,show xs.length-1-(xs.length-1-q)=q from by omega,hy]
  ·rw[an8 e1]
   by_cases e2:q=i
   ·subst e2
    rw[an4 rfl,an4 aj,an4 aj,hx]
   ·rw[an8 e2,xi xs q i hi]
    by_cases e3:i<q∨xs.length-q≤i
    ·rw[an4 e3,an4 aj]
    ·rw[an8 e3,an8 aj]
 ·rw[aof (by rw[an1,an1,uW];omega),aof (by rw[uW];omega)]
theorem NU {xs ys:aA} {x y:Int} {i:Int} (hs:ys=tg xs q) (h:q+q+1<xs.length) (hx:ys[i.toNat]? =some x) (hi:i.toNat=xs.length-1-q:=by omega) (hy:ys[((q:Nat):Int).toNat]? =some y):(ys.set ((q:Nat):Int).toNat x).set i.toNat y=tg xs (q+1):=by
 rw[hi] at hx ⊢
 exact Qv hs h hx hy
theorem Ss {α:Type} {xs ys:List α} (hs:ys=tg xs q) (h:xs.length≤q+q+1):ys=xs.reverse:=by
 subst hs
 apply aoz
 intro i
 by_cases hi:i<xs.length
 ·rw[xi xs q i hi,List.getElem?_reverse hi]
  by_cases e:i<q∨xs.length-q≤i
  ·rw[an4 e]
  ·rw[an8 e];congr 1;omega
 ·rw[aof (by rw[uW];omega),aof (by rw[List.length_reverse];omega)]
end Go.Ew
namespace Go.Ew
open Go.RowKit
theorem T_ (w:aG) (q:Nat):Ext w (w.drewN q):=by
 induction q with
 |zero=>exact Ext.refl w
 |succ q ih=>exact ih.trans (Ext.drew _)
theorem Ia (z:Array Value) (n:Nat):(Builtin.zeroCells z n).size=n*z.size:=by unfold Builtin.zeroCells;simp
theorem TQ {α:Type} [GT α] {M:bY} {w:aG} {e:TypeId} {z:Value} (hz:z.cells.size=GT.size α) {m:Nat} (hm:m≤1048576):
  bl M e w ([]:List α) (.slice (some ⟨w.heap.size,0,none⟩) ([]:List α).length (grownCap w (0+m) 0 e)) (w.drew.alloc (.cells (([]:List Value).toArray++Builtin.zeroCells z.cells (0+m-0)++Builtin.zeroCells z.cells (grownCap w (0+m) 0 e-(0+m))) e)):=by
 have h1:=grownCap_ge w (0+m) 0 e
 have h2:=grownCap_le_maxLen w (0+m) 0 e<|by simp only[maxLen];omega
 have hg:(w.drew.alloc (.cells (([]:List Value).toArray++Builtin.zeroCells z.cells (0+m-0)++Builtin.zeroCells z.cells (grownCap w (0+m) 0 e-(0+m))) e)).heap[w.heap.size]? =some (.cells (([]:List Value).toArray++Builtin.zeroCells z.cells (0+m-0)++Builtin.zeroCells z.cells (grownCap w (0+m) 0 e-(0+m))) e):=by
  show (w.heap.push _)[w.heap.size]? =_
  simp
 refine⟨(Ext.drew w).trans (Ext.alloc _ _),fun b hb=>?_,[],⟨by simp,.inr ⟨w.heap.size,_,_,J,an3 _,hg,apn _,h2,?_,by simp⟩⟩,J⟩
 ·have hb:w.heap.size=b:=an5 hb
  subst hb
  show _<(w.heap.push _).size
  simp
 ·simp only[aqL,Ia,hz,apC,gA]
  rw[show 0+m-0=m from by omega,show 0+m=m from by omega] at *
  rw[aoJ,←aoT]
  congr 1
  omega
end Go.Ew
namespace Go.Ew
open Go.RowKit Go.WideShapes Go.ChangeShapes
structure I3 (B:(H:Type)→DataW H→Nat):Prop where
 lit:∀(H:Type) l,1≤B H (.lit l)
 str:∀(H:Type) bs,bs.length+1≤B H (.lit (.string bs))
 nil:∀(H:Type),1≤B H .nil
 slice:∀(H:Type) (es sp:List (DataW H)),(es.map (B H)).sum+1≤B H (.slice es sp)
 agg:∀(H:Type) (ps:List (DataW H)),(ps.map (B H)).sum≤B H (.agg ps)
class Wt (α:Type) where
 wt:α→Nat
instance ams:Wt Int:=⟨fun _=>1⟩
instance amP:Wt bp:=⟨fun _=>1⟩
instance amQ:Wt (BitVec 8):=⟨fun _=>1⟩
instance akp:Wt Bool:=⟨fun _=>1⟩
instance amr:Wt bh:=⟨fun s=>s.size+1⟩
instance ako {α:Type} [Wt α]:Wt (List α):=⟨fun l=>(l.map Wt.wt).sum+1⟩
instance akn {α β:Type} [Wt α] [Wt β]:Wt (α×β):=⟨fun x=>Wt.wt x.1+Wt.wt x.2⟩
theorem K5 {α:Type} [Wt α] (h1:∀x:α,1≤Wt.wt x):∀l:List α,l.length≤(l.map Wt.wt).sum
 |[]=>an3 _
 |x::l=>by
  have:=K5 h1 l
  have:=h1 x
  simp only[iS,aoq,aqO];omega
theorem ZC {α:Type} [Wt α] (h1:∀x:α,1≤Wt.wt x):∀h:List (List α),h.flatten.length≤Wt.wt h:=by
 intro h
 show _≤(h.map Wt.wt).sum+1
 induction h with
 |nil=>simp
 |cons l h ih=>
  have:=K5 h1 l
  simp only[aqf,fJ,aoq,aqO]
  show _≤((l.map Wt.wt).sum+1)+(h.map Wt.wt).sum+1
  omega
theorem Oj {α β:Type} [Wt α] [Wt β] (h:∀x:β,1≤Wt.wt x):∀x:α×β,1≤Wt.wt x:=fun x=>by
 have:=h x.2
 show 1≤Wt.wt x.1+Wt.wt x.2
 omega
theorem abm:∀x:Int,1≤Wt.wt x:=fun _=>an3 _
def tK (B:(H:Type)→DataW H→Nat) (P:Program) (t:TypeId) (α:Type) [GT α] [Wt α]:Prop:=
 P.cellsOf t=GT.size α∧∀{H:Type} (enc:TypeId×Value→H) (W:aG) (n:Nat) (cs:List Value) (x:DataW H×List MemPlace),
  DataW.trod enc P W 0 (fun _=>true) true n t cs=some x→∃y:α,GT.rep NB W cs y∧Wt.wt y≤B H x.1
section
variable {P:Program} {t e:TypeId} {B:(H:Type)→DataW H→Nat}
theorem QI (hB:I3 B) (hc:P.cellsOf t=1) (ht:P.underlying t=some (.int .i64)):tK B P t Int:=by
 refine⟨hc,fun {H} enc W n cs x h=>?_⟩
 obtain⟨k,rfl,rfl,hw⟩:=DataW.trod_int ht h
 exact⟨k,⟨J,bounds_i64 hw⟩,hB.lit H _⟩
theorem N7 (hB:I3 B) (hc:P.cellsOf t=1) (ht:P.underlying t=some .bool):tK B P t Bool:=by
 refine⟨hc,fun {H} enc W n cs x h=>?_⟩
 obtain⟨k,rfl,rfl⟩:=DataW.trod_bool ht h
 exact⟨k,J,hB.lit H _⟩
theorem Kr (hB:I3 B) (hc:P.cellsOf t=1) (ht:P.underlying t=some .string):tK B P t bh:=by
 refine⟨hc,fun {H} enc W n cs x h=>?_⟩
 obtain⟨k,rfl,rfl,hk⟩:=DataW.trod_string ht h
 refine⟨k,⟨J,hk⟩,?_⟩
 have:=hB.str H k.data.toList
 rw[aoM] at this
 exact this
theorem RO {α:Type} [Wt α] {D:Type} (g:D→Nat):∀(l:List α) (es:List D),l.length=es.length→(∀(i:Nat) (y:α) (x:D),l[i]? =some y→es[i]? =some x→Wt.wt y≤g x)→(l.map Wt.wt).sum≤(es.map g).sum
 |[],[],_,_=>an3 _
 |[],_::_,h,_=>by simp at h
 |_::_,[],h,_=>by simp at h
 |y::l,x::es,h,k=>by
  have h1:=RO g l es (by simpa using h) fun i y x hy hx=>k (i+1) y x (by simpa using hy) (by simpa using hx)
  have h2:=k 0 y x J J
  simp only[aoq,aqO];omega
theorem CP {α:Type} [GT α] [Wt α] (hB:I3 B) (hc:P.cellsOf t=1) (ht:P.underlying t=some (.slice e)) (O:tK B P e α):tK B P t (List α):=by
 refine⟨hc,fun {H} enc W n cs x h=>?_⟩
 rcases DataW.trod_slice ht h with ⟨rfl,rfl⟩|⟨a,len,cap,elems,rest,m,rfl,rfl,rfl, -,hl,hm,hlen,vj, -, -⟩
 ·exact⟨[],⟨_,J,GC _ _⟩,hB.nil H⟩
 ·have one:∀i,i<len→∃y:α,At NB W (a.add (i*GT.size α)) y∧∀z,elems[i]? =some z→Wt.wt y≤B H z.1:=by
   intro i hi
   have h1:=vj i hi
   rw[dW (by omega:i<elems.length)] at h1
   simp only[aqH] at h1
   obtain⟨ds,hd,hx⟩:=h1
   obtain⟨y,hy,hw⟩:=O.2 enc W m ds _ hx
   rw[O.1] at hd
   refine⟨y,⟨ds,hy,fun h=>h,Uw hd⟩,fun z hz=>?_⟩
   rw[dW (by omega:i<elems.length)] at hz
   cases hz
   exact hw
  obtain⟨l,hl1,la⟩:=EU (Q:=fun i (y:α)=>At NB W (a.add (i*GT.size α)) y∧∀z,elems[i]? =some z→Wt.wt y≤B H z.1) len one
  refine⟨l,⟨_,J,some a,len,cap,J,hl1,hl,hm,?_⟩,?_⟩
  ·by_cases h0:len=0
   ·exact .inl h0
   ·exact .inr ⟨a,J,fun i y hy=>(la i y hy).1⟩
  ·have h1:=RO (fun z:DataW H×List MemPlace=>B H z.1) l elems aj fun i y x hy hx=>(la i y hy).2 x hx
   have h2:=hB.slice H (elems.map (·.1))<|rest.map (·.1)
   rw[aqh] at h2
   show (l.map Wt.wt).sum+1≤_
   exact Nat.le_trans (Nat.add_le_add_right h1 1) h2
def Ec (B:(H:Type)→DataW H→Nat) (P:Program) (off total:Nat) (fs:List Field) (α:Type) [GT α] [Wt α]:Prop:=
 off+GT.size α=total∧∀{H:Type} (enc:TypeId×Value→H) (W:aG) (n:Nat) (cs:List Value) (xs:List (DataW H×List MemPlace)),cs.length=total→xs.length=fs.length→
  (∀(i:Nat) f,fs[i]? =some f→DataW.trod enc P W 0 (fun _=>true) true n f.type ((cs.drop f.offset).take (P.cellsOf f.type))=xs[i]?)→∃y:α,GT.rep NB W (cs.drop off) y∧Wt.wt y≤((xs.map (·.1)).map (B H)).sum
theorem N6 {α:Type} [GT α] [Wt α] {f:Field} {off total:Nat} (ho:f.offset=off) (O:tK B P f.type α) (hs:off+GT.size α=total):Ec B P off total [f] α:=by
 refine⟨hs,fun {H} enc W n cs xs hl hx h=>?_⟩
 match xs,hx,h with
 |[x],_,h=>
  have h1:=h 0 f J
  obtain⟨y,hy,hw⟩:=O.2 enc W n _ _ h1
  rw[O.1,ho,an_ (by simp;omega)] at hy
  exact⟨y,hy,by simpa using hw⟩
theorem CO {α β:Type} [GT α] [GT β] [Wt α] [Wt β] {f:Field} {fs:List Field} {off VX total:Nat} (ho:f.offset=off) (O:tK B P f.type α) (hs:off+GT.size α=VX) (R:Ec B P VX total fs β):Ec B P off total (f::fs) (α×β):=by
 refine⟨by rw[←R.1,←hs];show off+(GT.size α+GT.size β)=_;omega,fun {H} enc W n cs xs hl hx h=>?_⟩
 match xs,hx,h with
 |x::xs,hx,h=>
  have h1:=h 0 f J
  obtain⟨y,hy,hw⟩:=O.2 enc W n _ _ h1
  obtain⟨z,hz,hv⟩:=R.2 enc W n cs xs hl (by simpa using hx) fun i g hg=>h (i+1) g (by simpa using hg)
  rw[O.1,ho] at hy
  refine⟨(y,z),⟨(cs.drop off).take (GT.size α),cs.drop VX,?_,hy,hz⟩,?_⟩
  ·rw[←hs,←ao0]
   exact(ao2 _ _).symm
  ·simp only[aoq,aqO]
   exact Nat.add_le_add hw hv
theorem Kq {α:Type} [GT α] [Wt α] {fs:Array Field} (hB:I3 B) (ht:P.underlying t=some (.struct fs)) (hc:P.cellsOf t=GT.size α) (R:Ec B P 0 (P.cellsOf t) fs.toList α):tK B P t α:=by
 refine⟨hc,fun {H} enc W n cs x h=>?_⟩
 obtain⟨xs,m,rfl,rfl,hl,hx,hf⟩:=DataW.trod_struct ht h
 obtain⟨y,hy,hw⟩:=R.2 enc W m cs xs hl (by simpa using hx) fun i f hf'=>hf i f (by rw[←aph];exact hf')
 exact⟨y,by simpa using hy,Nat.le_trans hw (hB.agg H _)⟩
section
variable {H:Type} {enc:TypeId×Value→H} {W:aG} {base:Nat} {v:Value} {d:DataW H} {ps:List MemPlace}
theorem Qg {α:Type} [GT α] [Wt α] (ht:P.underlying t=some (.slice e)) (O:tK B P t (List α)) (hv:Value.okWide P W .any base t v) (h:DataW.Trod enc P W 0 (fun _=>true) true t v d ps):
  ∃(y:List α) (a:Option Addr) (c:Nat),v=.slice a y.length c∧RV NB W (.slice a y.length c) y∧Wt.wt y≤B H d:=by
 obtain⟨a,n,c,rfl⟩:=okWide_slice ht hv
 obtain⟨m,h⟩:=h
 obtain⟨y,hy,hw⟩:=O.2 enc W m _ _ h
 obtain⟨a',c',e,hr⟩:=RS.explicit (RV.list.1 (⟨_,hy,rfl⟩:RV NB W (.slice a n c) y))
 injection e with e1 e2 e3
 subst e1 e2 e3
 exact⟨y,a,c,J,hr,hw⟩
end
end
end Go.Ew
