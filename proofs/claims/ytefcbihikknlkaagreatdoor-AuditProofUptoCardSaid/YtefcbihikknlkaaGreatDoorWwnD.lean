/- Plain words and laws: the document's proof of a witness, kind by kind (ref20.Of). -/
import Derived.Test.YtefcbihikknlkaaGreatDoorWwnC
import Derived.Test.YtefcbihikknlkaaGreatDoorWwnB
import Derived.Test.YtefcbihikknlkaaGreatDoorWwnA
import Derived.JoinedCond
set_option linter.unusedVariables false
set_option linter.unusedSimpArgs false
namespace Go.Ew
variable {es:List i'} {l:List aA} {rs:Rows}
section
variable {I:List aR} {fo:az} {k r a b o:Int}
theorem Yf (h:mX I fo k r a b o) (n2:k≠2) (n3:k≠3) (n4:k≠4) (n5:k≠5) (n6:k≠6) (n7:k≠7):Hd I fo k r a b o [] (-1) (-1):=by
 unfold mX at h
 rcases h with h|h|h|h|h|h|h
 ·obtain⟨rfl,rfl,rfl,rfl,h1,h2⟩:=h
  exact aac h1 h2
 all_goals exact absurd h.1 ‹_›
theorem Ye (h:mX I fo k r a b o) (e:k=2):r= -1∧a= -1∧b= -1∧fB I o∧jq I fo o.toNat o.toNat=true:=by
 unfold mX at h
 rcases h with h|h|h|h|h|h|h<;>first|exact h.2|(exfalso;have:=h.1;omega)
theorem SB (h:mX I fo k r a b o) (e:k=3):b= -1∧o= -1∧fB I r∧fB I a∧fo.getD r.toNat 0= -1∧fe I (gU I r) a=false∧jq I fo a.toNat r.toNat=true:=by
 unfold mX at h
 rcases h with h|h|h|h|h|h|h<;>first|exact h.2|(exfalso;have:=h.1;omega)
theorem Wu (h:mX I fo k r a b o) (e:k=4):o= -1∧fB I r∧fB I a∧fB I b∧fo.getD r.toNat 0=a∧a≠b∧fe I (gU I r) b=false∧jq I fo b.toNat r.toNat=true∧jq I fo a.toNat b.toNat=true:=by
 unfold mX at h
 rcases h with h|h|h|h|h|h|h<;>first|exact h.2|(exfalso;have:=h.1;omega)
theorem Wv (h:mX I fo k r a b o) (e:k=5):r= -1∧a= -1∧b= -1∧fB I o∧cl I.length (xB I fo) o.toNat o.toNat=true:=by
 unfold mX at h
 rcases h with h|h|h|h|h|h|h<;>first|exact h.2|(exfalso;have:=h.1;omega)
theorem Ig (h:mX I fo k r a b o) (e:k=6):b= -1∧fB I o∧fB I r∧fB I a∧r∈dB I o∧fo.getD r.toNat 0= -1∧fe I (gU I r) a=false∧pN I fo o a.toNat r.toNat=true:=by
 unfold mX at h
 rcases h with h|h|h|h|h|h|h<;>first|exact h.2|(exfalso;have:=h.1;omega)
theorem CT (h:mX I fo k r a b o) (e:k=7):r= -1∧b= -1∧fB I o∧fB I a∧pN I fo o a.toNat a.toNat=true:=by
 unfold mX at h
 rcases h with h|h|h|h|h|h|h<;>first|exact h.2|(exfalso;have:=h.1;omega)
theorem Pf (h:mX I fo k r a b o) (e:k=6∨k=7):fB I o∧fB I a:=e.elim (fun e=>⟨(Ig h e).2.1,(Ig h e).2.2.2.1⟩) fun e=>⟨(CT h e).2.2.1,(CT h e).2.2.2.1⟩
theorem YS (hl:fo.length=I.length) (hn:I.length≤12) (h:mX I fo k r a b o) (e:k=2):
  fB I o∧(cD ((I.length:Nat):Int) (bl I fo) o o).isSome=true∧Hd I fo k r a b o (bq I fo [] ((I.length:Nat):Int) (bl I fo) o o).1 (bq I fo [] ((I.length:Nat):Int) (bl I fo) o o).2 (-1)∧(bq I fo [] ((I.length:Nat):Int) (bl I fo) o o).1.length≤1000000:=by
 obtain⟨rfl,rfl,rfl,ho,hc⟩:=Ye h e
 subst e
 obtain⟨h1,h2⟩:=aaa hl ai ho hc
 exact⟨ho,y5 ai ho ho hc,h1,by omega⟩
theorem Tr (hl:fo.length=I.length) (hn:I.length≤12) (h:mX I fo k r a b o) (e:k=3):
  fB I a∧fB I r∧(cD ((I.length:Nat):Int) (bl I fo) a r).isSome=true∧Hd I fo k r a b o (bq I fo [] ((I.length:Nat):Int) (bl I fo) a r).1 (bq I fo [] ((I.length:Nat):Int) (bl I fo) a r).2 (-1)∧(bq I fo [] ((I.length:Nat):Int) (bl I fo) a r).1.length≤1000000:=by
 obtain⟨rfl,rfl,hr,ha,h0,h1,hc⟩:=SB h e
 subst e
 obtain⟨g1,g2⟩:=T0 hl ai hr ha h0 h1 hc
 exact⟨ha,hr,y5 ai ha hr hc,g1,by omega⟩
theorem Xi (hl:fo.length=I.length) (hn:I.length≤12) (hv:nD I fo) (h:mX I fo k r a b o) (e:k=4):
  fB I a∧fB I b∧fB I r∧(cD ((I.length:Nat):Int) (bl I fo) a b).isSome=true∧(cD ((I.length:Nat):Int) (bl I fo) b r).isSome=true∧(bq I fo [] ((I.length:Nat):Int) (bl I fo) a b).1.length≤200∧
   Hd I fo k r a b o (bq I fo (bq I fo [] ((I.length:Nat):Int) (bl I fo) a b).1 ((I.length:Nat):Int) (bl I fo) b r).1 (bq I fo [] ((I.length:Nat):Int) (bl I fo) a b).2 (bq I fo (bq I fo [] ((I.length:Nat):Int) (bl I fo) a b).1 ((I.length:Nat):Int) (bl I fo) b r).2∧
   (bq I fo (bq I fo [] ((I.length:Nat):Int) (bl I fo) a b).1 ((I.length:Nat):Int) (bl I fo) b r).1.length≤1000000:=by
 obtain⟨rfl,hr,ha,hb,h0,ff,h1,h2,h3⟩:=Wu h e
 subst e
 obtain⟨g1,g2,g3⟩:=XB hl ai hv hr ha hb h0 ff h1 h2 h3
 exact⟨ha,hb,hr,y5 ai ha hb h3,y5 ai hb hr h2,g2,g1,by omega⟩
theorem OR (hn:I.length≤64):∀x∈bP I fo ((I.length:Nat):Int) (bw I fo) I.length,(cD ((I.length:Nat):Int) (bl I fo) x.1 x.2.2).isSome=true:=by
 intro e hm
 obtain⟨a,b,r,ha,hb,hr,h1,h2,h3,rfl⟩:=rG.1 hm
 unfold bw at h3
 rw[fy ha hr] at h3
 exact yc ai ha hr h3
theorem Rt (hl:fo.length=I.length) (hn:I.length≤12) (hv:nD I fo) {o:Int} (ho:fB I o) (h:cl I.length (xB I fo) o.toNat o.toNat=true) (he:es=bP I fo ((I.length:Nat):Int) (bw I fo) I.length):
  (cD ((I.length:Nat):Int) (dp ((I.length:Nat):Int) (bl I fo) es) o o).isSome=true:=by
 have iw:xD I.length es:=by rw[he];exact tC
 have yE:∀a b r:Nat,a<I.length→b<I.length→r<I.length→dE I ((a:Nat):Int) ((b:Nat):Int)=true→fo.getD r 0=((b:Nat):Int)→jq I fo a r=true→(((a:Nat):Int),((b:Nat):Int),((r:Nat):Int))∈es:=by
  intro a b r ha hb hr h1 h2 h3
  rw[he]
  exact rG.2 ⟨a,b,r,ha,hb,hr,h1,h2,by unfold bw;rw[fy ha hr];exact h3,J⟩
 have vZ:dp ((I.length:Nat):Int) (bl I fo) es=cO I.length fun a b=>ur I fo a b||BA es a b:=oz iw
 rw[vZ]
 refine yd ai ho ho ?_
 rw[om (by have:=ho.1;have:=ho.2;omega) (by have:=ho.1;have:=ho.2;omega)] at h ⊢
 refine h.least (fun x y hx hy k=>?_) fun x y z _ _ _=>TC.trans
 unfold xB at k
 rw[alI] at k
 rcases k with k|k
 ·exact((om hx hy).1 k).mono fun x y _ _ k=>by simp[k]
 ·obtain⟨r,k⟩:=(@decide_eq_true_iff _ (Classical.propDecidable _)).1 k
  refine .one hx hy ?_
  rw[alI]
  exact .inr (r9.2 ⟨(((x:Nat):Int),((y:Nat):Int),((r:Nat):Int)),yE x y r hx hy k.r1 (rI hv k) ((iI hl k.r1).2 k.fr) k.ah,J,J⟩)
theorem Xj (hl:fo.length=I.length) (hn:I.length≤12) (hv:nD I fo) (dx:∀x∈fo,x<((I.length:Nat):Int)) (h:mX I fo k r a b o) (e:k=5) (he:es=bP I fo ((I.length:Nat):Int) (bw I fo) I.length):
  fB I o∧xD I.length es∧(∀x∈es,(cD ((I.length:Nat):Int) (bl I fo) x.1 x.2.2).isSome=true)∧es.length≤300000∧(eg I fo ((I.length:Nat):Int) (bl I fo) [] es).length≤1000000∧
   (cD ((I.length:Nat):Int) (dp ((I.length:Nat):Int) (bl I fo) es) o o).isSome=true∧cq ((I.length:Nat):Int) (dp ((I.length:Nat):Int) (bl I fo) es)=true∧
   Hd I fo k r a b o (bq I fo (eg I fo ((I.length:Nat):Int) (bl I fo) [] es) ((I.length:Nat):Int) (dp ((I.length:Nat):Int) (bl I fo) es) o o).1 (bq I fo (eg I fo ((I.length:Nat):Int) (bl I fo) [] es) ((I.length:Nat):Int) (dp ((I.length:Nat):Int) (bl I fo) es) o o).2 (-1)∧
   (bq I fo (eg I fo ((I.length:Nat):Int) (bl I fo) [] es) ((I.length:Nat):Int) (dp ((I.length:Nat):Int) (bl I fo) es) o o).1.length≤1000000:=by
 obtain⟨rfl,rfl,rfl,ho,hc⟩:=Wv h e
 subst e
 obtain⟨g1,g2⟩:=XC hl hn hv dx ho hc he
 have iw:xD I.length es:=by rw[he];exact tC
 have hp:∀x∈es,(cD ((I.length:Nat):Int) (bl I fo) x.1 x.2.2).isSome=true:=by rw[he];exact OR ai
 have hlen:es.length≤12*144:=by
  rw[he]
  refine Nat.le_trans (Bz _) ?_
  have wm:I.length*I.length≤144:=amB hn hn
  exact amB hn wm
 have hd:=DB (I:=I) (fo:=fo) (n:=((I.length:Nat):Int)) (rs:=bl I fo) (tB fo ai) (by rw[dC];omega) (es:=es) (l:=[]) hp
 simp only[gW,ama] at hd
 refine⟨ho,iw,hp,by omega,by omega,Rt hl hn hv ho hc he,?_,g1,by omega⟩
 rw[show dp ((I.length:Nat):Int) (bl I fo) es=cO I.length fun a b=>ur I fo a b||BA es a b from oz iw]
 exact kx ai
theorem ti {I:List aR} {fo:az} {n:Int} {a b:Int} (hR:cq n rs=true) (hs:(cD n rs a b).isSome=true) (hl:l.length≤2000000) (hn:n≤64):aN (bq I fo l n rs a b).2:=by
 obtain⟨_,h1,h2⟩:=C2 (I:=I) (fo:=fo) (l:=l) hR hs
 unfold aN;omega
theorem Mo (hn:I.length≤12) (O:et I) {o:Int} (ho:fB I o) (H:wT I fo o rs l) (he:es=cJ I fo ((I.length:Nat):Int) (bU ((I.length:Nat):Int) rs) (dB I o) I.length):
  ∀x∈es,(cD ((I.length:Nat):Int) rs x.1 x.2.2).isSome=true:=by
 obtain⟨p,hp⟩:=H.rel
 have qD:bU ((I.length:Nat):Int) rs=cO I.length (cl I.length p):=by rw[hp];exact mw
 rw[qD] at he
 intro e hm
 rw[he] at hm
 obtain⟨a,b,ha,hb,h1,h2,r,h3,h4,h5,rfl⟩:=C' hm
 have hr:=(mc (fo:=fo) O h3 ho).1
 obtain⟨r,rfl⟩:∃q:Nat,r=((q:Nat):Int):=⟨r.toNat,by have:=hr.1;omega⟩
 have xn:r<I.length:=by have:=hr.2;omega
 rw[fy ha xn] at h5
 rw[hp];exact yc ai ha xn h5
theorem VD (hl:fo.length=I.length) (hn:I.length≤12) (hv:nD I fo) (O:et I) {o:Int} (ho:fB I o) (H:wT I fo o rs l) (hz:cJ I fo ((I.length:Nat):Int) (bU ((I.length:Nat):Int) rs) (dB I o) I.length=[]) {x y:Int} (hx:fB I x) (hy:fB I y) (h:pN I fo o x.toNat y.toNat=true):(cD ((I.length:Nat):Int) rs x y).isSome=true:=by
 have hc:=Rb hl hv O ho H hz h
 obtain⟨p,hp⟩:=H.rel
 rw[hp] at hc ⊢
 refine yd ai hx hy ?_
 rw[←hc]
 exact tE (fun u v hu yA=>(eX hu yA).symm) (by have:=hx.1;have:=hx.2;omega)<|by have:=hy.1;have:=hy.2;omega
theorem Mp (hn:I.length≤12) {o:Int} (H:wT I fo o rs l):l.length≤600000:=by
 have h2:=H.len
 have h3:=Rc (rs:=rs) hn
 omega
theorem YT (hl:fo.length=I.length) (hn:I.length≤12) (hv:nD I fo) (O:et I) (h:mX I fo k r a b o) (e:k=6) (H:wT I fo o rs l) (hz:cJ I fo ((I.length:Nat):Int) (bU ((I.length:Nat):Int) rs) (dB I o) I.length=[]):
  fB I r∧(cD ((I.length:Nat):Int) rs a r).isSome=true∧Hd I fo k r a b o (bq I fo l ((I.length:Nat):Int) rs a r).1 (bq I fo l ((I.length:Nat):Int) rs a r).2 (-1)∧(bq I fo l ((I.length:Nat):Int) rs a r).1.length≤1000000:=by
 obtain⟨rfl,ho,hr,ha,hk,h0,h1,hs⟩:=Ig h e
 subst e
 obtain⟨g1,g2⟩:=aab hl hn hv O ho hr ha hk h0 h1 hs H hz
 exact⟨hr,VD hl hn hv O ho H hz ha hr hs,g1,by omega⟩
theorem Ts (hl:fo.length=I.length) (hn:I.length≤12) (hv:nD I fo) (O:et I) (h:mX I fo k r a b o) (e:k=7) (H:wT I fo o rs l) (hz:cJ I fo ((I.length:Nat):Int) (bU ((I.length:Nat):Int) rs) (dB I o) I.length=[]):
  (cD ((I.length:Nat):Int) rs a a).isSome=true∧Hd I fo k r a b o (bq I fo l ((I.length:Nat):Int) rs a a).1 (bq I fo l ((I.length:Nat):Int) rs a a).2 (-1)∧(bq I fo l ((I.length:Nat):Int) rs a a).1.length≤1000000:=by
 obtain⟨rfl,rfl,ho,ha,hs⟩:=CT h e
 subst e
 obtain⟨g1,g2⟩:=T1 hl hn hv O ho ha hs H hz
 exact⟨VD hl hn hv O ho H hz ha ha hs,g1,by omega⟩
theorem XY {P:Prop} {c:Int} (h:(!decide (c=0))=true) (e:c=0):P:=by rw[e] at h;exact absurd h aJ
theorem RP {lv:Int} (h:iX I fo lv=0):(nz I fo lv).isSome=true:=by
 unfold iX at h
 split at h
 ·assumption
 ·omega
theorem XK (hl:fo.length=I.length) (dx:∀x∈fo,x<((I.length:Nat):Int)) (O:et I) {lv:Int} (w:oE (nz I fo lv) k r a b o) (h:(nz I fo lv).isSome=true):Hg k r a b o∧fk (ez lv) k=true∧mX I fo k r a b o:=by
 obtain⟨y,hy⟩:=alN.1 h
 obtain⟨h1,h2⟩:=Ug hl dx O hy
 rw[w.2 y hy] at h1 h2
 exact⟨w.1,mz.2 h1,h2⟩
end
end Go.Ew
namespace Go.Ew
section
variable {I:List aR} {fo:az} {lv k r a b o:Int} {l:List aA} {f s:Int}
theorem XD (h:iX I fo lv=0→fk (ez lv) k=true∧Hd I fo k r a b o l f s) (e:iX I fo lv=0):eA I fo lv k r a b o l f s=true:=(h e).2 _ (h e).1
theorem Wo (h:Hg k r a b o):aN k∧aN r∧aN a∧aN b∧aN o:=by
 obtain⟨h1,h2,h3,h4,h5⟩:=h
 exact⟨h1,h2,h3,h4,h5⟩
theorem TQ (hl:fo.length=I.length) (hv:nD I fo) (dx:∀x∈fo,x<((I.length:Nat):Int)) (h:decide (iX I fo lv=0)=false):eA I fo lv k r a b o l f s=false:=by
 cases e:eA I fo lv k r a b o l f s with
 |false=>rfl
 |true=>
  have h1:=(Ei hl hv dx e).1
  refine absurd ?_<|al3 h
  unfold iX
  rw[alE h1]
theorem XA (hl:fo.length=I.length) (hv:nD I fo) (dx:∀x∈fo,x<((I.length:Nat):Int)) (h:eA I fo lv k r a b o l f s=true):(fT I fo k).isSome=true:=(Ei hl hv dx h).2
theorem Oz (h:eA I fo lv k r a b o l f s=true):1≤k∧k≤7:=by
 have hk:fk (ez lv) k=true:=by
  unfold eA at h
  cases e:fk (ez lv) k with
  |true=>rfl
  |false=>rw[e] at h;simp at h
 have:=vS<|mz.1 hk
 omega
theorem Lo (h:eA I fo lv k r a b o l f s=true):vy I fo l=true:=by
 unfold eA at h
 unfold vy
 simp only[cA] at h
 exact h.1.2
end
end Go.Ew
namespace Go.Ew
def jL (p:Prop):Item:=⟨none,fun _ _=>p,fun h _ _=>h⟩
theorem HI.pr {M0:bT} {w0 w:aI} {l:List Item} {p:Prop} (H:HI M0 w0 w l) (h:p):HI M0 w0 w (jL p::l):=H.put rfl h
end Go.Ew
namespace Go.Ew
open Go.RowKit
section
variable {P:Program} {n:Nat} {fn:Func} {R:Value→aI→Prop} {f:aP} {w w0:aI} {M0:bT} {l:List Item} {agg:Bool} {bytes:Nat} {z:Value} {k:Nat}
theorem rd2 {T:TypeId} {b:Nat} {cs:Array Value} {ty:TypeId} {p t:Nat} (H:HI M0 w0 w l) (i:Nat) (hi:l[i]? =some (box b cs ty)) (F:fA P T k agg bytes z) (hr:fn.results=#[.tmp t,.cell p T]) (hp:Nat.blt p n=true) (ht:Nat.blt t n=true) (hx:f p=.pointer (some ⟨b,0,none⟩)) (hl:((cs.toList.drop 0).take k).length=k) (hk:agg=false→k=1)
  (h:R (.tuple #[f t,pW agg ((cs.toList.drop 0).take k)]) w):qO P n fn R .ret (bY n f) w:=by
 refine⟨f,J,_,?_,h⟩
 have h:=qm (P:=P) H i hi F hk hl
 have h0:(bY n f).tmps.getD p undef=.pointer (some ⟨b,0,none⟩):=by rw[nd hp,hx]
 have h2:=nd (f:=f) ht
 simp only[results,hr,anS]
 simp only[aoo,aow]
 simp[h,h0,asAddr,h2]
end
end Go.Ew
namespace Go.Ew
open Go.RowKit Go.WideShapes Go.ChangeShapes
structure F7 (B:(H:Type)→DataW H→Nat):Prop where
 lit:∀(H:Type) l,1≤B H (.lit l)
 str:∀(H:Type) bs,bs.length+1≤B H (.lit (.string bs))
 nil:∀(H:Type),1≤B H .nil
 slice:∀(H:Type) (es sp:List (DataW H)),(es.map (B H)).sum+1≤B H (.slice es sp)
 agg:∀(H:Type) (ps:List (DataW H)),(ps.map (B H)).sum≤B H (.agg ps)
class Wt (α:Type) where
 wt:α→Nat
instance ajR:Wt Int:=⟨fun _=>1⟩
instance aj3:Wt bG:=⟨fun _=>1⟩
instance aj4:Wt (BitVec 8):=⟨fun _=>1⟩
instance agK:Wt Bool:=⟨fun _=>1⟩
instance ajQ:Wt fO:=⟨fun s=>s.size+1⟩
instance agJ {α:Type} [Wt α]:Wt (List α):=⟨fun l=>(l.map Wt.wt).sum+1⟩
instance agI {α β:Type} [Wt α] [Wt β]:Wt (α×β):=⟨fun x=>Wt.wt x.1+Wt.wt x.2⟩
theorem O' {α:Type} [Wt α] (h1:∀x:α,1≤Wt.wt x):∀l:List α,l.length≤(l.map Wt.wt).sum
 |[]=>alL _
 |x::l=>by
  have:=O' h1 l
  have:=h1 x
  simp only[jv,amD,aov];omega
theorem Wp {α:Type} [Wt α] (h1:∀x:α,1≤Wt.wt x):∀h:List (List α),h.flatten.length≤Wt.wt h:=by
 intro h
 show _≤(h.map Wt.wt).sum+1
 induction h with
 |nil=>simp
 |cons l h ih=>
  have:=O' h1 l
  simp only[aoS,im,amD,aov]
  show _≤((l.map Wt.wt).sum+1)+(h.map Wt.wt).sum+1
  omega
theorem Lx {α β:Type} [Wt α] [Wt β] (h:∀x:β,1≤Wt.wt x):∀x:α×β,1≤Wt.wt x:=fun x=>by
 have:=h x.2
 show 1≤Wt.wt x.1+Wt.wt x.2
 omega
theorem Yb:∀x:Int,1≤Wt.wt x:=fun _=>alL _
def rm (B:(H:Type)→DataW H→Nat) (P:Program) (t:TypeId) (α:Type) [GT α] [Wt α]:Prop:=
 P.cellsOf t=GT.size α∧∀{H:Type} (enc:TypeId×Value→H) (W:aI) (n:Nat) (cs:List Value) (x:DataW H×List MemPlace),
  DataW.trod enc P W 0 (fun _=>true) true n t cs=some x→∃y:α,GT.rep CK W cs y∧Wt.wt y≤B H x.1
section
variable {P:Program} {t e:TypeId} {B:(H:Type)→DataW H→Nat}
theorem jA (hB:F7 B) (hc:P.cellsOf t=1) (ht:P.underlying t=some (.int .i64)):rm B P t Int:=by
 refine⟨hc,fun {H} enc W n cs x h=>?_⟩
 obtain⟨k,rfl,rfl,hw⟩:=DataW.trod_int ht h
 exact⟨k,⟨J,bounds_i64 hw⟩,hB.lit H _⟩
theorem Ln (hB:F7 B) (hc:P.cellsOf t=1) (ht:P.underlying t=some .bool):rm B P t Bool:=by
 refine⟨hc,fun {H} enc W n cs x h=>?_⟩
 obtain⟨k,rfl,rfl⟩:=DataW.trod_bool ht h
 exact⟨k,J,hB.lit H _⟩
theorem Hq (hB:F7 B) (hc:P.cellsOf t=1) (ht:P.underlying t=some .string):rm B P t fO:=by
 refine⟨hc,fun {H} enc W n cs x h=>?_⟩
 obtain⟨k,rfl,rfl,hk⟩:=DataW.trod_string ht h
 refine⟨k,⟨J,hk⟩,?_⟩
 have:=hB.str H k.data.toList
 rw[amX] at this
 exact this
theorem O_ {α:Type} [Wt α] {D:Type} (g:D→Nat):∀(l:List α) (es:List D),l.length=es.length→(∀(i:Nat) (y:α) (x:D),l[i]? =some y→es[i]? =some x→Wt.wt y≤g x)→(l.map Wt.wt).sum≤(es.map g).sum
 |[],[],_,_=>alL _
 |[],_::_,h,_=>by simp at h
 |_::_,[],h,_=>by simp at h
 |y::l,x::es,h,k=>by
  have h1:=O_ g l es (by simpa using h) fun i y x hy hx=>k (i+1) y x (by simpa using hy) (by simpa using hx)
  have h2:=k 0 y x J J
  simp only[amD,aov];omega
theorem vN {α:Type} [GT α] [Wt α] (hB:F7 B) (hc:P.cellsOf t=1) (ht:P.underlying t=some (.slice e)) (O:rm B P e α):rm B P t (List α):=by
 refine⟨hc,fun {H} enc W n cs x h=>?_⟩
 rcases DataW.trod_slice ht h with ⟨rfl,rfl⟩|⟨a,len,cap,elems,rest,m,rfl,rfl,rfl, -,hl,hm,hlen,Em, -, -⟩
 ·exact⟨[],⟨_,J,DT _ _⟩,hB.nil H⟩
 ·have one:∀i,i<len→∃y:α,At CK W (a.add (i*GT.size α)) y∧∀z,elems[i]? =some z→Wt.wt y≤B H z.1:=by
   intro i hi
   have h1:=Em i hi
   rw[dW (by omega:i<elems.length)] at h1
   simp only[aor] at h1
   obtain⟨ds,hd,hx⟩:=h1
   obtain⟨y,hy,hw⟩:=O.2 enc W m ds _ hx
   rw[O.1] at hd
   refine⟨y,⟨ds,hy,fun h=>h,RU hd⟩,fun z hz=>?_⟩
   rw[dW (by omega:i<elems.length)] at hz
   cases hz
   exact hw
  obtain⟨l,hl1,pA⟩:=CI (Q:=fun i (y:α)=>At CK W (a.add (i*GT.size α)) y∧∀z,elems[i]? =some z→Wt.wt y≤B H z.1) len one
  refine⟨l,⟨_,J,some a,len,cap,J,hl1,hl,hm,?_⟩,?_⟩
  ·by_cases h0:len=0
   ·exact .inl h0
   ·exact .inr ⟨a,J,fun i y hy=>(pA i y hy).1⟩
  ·have h1:=O_ (fun z:DataW H×List MemPlace=>B H z.1) l elems ai fun i y x hy hx=>(pA i y hy).2 x hx
   have h2:=hB.slice H (elems.map (·.1))<|rest.map (·.1)
   rw[aoX] at h2
   show (l.map Wt.wt).sum+1≤_
   exact Nat.le_trans (Nat.add_le_add_right h1 1) h2
def Ch (B:(H:Type)→DataW H→Nat) (P:Program) (off total:Nat) (fs:List Field) (α:Type) [GT α] [Wt α]:Prop:=
 off+GT.size α=total∧∀{H:Type} (enc:TypeId×Value→H) (W:aI) (n:Nat) (cs:List Value) (xs:List (DataW H×List MemPlace)),cs.length=total→xs.length=fs.length→
  (∀(i:Nat) f,fs[i]? =some f→DataW.trod enc P W 0 (fun _=>true) true n f.type ((cs.drop f.offset).take (P.cellsOf f.type))=xs[i]?)→∃y:α,GT.rep CK W (cs.drop off) y∧Wt.wt y≤((xs.map (·.1)).map (B H)).sum
theorem xK {α:Type} [GT α] [Wt α] {f:Field} {off total:Nat} (ho:f.offset=off) (O:rm B P f.type α) (hs:off+GT.size α=total):Ch B P off total [f] α:=by
 refine⟨hs,fun {H} enc W n cs xs hl hx h=>?_⟩
 match xs,hx,h with
 |[x],_,h=>
  have h1:=h 0 f J
  obtain⟨y,hy,hw⟩:=O.2 enc W n _ _ h1
  rw[O.1,ho,alU (by simp;omega)] at hy
  exact⟨y,hy,by simpa using hw⟩
theorem il {α β:Type} [GT α] [GT β] [Wt α] [Wt β] {f:Field} {fs:List Field} {off Tq total:Nat} (ho:f.offset=off) (O:rm B P f.type α) (hs:off+GT.size α=Tq) (R:Ch B P Tq total fs β):Ch B P off total (f::fs) (α×β):=by
 refine⟨by rw[←R.1,←hs];show off+(GT.size α+GT.size β)=_;omega,fun {H} enc W n cs xs hl hx h=>?_⟩
 match xs,hx,h with
 |x::xs,hx,h=>
  have h1:=h 0 f J
  obtain⟨y,hy,hw⟩:=O.2 enc W n _ _ h1
  obtain⟨z,hz,hv⟩:=R.2 enc W n cs xs hl (by simpa using hx) fun i g hg=>h (i+1) g (by simpa using hg)
  rw[O.1,ho] at hy
  refine⟨(y,z),⟨(cs.drop off).take (GT.size α),cs.drop Tq,?_,hy,hz⟩,?_⟩
  ·rw[←hs,←anm]
   exact(ank _ _).symm
  ·simp only[amD,aov]
   exact Nat.add_le_add hw hv
theorem uE {α:Type} [GT α] [Wt α] {fs:Array Field} (hB:F7 B) (ht:P.underlying t=some (.struct fs)) (hc:P.cellsOf t=GT.size α) (R:Ch B P 0 (P.cellsOf t) fs.toList α):rm B P t α:=by
 refine⟨hc,fun {H} enc W n cs x h=>?_⟩
 obtain⟨xs,m,rfl,rfl,hl,hx,hf⟩:=DataW.trod_struct ht h
 obtain⟨y,hy,hw⟩:=R.2 enc W m cs xs hl (by simpa using hx) fun i f hf'=>hf i f (by rw[←anz];exact hf')
 exact⟨y,by simpa using hy,Nat.le_trans hw (hB.agg H _)⟩
section
variable {H:Type} {enc:TypeId×Value→H} {W:aI} {base:Nat} {v:Value} {d:DataW H} {ps:List MemPlace}
theorem Ni {α:Type} [GT α] [Wt α] (ht:P.underlying t=some (.slice e)) (O:rm B P t (List α)) (hv:Value.okWide P W .any base t v) (h:DataW.Trod enc P W 0 (fun _=>true) true t v d ps):
  ∃(y:List α) (a:Option Addr) (c:Nat),v=.slice a y.length c∧RV CK W (.slice a y.length c) y∧Wt.wt y≤B H d:=by
 obtain⟨a,n,c,rfl⟩:=okWide_slice ht hv
 obtain⟨m,h⟩:=h
 obtain⟨y,hy,hw⟩:=O.2 enc W m _ _ h
 obtain⟨a',c',e,hr⟩:=RS.explicit (RV.list.1 (⟨_,hy,rfl⟩:RV CK W (.slice a n c) y))
 injection e with e1 e2 e3
 subst e1 e2 e3
 exact⟨y,a,c,J,hr,hw⟩
theorem K7 {α:Type} [GT α] [Wt α] {fs:Array Field} (ht:P.underlying t=some (.struct fs)) (ha:GT.agg α=true) (O:rm B P t α) (hv:Value.okWide P W .any base t v) (h:DataW.Trod enc P W 0 (fun _=>true) true t v d ps):∃y:α,RV CK W v y∧Wt.wt y≤B H d:=by
 obtain⟨y0,Zy⟩:=Nh ht ha ⟨O.1,fun enc W n cs x h=>by obtain⟨y,hy,_⟩:=O.2 enc W n cs x h;exact⟨y,hy⟩⟩ hv h
 obtain⟨m,h⟩:=h
 obtain⟨y,hy,hw⟩:=O.2 enc W m _ _ h
 obtain⟨cs,hcs,hvc⟩:=Zy
 refine⟨y,⟨_,hy,?_⟩,hw⟩
 rw[hvc,ha]
 rfl
end
end
end Go.Ew
