/- Engine, part A: a frame's temporaries as a function; single operations in continuation form; regions, loops, cuts. Independent of any program. -/
import Derived.WalkKit
import Derived.Deep.LoopGhost
import Derived.Maps.AppendAt
set_option linter.unusedVariables false
set_option linter.unusedSimpArgs false
namespace Go.Ew
theorem J.{u}{α:Sort u}{a:α}:a=a:=rfl
abbrev apj:=@congrArg
abbrev apk:=@List.length_set
abbrev apl:=@decide_eq_true_eq
abbrev apm:=@Option.some.inj
abbrev apn:=@Nat.le_refl
abbrev apo:=@if_pos
abbrev apq:=@List.mem_range
abbrev apr:=@if_neg
abbrev aps:=@List.all_eq_true
abbrev apt:=@decide_eq_true
abbrev apu:=@List.take_of_length_le
abbrev apv:=@decide_eq_false
abbrev apw:=@Bool.or_eq_true
abbrev apx:=@List.getElem?_map
abbrev apy:=@Option.some.injEq
abbrev apz:=@List.getElem?_eq_none
abbrev apA:=@decide_eq_false_iff_not
abbrev apC:=@List.getElem?_cons_zero
abbrev apD:=@List.mem_cons
abbrev apE:=@List.mem_filter
abbrev apF:=@Bool.eq_iff_iff
abbrev apG:=@List.mem_iff_getElem?
abbrev apH:=@List.getElem?_set_self
abbrev apI:=@List.getElem?_cons_succ
abbrev apJ:=@List.length_drop
abbrev apK:=@List.findIdx?_eq_some_iff_getElem
abbrev apL:=@Option.isSome_iff_exists
abbrev apM:=@List.mem_append
abbrev apN:=@Option.map_eq_some_iff
abbrev apO:=@List.any_eq_true
abbrev apP:=@List.map_cons
abbrev apR:=@List.mem_filterMap
abbrev apS:=@List.getElem?_take
abbrev apT:=@List.mem_cons_of_mem
abbrev apU:=@Array.getElem?_eq_some_iff
abbrev apV:=@Nat.lt_of_lt_of_le
abbrev apW:=@List.take_add_one
abbrev apX:=@List.ext_getElem?
abbrev apY:=@List.append_assoc
abbrev apZ:=@List.length_map
abbrev ap0:=@Int.toNat_of_nonneg
abbrev ap1:=@List.getElem?_set_ne
abbrev ap2:=@List.contains_iff_mem
abbrev ap3:=@Nat.add_zero
abbrev ap4:=@List.mem_map
abbrev ap5:=@of_decide_eq_true
abbrev ap6:=@List.getElem?_drop
abbrev ap7:=@Classical.byContradiction
abbrev ap8:=@Prod.mk.injEq
abbrev ap9:=@Array.length_toList
abbrev ap_:=@Nat.zero_add
abbrev ap':=@List.mem_cons_self
abbrev aqa:=@List.filterMap_cons
abbrev aqb:=@List.mem_or_eq_of_mem_set
abbrev aqc:=@Bool.true_and
abbrev aqd:=@Nat.add_mul
abbrev aqe:=@if_false
abbrev aqf:=@List.replicate_succ
abbrev aqg:=@Bool.or_eq_true_iff
abbrev aqh:=@List.take_length
abbrev aqi:=@List.drop_eq_getElem_cons
abbrev aqj:=@List.drop_drop
abbrev aqk:=@Nat.min_eq_left
abbrev aql:=@List.append_nil
abbrev aqm:=@List.getElem?_range
abbrev aqn:=@List.length_filter_le
abbrev aqo:=@Bool.not_eq_true'
abbrev aqp:=@List.length_eq_zero_iff
abbrev aqq:=@Nat.sub_self
abbrev aqr:=@Nat.mul_le_mul_right
abbrev aqs:=@List.range_succ
abbrev aqt:=@List.nodup_cons
abbrev aqu:=@List.cons.injEq
abbrev aqv:=@List.filter_eq_nil_iff
abbrev aqw:=@List.map_congr_left
abbrev aqx:=@Nat.le_of_ble_eq_true
abbrev aqy:=@Nat.eq_of_beq_eq_true
abbrev aqz:=@List.take_append_drop
abbrev aqA:=@List.mem_append_right
abbrev aqB:=@Array.getElem?_toList
abbrev aqC:=@Option.map_some
abbrev aqD:=@List.mem_singleton
abbrev aqE:=@decide_eq_decide
abbrev aqF:=@List.mem_of_mem_take
abbrev aqG:=@List.mem_append_left
abbrev aqH:=@Nat.zero_le
abbrev aqI:=@List.getElem?_set
abbrev aqJ:=@List.getElem!_eq_getElem?_getD
abbrev aqK:=@List.set_append_right
abbrev aqL:=@List.take_append_of_le_length
abbrev aqM:=@List.eq_nil_of_length_eq_zero
abbrev aqN:=@Nat.lt_succ_self
abbrev aqO:=@List.getElem?_take_of_lt
abbrev aqP:=@List.find?_eq_none
abbrev aqQ:=@List.filter_append
abbrev aqR:=@Bool.or_false
abbrev aqS:=@List.take_take
abbrev aqT:=@List.size_toArray
abbrev aqU:=@List.flatten_cons
abbrev aqV:=@List.flatMap_cons
abbrev aqW:=@List.map_append
abbrev aqX:=@List.drop_eq_nil_of_le
abbrev aqY:=@List.ext_getElem
abbrev aqZ:=@of_decide_eq_false
abbrev aq0:=@if_true
abbrev aq1:=@BitVec.eq_of_toNat_eq
abbrev aq2:=@Nat.not_lt_zero
abbrev aq3:=@Nat.lt_succ_iff_lt_or_eq
abbrev aq4:=@List.mem_of_mem_drop
abbrev aq5:=@Bool.or_eq_false_iff
abbrev aq6:=@Array.eq_empty_of_size_eq_zero
abbrev aq7:=@List.nodup_append
abbrev aq8:=@List.foldl_append
abbrev aq9:=@List.any_eq_false
abbrev aq_:=@List.getElem?_replicate
abbrev aq':=@List.flatMap_append
abbrev ara:=@Array.getInternal_eq_getElem
abbrev arb:=@BitVec.toNat_ofInt
abbrev arc:=@List.length_singleton
abbrev ard:=@List.getElem?_zipWith
abbrev are:=@Bool.false_or
abbrev arf:=@Array.getElem?_append_left
abbrev arh:=@List.length_range
abbrev ari:=@Nat.shiftRight_eq_div_pow
abbrev arj:=@List.mem_iff_getElem
abbrev ark:=@List.findIdx?_eq_none_iff
abbrev arl:=@List.take_zero
abbrev arn:=@not_true
abbrev aro:=@List.map_toArray
abbrev arp:=@BitVec.toNat_ushiftRight
abbrev arq:=@BitVec.eq_of_getLsbD_eq
abbrev ars:=@Nat.lt_irrefl
abbrev art:=@Nat.blt_eq
abbrev aru:=@List.set_cons_zero
abbrev arv:=@Bool.not_eq_false'
abbrev arw:=@BitVec.getLsbD_and
abbrev arx:=@Nat.mul_one
abbrev ary:=@List.find?_eq_some_iff_append
abbrev arz:=@List.filter_congr
abbrev arA:=@List.filterMap_append
abbrev arB:=@Option.getD_some
abbrev arC:=@Nat.mod_eq_of_lt
abbrev arD:=@Nat.div_eq_of_lt
abbrev arE:=@List.take_append
abbrev arG:=@List.nodup_range
abbrev arH:=@List.getElem_mem
abbrev arI:=@List.contains_eq_mem
abbrev arJ:=@List.cons_append
abbrev arK:=@List.findSome?_eq_none_iff
abbrev arL:=@Bool.not_true
abbrev arM:=@BitVec.toInt_eq_toNat_cond
abbrev arN:=@ne_eq
abbrev arO:=@List.mem_of_find?_eq_some
abbrev arP:=@List.foldl_cons
abbrev arQ:=@or_false
abbrev arR:=@Nat.zero_mul
abbrev arS:=@Nat.sub_zero
abbrev arT:=@Nat.mul_comm
abbrev arU:=@List.getElem_range
abbrev arV:=@List.Nodup.sublist
abbrev arW:=@Bool.false_ne_true
abbrev arX:=@BitVec.getLsbD_shiftLeft
abbrev arY:=@List.drop_zero
abbrev arZ:=@Option.bind_eq_some_iff
abbrev ar0:=@Option.isSome_map
abbrev ar1:=@Nat.lt_trichotomy
abbrev ar2:=@List.mapM_toArray
abbrev ar3:=@List.getElem_cons_drop
abbrev ar4:=@Nat.add_assoc
abbrev ar5:=@List.getElem_set
abbrev ar6:=@List.flatten_nil
abbrev ar7:=@List.all_reverse
abbrev ar8:=@Bool.and_eq_false_iff
abbrev ar9:=@Nat.lt_or_ge
abbrev ar_:=@Nat.ble_eq
abbrev ar':=@List.take_left'
abbrev asa:=@List.getElem?_of_mem
abbrev asb:=@List.findIdx?_append
abbrev asd:=@Array.getElem_toList
abbrev ase:=@List.drop_append_of_le_length
abbrev asf:=@List.filter_eq_self
abbrev ash:=@List.nodup_nil
abbrev asi:=@List.mapM_cons
abbrev asj:=@List.drop_take
abbrev asl:=@Bool.false_and
abbrev asm:=@Bool.and_false
abbrev asn:=@false_and
abbrev aso:=@Nat.eq_zero_or_pos
abbrev asp:=@List.filterMap_map
abbrev asq:=@Bool.false_eq_true
abbrev asr:=@List.sum_cons
abbrev ass:=@List.mapM_nil
abbrev ast:=@Bool.and_true
abbrev asu:=@Array.size_append
abbrev asv:=@true_and
abbrev asw:=@getElem!_pos
abbrev asx:=@false_or
abbrev asy:=@Nat.min_le_right
abbrev asz:=@Nat.lt_trans
abbrev asA:=@List.not_mem_nil
abbrev asB:=@List.mem_flatMap
abbrev asC:=@Nat.le_succ
abbrev asD:=@Int.le_refl
abbrev bw:Type:=BitVec 64
abbrev aY:Type:=ByteArray
abbrev aE:Type:=List Int
abbrev aJ:Type:=World
abbrev dz:Type:=List Oper
abbrev ib:Type:=Nat→Nat→Bool
abbrev cg:Type:=Nat→Prop
theorem aq {p:Prop} (h:p:=by omega):p:=h
theorem aw {p:Prop} (h:p:=by decide):p:=h
theorem bm {p:Prop} (h:p:=by simp):p:=h
theorem bu {p:Prop} (h:p:=by assumption):p:=h
variable {i n t id m:Nat} {b:Bool} {x y:Code} {a:Act} {c:Operand}
theorem eB {α:Type} {l:List α} (h:i<l.length):l[i]? =some l[i]:=List.getElem?_eq_getElem h
theorem gX {α:Type} {l:List α} {a:α}:l.getD i a=(l[i]?).getD a:=List.getD_eq_getElem?_getD
theorem dZ {α:Type} {l:List α} {a:α}:l[i]? =some a↔∃h:i<l.length,l[i]=a:=List.getElem?_eq_some_iff
theorem dO {α:Type} {l:List α} {a:α} (h:l[i]? =some a):a∈l:=List.mem_of_getElem? h
theorem eP (a b:Bool):((a&&b)=true)=(a=true∧b=true):=Bool.and_eq_true a b
theorem dS (n:Nat):(n:Int).toNat=n:=Int.toNat_natCast n
theorem gj {α:Type} {a b:List α}:(a++b).length=a.length+b.length:=List.length_append
theorem oI {α:Type} {a:α}:(List.replicate n a).length=n:=List.length_replicate
theorem iH {α:Type} {l:List α}:(l.take i).length=min i l.length:=List.length_take
theorem oM {α:Type} {a b:List α} (h:a.length≤n):(a++b)[n]? =b[n-a.length]?:=List.getElem?_append_right h
theorem jb {α:Type} {a:α} {l:List α}:(a::l).length=l.length+1:=List.length_cons
theorem gC {α:Type}:([]:List α).length=0:=List.length_nil
theorem pt {α:Type} {a b:List α} (h:n<a.length):(a++b)[n]? =a[n]?:=List.getElem?_append_left h
open Go.RowKit
abbrev aR:=Nat→Value
def cq (f:aR) (d:Nat) (v:Value):aR:=fun t=>bif Nat.beq t d then v else f t
def de (f:aR):Option Nat→Value→aR
 |some d,v=>cq f d v
 |none,_=>f
def cp (n:Nat) (f:aR):Act:=⟨Array.ofFn (fun i:Fin n=>f i),[]⟩
def ev (f:aR):Operand→Value
 | .tmp t=>f t
 | .const v=>v
 | .global g=>.pointer (some ⟨g,0,none⟩)
 | .func k=>.func (.func k) #[] #[]
def bM (n:Nat):Operand→Bool
 | .tmp t=>Nat.blt t n
 |_=>true
theorem aP {n:Nat} {f:aR} {x:Operand} (h:bM n x=true):(cp n f).eval x=ev f x:=by
 cases x with
 |tmp t=>
  simp only[bM,art] at h
  simp[Act.eval,cp,ev,h]
 |_=>rfl
theorem jh (f:aR) (d:Nat) (v:Value):cq f d v d=v:=by simp[cq]
theorem jN (f:aR) {d t:Nat} (v:Value) (h:t≠d):cq f d v t=f t:=by
 have:Nat.beq t d=false:=by
  cases hb:Nat.beq t d with
  |false=>rfl
  |true=>exact absurd (aqy hb) h
 simp only[cq,this,cond_false]
theorem qX (n:Nat) (f:aR) (d:Option Nat) (v:Value):(cp n f).put d v=cp n (de f d v):=by
 cases d with
 |none=>rfl
 |some d=>
  simp only[Act.put,cp,de,Act.mk.injEq,and_true]
  apply Array.ext
  ·simp
  ·intro i h1 h2
   simp only[Array.size_ofFn] at h2
   by_cases hi:i=d
   ·subst hi
    simp[cq]
   ·rw[Array.getElem_setIfInBounds_ne (by simpa using h2) aq]
    simp only[Array.getElem_ofFn]
    exact(jN f v hi).symm
theorem abU (n:Nat) (tmps:Array Value) (h:tmps.size=n):(⟨tmps,[]⟩:Act)=cp n (fun t=>tmps.getD t undef):=by
 simp only[cp,Act.mk.injEq,and_true]
 apply Array.ext
 ·simp[h]
 ·intro i h1 h2
  simp[h1]
def yE (ops:Array Oper) (j:Nat):Option Nat:=(ops[j]?).bind (·.dst)
theorem CD {f:aR} {ops:Array Oper} {j:Nat} (h:yE ops j=some t) (ht:Nat.blt t n=true) (hv:f t=.bool b):
  yielded ops (cp n f).tmps j=some b:=by
 simp only[art] at ht
 unfold yE at h
 simp[yielded,h,cp,ht,hv]
def SO (P:Program) (n:Nat) (ops:Array Oper) (o:Oper) (f:aR) (w:aJ) (K:aR→aJ→Prop):Prop:=
 ∀(Q:Exit→Act→aJ→Prop) (rest:dz),(∀f' w',K f' w'→wpList P ops Q rest (cp n f') w')→wpList P ops Q (o::rest) (cp n f) w
theorem SO.mono {P:Program} {ops:Array Oper} {o:Oper} {f:aR} {w:aJ} {K K':aR→aJ→Prop} (h:SO P n ops o f w K) (hk:∀f' w',K f' w'→K' f' w'):SO P n ops o f w K':=
 fun Q rest hr=>h Q rest fun f' w' hK=>hr f' w' (hk f' w' hK)
section
variable {P:Program} {n:Nat} {ops:Array Oper} {f:aR} {w:aJ} {K:aR→aJ→Prop} {Q:Exit→Act→aJ→Prop} {rest:dz} {o:Oper}
theorem SO.value {d:Option Nat} {op:Op} {ty:TypeId} {ps:String} {af:Array Edge} {v:Value} {w':aJ}
  (hr:(execOp (cp n f).eval ⟨d,op,ty,ps,af,none⟩).run P w=.ok (.value v) w') (h:K (de f d v) w'):SO P n ops ⟨d,op,ty,ps,af,none⟩ f w K:=by
 intro Q rest hk
 refine wpList_plain J fun K' Uu=>?_
 simp only[Oper.wp,hr,Oper.upon]
 rw[qX]
 exact Uu _ _<|hk _ _ h
theorem SO.skip {d:Option Nat} {op:Op} {ty:TypeId} {ps:String} {af:Array Edge} {w':aJ}
  (hr:(execOp (cp n f).eval ⟨d,op,ty,ps,af,none⟩).run P w=.ok .skip w') (h:K (de f d undef) w'):SO P n ops ⟨d,op,ty,ps,af,none⟩ f w K:=by
 intro Q rest hk
 refine wpList_plain J fun K' Uu=>?_
 simp only[Oper.wp,hr,Oper.upon]
 rw[qX]
 exact Uu _ _<|hk _ _ h
theorem SO.enter {d:Option Nat} {op:Op} {ty:TypeId} {ps:String} {af:Array Edge} {g:FuncId} {args:Array Value} {w':aJ}
  (hr:(execOp (cp n f).eval ⟨d,op,ty,ps,af,none⟩).run P w=.ok (.enter g args) w')
  (h:Calls P g args w' fun e mK=>∃v,e=.returned v∧K (de f d v) mK):SO P n ops ⟨d,op,ty,ps,af,none⟩ f w K:=by
 intro Q rest hk
 refine wpList_plain J fun K' Uu=>?_
 simp only[Oper.wp,hr,Oper.upon]
 refine h.mono ?_
 rintro e mK ⟨v,rfl,hv⟩
 show K' ((cp n f).put d v) mK
 rw[qX]
 exact Uu _ _<|hk _ _ hv
theorem gy {d:Option Nat} {op:Op} {ty:TypeId} {ps:String} {af:Array Edge} {j t:Nat} {want b:Bool}
  (hj:yE ops j=some t) (ht:Nat.blt t n=true) (hv:f t=.bool b) (hb:b=want)
  (h:SO P n ops ⟨d,op,ty,ps,af,none⟩ f w K):SO P n ops ⟨d,op,ty,ps,af,some (j,want)⟩ f w K:=by
 subst hb
 intro Q rest hk
 have h1:=h Q rest hk
 have hy:=CD (n:=n) hj ht hv
 unfold wpList at h1 ⊢
 rw[apo (by simp[Region.wanted])] at h1
 rw[apo (by simp[Region.wanted,hy])]
 exact h1
theorem gn {d:Option Nat} {op:Op} {ty:TypeId} {ps:String} {af:Array Edge} {j t:Nat} {want b:Bool}
  (hj:yE ops j=some t) (ht:Nat.blt t n=true) (hv:f t=.bool b) (hb:b=!want)
  (h:K (de f d undef) w):SO P n ops ⟨d,op,ty,ps,af,some (j,want)⟩ f w K:=by
 subst hb
 intro Q rest hk
 have hy:=CD (n:=n) hj ht hv
 unfold wpList
 rw[apr (by simp[Region.wanted,hy])]
 rw[qX]
 exact hk _ _ h
def WL (P:Program) (n:Nat) (ops:Array Oper) (Q:Exit→Act→aJ→Prop):dz→aR→aJ→Prop
 |l,f,w=>wpList P ops Q l (cp n f) w
def WC (P:Program) (n:Nat) (c:Code) (Q:Exit→Act→aJ→Prop) (f:aR) (w:aJ):Prop:=c.wp P Q (cp n f) w
theorem k (h:SO P n ops o f w (WL P n ops Q rest)):WL P n ops Q (o::rest) f w:=h Q rest fun _ _ h=>h
theorem z (h:Q .normal (cp n f) w):WL P n ops Q [] f w:=wpList_nil (P:=P) (ops:=ops) h
theorem rg {l:dz} (h:WL P n l.toArray Q l f w):WC P n (.region id l.toArray false) Q f w:=wp_region_lit h
theorem sq (h:WC P n x (Exit.then (fun a w=>y.wp P Q a w) Q) f w):WC P n (.seq x y) Q f w:=wp_seq h
theorem nx (h:WC P n y Q f w):Exit.then (fun a w=>y.wp P Q a w) Q .normal (cp n f) w:=h
theorem sk (h:Q .normal (cp n f) w):WC P n .skip Q f w:=wp_skip h
theorem rt (h:Q .ret (cp n f) w):WC P n .ret Q f w:=wp_ret h
theorem ex (h:Q (.exit id) (cp n f) w):WC P n (.exit id) Q f w:=wp_exit h
theorem bk {c:Code} (h:WC P n c (Exit.inBlock id Q) f w):WC P n (.block id c) Q f w:=wp_block h
theorem aH (h:Q .normal a w):Exit.inBlock id Q .normal a w:=h
theorem bI (h:Q .ret a w):Exit.inBlock id Q .ret a w:=h
theorem bh (h:Q .normal a w):Exit.inBlock id Q (.exit id) a w:=by
 show (if id=id then _ else _);rw[apo rfl];exact h
theorem W2 {YQ:Nat} (gI:YQ≠id) (h:Q (.exit YQ) a w):Exit.inBlock id Q (.exit YQ) a w:=by
 show (if YQ=id then _ else _);rw[apr gI];exact h
theorem aL {next:Act→aJ→Prop} (h:Q .ret a w):Exit.then next Q .ret a w:=h
theorem aW {next:Act→aJ→Prop} (h:Q (.exit id) a w):Exit.then next Q (.exit id) a w:=h
theorem cd (hc:bM n c=true) (hv:ev f c=.bool b) (ht:b=true→WC P n x Q f w) (hf:b=false→WC P n y Q f w):WC P n (.cond c x y) Q f w:=
 wp_cond_split (by rw[aP hc,hv]) ht hf
theorem pk (hc:bM n c=true) (hv:ev f c=.bool b) (hb:b=true) (h:WC P n x Q f w):WC P n (.cond c x y) Q f w:=
 wp_cond_true (by rw[aP hc,hv,hb]) h
theorem nB (hc:bM n c=true) (hv:ev f c=.bool b) (hb:b=false) (h:WC P n y Q f w):WC P n (.cond c x y) Q f w:=
 wp_cond_false (by rw[aP hc,hv,hb]) h
def XI (n:Nat) (ai:aR→aJ→Prop) (Q:Exit→Act→aJ→Prop):Exit→Act→aJ→Prop
 | .normal,a,w=>∃f,a=cp n f∧ai f w
 |e,a,w=>Q e a w
theorem cut {x y:Code} (ai:aR→aJ→Prop) (h:WC P n x (XI n ai Q) f w) (h2:∀f' w',ai f' w'→WC P n y Q f' w'):WC P n (.seq x y) Q f w:=by
 refine wp_seq<|wp_mono h ?_
 intro e a w' hq
 cases e with
 |normal=>obtain⟨f',rfl,hR⟩:=hq;exact h2 f' w' hR
 |_=>exact hq
theorem B5 {ai:aR→aJ→Prop} (h:ai f w):XI n ai Q .normal (cp n f) w:=⟨f,rfl,h⟩
theorem I9 {ai:aR→aJ→Prop} (h:Q .ret a w):XI n ai Q .ret a w:=h
def Lc (n:Nat) (ag:Nat→aR→aJ→Prop) (m:Nat) (Q:Exit→Act→aJ→Prop):Exit→Act→aJ→Prop
 | .normal,a,w=>∃f m',a=cp n f∧m'<m∧ag m' f w
 |e,a,w=>Q e a w
theorem lp {c:Code} (ag:Nat→aR→aJ→Prop) (m0:Nat) (h0:ag m0 f w)
  (hr:∀m f w,ag m f w→WC P n c (Lc n ag m Q) f w):WC P n (.loop c) Q f w:=by
 have key:∀m,∀f w,ag m f w→∀b k cs,
   ∃e a' w',Q e a' w'∧Arrives P (lone (b.at (cp n f) (.code c::.inLoop c::k)) cs w) b k cs e a' w':=by
  intro m
  induction m using Nat.strongRecOn with
  |_ m ih=>
   intro f w hI b k cs
   obtain⟨e,a₁,w₁,hq,DP⟩:=hr m f w hI b (.inLoop c::k) cs
   cases e with
   |normal=>
    obtain⟨f',m',rfl,eH,Zo⟩:=hq
    obtain⟨e₂,a₂,w₂,agF,abc⟩:=ih m' eH f' w₁ Zo b k cs
    exact⟨e₂,a₂,w₂,agF,.of_steps (Steps.trans DP (.one step_inLoop)) abc⟩
   |exit id=>exact⟨_,a₁,w₁,hq,.pass (x:=.inLoop c) rfl (fun _ _=>.inl (by simp)) DP⟩
   |goto l=>exact⟨_,a₁,w₁,hq,.pass (x:=.inLoop c) rfl (fun _ _=>.inl (by simp)) DP⟩
   |ret=>exact⟨_,a₁,w₁,hq,.pass (x:=.inLoop c) rfl (fun _ _=>.inl (by simp)) DP⟩
   |panic ch=>exact⟨_,a₁,w₁,hq,.pass (x:=.inLoop c) rfl (fun _ _=>.inl (by simp)) DP⟩
   |outgrown=>exact⟨_,a₁,w₁,hq,.pass (x:=.inLoop c) rfl (fun _ _=>.inl (by simp)) DP⟩
 intro b k cs
 obtain⟨e,a',w',hq,DP⟩:=key m0 f w h0 b k cs
 exact⟨e,a',w',hq,.of_steps (.one step_loop) DP⟩
theorem bB {ag:Nat→aR→aJ→Prop} (m':Nat) (hm:m'<m) (h:ag m' f w):Lc n ag m Q .normal (cp n f) w:=⟨f,m',rfl,hm,h⟩
theorem du {ag:Nat→aR→aJ→Prop} (h:Q .ret a w):Lc n ag m Q .ret a w:=h
theorem ba {ag:Nat→aR→aJ→Prop} (h:Q (.exit id) a w):Lc n ag m Q (.exit id) a w:=h
end
def sM (P:Program) (n:Nat) (fn:Func) (ai:Value→aJ→Prop):Exit→Act→aJ→Prop
 | .normal,a,w| .ret,a,w=>∃f,a=cp n f∧∃v,(results fn (cp n f).tmps).run P w=.ok v w∧ai v w
 |_,_,_=>False
def ck (ai:Value→aJ→Prop):Ending→aJ→Prop:=fun e w=>∃v,e=.returned v∧ai v w
theorem enter {P:Program} {g:FuncId} {fn:Func} {c:Code} {args:Array Value} {w:aJ} {ai:Value→aJ→Prop} (n:Nat)
  (hf:P.funcs[g]? =some fn) (hb:fn.body=some c) (hn:fn.ntmps=n) (ha:Nat.ble args.size n=true)
  (h:∀f:aR,(∀i,(_:i<args.size)→f i=args[i])→WC P n c (sM P n fn ai) f w):Calls P g args w (ck ai):=by
 refine calls_of_wp hf hb ?_
 subst hn
 simp only[ar_] at ha
 rw[abU fn.ntmps (args++Array.replicate (fn.ntmps-args.size) undef) (by simp;omega)]
 have h1:=h (fun t=>(args++Array.replicate (fn.ntmps-args.size) undef).getD t undef) (fun i hi=>by
  simp[arf,hi])
 refine wp_mono h1 ?_
 intro e a w' hq
 cases e with
 |normal=>obtain⟨f',rfl,v,h1,h2⟩:=hq;exact⟨rfl,v,h1,v,rfl,h2⟩
 |ret=>obtain⟨f',rfl,v,h1,h2⟩:=hq;exact⟨rfl,v,h1,v,rfl,h2⟩
 |_=>exact hq.elim
section
variable {P:Program} {n:Nat} {fn:Func} {ai:Value→aJ→Prop} {f:aR} {w:aJ}
theorem Bj (h:Nat.blt t n=true):(cp n f).tmps.getD t undef=f t:=by
 simp only[art] at h
 simp[cp,h]
theorem r1 (hr:fn.results=#[.tmp t]) (ht:Nat.blt t n=true) (h:ai (f t) w):sM P n fn ai .ret (cp n f) w:=
 ⟨f,rfl,f t,by rw[results_tmp hr,Bj ht],h⟩
theorem r2 {u:Nat} (hr:fn.results=#[.tmp t,.tmp u]) (ht:Nat.blt t n=true) (hu:Nat.blt u n=true) (h:ai (.tuple #[f t,f u]) w):sM P n fn ai .ret (cp n f) w:=
 ⟨f,rfl,_,by rw[results_tmp2 hr,Bj ht,Bj hu],h⟩
theorem r0 (hr:fn.results=#[]) (h:ai (.tuple #[]) w):sM P n fn ai .ret (cp n f) w:=
 ⟨f,rfl,_,results_none hr _ _ _,h⟩
theorem EX (hr:fn.results=#[]) (h:ai (.tuple #[]) w):sM P n fn ai .normal (cp n f) w:=
 ⟨f,rfl,_,results_none hr _ _ _,h⟩
end
end Go.Ew
namespace Go.Ew
open Go.RowKit
structure Ext (w w':aJ):Prop extends Below w.heap.size w w' where
 drawn:w.drawn≤w'.drawn
theorem Ext.refl (w:aJ):Ext w w:=⟨Below.refl _ _,apn _⟩
theorem Ext.trans {a b c:aJ} (h:Ext a b) (k:Ext b c):Ext a c:=⟨Below.trans h.toBelow (Below.mono k.toBelow h.size),Nat.le_trans h.drawn k.drawn⟩
theorem Ext.drew (w:aJ):Ext w w.drew:=⟨Below.drew (Below.refl _ _),asC _⟩
theorem Ext.alloc (w:aJ) (o:Obj):Ext w (w.alloc o):=⟨Below.alloc (Below.refl _ _) (apn _) o,apn _⟩
theorem Vw {α:Type} (a:Ask α):∀w:aJ,w.drawn≤(w.ask a).2.drawn:=by
 induction a with
 |done a=>intro w;simp only[World.ask];exact apn _
 |ask anX range k ih=>
  intro w
  simp only[World.ask]
  split
  ·exact ih _ w
  ·exact Nat.le_trans (asC _)<|ih _ {w with drawn:=w.drawn+1}
theorem SH (w:aJ) (c:Sys):w.drawn≤(w.sys c).2.drawn:=by
 have h:=Vw (Kernel.perform c w.os) w
 unfold World.sys
 split
 ·exact apn _
 ·rename_i e;rw[e] at h;exact h
theorem UO {P:Program} {w w':aJ} {a:Addr} {v:Value} {b:Bool} {l:List Addr} (h:w.farStore P a v b=.ok (w',l)):w'.drawn=w.drawn:=by
 unfold World.farStore at h
 split at h
 ·split at h
  ·rename_i e
   simp only[Except.ok.injEq] at h
   subst h
   unfold World.viewStore at e
   simp only[bind,Except.bind,pure,Except.pure] at e
   repeat' (first|cases e|split at e)
   all_goals rfl
  ·cases h
 ·cases h
theorem sW {α:Type} {P:Program} (m:Sem α):∀{w w':aJ} {v:α},m.run P w=.ok v w'→w.drawn≤w'.drawn:=by
 induction m with
 |pure a=>intro w w' v h;simp only[Sem.run,Result.ok.injEq] at h;rw[h.2];exact apn _
 |load m a k ih=>
  intro w w' v h
  simp only[Sem.run] at h
  split at h
  ·exact ih _ h
  ·split at h
   ·exact ih _ h
   ·cases h
 |store m a u k ih=>
  intro w w' v h
  cases u<;>simp only[Sem.run] at h<;>(try (cases h;done))<;>
  ·split at h
   ·split at h
    ·cases h
    ·have:=ih h;exact this
   ·split at h
    ·rename_i e
     have:=ih h
     rw[UO e] at this
     exact this
    ·cases h
 |new o k ih=>intro w w' v h;have:=ih w.heap.size (w:={w with heap:=w.heap.push o}) h;exact this
 |shape r k ih=>intro w w' v h;exact ih (w.shape? r) h
 |freeze a n k ih=>
  intro w w' v h
  have:=ih (w:=w.freeze a n) h
  simp only[World.freeze] at this
  split at this<;>exact this
 |frozen a k ih=>intro w w' v h;exact ih (w.frozen? a) h
 |getObj r k ih=>
  intro w w' v h
  simp only[Sem.run] at h
  split at h
  ·cases h
  ·exact ih _ h
  ·cases h
 |setObj r o k ih=>
  intro w w' v h
  simp only[Sem.run] at h
  split at h
  ·cases h
  ·have:=ih h;exact this
  ·cases h
 |choose q k ih=>
  intro w w' v h
  simp only[Sem.run] at h
  split at h
  ·exact ih _ h
  ·exact Nat.le_trans (asC _)<|ih _ (w:={w with drawn:=w.drawn+1}) h
 |sys c k ih=>intro w w' v h;exact Nat.le_trans (SH w c) (ih _ (w:=(w.sys c).2) h)
 |program k ih=>intro w w' v h;exact ih P h
 |mark m k ih=>intro w w' v h;exact ih (w:=w) h
 |halt x=>intro w w' v h;cases h
def kY (o:Oper) (j:Nat):Bool:=o.after.toList.any fun e=>Region.binds .any e&&e.on==j
def jk (l:dz) (i:Nat):Nat:=(((l[i]?).bind (·.dst)).getD 0)
def jt (k:Nat) (l:dz):List Nat:=(l.take k).filterMap (·.dst)
def nodupB:List Nat→Bool
 |[]=>true
 |x::xs=>!xs.contains x&&nodupB xs
def rH:Nat→dz→Bool
 |_,[]=>true
 |i,o::r=>o.after.all (fun e=>!Region.binds .any e||Nat.blt e.on i)&&rH (i+1) r
def oZ (l:dz):Nat→ib
 |0,_,_=>false
 |n+1,i,m=>match l[i]? with
  |none=>false
  |some o=>kY o m||(List.range i).any fun j=>kY o j&&oZ l n j m
def xB (l:dz) (k:Nat):Bool:=
 (Nat.ble l.length k||(List.range k).all fun m=>oZ l (k+1) k m)&&
  (List.range l.length).all fun i=>Nat.ble i k||match l[i]? with
   |some o=>kY o (i-1)
   |none=>true
def Pu (n k:Nat) (l:dz):Bool:=
 rH 0 l&&(l.take k).all (fun o=>o.dst.isSome)&&nodupB (jt k l)&&(jt k l).all (fun d=>Nat.blt d n)&&xB l k&&Nat.ble k l.length
def Az (Φ:List (Value→aJ→Prop)) (i:Nat):Value→aJ→Prop:=Φ.getD i (fun _ _=>True)
structure DStep (P:Program) (n:Nat) (l:dz) (k:Nat) (Φ:List (Value→aJ→Prop)) (f0:aR) (w0:aJ) (i:Nat) (o:Oper):Prop where
 go:∀f w,(∀t,(jt k l).contains t=false→f t=f0 t)→Ext w0 w→(∀j,kY o j=true→Nat.blt j k=true→Az Φ j (f (jk l j)) w)→
  SO P n l.toArray o f w (fun f' w'=>∃v,f'=de f o.dst v∧Ext w w'∧Az Φ i v w')
 mono:∀v w w',Ext w w'→Az Φ i v w→Az Φ i v w'
def j4 (P:Program) (n:Nat) (l:dz) (k:Nat) (Φ:List (Value→aJ→Prop)) (f0:aR) (w0:aJ):Nat→dz→Prop
 |_,[]=>True
 |i,o::r=>(Nat.blt i k=true→DStep P n l k Φ f0 w0 i o)∧j4 P n l k Φ f0 w0 (i+1) r
section
variable {P:Program} {n:Nat} {l:dz} {k:Nat} {Φ:List (Value→aJ→Prop)} {f0:aR} {w0:aJ}
theorem j4.at_:∀(r:dz) (i:Nat),j4 P n l k Φ f0 w0 i r→∀j o,r[j]? =some o→Nat.blt (i+j) k=true→DStep P n l k Φ f0 w0 (i+j) o
 |[],_,_,j,o,h,_=>by simp at h
 |x::r,i,h,0,o,hj,hk=>by
  simp only[apC,apy] at hj
  subst hj
  exact h.1 hk
 |x::r,i,h,j+1,o,hj,hk=>by
  simp only[apI] at hj
  have:=j4.at_ r (i+1) h.2 j o hj<|by rw[show i+1+j=i+(j+1) from by omega];exact hk
  rwa [show i+1+j=i+(j+1) from by omega] at this
theorem xn:∀(r:dz) (i:Nat),rH i r=true→∀j o,r[j]? =some o→∀e∈o.after,Region.binds .any e=true→e.on<i+j
 |[],_,_,j,o,h,_,_,_=>by simp at h
 |x::r,i,h,j,o,hj,e,he,hb=>by
  simp only[rH,eP,Array.all_eq_true_iff_forall_mem,apw,aqo,art] at h
  cases j with
  |zero=>
   simp only[apC,apy] at hj
   subst hj
   rcases h.1 e he with h1|h1
   ·rw[hb] at h1;cases h1
   ·omega
  |succ j=>
   simp only[apI] at hj
   have:=xn r (i+1) h.2 j o hj e he hb
   omega
theorem xA {o:Oper} {j:Nat}:kY o j=true↔∃e∈o.after,Region.binds .any e=true∧e.on=j:=by
 simp only[kY,apO,Array.mem_toList_iff]
 constructor
 ·rintro⟨e,he,h⟩
  simp only[eP,beq_iff_eq] at h
  exact⟨e,he,h.1,h.2⟩
 ·rintro⟨e,he,h1,h2⟩
  exact⟨e,he,by simp[h1,h2]⟩
theorem AH {l:dz} {k:Nat} (h:xB l k=true) {i:Nat} {o:Oper} (hk:k<i) (ho:l[i]? =some o):kY o (i-1)=true:=by
 simp only[xB,eP] at h
 have:=aps.1 h.2 i<|by rw[apq];exact(dZ.1 ho).1
 rw[ho] at this
 have hf:Nat.ble i k=false:=by
  cases hb:Nat.ble i k with
  |false=>rfl
  |true=>rw[ar_] at hb;omega
 rw[hf] at this
 simpa using this
theorem KT {l:dz} {k:Nat} (h:xB l k=true) (hk:k<l.length) {m:Nat} (hm:m<k):oZ l (k+1) k m=true:=by
 simp only[xB,eP,apw] at h
 rcases h.1 with h1|h1
 ·rw[ar_] at h1;omega
 ·exact aps.1 h1 m<|by rw[apq];exact hm
theorem C3 {l:dz} {listed:Array Bool} (hC:∀i o,listed.getD i false=true→l[i]? =some o→∀j,kY o j=true→listed.getD j false=true):
  ∀(n i m:Nat) (o:Oper),l[i]? =some o→(∀j,kY o j=true→listed.getD j false=true)→oZ l n i m=true→listed.getD m false=true
 |0,_,_,_,_,_,h=>by cases h
 |n+1,i,m,o,ho,hd,h=>by
  simp only[oZ,ho,apw] at h
  rcases h with h|h
  ·exact hd m h
  ·obtain⟨j,_,hj⟩:=apO.1 h
   simp only[eP] at hj
   have hlj:=hd j hj.1
   cases rk:l[j]? with
   |none=>
    have h2:=hj.2
    cases n with
    |zero=>cases h2
    |succ n=>simp[oZ,rk] at h2
   |some o'=>exact C3 hC n j m o' rk (hC j o' hlj rk) hj.2
theorem pc:∀(l:List Nat),nodupB l=true→l.Nodup
 |[],_=>ash
 |x::xs,h=>by
  simp only[nodupB,eP,aqo] at h
  refine aqt.2 ⟨?_,pc xs h.2⟩
  intro hx
  have:=ap2.2 hx
  rw[h.1] at this
  cases this
theorem GW {ops:Array Oper} {i:Nat} {o:Oper} {f:aR} {w:aJ} {K:aR→aJ→Prop} {Q:Exit→Act→aJ→Prop} {K':Act→aJ→Prop}
  (hi:ops[i]? =some o) (h:SO P n ops o f w K) (hk:∀f' w',K f' w'→K' (cp n f') w'):wpOp P ops Q i K' (cp n f) w:=by
 have h1:=h (fun e a w=>match e with| .normal=>K' a w|e=>Q e a w) []<|fun f' w' hK=>hk f' w' hK
 unfold wpOp
 simp only[hi]
 unfold wpList at h1
 split at h1
 ·rename_i hw
  rw[apo hw]
  refine h1.imp (fun h2=>?_)<|fun h2=>?_
  ·unfold Oper.wp at h2 ⊢
   generalize (execOp (cp n f).eval o).run P w=r at *
   cases r with
   |ok x w'=>
    cases x<;>simp only[Oper.upon] at h2 ⊢<;>first
     |exact h2
     |(refine Calls.mono h2 ?_;intro e mK he;cases e<;>first|exact he|(obtain⟨a0,w1,hq⟩:=he;exact⟨a0,w1,hq⟩))
   |halt x w'=>cases x<;>simp only[Oper.upon] at h2 ⊢<;>exact h2
  ·obtain⟨ha,a0,w1,hq⟩:=h2
   exact⟨ha,a0,w1,hq⟩
 ·rename_i hw
  rw[apr hw]
  exact h1
def Yc (N m:Nat) (listed:Array Bool):Prop:=listed.size=N∧∀i,i<N→listed.getD i false=decide (i<m)
theorem ru {listed:Array Bool} {i:Nat} (h:i<listed.size) (a b:Bool):listed.getD i a=listed.getD i b:=by
 simp[Array.getD,h]
theorem GX {Q:Exit→Act→aJ→Prop} (hE:rH 0 l=true) (hT:xB l k=true):
  ∀(d m:Nat) (listed:Array Bool) (a:Act) (w:aJ),l.length-m=d→k≤m→m≤l.length→Yc l.length m listed→wpList P l.toArray Q (l.drop m) a w→wpAny P .any l.toArray Q d listed a w:=by
 intro d
 induction d with
 |zero=>
  intro m listed a w hd hk hm hl h
  have uu:m=l.length:=by omega
  subst uu
  rw[aqX (apn _)] at h
  refine⟨?_,h⟩
  unfold Region.ready
  rw[aqv]
  intro i hi
  simp only[aqT,apq] at hi
  have:=hl.2 i hi
  rw[show listed.getD i true=listed.getD i false from ru (by rw[hl.1];exact hi) _ _,this]
  simp[hi]
 |succ d ih=>
  intro m listed a w hd hk hm hl h
  have uu:m<l.length:=by omega
  have js:l[m]? =some l[m]:=eB uu
  have T7:∀i,i∈Region.ready .any l.toArray listed↔i=m:=by
   intro i
   rw[mem_ready]
   constructor
   ·rintro⟨h0,o,ho,pf⟩
    have jU:i<l.length:=by
     have:=(apU.1 ho).1
     simpa using this
    have hnm:¬i<m:=by
     intro him
     rw[show listed.getD i true=listed.getD i false from ru (by rw[hl.1];exact jU) _ _,hl.2 i jU] at h0
     simp[him] at h0
    by_cases him:i=m
    ·exact him
    ·exfalso
     have hoi:l[i]? =some o:=by simpa using ho
     have hb:=AH hT (i:=i) aq hoi
     obtain⟨e,he,yy,vK⟩:=xA.1 hb
     have:=pf e he yy
     rw[vK,hl.2 (i-1) aq] at this
     simp at this
     omega
   ·rintro rfl
    refine⟨?_,l[i],by simp,?_⟩
    ·rw[show listed.getD i true=listed.getD i false from ru (by rw[hl.1];exact uu) _ _,hl.2 i uu]
     simp
    ·intro e he yy
     have:=xn l 0 hE i l[i] js e he yy
     rw[hl.2 e.on aq]
     simp;omega
  have agJ:l.drop m=l[m]::l.drop (m+1):=aqi uu
  refine⟨fun h0=>?_,fun i hi=>?_⟩
  ·have:=(T7 m).2 rfl
   rw[h0] at this
   cases this
  ·obtain rfl:=(T7 i).1 hi
   rw[agJ] at h
   have rb:Yc l.length (i+1) (listed.setIfInBounds i true):=by
    refine⟨by simp[hl.1],fun j hj=>?_⟩
    by_cases nL:i=j
    ·subst nL
     simp[hl.1,uu]
    ·rw[getD_set_ne false nL,hl.2 j hj]
     simp;omega
   unfold wpOp
   rw[show (l.toArray)[i]? =some l[i] from by simp]
   simp only
   unfold wpList at h
   split at h
   ·rename_i hw
    rw[apo hw]
    refine h.imp (Oper.wp_mono fun a w h'=>ih (i+1) _ a w aq aq aq rb h') id
   ·rename_i hw
    rw[apr hw]
    exact ih (i+1) _ _ w aq aq aq rb h
theorem ra {i:Nat} {o:Oper} (hi:l[i]? =some o) (hk:i<k) {d:Nat} (hd:o.dst=some d):d∈jt k l:=by
 unfold jt
 rw[apR]
 refine⟨o,?_,hd⟩
 have:(l.take k)[i]? =some o:=by rw[apS,apo hk];exact hi
 exact dO this
theorem il {α β:Type} (g:α→Option β):∀(l:List α),(l.filterMap g).Nodup→∀(i j:Nat) (a b:α),l[i]? =some a→l[j]? =some b→(g a).isSome→g a=g b→i=j
 |[],_,i,_,_,_,hi,_,_,_=>by simp at hi
 |x::xs,h,i,j,a,b,hi,hj,hs,he=>by
  have Rr:(xs.filterMap g).Nodup:=by
   rw[aqa] at h
   split at h
   ·exact h
   ·exact(aqt.1 h).2
  have BY:∀(m:Nat) (c:α),xs[m]? =some c→g x=g c→(g x).isSome→False:=by
   intro m c hm hc hx
   obtain⟨y,hy⟩:=apL.1 hx
   rw[aqa,hy] at h
   exact(aqt.1 h).1 (apR.2 ⟨c,dO hm,by rw[←hc,hy]⟩)
  cases i with
  |zero=>
   cases j with
   |zero=>rfl
   |succ j=>
    simp only[apC,apy,apI] at hi hj
    subst hi
    exact(BY j b hj he hs).elim
  |succ i=>
   cases j with
   |zero=>
    simp only[apC,apy,apI] at hi hj
    subst hj
    exact(BY i a hi he.symm (he▸hs)).elim
   |succ j=>
    simp only[apI] at hi hj
    rw[il g xs Rr i j a b hi hj hs he]
def DJ (n:Nat) (l:dz) (k:Nat) (Φ:List (Value→aJ→Prop)) (f0:aR) (w0:aJ) (listed:Array Bool) (a:Act) (w:aJ):Prop:=
 ∃f,a=cp n f∧(∀t,(jt k l).contains t=false→f t=f0 t)∧Ext w0 w∧(∀i,i<k→listed.getD i false=true→Az Φ i (f (jk l i)) w)∧
  ∀i o,listed.getD i false=true→l[i]? =some o→∀j,kY o j=true→listed.getD j false=true
theorem Oi {Q:Exit→Act→aJ→Prop} (qK:Pu n k l=true) (hS:j4 P n l k Φ f0 w0 0 l)
  (wF:∀f w,(∀t,(jt k l).contains t=false→f t=f0 t)→Ext w0 w→(∀i,Nat.blt i k=true→Az Φ i (f (jk l i)) w)→WL P n l.toArray Q (l.drop k) f w):
  ∀(d:Nat) (listed:Array Bool) (a:Act) (w:aJ),listed.size=l.length→(∀i,k≤i→listed.getD i false=false)→(listed.toList.filter (fun b=>!b)).length=d→
   DJ n l k Φ f0 w0 listed a w→wpAny P .any l.toArray Q d listed a w:=by
 have aeb:=qK
 simp only[Pu,eP] at qK
 obtain⟨⟨⟨⟨⟨hE,hD⟩,hN⟩,hn⟩,hT⟩,AR⟩:=qK
 simp only[ar_] at AR
 intro d
 induction d with
 |zero=>
  intro listed a w pZ vN hd hJ
  have pf:∀i,i<l.length→listed.getD i false=true:=by
   intro i hi
   have h0:=aqM hd
   rw[aqv] at h0
   have p9:i<listed.size:=by omega
   have:=h0 listed[i]<|by simp
   simp at this
   simp[Array.getD,p9,this]
  have ajS:k=l.length:=by
   rcases ar9 k l.length with h|h
   ·have h1:=pf k h
    rw[vN k (apn _)] at h1
    cases h1
   ·omega
  obtain⟨f,rfl,hf,hx,hφ,hC⟩:=hJ
  have:=wF f w hf hx<|fun i hi=>hφ i (by simpa using hi)<|pf i<|by have h9:i<k:=(by simpa using hi);omega
  refine GX hE hT 0 l.length listed _ w aq aq (apn _) ⟨pZ,fun i hi=>by rw[pf i hi];simp[hi]⟩ ?_
  rw[ajS] at this
  exact this
 |succ d ih=>
  intro listed a w pZ vN hd hJ
  by_cases pf:∀i,i<k→listed.getD i false=true
  ·obtain⟨f,rfl,hf,hx,hφ,hC⟩:=hJ
   have:=wF f w hf hx<|fun i hi=>hφ i (by simpa using hi)<|pf i<|by simpa using hi
   have rb:Yc l.length k listed:=⟨pZ,fun i hi=>by
    by_cases tW:i<k
    ·rw[pf i tW];simp[tW]
    ·rw[vN i aq];simp;omega⟩
   have Uk:d+1=l.length-k:=by
    rw[←hd]
    have hl:listed.toList=List.replicate k true++List.replicate (l.length-k) false:=by
     apply aqY
     ·simp[pZ];omega
     ·intro i h1 h2
      simp only[ap9] at h1
      have:=rb.2 i aq
      simp only[Array.getD,h1,dif_pos] at this
      rw[asd]
      by_cases tW:i<k
      ·rw[List.getElem_append_left (by simpa using tW)]
       simp[ara,tW] at this ⊢
       exact this
      ·rw[List.getElem_append_right (by simpa using tW)]
       simp[ara,tW] at this ⊢
       exact this
    rw[hl]
    simp
   exact GX hE hT (d+1) k listed _ w aq (apn _) AR rb this
  ·obtain⟨i0,Kg⟩:∃i,i<k∧listed.getD i false=false:=by
    apply ap7
    intro Hy
    refine pf fun i hi=>?_
    cases hb:listed.getD i false with
    |true=>rfl
    |false=>exact(Hy ⟨i,hi,hb⟩).elim
   
   obtain⟨m,Ub,Ua⟩:=exists_least (p:=fun i=>i<k∧listed.getD i false=false) ⟨i0,Kg⟩
   have uu:m<l.length:=by omega
   have js:l[m]? =some l[m]:=eB uu
   have Cp:m∈Region.ready .any l.toArray listed:=by
    rw[mem_ready]
    refine⟨?_,l[m],by simp,fun e he hb=>?_⟩
    ·rw[show listed.getD m true=listed.getD m false from ru aq _ _];exact Ub.2
    ·have eH:=xn l 0 hE m l[m] js e he hb
     cases wW:listed.getD e.on false with
     |true=>rfl
     |false=>
      have:=Ua e.on ⟨by omega,wW⟩
      omega
   refine⟨fun h0=>(by rw[h0] at Cp;cases Cp),fun i hi=>?_⟩
   obtain⟨h0,o,ho,AV⟩:=mem_ready.1 hi
   have qJ:l[i]? =some o:=by simpa using ho
   have jU:i<l.length:=(dZ.1 qJ).1
   have Nn:listed.getD i false=false:=by
    rw[show listed.getD i false=listed.getD i true from ru aq _ _];exact h0
   have tW:i<k:=by
    rcases ar9 i k with h|h
    ·exact h
    ·exfalso
     obtain⟨f,rfl,hf,hx,hφ,hC⟩:=hJ
     by_cases ajU:i=k
     ·subst ajU
      have:=C3 hC _ i m o qJ (fun j hj=>by
       obtain⟨e,he,yy,vK⟩:=xA.1 hj
       rw[←vK];exact AV e he yy) (KT hT jU Ub.1)
      rw[Ub.2] at this
      cases this
     ·have hb:=AH hT (i:=i) aq qJ
      obtain⟨e,he,yy,vK⟩:=xA.1 hb
      have:=AV e he yy
      rw[vK,vN (i-1) aq] at this
      cases this
   obtain⟨f,rfl,hf,hx,hφ,hC⟩:=hJ
   have EA:=(j4.at_ l 0 hS i o qJ<|by simpa using tW)
   simp only[ap_] at EA
   have hSO:=EA.go f w hf hx (fun j hj Ke=>by
    obtain⟨e,he,hb,vK⟩:=xA.1 hj
    subst vK
    exact hφ e.on (by simpa using Ke) (AV e he hb))
   obtain⟨di,vR⟩:∃di,o.dst=some di:=by
    rw[aps] at hD
    have:=hD o<|dO (i:=i)<|by rw[apS,apo tW];exact qJ
    exact apL.1 this
   refine GW ho hSO fun f' w' hK=>?_
   obtain⟨v,rfl,hxw,hv⟩:=hK
   refine ih (listed.setIfInBounds i true) _ w' (by simp[pZ]) (fun j hj=>?_) ?_ ?_
   ·rw[getD_set_ne false aq];exact vN j hj
   ·
    have M_:i<listed.size:=by omega
    have uW:listed.toList[i]? =some false:=by
     rw[eB (by simpa using M_)]
     simp only[Array.getD,M_,dif_pos] at Nn
     simpa [ara] using Nn
    have key:∀(L:List Bool) (i:Nat),L[i]? =some false→((L.set i true).filter (fun b=>!b)).length+1=(L.filter (fun b=>!b)).length:=by
     intro L
     induction L with
     |nil=>intro i h;simp at h
     |cons b L ihL=>
      intro i h
      cases i with
      |zero=>simp at h;subst h;simp
      |succ i=>
       simp at h
       have:=ihL i h
       cases b<;>simp at this ⊢<;>omega
    have:=key listed.toList i uW
    rw[Array.toList_setIfInBounds]
    omega
   ·refine⟨de f o.dst v,J,fun t ht=>?_,hx.trans hxw,fun j Ke hj=>?_,fun j oj hj rk q hq=>?_⟩
    ·rw[vR]
     have gI:t≠di:=by
      rintro rfl
      have:=ra qJ tW vR
      rw[←ap2,ht] at this
      cases this
     rw[show de f (some di) v=cq f di v from rfl,jN f v gI]
     exact hf t ht
    ·have yr:j<l.length:=by omega
     have rk:l[j]? =some l[j]:=eB yr
     by_cases nL:i=j
     ·subst nL
      have:jk l i=di:=by unfold jk;rw[qJ];simp[vR]
      rw[this,vR,show de f (some di) v=cq f di v from rfl,jh]
      exact hv
     ·rw[getD_set_ne false nL] at hj
      have adA:=hφ j Ke hj
      have T5:=(j4.at_ l 0 hS j l[j] rk<|by simpa using Ke)
      simp only[ap_] at T5
      obtain⟨dj,E_⟩:∃dj,(l[j]).dst=some dj:=by
       rw[aps] at hD
       have:=hD l[j]<|dO (i:=j)<|by rw[apS,apo Ke];exact rk
       exact apL.1 this
      have hDj:jk l j=dj:=by unfold jk;rw[rk];simp[E_]
      have gI:dj≠di:=by
       rintro rfl
       have lX:=pc _ hN
       unfold jt at lX
       exact nL<|il (·.dst) (l.take k) lX i j o l[j] (by rw[apS,apo tW];exact qJ) (by rw[apS,apo Ke];exact rk) (by simp[vR])<|by simp[vR,E_]
      rw[hDj] at adA ⊢
      rw[vR,show de f (some di) v=cq f di v from rfl,jN f v gI]
      exact T5.mono _ _ _ hxw adA
    ·have nK:listed.getD q false=true:=by
      by_cases nL:i=j
      ·subst nL
       rw[qJ] at rk
       cases rk
       obtain⟨e,he,yy,vK⟩:=xA.1 hq
       rw[←vK];exact AV e he yy
      ·rw[getD_set_ne false nL] at hj
       exact hC j oj hj rk q hq
     by_cases tV:i=q
     ·subst tV;rw[Nn] at nK;cases nK
     ·rw[getD_set_ne false tV];exact nK
theorem dr {id:Nat} {Q:Exit→Act→aJ→Prop} {f:aR} {w:aJ} (k:Nat) (Φ:List (Value→aJ→Prop)) (hm:P.follows .mixedOrders=true) (qK:Pu n k l=true)
  (hS:j4 P n l k Φ f w 0 l)
  (wF:∀f' w',(∀t,(jt k l).contains t=false→f' t=f t)→Ext w w'→(∀i,Nat.blt i k=true→Az Φ i (f' (jk l i)) w')→WL P n l.toArray Q (l.drop k) f' w'):
  WC P n (.region id l.toArray true) Q f w:=by
 refine wp_region_any hm ?_
 have h:=Oi (P:=P) (w0:=w) (f0:=f) (Q:=Q) qK hS wF l.length (Array.replicate l.length false) (cp n f) w.drew (by simp) (fun i _=>by simp[Array.getD]) (by simp) ⟨f,rfl,fun _ _=>rfl,Ext.drew w,fun i hi h=>(by
  have h2:(Array.replicate l.length false).getD i false=false:=by
   simp only[Array.getD];split<;>simp
  rw[h2] at h;cases h),fun i o h _ _ _=>(by
  have h2:(Array.replicate l.length false).getD i false=false:=by
   simp only[Array.getD];split<;>simp
  rw[h2] at h;cases h)⟩
 simpa using h
end
abbrev eV (x:Value):Value→aJ→Prop:=fun v _=>v=x
theorem d0 {f' f:aR} {d:Option Nat} {v:Value} {w:aJ} {ai:Value→aJ→Prop} (e:f'=de f d v) (h:ai v w):∃v,f'=de f d v∧Ext w w∧ai v w:=⟨v,e,Ext.refl w,h⟩
theorem dc {P:Program} {n:Nat} {l:dz} {k:Nat} {Φ:List (Value→aJ→Prop)} {f0:aR} {w0:aJ} {i:Nat} {o:Oper} {r:dz}
  (go:∀f w,(∀t,(jt k l).contains t=false→f t=f0 t)→Ext w0 w→(∀j,kY o j=true→Nat.blt j k=true→Az Φ j (f (jk l j)) w)→SO P n l.toArray o f w (fun f' w'=>∃v,f'=de f o.dst v∧Ext w w'∧Az Φ i v w'))
  (rest:j4 P n l k Φ f0 w0 (i+1) r) (mono:∀v w w',Ext w w'→Az Φ i v w→Az Φ i v w':=by exact fun _ _ _ _ h=>h):j4 P n l k Φ f0 w0 i (o::r):=⟨fun _=>⟨go,mono⟩,rest⟩
abbrev C (x:Int):Value:=.int .i64 x
abbrev pV (b o:Nat):Value:=.pointer (some ⟨b,o,none⟩)
theorem BL:(∀b,(b&&true)=b)∧(∀b,(true&&b)=b)∧(∀b,(b&&false)=false)∧(∀b,(false&&b)=false)∧(∀b,(b||true)=true)∧(∀b,(true||b)=true)∧(∀b,(b||false)=b)∧(∀b,(false||b)=b)∧((!true)=false)∧((!false)=true)∧
  (∀(α:Type) (x y:α),cond true x y=x)∧(∀(α:Type) (x y:α),cond false x y=y)∧(∀(α:Type) (x y:α),(some x).getD y=x)∧(∀(α β:Type) (x:α) (f:α→β),(some x).map f=some (f x))∧(∀(α:Type) (l:List α) (i:Nat) (y:α),l.getD i y=(l[i]?).getD y):=by
 refine⟨?_,?_,?_,?_,?_,?_,?_,?_,J,J,fun _ _ _=>rfl,fun _ _ _=>rfl,fun _ _ _=>rfl,fun _ _ _ _=>rfl,fun _ _ _ _=>gX⟩<;>intro b<;>cases b<;>rfl
end Go.Ew
namespace Go.Ew
open Go.RowKit Go.IntWalk
abbrev aj (x:bw):Value:=.int .u64 (x.toNat:Int)
def aK (a:Int):Prop:= -9223372036854775808≤a∧a≤9223372036854775807
theorem Sz {a:Int} (h:aK a):IntKind.i64.wrap a=a:=i64_in a h
theorem zS (a:Int):IntKind.u64.wrap a=((BitVec.ofInt 64 a).toNat:Int):=by
 rw[IntKind.wrap_u64,arb]
 have h1:(0:Int)≤a%18446744073709551616:=Int.emod_nonneg _ aw
 show a%18446744073709551616=(((a%((2^64:Nat):Int)).toNat:Nat):Int)
 rw[show ((2^64:Nat):Int)=18446744073709551616 from rfl,ap0 h1]
theorem oz (x:bw):BitVec.ofInt 64 (x.toNat:Int)=x:=by
 apply aq1
 rw[arb]
 have:=x.isLt
 omega
section
variable {P:Program} {n:Nat} {ops:Array Oper} {f:aR} {w:aJ} {K:aR→aJ→Prop} {x y c:Operand} {d:Nat} {ty T T2:TypeId} {ps:String} {af:Array Edge} {v v2:Value} {a b:Int} {p q:Bool} {kk kk2:IntKind} {s t:bw}
theorem mv (ox:bM n x=true) (hx:ev f x=v) (h:K (cq f d v) w):SO P n ops ⟨some d,.move x,ty,ps,af,none⟩ f w K:=
 SO.value (v:=v) (by simp[execOp,aP ox,hx]) h
theorem jV (ox:bM n x=true) (hx:ev f x=v) (h:K (cq f d v) w):SO P n ops ⟨some d,.assign x,ty,ps,af,none⟩ f w K:=
 SO.value (v:=v) (by simp[execOp,aP ox,hx]) h
theorem aQ (oc:bM n c=true) (ox:bM n x=true) (oy:bM n y=true) (hc:ev f c=.bool p) (hp:p=true) (hx:ev f x=v) (h:K (cq f d v) w):SO P n ops ⟨some d,.pick c x y,ty,ps,af,none⟩ f w K:=
 SO.value (v:=v) (by simp[execOp,asBool,aP oc,aP ox,aP oy,hc,hp,hx]) h
theorem cU (oc:bM n c=true) (ox:bM n x=true) (oy:bM n y=true) (hc:ev f c=.bool p) (hp:p=false) (hy:ev f y=v) (h:K (cq f d v) w):SO P n ops ⟨some d,.pick c x y,ty,ps,af,none⟩ f w K:=
 SO.value (v:=v) (by simp[execOp,asBool,aP oc,aP ox,aP oy,hc,hp,hy]) h
theorem jr (ox:bM n x=true) (hx:ev f x=.bool p) (h:K (cq f d (.bool (!p))) w):SO P n ops ⟨some d,.unOp .not T x,ty,ps,af,none⟩ f w K:=
 SO.value (v:=.bool (!p)) (by simp[execOp,aP ox,hx,Op.unary]) h
theorem bin {op:BinOp} (ox:bM n x=true) (oy:bM n y=true) (hx:ev f x=.int kk a) (hy:ev f y=.int kk2 b) (hr:(binOp op T (.int kk a) (.int kk2 b)).run P w=.ok v w) (h:K (cq f d v) w):
  SO P n ops ⟨some d,.binOp op T x y T2,ty,ps,af,none⟩ f w K:=
 SO.value (v:=v) (by
  simp only[execOp,aP ox,aP oy,hx,hy]
  have hg:(eqGuard op T x y (.int kk a) (.int kk2 b)).run P w=.ok () w:=by unfold eqGuard;split<;>rfl
  simp[hg,hr,Result.andThen]) h
theorem add (ox:bM n x=true) (oy:bM n y=true) (hx:ev f x=.int .i64 a) (hy:ev f y=.int .i64 b) (hi:aK (a+b)) (h:K (cq f d (.int .i64 (a+b))) w):SO P n ops ⟨some d,.binOp .add T x y T2,ty,ps,af,none⟩ f w K:=
 bin ox oy hx hy (by simp[binOp,Op.intArith,Sz hi]) h
theorem sub (ox:bM n x=true) (oy:bM n y=true) (hx:ev f x=.int .i64 a) (hy:ev f y=.int .i64 b) (hi:aK (a-b)) (h:K (cq f d (.int .i64 (a-b))) w):SO P n ops ⟨some d,.binOp .sub T x y T2,ty,ps,af,none⟩ f w K:=
 bin ox oy hx hy (by simp[binOp,Op.intArith,Sz hi]) h
theorem mul (ox:bM n x=true) (oy:bM n y=true) (hx:ev f x=.int .i64 a) (hy:ev f y=.int .i64 b) (hi:aK (a*b)) (h:K (cq f d (.int .i64 (a*b))) w):SO P n ops ⟨some d,.binOp .mul T x y T2,ty,ps,af,none⟩ f w K:=
 bin ox oy hx hy (by simp[binOp,Op.intArith,Sz hi]) h
theorem quo (ox:bM n x=true) (oy:bM n y=true) (hx:ev f x=.int .i64 a) (hy:ev f y=.int .i64 b) (hi:0≤a∧a≤9223372036854775807∧1≤b) (h:K (cq f d (.int .i64 (a/b))) w):SO P n ops ⟨some d,.binOp .quo T x y T2,ty,ps,af,none⟩ f w K:=
 bin ox oy hx hy (by
  have hb:b≠0:=by omega
  simp[binOp,Op.intDiv,hb];exact i64_quo a b hi) h
theorem lss (ox:bM n x=true) (oy:bM n y=true) (hx:ev f x=.int kk a) (hy:ev f y=.int kk b) (h:K (cq f d (.bool (decide (a<b)))) w):SO P n ops ⟨some d,.binOp .lss T x y T2,ty,ps,af,none⟩ f w K:=
 bin ox oy hx hy (by simp[binOp,Op.intCmp]) h
theorem leq (ox:bM n x=true) (oy:bM n y=true) (hx:ev f x=.int kk a) (hy:ev f y=.int kk b) (h:K (cq f d (.bool (decide (a≤b)))) w):SO P n ops ⟨some d,.binOp .leq T x y T2,ty,ps,af,none⟩ f w K:=
 bin ox oy hx hy (by simp[binOp,Op.intCmp]) h
theorem gtr (ox:bM n x=true) (oy:bM n y=true) (hx:ev f x=.int kk a) (hy:ev f y=.int kk b) (h:K (cq f d (.bool (decide (b<a)))) w):SO P n ops ⟨some d,.binOp .gtr T x y T2,ty,ps,af,none⟩ f w K:=
 bin ox oy hx hy (by simp[binOp,Op.intCmp]) h
theorem geq (ox:bM n x=true) (oy:bM n y=true) (hx:ev f x=.int kk a) (hy:ev f y=.int kk b) (h:K (cq f d (.bool (decide (b≤a)))) w):SO P n ops ⟨some d,.binOp .geq T x y T2,ty,ps,af,none⟩ f w K:=
 bin ox oy hx hy (by simp[binOp,Op.intCmp]) h
theorem eql (ox:bM n x=true) (oy:bM n y=true) (hx:ev f x=.int kk a) (hy:ev f y=.int kk b) (h:K (cq f d (.bool (decide (a=b)))) w):SO P n ops ⟨some d,.binOp .eql T x y T2,ty,ps,af,none⟩ f w K:=
 bin ox oy hx hy (by simp[binOp,Op.intCmp];rfl) h
theorem neq (ox:bM n x=true) (oy:bM n y=true) (hx:ev f x=.int kk a) (hy:ev f y=.int kk b) (h:K (cq f d (.bool (!decide (a=b)))) w):SO P n ops ⟨some d,.binOp .neq T x y T2,ty,ps,af,none⟩ f w K:=
 bin ox oy hx hy (by simp[binOp,Op.intCmp];rfl) h
theorem LZ (ox:bM n x=true) (oy:bM n y=true) (hx:ev f x=.int .i64 a) (hy:ev f y=.int .u64 6) (h:K (cq f d (.int .i64 (a/64))) w):SO P n ops ⟨some d,.binOp .shr T x y T2,ty,ps,af,none⟩ f w K:=
 bin ox oy hx hy (by
  simp[binOp,Op.shift]
  show a.fdiv (2^min 6 64)=_
  rw[show (2:Int)^min 6 64=64 from rfl,Int.fdiv_eq_ediv_of_nonneg _ aw]) h
theorem Ls (ox:bM n x=true) (oy:bM n y=true) (hx:ev f x=.int .i64 a) (hy:ev f y=.int .i64 63) (h:K (cq f d (.int .i64 (a%64))) w):SO P n ops ⟨some d,.binOp .and T x y T2,ty,ps,af,none⟩ f w K:=
 bin ox oy hx hy (by
  simp only[binOp,Op.intBits,arN,arn,aqe,Sem.run_pure]
  have h1:((BitVec.ofInt IntKind.i64.bits a &&& BitVec.ofInt IntKind.i64.bits 63).toNat:Int)=a%64:=by
   show ((BitVec.ofInt 64 a &&& BitVec.ofInt 64 63).toNat:Int)=a%64
   rw[BitVec.toNat_and,arb,show (BitVec.ofInt 64 63).toNat=2^6-1 from rfl,Nat.and_two_pow_sub_one_eq_mod]
   have:(0:Int)≤a%((2^64:Nat):Int):=Int.emod_nonneg _ aw
   omega
  rw[h1,Sz (by unfold aK;omega)]) h
theorem IC (r:bw):IntKind.u64.wrap (r.toNat:Int)=(r.toNat:Int):=by rw[zS,oz]
theorem D' (s t:bw) (ox:bM n x=true) (oy:bM n y=true) (hx:ev f x=aj s) (hy:ev f y=aj t) (h:K (cq f d (aj (s &&& t))) w):SO P n ops ⟨some d,.binOp .and T x y T2,ty,ps,af,none⟩ f w K:=
 bin ox oy hx hy (by
  have e1:BitVec.ofInt IntKind.u64.bits (s.toNat:Int)=s:=oz s
  have e2:BitVec.ofInt IntKind.u64.bits (t.toNat:Int)=t:=oz t
  simp only[binOp,Op.intBits,arN,arn,aqe,Sem.run_pure,e1,e2];exact apj (fun z=>Result.ok (Value.int .u64 z) w) (IC (s &&& t))) h
theorem Tv (s t:bw) (ox:bM n x=true) (oy:bM n y=true) (hx:ev f x=aj s) (hy:ev f y=aj t) (h:K (cq f d (aj (s ||| t))) w):SO P n ops ⟨some d,.binOp .or T x y T2,ty,ps,af,none⟩ f w K:=
 bin ox oy hx hy (by
  have e1:BitVec.ofInt IntKind.u64.bits (s.toNat:Int)=s:=oz s
  have e2:BitVec.ofInt IntKind.u64.bits (t.toNat:Int)=t:=oz t
  simp only[binOp,Op.intBits,arN,arn,aqe,Sem.run_pure,e1,e2];exact apj (fun z=>Result.ok (Value.int .u64 z) w) (IC (s ||| t))) h
theorem abQ (s t:bw) (ox:bM n x=true) (oy:bM n y=true) (hx:ev f x=aj s) (hy:ev f y=aj t) (h:K (cq f d (aj (s &&& ~~~t))) w):SO P n ops ⟨some d,.binOp .andNot T x y T2,ty,ps,af,none⟩ f w K:=
 bin ox oy hx hy (by
  have e1:BitVec.ofInt IntKind.u64.bits (s.toNat:Int)=s:=oz s
  have e2:BitVec.ofInt IntKind.u64.bits (t.toNat:Int)=t:=oz t
  simp only[binOp,Op.intBits,arN,arn,aqe,Sem.run_pure,e1,e2];exact apj (fun z=>Result.ok (Value.int .u64 z) w) (IC (s &&& ~~~t))) h
theorem Ji (s t:bw) (ox:bM n x=true) (oy:bM n y=true) (hx:ev f x=aj s) (hy:ev f y=aj t) (h:K (cq f d (aj (s+t))) w):SO P n ops ⟨some d,.binOp .add T x y T2,ty,ps,af,none⟩ f w K:=
 bin ox oy hx hy (by
  simp only[binOp,Op.intArith,arN,arn,aqe,Sem.run_pure]
  refine apj (fun z=>Result.ok (Value.int .u64 z) w) ?_
  rw[IntKind.wrap_u64,BitVec.toNat_add];omega) h
theorem ach (s t:bw) (ox:bM n x=true) (oy:bM n y=true) (hx:ev f x=aj s) (hy:ev f y=aj t) (h:K (cq f d (aj (s-t))) w):SO P n ops ⟨some d,.binOp .sub T x y T2,ty,ps,af,none⟩ f w K:=
 bin ox oy hx hy (by
  simp only[binOp,Op.intArith,arN,arn,aqe,Sem.run_pure]
  refine apj (fun z=>Result.ok (Value.int .u64 z) w) ?_
  have:=t.isLt
  rw[IntKind.wrap_u64,BitVec.toNat_sub];omega) h
theorem ac6 (s:bw) (ox:bM n x=true) (hx:ev f x=aj s) (h:K (cq f d (aj (-s))) w):SO P n ops ⟨some d,.unOp .neg T x,ty,ps,af,none⟩ f w K:=
 SO.value (v:=aj (-s)) (by
  simp only[execOp,aP ox,hx,Op.unary,Op.intArith,arN,arn,aqe]
  have e:IntKind.u64.wrap (0-(s.toNat:Int))=((-s).toNat:Int):=by
   have:=s.isLt
   rw[IntKind.wrap_u64,BitVec.toNat_neg];omega
  rw[e];simp) h
theorem F3 (s t:bw) (ox:bM n x=true) (oy:bM n y=true) (hx:ev f x=aj s) (hy:ev f y=aj t) (h:K (cq f d (aj (s*t))) w):SO P n ops ⟨some d,.binOp .mul T x y T2,ty,ps,af,none⟩ f w K:=
 bin ox oy hx hy (by
  simp only[binOp,Op.intArith,arN,arn,aqe,Sem.run_pure]
  refine apj (fun z=>Result.ok (Value.int .u64 z) w) ?_
  rw[IntKind.wrap_u64,BitVec.toNat_mul];exact(Int.natCast_emod _ _).symm) h
theorem ajl (s t:bw) (ht:t≠0#64) (ox:bM n x=true) (oy:bM n y=true) (hx:ev f x=aj s) (hy:ev f y=aj t) (h:K (cq f d (aj (s/t))) w):SO P n ops ⟨some d,.binOp .quo T x y T2,ty,ps,af,none⟩ f w K:=
 bin ox oy hx hy (by
  have h0:t.toNat≠0:=fun h=>ht<|aq1 h
  have h1:(t.toNat:Int)≠0:=by omega
  have hs:=s.isLt
  simp only[binOp,Op.intDiv,arN,arn,aqe,h1,Sem.run_pure]
  refine apj (fun z=>Result.ok (Value.int .u64 z) w) ?_
  rw[u64_quo _ _ aq,BitVec.toNat_udiv];rfl) h
theorem aco (s:bw) (b:Int) (hb:0≤b) (ox:bM n x=true) (oy:bM n y=true) (hx:ev f x=aj s) (hy:ev f y=.int kk b) (h:K (cq f d (aj (s <<< b.toNat))) w):SO P n ops ⟨some d,.binOp .shl T x y T2,ty,ps,af,none⟩ f w K:=
 bin ox oy hx hy (by
  have h0:¬b<0:=by omega
  simp only[binOp,Op.shift,h0,aqe,Sem.run_pure]
  refine apj (fun z=>Result.ok (Value.int .u64 z) w) ?_
  show IntKind.u64.wrap ((s.toNat:Int)*2^min b.toNat 64)=_
  rw[IntKind.wrap_u64,BitVec.toNat_shiftLeft,Nat.shiftLeft_eq]
  rcases ar9 b.toNat 64 with eH|vN
  ·rw[aqk aq]
   simp
  ·rw[Nat.min_eq_right vN]
   have e1:s.toNat*2^b.toNat%2^64=0:=by
    rw[show b.toNat=64+(b.toNat-64) from by omega,Nat.pow_add,←Nat.mul_assoc,arT (s.toNat) _,Nat.mul_assoc]
    exact Nat.mul_mod_right _ _
   rw[e1]
   show (s.toNat:Int)*18446744073709551616%18446744073709551616=0
   exact Int.mul_emod_left _ _) h
theorem ajg (s:bw) (b:Int) (hb:0≤b) (ox:bM n x=true) (oy:bM n y=true) (hx:ev f x=aj s) (hy:ev f y=.int kk b) (h:K (cq f d (aj (s >>> b.toNat))) w):SO P n ops ⟨some d,.binOp .shr T x y T2,ty,ps,af,none⟩ f w K:=
 bin ox oy hx hy (by
  have h0:¬b<0:=by omega
  simp only[binOp,Op.shift,h0,aqe,Sem.run_pure]
  refine apj (fun z=>Result.ok (Value.int .u64 z) w) ?_
  show (s.toNat:Int).fdiv (2^min b.toNat 64)=_
  rw[Int.fdiv_eq_ediv_of_nonneg _ (by have:(0:Int)<2^min b.toNat 64:=Int.pow_pos aw;omega),arp,ari]
  rcases ar9 b.toNat 64 with eH|vN
  ·rw[aqk aq]
   simp
  ·rw[Nat.min_eq_right vN]
   have hs:=s.isLt
   have e1:s.toNat/2^b.toNat=0:=arD<|apV hs<|Nat.pow_le_pow_right aw vN
   rw[e1]
   show (s.toNat:Int)/18446744073709551616=0
   omega) h
theorem Er (s:bw) (k:Nat) (ox:bM n x=true) (oy:bM n y=true) (hx:ev f x=aj s) (hy:ev f y=.int kk ((k:Nat):Int)) (h:K (cq f d (aj (s >>> k))) w):SO P n ops ⟨some d,.binOp .shr T x y T2,ty,ps,af,none⟩ f w K:=
 ajg s ((k:Nat):Int) aq ox oy hx hy (by rw[dS];exact h)
theorem eqU (s t:bw) (ox:bM n x=true) (oy:bM n y=true) (hx:ev f x=aj s) (hy:ev f y=aj t) (h:K (cq f d (.bool (decide (s=t)))) w):SO P n ops ⟨some d,.binOp .eql T x y T2,ty,ps,af,none⟩ f w K:=
 bin ox oy hx hy (by
  simp only[binOp,Op.intCmp,arN,arn,aqe,Sem.run_pure]
  refine apj (fun z=>Result.ok (Value.bool z) w) ?_
  by_cases e:s=t
  ·subst e;simp
  ·have:(s.toNat:Int)≠t.toNat:=fun h=>e<|aq1 aq
   simp[e,this]) h
theorem neU (s t:bw) (ox:bM n x=true) (oy:bM n y=true) (hx:ev f x=aj s) (hy:ev f y=aj t) (h:K (cq f d (.bool (!decide (s=t)))) w):SO P n ops ⟨some d,.binOp .neq T x y T2,ty,ps,af,none⟩ f w K:=
 bin ox oy hx hy (by
  simp only[binOp,Op.intCmp,arN,arn,aqe,Sem.run_pure]
  refine apj (fun z=>Result.ok (Value.bool z) w) ?_
  by_cases e:s=t
  ·subst e;simp
  ·have:(s.toNat:Int)≠t.toNat:=fun h=>e<|aq1 aq
   simp[e,this]) h
theorem Zs (s t:bw) (ox:bM n x=true) (oy:bM n y=true) (hx:ev f x=aj s) (hy:ev f y=aj t) (h:K (cq f d (.bool (decide (t.toNat<s.toNat)))) w):SO P n ops ⟨some d,.binOp .gtr T x y T2,ty,ps,af,none⟩ f w K:=
 bin ox oy hx hy (by
  simp only[binOp,Op.intCmp,arN,arn,aqe,Sem.run_pure]
  refine apj (fun z=>Result.ok (Value.bool z) w) ?_
  simp) h
theorem cv {e:TypeDesc} {k2:IntKind} (ox:bM n x=true) (hx:ev f x=.int kk a) (h1:P.underlying T=some e) (h2:P.underlying T2=some (.int k2)) (h:K (cq f d (.int k2 (k2.wrap a))) w):
  SO P n ops ⟨some d,.convert T T2 x,ty,ps,af,none⟩ f w K:=
 SO.value (v:=.int k2 (k2.wrap a)) (by simp[execOp,aP ox,hx,convert,underlying,h1,h2,Conv.intToInt]) h
theorem Qe {e:TypeDesc} (ox:bM n x=true) (hx:ev f x=.int kk a) (h1:P.underlying T=some e) (h2:P.underlying T2=some (.int .u64)) (h:K (cq f d (aj (BitVec.ofInt 64 a))) w):
  SO P n ops ⟨some d,.convert T T2 x,ty,ps,af,none⟩ f w K:=
 cv ox hx h1 h2 (by rw[zS];exact h)
theorem cvI {e:TypeDesc} (ox:bM n x=true) (hx:ev f x=.int kk a) (hi:aK a) (h1:P.underlying T=some e) (h2:P.underlying T2=some (.int .i64)) (h:K (cq f d (.int .i64 a)) w):
  SO P n ops ⟨some d,.convert T T2 x,ty,ps,af,none⟩ f w K:=
 cv ox hx h1 h2 (by rw[Sz hi];exact h)
theorem max2 (ox:bM n x=true) (oy:bM n y=true) (hx:ev f x=.int kk a) (hy:ev f y=.int kk b) {N0:Array TypeId} (h:K (cq f d (.int kk (max a b))) w):
  SO P n ops ⟨some d,.call {callee:=.builtin .max,args:=#[x,y],argTypes:=N0},ty,ps,af,none⟩ f w K:=
 SO.value (v:=.int kk (max a b)) (by
  have:(if b>a then b else a)=max a b:=by split<;>omega
  simp[execOp,resolve,invoke,builtin,Builtin.max_,Builtin.max2,aP ox,aP oy,hx,hy,this]) h
theorem xt {i:Nat} {vs:Array Value} (ox:bM n x=true) (hx:ev f x=.tuple vs) (hi:vs[i]? =some v) (h:K (cq f d v) w):SO P n ops ⟨some d,.extract x i,ty,ps,af,none⟩ f w K:=
 SO.value (v:=v) (by simp[execOp,Instr.extract,aP ox,hx,hi]) h
def Ha (n:Nat) (L:List Operand):Bool:=L.all (bM n)
theorem zC {L:List Operand} (h:Ha n L=true):L.map (cp n f).eval=L.map (ev f):=by
 apply aqw
 intro x hx
 exact aP<|aps.1 h x hx
theorem mf {fn:Fn} {ae:List Operand} (oc:Ha n ae=true) (h:K (cq f d (.func fn #[] (ae.map (ev f)).toArray)) w):SO P n ops ⟨some d,.makeFunc fn #[] ae.toArray,ty,ps,af,none⟩ f w K:=
 SO.value (v:=.func fn #[] (ae.map (ev f)).toArray) (by simp[execOp,Instr.makeFunc,zC oc]) h
theorem yM {g:FuncId} {fn:Func} {c:Code} {args:Array Value} (hf:P.funcs[g]? =some fn) (hb:fn.body=some c) (hn:(fn.name== "runtime.NumGoroutine")=false):
  (callFunc g args).run P w=.ok (.enter g args) w:=by
 simp only[beq_eq_false_iff_ne,arN] at hn
 simp[callFunc,hf,hb,hn]
def cD (P:Program) (g:FuncId):Prop:=∃fn c,P.funcs[g]? =some fn∧fn.body=some c∧(fn.name== "runtime.NumGoroutine")=false
theorem e0:([]:List Operand).map (ev f)=[]:=rfl
theorem ec {L:List Operand} {vs:List Value} (h:ev f x=v) (t:L.map (ev f)=vs):(x::L).map (ev f)=v::vs:=by
 rw[apP,h,t]
theorem ca {g:FuncId} {L:List Operand} {vs:List Value} {N0:Array TypeId} {ai:Value→aJ→Prop} (G:cD P g) (ol:Ha n L=true) (hL:L.map (ev f)=vs)
  (hc:Calls P g vs.toArray w (ck ai)) (h:∀v w',ai v w'→K (cq f d v) w'):
  SO P n ops ⟨some d,.call {callee:=.value (.func g),args:=L.toArray,argTypes:=N0},ty,ps,af,none⟩ f w K:=by
 obtain⟨fn,c,hf,hb,hn⟩:=G
 subst hL
 exact SO.enter (g:=g) (args:=(L.map (ev f)).toArray) (w':=w) (by
  simp only[execOp,resolve,aro,zC ol]
  show ((Deferred.ofValue (.func (.func g) #[] #[]) (L.map (ev f)).toArray >>=fun d=>invoke d.target d.args).run P w)=_
  simp[Deferred.ofValue,invoke,yM hf hb hn]) (hc.mono fun e w' hr=>by
   obtain⟨v,rfl,hv⟩:=hr
   exact⟨v,rfl,h v w' hv⟩)
theorem cf {fx:Operand} {g:FuncId} {L:List Operand} {vs ae:List Value} {N0:Array TypeId} {ai:Value→aJ→Prop} (G:cD P g)
  (ofx:bM n fx=true) (ol:Ha n L=true) (hfx:ev f fx=.func (.func g) #[] ae.toArray) (hL:L.map (ev f)=vs)
  (hc:Calls P g (vs++ae).toArray w (ck ai)) (h:∀v w',ai v w'→K (cq f d v) w'):
  SO P n ops ⟨some d,.call {callee:=.value fx,args:=L.toArray,argTypes:=N0},ty,ps,af,none⟩ f w K:=by
 obtain⟨fn,c,hf,hb,hn⟩:=G
 subst hL
 exact SO.enter (g:=g) (args:=(L.map (ev f)++ae).toArray) (w':=w) (by
  simp only[execOp,resolve,aro,zC ol,aP ofx,hfx]
  simp[Deferred.ofValue,invoke,yM hf hb hn]) (hc.mono fun e w' hr=>by
   obtain⟨v,rfl,hv⟩:=hr
   exact⟨v,rfl,h v w' hv⟩)
end
end Go.Ew
namespace Go.Ew
open Go.RowKit
variable {M:cg} {w:aJ} {v:Value}
def Up (M:cg) (w:aJ) (M':cg) (w':aJ):Prop:=
 w.heap.size≤w'.heap.size∧∀b,b<w.heap.size→¬M b→w'.heap[b]? =w.heap[b]?∧¬M' b
theorem Up.refl (M:cg) (w:aJ):Up M w M w:=⟨apn _,fun _ _ h=>⟨rfl,h⟩⟩
theorem Up.trans {M M' M'':cg} {w w' mK:aJ} (h:Up M w M' w') (k:Up M' w' M'' mK):Up M w M'' mK:=
 ⟨Nat.le_trans h.1 k.1,fun b hb hM=>by
  have h1:=h.2 b hb hM
  have h2:=k.2 b (apV hb h.1) h1.2
  exact⟨h2.1.trans h1.1,h2.2⟩⟩
theorem Up.ext {w':aJ} (h:Ext w w'):Up M w M w':=⟨h.size,fun b hb hM=>⟨h.block b hb,hM⟩⟩
theorem Up.less {M':cg} (h:∀b,b<w.heap.size→M' b→M b):Up M w M' w:=⟨apn _,fun b hb hM=>⟨rfl,fun h'=>hM (h b hb h')⟩⟩
theorem qi {ad:Addr} (h:w.cell? ad=some v):ad.block<w.heap.size:=World.block_lt_of_cell? w ad h
theorem Up.cell {M M':cg} {w w':aJ} (h:Up M w M' w') {ad:Addr} {v:Value} (hM:¬M ad.block) (hc:w.cell? ad=some v):w'.cell? ad=some v:=
 (World.cell?_of_block (h.2 _ (qi hc) hM).1).trans hc
theorem wg (a:Addr) (j:Nat):(a.add j).block=a.block:=by unfold Addr.add;split<;>rfl
theorem add_add (a:Addr) (i j:Nat):(a.add i).add j=a.add (i+j):=by
 unfold Addr.add
 by_cases hi:i=0
 ·subst hi;simp
 ·by_cases hj:j=0
  ·subst hj;simp
  ·simp[hi,hj,ar4]
class GT (α:Type) where
 size:Nat
 agg:Bool
 rep:(cg)→aJ→List Value→α→Prop
 len:∀{M w cs x},rep M w cs x→cs.length=size
 one:∀{M w cs x},rep M w cs x→∀c∈cs,c.oneCell'=true
 single:agg=false→size=1
 pos:0<size
 lift:∀{M w M' w' cs x},rep M w cs x→Up M w M' w'→rep M' w' cs x
def ta (agg:Bool) (cs:List Value):Value:=bif agg then .agg cs.toArray else cs.headD undef
theorem Vf {agg:Bool} {cs:List Value} (h:agg=false→cs.length=1) (h1:∀c∈cs,c.oneCell'=true):(ta agg cs).cells=cs.toArray:=by
 cases agg with
 |true=>rfl
 |false=>
  match cs,h rfl with
  |[c],_=>
   have:=h1 c<|by simp
   cases c<;>first|rfl|cases this
def RV {α:Type} [GT α] (M:cg) (w:aJ) (v:Value) (x:α):Prop:=∃cs,GT.rep M w cs x∧v=ta (GT.agg α) cs
def At {α:Type} [GT α] (M:cg) (w:aJ) (ad:Addr) (x:α):Prop:=∃cs,GT.rep M w cs x∧¬M ad.block∧∀j v,cs[j]? =some v→w.cell? (ad.add j)=some v
theorem RV.lift {α:Type} [GT α] {M M':cg} {w w':aJ} {v:Value} {x:α} (h:RV M w v x) (u:Up M w M' w'):RV M' w' v x:=
 let ⟨cs,h1,h2⟩:=h;⟨cs,GT.lift h1 u,h2⟩
theorem At.lift {α:Type} [GT α] {M M':cg} {w w':aJ} {ad:Addr} {x:α} (h:At M w ad x) (u:Up M w M' w'):At M' w' ad x:=by
 obtain⟨cs,h1,h2,h3⟩:=h
 have gI:0<cs.length:=by rw[GT.len h1];exact GT.pos
 have eH:ad.block<w.heap.size:=by
  have:=h3 0 cs[0]<|eB gI
  have:=qi this
  rwa [wg] at this
 exact⟨cs,GT.lift h1 u,(u.2 _ eH h2).2,fun j v hv=>u.cell (by rw[wg];exact h2) (h3 j v hv)⟩
instance aoC:GT Int where
 size:=1
 agg:=false
 rep _ _ cs x:=cs=[.int .i64 x]∧aK x
 len h:=by rw[h.1];rfl
 one h:=by rw[h.1];simp[Value.oneCell']
 single _:=rfl
 pos:=by decide
 lift h _:=h
instance gBV:GT bw where
 size:=1
 agg:=false
 rep _ _ cs x:=cs=[aj x]
 len h:=by rw[h];rfl
 one h:=by rw[h];simp[Value.oneCell']
 single _:=rfl
 pos:=by decide
 lift h _:=h
abbrev U8 (x:BitVec 8):Value:=.int .u8 (x.toNat:Int)
instance gB8:GT (BitVec 8) where
 size:=1
 agg:=false
 rep _ _ cs x:=cs=[U8 x]
 len h:=by rw[h];rfl
 one h:=by rw[h];simp[Value.oneCell']
 single _:=rfl
 pos:=by decide
 lift h _:=h
instance anN:GT Bool where
 size:=1
 agg:=false
 rep _ _ cs x:=cs=[.bool x]
 len h:=by rw[h];rfl
 one h:=by rw[h];simp[Value.oneCell']
 single _:=rfl
 pos:=by decide
 lift h _:=h
instance aoB:GT aY where
 size:=1
 agg:=false
 rep _ _ cs x:=cs=[.string x]∧x.size≤maxLen
 len h:=by rw[h.1];rfl
 one h:=by rw[h.1];simp[Value.oneCell']
 single _:=rfl
 pos:=by decide
 lift h _:=h
instance anL {α β:Type} [GT α] [GT β]:GT (α×β) where
 size:=GT.size α+GT.size β
 agg:=true
 rep M w cs x:=∃c1 c2,cs=c1++c2∧GT.rep M w c1 x.1∧GT.rep M w c2 x.2
 len:=by
  rintro M w cs x ⟨c1,c2,rfl,h1,h2⟩
  rw[gj,GT.len h1,GT.len h2]
 one:=by
  rintro M w cs x ⟨c1,c2,rfl,h1,h2⟩ c hc
  rcases apM.1 hc with h|h
  ·exact GT.one h1 c h
  ·exact GT.one h2 c h
 single h:=by cases h
 pos:=by have:=GT.pos (α:=α);omega
 lift:=by
  rintro M w M' w' cs x ⟨c1,c2,rfl,h1,h2⟩ u
  exact⟨c1,c2,J,GT.lift h1 u,GT.lift h2 u⟩
def VE {α:Type} [GT α] (M:cg) (w:aJ) (ad:Addr) (xs:List α):Prop:=
 ∀i x,xs[i]? =some x→At M w (ad.add (i*GT.size α)) x
def RS {α:Type} [GT α] (M:cg) (w:aJ) (v:Value) (xs:List α):Prop:=
 ∃a n c,v=.slice a n c∧xs.length=n∧n≤c∧c≤maxLen∧(n=0∨∃ad,a=some ad∧VE M w ad xs)
theorem RS.lift {α:Type} [GT α] {M M':cg} {w w':aJ} {v:Value} {xs:List α} (h:RS M w v xs) (u:Up M w M' w'):RS M' w' v xs:=by
 obtain⟨a,n,c,h1,h2,h3,h4,h5⟩:=h
 refine⟨a,n,c,h1,h2,h3,h4,?_⟩
 rcases h5 with h5|⟨ad,h5,h6⟩
 ·exact .inl h5
 ·exact .inr ⟨ad,h5,fun i x hx=>(h6 i x hx).lift u⟩
instance anM {α:Type} [GT α]:GT (List α) where
 size:=1
 agg:=false
 rep M w cs xs:=∃v,cs=[v]∧RS M w v xs
 len:=by rintro M w cs x ⟨v,rfl,_⟩;rfl
 one:=by
  rintro M w cs x ⟨v,rfl,a,n,c,rfl,_⟩ c hc
  simp at hc;subst hc;rfl
 single _:=rfl
 pos:=by decide
 lift:=by
  rintro M w M' w' cs x ⟨v,rfl,h⟩ u
  exact⟨v,J,h.lift u⟩
theorem RV.int {M:cg} {w:aJ} {v:Value} {x:Int}:RV M w v x↔v=.int .i64 x∧aK x:=by
 constructor
 ·rintro⟨cs,⟨rfl,h⟩,rfl⟩;exact⟨rfl,h⟩
 ·rintro⟨rfl,h⟩;exact⟨_,⟨rfl,h⟩,rfl⟩
theorem RV.bv {x:bw}:RV M w v x↔v=aj x:=by
 constructor
 ·rintro⟨cs,rfl,rfl⟩;rfl
 ·rintro rfl;exact⟨_,rfl,rfl⟩
theorem RV.b8 {x:BitVec 8}:RV M w v x↔v=U8 x:=by
 constructor
 ·rintro⟨cs,rfl,rfl⟩;rfl
 ·rintro rfl;exact⟨_,rfl,rfl⟩
theorem RV.bool {M:cg} {w:aJ} {v:Value} {x:Bool}:RV M w v x↔v=.bool x:=by
 constructor
 ·rintro⟨cs,rfl,rfl⟩;rfl
 ·rintro rfl;exact⟨_,rfl,rfl⟩
theorem RV.str {x:aY}:RV M w v x↔v=.string x∧x.size≤maxLen:=by
 constructor
 ·rintro⟨cs,⟨rfl,h⟩,rfl⟩;exact⟨rfl,h⟩
 ·rintro⟨rfl,h⟩;exact⟨_,⟨rfl,h⟩,rfl⟩
theorem RV.list {α:Type} [GT α] {M:cg} {w:aJ} {v:Value} {xs:List α}:RV M w v xs↔RS M w v xs:=by
 constructor
 ·rintro⟨cs,⟨u,rfl,h⟩,rfl⟩;exact h
 ·intro h;exact⟨[v],⟨v,rfl,h⟩,rfl⟩
structure Item where
 jR:Option Nat
 holds:(cg)→aJ→Prop
 lift:∀{M M' w w'},holds M w→Up M w M' w'→(∀b,jR=some b→w'.heap[b]? =w.heap[b]?)→holds M' w'
def sf {α:Type} [GT α] (v:Value) (x:α):Item:=⟨none,fun M w=>RV M w v x,fun h u _=>h.lift u⟩
def nO {α:Type} [GT α] (ad:Addr) (x:α):Item:=⟨none,fun M w=>At M w ad x,fun h u _=>h.lift u⟩
def box (b:Nat) (cs:Array Value) (t:TypeId):Item:=⟨some b,fun M w=>w.heap[b]? =some (.cells cs t (0,0)),fun h u hb=>(hb b rfl).trans h⟩
def bC {α:Type} [GT α] (M:cg) (w:aJ):List Value→List α→Prop
 |cs,[]=>cs=[]
 |cs,x::xs=>∃c1 c2,cs=c1++c2∧GT.rep M w c1 x∧bC M w c2 xs
theorem bC.lift {α:Type} [GT α] {M M':cg} {w w':aJ} (u:Up M w M' w'):∀{xs:List α} {cs:List Value},bC M w cs xs→bC M' w' cs xs
 |[],_,h=>h
 |x::xs,cs,⟨c1,c2,h1,h2,h3⟩=>⟨c1,c2,h1,GT.lift h2 u,bC.lift u h3⟩
theorem bC.length {α:Type} [GT α] {M:cg} {w:aJ}:∀{xs:List α} {cs:List Value},bC M w cs xs→cs.length=xs.length*GT.size α
 |[],_,h=>by rw[show _=[] from h];simp
 |x::xs,cs,⟨c1,c2,h1,h2,h3⟩=>by rw[h1,gj,GT.len h2,bC.length h3,jb,aqd];omega
theorem bC.append {α:Type} [GT α] {M:cg} {w:aJ}:∀{xs ys:List α} {cs ds:List Value},bC M w cs xs→bC M w ds ys→bC M w (cs++ds) (xs++ys)
 |[],ys,cs,ds,h,k=>by rw[show cs=[] from h];exact k
 |x::xs,ys,cs,ds,⟨c1,c2,h1,h2,h3⟩,k=>⟨c1,c2++ds,by rw[h1,apY],h2,bC.append h3 k⟩
theorem bC.BB {α:Type} [GT α] {M:cg} {w:aJ}:∀{xs:List α} {cs:List Value},bC M w cs xs→∀c∈cs,c.oneCell'=true
 |[],_,h,c,hc=>by rw[show _=[] from h] at hc;cases hc
 |x::xs,cs,⟨c1,c2,h1,h2,h3⟩,c,hc=>by
  rw[h1] at hc
  rcases apM.1 hc with h|h
  ·exact GT.one h2 c h
  ·exact bC.BB h3 c h
theorem bC.at_ {α:Type} [GT α] {M:cg} {w:aJ}:∀{xs:List α} {cs:List Value},bC M w cs xs→∀i x,xs[i]? =some x→∃c,GT.rep M w c x∧∀j v,c[j]? =some v→cs[i*GT.size α+j]? =some v
 |[],_,_,i,x,hx=>by simp at hx
 |y::xs,cs,⟨c1,c2,h1,h2,h3⟩,i,x,hx=>by
  cases i with
  |zero=>
   simp at hx;subst hx
   refine⟨c1,h2,fun j v hv=>?_⟩
   have hj:j<c1.length:=(dZ.1 hv).1
   rw[h1,arR,ap_,pt hj];exact hv
  |succ i=>
   simp at hx
   obtain⟨c,zt,AW⟩:=bC.at_ h3 i x hx
   refine⟨c,zt,fun j v hv=>?_⟩
   have hl:=GT.len h2
   rw[h1,oM (by rw[hl,aqd];omega),hl]
   have:=AW j v hv
   rw[show (i+1)*GT.size α+j-GT.size α=i*GT.size α+j from by rw[aqd];omega]
   exact this
def own {α:Type} [GT α] (B:Nat) (e:TypeId) (v:Value) (xs:List α):Item:=
 ⟨v.ownBlock,fun M w=>∃cs,w.ownsRow B e (GT.size α) v xs.length cs∧bC M w cs xs,fun {M M' w w'} h u hb=>by
  obtain⟨cs,h1,h2⟩:=h
  refine⟨cs,⟨h1.1,?_⟩,bC.lift u h2⟩
  rcases h1.2 with h3|⟨g,cap,cur,rfl,h4,h5,h6⟩
  ·exact .inl h3
  ·exact .inr ⟨g,cap,cur,rfl,h4,(hb g rfl).trans h5,h6⟩⟩
def MS (M0:cg) (l:List Item) (b:Nat):Prop:=M0 b∨∃it∈l,it.jR=some b
structure HI (M0:cg) (w0 w:aJ) (l:List Item):Prop where
 below:Ext w0 w
 m0:∀b,M0 b→b<w0.heap.size
 jD:∀it∈l,∀b,it.jR=some b→w0.heap.size≤b∧b<w.heap.size
 nodup:(l.filterMap (·.jR)).Nodup
 all:∀it∈l,it.holds (MS M0 l) w
abbrev HI.eI {M0:Nat→Prop} {w0 w:aJ} {l:List Item} (_:HI M0 w0 w l):Nat→Prop:=MS M0 l
section
variable {M0:cg} {w0 w w':aJ} {l:List Item} {it nJ:Item}
theorem HI.at_ (h:HI M0 w0 w l) (i:Nat) (hi:l[i]? =some it):it.holds (MS M0 l) w:=h.all it (dO hi)
theorem HI.mb (h:HI M0 w0 w l):∀b,MS M0 l b→b<w.heap.size:=by
 rintro b (hb|⟨it,hit,hb⟩)
 ·exact apV (h.m0 b hb) h.below.size
 ·exact(h.jD it hit b hb).2
theorem HI.start (hM:∀b,M0 b→b<w.heap.size):HI M0 w w []:=
 ⟨Ext.refl w,hM,fun _ h=>(by cases h),ash,fun _ h=>(by cases h)⟩
theorem HI.ext (h:HI M0 w0 w l) (x:Ext w w'):HI M0 w0 w' l:=
 ⟨h.below.trans x,h.m0,fun it hit b hb=>⟨(h.jD it hit b hb).1,apV (h.jD it hit b hb).2 x.size⟩,h.nodup,
  fun it hit=>it.lift (h.all it hit) (Up.ext x) fun b hb=>x.block b (h.jD it hit b hb).2⟩
theorem aG (hn:it.jR=none):MS M0 (it::l)=MS M0 l:=by
 funext b
 simp only[MS,apD,eq_iff_iff]
 constructor
 ·rintro(h|⟨i,rfl|hi,hb⟩)
  ·exact .inl h
  ·rw[hn] at hb;cases hb
  ·exact .inr ⟨i,hi,hb⟩
 ·rintro(h|⟨i,hi,hb⟩)
  ·exact .inl h
  ·exact .inr ⟨i,.inr hi,hb⟩
theorem HI.put (h:HI M0 w0 w l) (hn:it.jR=none) (hh:it.holds (MS M0 l) w):HI M0 w0 w (it::l):=by
 refine⟨h.below,h.m0,?_,by simpa [aqa,hn] using h.nodup,?_⟩
 ·intro i hi b hb
  rcases apD.1 hi with rfl|hi
  ·rw[hn] at hb;cases hb
  ·exact h.jD i hi b hb
 ·rw[aG hn]
  intro i hi
  rcases apD.1 hi with rfl|hi
  ·exact hh
  ·exact h.all i hi
theorem HI.new (h:HI M0 w0 w l) (x:Ext w w') (b:Nat) (hn:it.jR=some b) (hb:w.heap.size≤b) (vS:b<w'.heap.size) (hh:it.holds (MS M0 (it::l)) w'):HI M0 w0 w' (it::l):=by
 refine⟨h.below.trans x,h.m0,?_,?_,?_⟩
 ·intro i hi c hc
  rcases apD.1 hi with rfl|hi
  ·rw[hn] at hc;cases hc;exact⟨Nat.le_trans h.below.size hb,vS⟩
  ·exact⟨(h.jD i hi c hc).1,apV (h.jD i hi c hc).2 x.size⟩
 ·rw[aqa,hn]
  refine aqt.2 ⟨?_,h.nodup⟩
  intro hm
  obtain⟨i,hi,Cr⟩:=apR.1 hm
  have:=(h.jD i hi b Cr).2
  omega
 ·intro i hi
  rcases apD.1 hi with rfl|hi
  ·exact hh
  ·refine i.lift (h.all i hi) ⟨x.size,fun c hc hM=>⟨x.block c hc,?_⟩⟩ fun c hc=>x.block c (h.jD i hi c hc).2
   rintro(Ng|⟨j,hj,yt⟩)
   ·exact hM<|.inl Ng
   ·rcases apD.1 hj with rfl|hj
    ·rw[hn] at yt;cases yt;omega
    ·exact hM<|.inr ⟨j,hj,yt⟩
theorem HI.wx (h:HI M0 w0 w l) (i:Nat) (hi:l[i]? =some it) (hos:w'.os=w.os) (hta:w'.tape=w.tape) (hou:w'.output=w.output) (hs:w.heap.size≤w'.heap.size) (hdr:w.drawn≤w'.drawn)
  (hk:∀c,c<w.heap.size→it.jR≠some c→w'.heap[c]? =w.heap[c]?)
  (hb:∀b,nJ.jR=some b→b<w'.heap.size∧(it.jR=some b∨w.heap.size≤b))
  (hh:nJ.holds (MS M0 (l.set i nJ)) w'):HI M0 w0 w' (l.set i nJ):=by
 have jU:i<l.length:=(dZ.1 hi).1
 have hit:it∈l:=dO hi
 have BY:∀j,j∈l.set i nJ→j=nJ∨∃m,m≠i∧l[m]? =some j:=by
  intro j hj
  obtain⟨m,hm,rfl⟩:=arj.1 hj
  rw[ar5]
  split
  ·exact .inl rfl
  ·rename_i gI
   exact .inr ⟨m,fun e=>gI e.symm,eB (by simpa using hm)⟩
 
 have Nb:∀m j b,m≠i→l[m]? =some j→j.jR=some b→it.jR≠some b:=by
  intro m j b hm hj wV Cr
  exact hm<|il (·.jR) l h.nodup m i j it hj hi (by rw[wV];rfl)<|by rw[wV,Cr]
 refine⟨⟨⟨hos.trans h.below.os,hta.trans h.below.tape,hou.trans h.below.output,Nat.le_trans h.below.size hs,fun c hc=>?_⟩,Nat.le_trans h.below.drawn hdr⟩,h.m0,?_,?_,?_⟩
 ·rw[hk c (apV hc h.below.size) (fun e=>by have:=(h.jD it hit c e).1;omega)]
  exact h.below.block c hc
 ·intro j hj b wV
  rcases BY j hj with rfl|⟨m,hm,AU⟩
  ·obtain⟨h1,h2⟩:=hb b wV
   refine⟨?_,h1⟩
   rcases h2 with h2|h2
   ·exact(h.jD it hit b h2).1
   ·exact Nat.le_trans h.below.size h2
  ·have:=h.jD j (dO AU) b wV
   exact⟨this.1,apV this.2 hs⟩
 ·
  have adI:l=l.take i++it::l.drop (i+1):=by
   have h1:=aqz i l
   rw[aqi jU] at h1
   have h2:l[i]=it:=by
    have:=eB jU
    rw[hi] at this
    exact(apm this).symm
   rw[h2] at h1
   exact h1.symm
  have ajB:l.set i nJ=l.take i++nJ::l.drop (i+1):=by
   rw[List.set_eq_take_append_cons_drop,apo jU]
  have lX:=h.nodup
  rw[adI] at lX
  rw[ajB]
  simp only[arA,aqa] at lX ⊢
  have MZ:((l.take i).filterMap (·.jR)++(l.drop (i+1)).filterMap (·.jR)).Nodup:=by
   refine arV ?_ lX
   refine List.Sublist.append (List.Sublist.refl _) ?_
   cases it.jR with
   |none=>exact List.Sublist.refl _
   |some b=>exact List.sublist_cons_self _ _
  cases Cv:nJ.jR with
  |none=>simpa [Cv] using MZ
  |some b=>
   simp only[]
   have aed:∀j,(j∈l.take i∨j∈l.drop (i+1))→j.jR≠some b:=by
    intro j hj wV
    have AU:∃m,m≠i∧l[m]? =some j:=by
     rcases hj with hj|hj
     ·obtain⟨m,hm,rfl⟩:=arj.1 hj
      simp only[iH] at hm
      exact⟨m,by omega,by rw[List.getElem_take];exact eB aq⟩
     ·obtain⟨m,hm,rfl⟩:=arj.1 hj
      simp only[apJ] at hm
      exact⟨i+1+m,by omega,by rw[List.getElem_drop];exact eB aq⟩
    obtain⟨m,hm,AU⟩:=AU
    rcases (hb b Cv).2 with h2|h2
    ·exact Nb m j b hm AU wV h2
    ·have:=(h.jD j (dO AU) b wV).2
     omega
   have:((l.take i).filterMap (·.jR)++b::(l.drop (i+1)).filterMap (·.jR)).Nodup:=by
    rw[aq7] at MZ ⊢
    refine⟨MZ.1,aqt.2 ⟨?_,MZ.2.1⟩,?_⟩
    ·intro hm
     obtain⟨j,hj,wV⟩:=apR.1 hm
     exact aed j (.inr hj) wV
    ·intro c hc c' Ng he
     subst he
     rcases apD.1 Ng with rfl|Ng
     ·obtain⟨j,hj,wV⟩:=apR.1 hc
      exact aed j (.inl hj) wV
     ·exact MZ.2.2 c hc c Ng J
   exact this
 ·intro j hj
  rcases BY j hj with rfl|⟨m,hm,AU⟩
  ·exact hh
  ·have yr:=dO AU
   refine j.lift (h.all j yr) ⟨hs,fun c hc hM=>?_⟩ fun c hc=>hk c (h.jD j yr c hc).2 (Nb m j c hm AU hc)
   refine⟨hk c hc fun e=>hM (.inr ⟨it,hit,e⟩),?_⟩
   rintro(h1|⟨q,hq,hqc⟩)
   ·exact hM<|.inl h1
   ·rcases BY q hq with rfl|⟨m',hm',jn⟩
    ·rcases (hb c hqc).2 with h2|h2
     ·exact hM<|.inr ⟨it,hit,h2⟩
     ·omega
    ·exact hM<|.inr ⟨q,dO jn,hqc⟩
theorem HI.pick (h:HI M0 w0 w l) (l':List Item) (hs:∀it∈l',it∈l) (hn:(l'.filterMap (·.jR)).Nodup):HI M0 w0 w l':=
 ⟨h.below,h.m0,fun it hit=>h.jD it (hs it hit),hn,fun it hit=>it.lift (h.all it (hs it hit)) (Up.less fun b _ hb=>by
  rcases hb with hb|⟨j,hj,wV⟩
  ·exact .inl hb
  ·exact .inr ⟨j,hs j hj,wV⟩) fun _ _=>rfl⟩
theorem HI.drop (h:HI M0 w0 w l) (i:Nat):HI M0 w0 w (l.eraseIdx i):=
 h.pick _ (fun it hit=>List.mem_of_mem_eraseIdx hit) (h.nodup.sublist ((List.eraseIdx_sublist l i).filterMap _))
theorem HI.tail (h:HI M0 w0 w (it::l)):HI M0 w0 w l:=h.drop 0
theorem HI.out (h:HI M0 w0 w l):Up (MS M0 l) w M0 w:=Up.less fun b _ hb=>.inl hb
end
def Z5 {α:Type} [GT α] (M:cg) (w0:aJ) (x:α) (v:Value) (w:aJ):Prop:=Ext w0 w∧RV M w v x
def af0 {α:Type} [GT α] (w0:aJ) (x:α) (v:Value) (w:aJ):Prop:=Ext w0 w∧RV (fun b=>b<w0.heap.size) w v x
def afZ {α:Type} [GT α] (e:TypeId) (w0:aJ) (xs:List α) (v:Value) (w:aJ):Prop:=
 Ext w0 w∧(∀b,v.ownBlock=some b→b<w.heap.size)∧(own w0.heap.size e v xs).holds (fun b=>b<w0.heap.size∨v.ownBlock=some b) w
theorem bE (b:Bool):b=true∨b=false:=Bool.eq_false_or_eq_true b
theorem dT {p:Prop} [Decidable p] (h:decide p=true):p:=ap5 h
theorem dF {p:Prop} [Decidable p] (h:decide p=false):¬p:=aqZ h
abbrev OA:=Option Addr
abbrev R {α:Type} (a:Option Addr) (xs:List α) (c:Nat):Value:=.slice a xs.length c
abbrev iL {α:Type} [GT α] (a:Option Addr) (xs:List α) (c:Nat):Item:=sf (.slice a xs.length c) xs
abbrev oL {α:Type} [GT α] (w:aJ) (e:TypeId) (a:Option Addr) (xs:List α) (c:Nat):Item:=own w.heap.size e (.slice a xs.length c) xs
end Go.Ew
namespace Go.Ew
open Go.RowKit Go.IntWalk
variable {ao:Option Addr} {m cc:Nat}
def afK (P:Program) (t:TypeId):Option Bool:=(P.underlying t).map fun| .struct _| .array _ _=>true|_=>false
structure ez (P:Program) (t:TypeId) (k:Nat) (agg:Bool) (bytes:Nat) (z:Value):Prop where
 i:(P.info? t).map (fun i=>(i.zero,i.size,i.bytes))=some (some z,k,bytes)
 a:afK P t=some agg
section
variable {P:Program} {t e:TypeId} {k bytes:Nat} {agg:Bool} {z:Value} {w:aJ}
theorem ez.info (F:ez P t k agg bytes z):∃i,P.info? t=some i∧i.zero=some z∧i.size=k∧i.bytes=bytes:=info_parts F.i
theorem ez.JB (F:ez P t k agg bytes z) (w:aJ):(isAgg t).run P w=.ok agg w:=by
 have h:=F.a
 unfold afK at h
 cases hu:P.underlying t with
 |none=>rw[hu] at h;cases h
 |some d=>
  rw[hu] at h
  simp only[aqC,apy] at h
  subst h
  cases d<;>simp[isAgg,underlying,hu]
theorem ez.jA (F:ez P t k agg bytes z) (w:aJ):(sizeOf t).run P w=.ok k w:=by
 obtain⟨i,h1,_,h2,_⟩:=F.info
 simp[sizeOf,typeInfo,h1,h2]
theorem ez.uK (F:ez P t k agg bytes z) (w:aJ):(zeroValue t).run P w=.ok z w:=by
 obtain⟨i,h1,h2,_⟩:=F.info
 simp[zeroValue,typeInfo,h1,h2]
theorem gO {d:TypeDesc} (h:P.underlying t=some d) (w:aJ):(underlying t).run P w=.ok d w:=by simp[underlying,h]
theorem r9 (F:ez P t k agg bytes z) (hk:agg=false→k=1) {ad:Addr} {cs:List Value} (hl:cs.length=k) (hc:∀j v,cs[j]? =some v→w.cell? (ad.add j)=some v):
  (loadVar t ad).run P w=.ok (ta agg cs) w:=by
 cases agg with
 |true=>
  subst hl
  simp[loadVar,F.JB,F.jA,run_loadCells_list w ad cs hc,ta]
 |false=>
  match cs,hl,hc with
  |[c],_,hc=>
   have h0:w.cell? ad=some c:=by
    have:=hc 0 c J
    rwa [show ad.add 0=ad from by simp[Addr.add]] at this
   simp[loadVar,F.JB,h0,ta]
  |[],hl,_=>simp at hl;have:=hk rfl;omega
  |_::_::_,hl,_=>simp at hl;have:=hk rfl;omega
end
def ik {α:Type} [GT α] (M:cg) (w:aJ) (ad:Addr) (x:α):Prop:=∃cs,GT.rep M w cs x∧∀j v,cs[j]? =some v→w.cell? (ad.add j)=some v
theorem At.w {α:Type} [GT α] {M:cg} {w:aJ} {ad:Addr} {x:α} (h:At M w ad x):ik M w ad x:=let ⟨cs,h1,_,h3⟩:=h;⟨cs,h1,h3⟩
theorem At.fst {α β:Type} [GT α] [GT β] {M:cg} {w:aJ} {ad:Addr} {x:α×β} (h:At M w ad x):At M w ad x.1:=by
 obtain⟨_,⟨c1,c2,rfl,h1,h2⟩,hM,hc⟩:=h
 exact⟨c1,h1,hM,fun j v hv=>hc j v (by rw[pt (dZ.1 hv).1];exact hv)⟩
theorem At.snd {α β:Type} [GT α] [GT β] {M:cg} {w:aJ} {ad:Addr} {x:α×β} (h:At M w ad x):At M w (ad.add (GT.size α)) x.2:=by
 obtain⟨_,⟨c1,c2,rfl,h1,h2⟩,hM,hc⟩:=h
 refine⟨c2,h2,by rw[wg];exact hM,fun j v hv=>?_⟩
 rw[add_add]
 refine hc _ v ?_
 rw[oM (by rw[GT.len h1];omega),GT.len h1]
 rw[show GT.size α+j-GT.size α=j from by omega]
 exact hv
theorem ik.fst {α β:Type} [GT α] [GT β] {M:cg} {w:aJ} {ad:Addr} {x:α×β} (h:ik M w ad x):ik M w ad x.1:=by
 obtain⟨_,⟨c1,c2,rfl,h1,h2⟩,hc⟩:=h
 exact⟨c1,h1,fun j v hv=>hc j v (by rw[pt (dZ.1 hv).1];exact hv)⟩
theorem ik.snd {α β:Type} [GT α] [GT β] {M:cg} {w:aJ} {ad:Addr} {x:α×β} (h:ik M w ad x):ik M w (ad.add (GT.size α)) x.2:=by
 obtain⟨_,⟨c1,c2,rfl,h1,h2⟩,hc⟩:=h
 refine⟨c2,h2,fun j v hv=>?_⟩
 rw[add_add]
 refine hc _ v ?_
 rw[oM (by rw[GT.len h1];omega),GT.len h1]
 rw[show GT.size α+j-GT.size α=j from by omega]
 exact hv
section
variable {P:Program} {n:Nat} {ops:Array Oper} {f:aR} {w:aJ} {K:aR→aJ→Prop} {x y c:Operand} {d:Nat} {ty T T2 e:TypeId} {ps:String} {af:Array Edge} {v v2:Value} {a b:Int} {M M0:cg} {w0:aJ} {l:List Item} {kk:IntKind} {bytes:Nat} {z:Value} {ad:Addr} {size:Nat} {agg:Bool}
theorem nI {α:Type} [GT α] {xv:α} (hA:ik M w ad xv) (F:ez P T (GT.size α) (GT.agg α) bytes z) (ox:bM n x=true) (hx:ev f x=.pointer (some ad))
  (h:∀v,RV M w v xv→K (cq f d v) w):SO P n ops ⟨some d,.load T x,ty,ps,af,none⟩ f w K:=by
 obtain⟨cs,h1,h2⟩:=hA
 exact SO.value (v:=ta (GT.agg α) cs) (by
  simp[execOp,aP ox,hx,Instr.loadAt,Instr.sureAddr,r9 F GT.single (GT.len h1) h2]) (h _ ⟨cs,h1,rfl⟩)
theorem kF {i:Int} (hA:ik M w ad i) (F:ez P T 1 false bytes z) (ox:bM n x=true) (hx:ev f x=.pointer (some ad)) (h:aK i→K (cq f d (.int .i64 i)) w):
  SO P n ops ⟨some d,.load T x,ty,ps,af,none⟩ f w K:=nI hA F ox hx fun v hv=>by obtain⟨rfl,hi⟩:=RV.int.1 hv;exact h hi
theorem zi {u:bw} (hA:ik M w ad u) (F:ez P T 1 false bytes z) (ox:bM n x=true) (hx:ev f x=.pointer (some ad)) (h:K (cq f d (aj u)) w):
  SO P n ops ⟨some d,.load T x,ty,ps,af,none⟩ f w K:=nI hA F ox hx fun v hv=>by rw[RV.bv.1 hv];exact h
theorem ld8 {u:BitVec 8} (hA:ik M w ad u) (F:ez P T 1 false bytes z) (ox:bM n x=true) (hx:ev f x=.pointer (some ad)) (h:K (cq f d (U8 u)) w):
  SO P n ops ⟨some d,.load T x,ty,ps,af,none⟩ f w K:=nI hA F ox hx fun v hv=>by rw[RV.b8.1 hv];exact h
theorem YO {u:Bool} (hA:ik M w ad u) (F:ez P T 1 false bytes z) (ox:bM n x=true) (hx:ev f x=.pointer (some ad)) (h:K (cq f d (.bool u)) w):
  SO P n ops ⟨some d,.load T x,ty,ps,af,none⟩ f w K:=nI hA F ox hx fun v hv=>by rw[RV.bool.1 hv];exact h
theorem ldS {u:aY} (hA:ik M w ad u) (F:ez P T 1 false bytes z) (ox:bM n x=true) (hx:ev f x=.pointer (some ad)) (h:u.size≤maxLen→K (cq f d (.string u)) w):
  SO P n ops ⟨some d,.load T x,ty,ps,af,none⟩ f w K:=nI hA F ox hx fun v hv=>by obtain⟨rfl,hi⟩:=RV.str.1 hv;exact h hi
theorem RS.explicit {α:Type} [GT α] {xs:List α} (h:RS M w v xs):∃a c,v=.slice a xs.length c∧RV M w (.slice a xs.length c) xs:=by
 obtain⟨a,n,c,rfl,rfl,h3⟩:=h
 exact⟨a,c,J,RV.list.2 ⟨a,_,c,J,J,h3⟩⟩
theorem wT {α:Type} [GT α] {xs:List α} (hA:ik M w ad xs) (F:ez P T 1 false bytes z) (ox:bM n x=true) (hx:ev f x=.pointer (some ad))
  (h:∀a c,RV M w (.slice a xs.length c) xs→K (cq f d (.slice a xs.length c)) w):SO P n ops ⟨some d,.load T x,ty,ps,af,none⟩ f w K:=
 nI hA F ox hx fun v hv=>by obtain⟨a,c,rfl,hr⟩:=(RV.list.1 hv).explicit;exact h a c hr
theorem cC {bb off:Nat} {cs:Array Value} {t:TypeId} {k:Nat} (H:HI M0 w0 w l) (i:Nat) (hi:l[i]? =some (box bb cs t)) (F:ez P T k agg bytes z) (ox:bM n x=true) (hx:ev f x=.pointer (some ⟨bb,off,none⟩))
  (hk:agg=false→k=1) (hl:((cs.toList.drop off).take k).length=k) (h:K (cq f d (ta agg ((cs.toList.drop off).take k))) w):SO P n ops ⟨some d,.load T x,ty,ps,af,none⟩ f w K:=by
 have hb:w.heap[bb]? =some (.cells cs t (0,0)):=H.at_ i hi
 refine SO.value (v:=ta agg ((cs.toList.drop off).take k)) ?_ h
 have hc:∀j u,((cs.toList.drop off).take k)[j]? =some u→w.cell? ((⟨bb,off,none⟩:Addr).add j)=some u:=by
  intro j u hu
  rw[show (⟨bb,off,none⟩:Addr).add j=⟨bb,off+j,none⟩ from by unfold Addr.add;split<;>simp_all,cell_of_row w bb (off+j) cs t (0,0) hb]
  have hj:j<k:=by
   have:=(dZ.1 hu).1
   omega
  rw[apS,apo hj,ap6] at hu
  simpa using hu
 simp[execOp,aP ox,hx,Instr.loadAt,Instr.sureAddr,r9 F hk hl hc]
theorem lx {bb off:Nat} {cs:Array Value} {t:TypeId} (H:HI M0 w0 w l) (i:Nat) (hi:l[i]? =some (box bb cs t)) (F:ez P T 1 false bytes z) (ox:bM n x=true) (hx:ev f x=.pointer (some ⟨bb,off,none⟩))
  (hl:((cs.toList.drop off).take 1).length=1) (h:K (cq f d (ta false ((cs.toList.drop off).take 1))) w):SO P n ops ⟨some d,.load T x,ty,ps,af,none⟩ f w K:=cC H i hi F ox hx (fun _=>rfl) hl h
def wr (cs:Array Value) (off:Nat) (vs:List Value):Array Value:=(cs.toList.take off++vs++cs.toList.drop (off+vs.length)).toArray
theorem CY (F:ez P T size agg bytes z) {g o:Nat} {cs:Array Value} {t:TypeId} (hg:w.heap[g]? =some (.cells cs t (0,0))) (hs:v.cells.size=size) (hf:o+v.cells.toList.length≤cs.size) (h1:∀u∈v.cells.toList,u.oneCell'=true):
  (storeVar T ⟨g,o,none⟩ v).run P w=.ok () (w.setRow g (wr cs o v.cells.toList)):=by
 have re:=run_storeCells_at P g o t v.cells.toList 0 cs w hg (by simpa using hf) h1
 simp only[ap3] at re
 simp[storeVar,F.jA,hs,re,wr]
theorem HI.wrote {g:Nat} {cs cs':Array Value} {t:TypeId} (H:HI M0 w0 w l) (i:Nat) (hi:l[i]? =some (box g cs t)):HI M0 w0 (w.setRow g cs') (l.set i (box g cs' t)):=by
 have hb:w.heap[g]? =some (.cells cs t (0,0)):=H.at_ i hi
 refine H.wx i hi J J J (by simp) (apn _) (fun c hc gI=>setRow_other w g c _<|fun e=>gI<|by rw[e];rfl) (fun b vS=>?_)<|setRow_heap w g cs _ t _ hb
 refine⟨?_,.inl vS⟩
 rw[size_setRow]
 exact(H.jD _ (dO hi) b vS).2
theorem bA {dd:Option Nat} {bb off:Nat} {cs:Array Value} {t:TypeId} (H:HI M0 w0 w l) (i:Nat) (hi:l[i]? =some (box bb cs t)) (F:ez P T size agg bytes z) (ox:bM n x=true) (oy:bM n y=true) (hx:ev f x=.pointer (some ⟨bb,off,none⟩)) (hy:ev f y=v)
  (hs:v.cells.size=size) (hf:Nat.ble (off+v.cells.toList.length) cs.size=true) (h1:v.cells.toList.all Value.oneCell'=true)
  (h:∀w',HI M0 w0 w' (l.set i (box bb (wr cs off v.cells.toList) t))→K (de f dd undef) w'):SO P n ops ⟨dd,.store T x y,ty,ps,af,none⟩ f w K:=by
 have hb:w.heap[bb]? =some (.cells cs t (0,0)):=H.at_ i hi
 refine SO.skip ?_ (h _<|H.wrote i hi)
 simp[execOp,aP ox,aP oy,hx,hy,Instr.storeAt,Instr.sureAddr,CY F hb hs (by simpa using hf) (fun u hu=>aps.1 h1 u hu)]
theorem BD (t:TypeId) (v:Value) (w:aJ):(newVar t v).run P w=.ok ⟨w.heap.size,0,none⟩ (w.alloc (.cells v.cells t)):=by simp[newVar,newRow]
theorem HI.aft (H:HI M0 w0 w l) (cs:Array Value) (t:TypeId):HI M0 w0 (w.alloc (.cells cs t)) (box w.heap.size cs t::l):=
 H.new (Ext.alloc w _) w.heap.size rfl (apn _) (by simp) (heap_alloc_new w _)
theorem al (H:HI M0 w0 w l) (F:ez P T size agg bytes z) (h:∀b w',Ext w w'→HI M0 w0 w' (box b z.cells T::l)→K (cq f d (.pointer (some ⟨b,0,none⟩))) w'):
  SO P n ops ⟨some d,.alloc T,ty,ps,af,none⟩ f w K:=
 SO.value (v:=.pointer (some ⟨w.heap.size,0,none⟩)) (w':=w.alloc (.cells z.cells T)) (by simp[execOp,Instr.alloc,F.uK,BD]) (h _ _ (Ext.alloc w _) (H.aft z.cells T))
theorem bx (H:HI M0 w0 w l) (ox:bM n x=true) (hx:ev f x=v) (h:∀b w',Ext w w'→HI M0 w0 w' (box b v.cells T::l)→K (cq f d (.pointer (some ⟨b,0,none⟩))) w'):
  SO P n ops ⟨some d,.box T x,ty,ps,af,none⟩ f w K:=
 SO.value (v:=.pointer (some ⟨w.heap.size,0,none⟩)) (w':=w.alloc (.cells v.cells T)) (by simp[execOp,Instr.box,aP ox,hx,BD]) (h _ _ (Ext.alloc w _) (H.aft v.cells T))
structure gV (P:Program) (s:TypeId) (j:Nat) (off:Nat):Prop where
 h:∃fs fd,P.underlying s=some (.struct fs)∧fs[j]? =some fd∧fd.offset=off∧((P.info? fd.type).map fun i=>Nat.beq i.size 0)=some false
theorem fa {j off:Nat} (F:gV P T j off) (ox:bM n x=true) (hx:ev f x=.pointer (some ad)) (h:K (cq f d (.pointer (some (ad.add off)))) w):SO P n ops ⟨some d,.fieldAddr T x j,ty,ps,af,none⟩ f w K:=by
 obtain⟨fs,fd,h1,h2,rfl,h3⟩:=F.h
 obtain⟨i,h4,h6⟩:=apN.1 h3
 have h5:i.size≠0:=by
  intro e
  rw[e] at h6
  cases h6
 exact SO.value (v:=.pointer (some (ad.add fd.offset))) (by
  simp[execOp,aP ox,hx,Instr.fieldAt,gO h1,h2,Instr.sureAddr,fieldPlace,sizeOf,typeInfo,h4,h5]) h
theorem ia {α:Type} [GT α] {xs:List α} {i:Int} (hR:RV M w v xs) (ox:bM n x=true) (oy:bM n y=true) (hx:ev f x=v) (hy:ev f y=.int kk i) (hi:0≤i∧i<xs.length) (hu:P.underlying T=some (.slice e)) (F:ez P e (GT.size α) agg bytes z)
  (h:∀ad xv,xs[i.toNat]? =some xv→At M w ad xv→K (cq f d (.pointer (some ad))) w):SO P n ops ⟨some d,.indexAddr T x y,ty,ps,af,none⟩ f w K:=by
 obtain⟨a,m,c,rfl,h1,h2,h3,h4⟩:=RV.list.1 hR
 rcases h4 with h4|⟨ad,rfl,hs⟩
 ·omega
 ·have eH:i.toNat<xs.length:=by omega
  refine SO.value (v:=.pointer (some<|ad.add<|i.toNat*GT.size α)) ?_<|h _ xs[i.toNat] (eB eH)<|hs _ _<|eB eH
  have hb:0≤i∧i<(m:Int):=by omega
  simp[execOp,aP ox,aP oy,hx,hy,Instr.indexAt,asIntOf,gO hu,hb,F.jA]
theorem iC {α:Type} [GT α] {xs:List α} {B:Nat} {i:Int} (hO:(own B e v xs).holds M w) (ox:bM n x=true) (oy:bM n y=true) (hx:ev f x=v) (hy:ev f y=.int kk i) (hi:0≤i∧i<xs.length) (hu:P.underlying T=some (.slice e)) (F:ez P e (GT.size α) agg bytes z)
  (h:∀g xv,v.ownBlock=some g→xs[i.toNat]? =some xv→ik M w ⟨g,i.toNat*GT.size α,none⟩ xv→K (cq f d (.pointer (some ⟨g,i.toNat*GT.size α,none⟩))) w):SO P n ops ⟨some d,.indexAddr T x y,ty,ps,af,none⟩ f w K:=by
 obtain⟨cs,h1,h2⟩:=hO
 rcases h1.2 with ⟨_,h3⟩|⟨g,cap,cur,rfl,h3,h4,h5,h6,h7,h8⟩
 ·omega
 ·have eH:i.toNat<xs.length:=by omega
  have lE:(⟨g,0,none⟩:Addr).add (i.toNat*GT.size α)=⟨g,i.toNat*GT.size α,none⟩:=by unfold Addr.add;split<;>simp_all
  refine SO.value (v:=.pointer (some ⟨g,i.toNat*GT.size α,none⟩)) ?_<|h g xs[i.toNat] J (eB eH) ?_
  ·have hb:0≤i∧i<(xs.length:Int):=by omega
   simp[execOp,aP ox,aP oy,hx,hy,Instr.indexAt,asIntOf,gO hu,hb,F.jA,lE]
  ·obtain⟨c,zt,AW⟩:=bC.at_ h2 i.toNat xs[i.toNat] (eB eH)
   refine⟨c,zt,fun j u hu=>?_⟩
   have ve:=h1.cells (g:=g) J (i.toNat*GT.size α+j) u<|AW j u hu
   rwa [←add_add,lE] at ve
theorem bC.set {α:Type} [GT α] {M:cg} {w:aJ} {y:α} {c:List Value} (hy:GT.rep M w c y):∀{xs:List α} {cs:List Value} (i:Nat),i<xs.length→bC M w cs xs→
  bC M w (cs.take (i*GT.size α)++c++cs.drop (i*GT.size α+c.length)) (xs.set i y)
 |x::xs,cs,0,_,⟨c1,c2,h1,h2,h3⟩=>by
  refine⟨c,c2,?_,hy,h3⟩
  rw[h1,arR,arl,List.nil_append,ap_,GT.len hy,←GT.len h2,List.drop_left]
 |x::xs,cs,i+1,hi,⟨c1,c2,h1,h2,h3⟩=>by
  have:=bC.set hy i (by simpa using hi) h3
  refine⟨c1,_,?_,h2,this⟩
  have hl:=GT.len h2
  rw[h1,show (i+1)*GT.size α=c1.length+i*GT.size α from by rw[hl,aqd];omega,ar4]
  rw[arE,List.drop_append,apu aq,aqX aq]
  rw[show c1.length+i*GT.size α-c1.length=i*GT.size α from by omega,show c1.length+(i*GT.size α+c.length)-c1.length=i*GT.size α+c.length from by omega]
  simp[apY]
theorem Ol {β:Type} (cur cy:List β) (o n:Nat) (h:o+cy.length≤n) (hn:n≤cur.length):
  (cur.take o++cy++cur.drop (o+cy.length)).take n=(cur.take n).take o++cy++(cur.take n).drop (o+cy.length):=by
 rw[arE,arE,asj,aqS,aqS,gj,iH]
 rw[show min n o=o from by omega,show min o n=o from by omega,show min o cur.length=o from by omega,apu (l:=cy) aq]
theorem qE {dd:Option Nat} {α:Type} [GT α] {xs:List α} {yv:α} {B:Nat} {j g:Nat} {u:Value} (H:HI M0 w0 w l) (i:Nat) (hi:l[i]? =some (own B e v xs)) (hg:v.ownBlock=some g) (hB:B=w0.heap.size) (hj:j<xs.length) (F:ez P T (GT.size α) agg bytes z) (ox:bM n x=true) (oy:bM n y=true)
  (hx:ev f x=.pointer (some ⟨g,j*GT.size α,none⟩)) (hy:ev f y=u) (hR:RV (MS M0 l) w u yv)
  (h:∀w',HI M0 w0 w' (l.set i (own B e v (xs.set j yv)))→K (de f dd undef) w'):SO P n ops ⟨dd,.store T x y,ty,ps,af,none⟩ f w K:=by
 subst hB
 obtain⟨cs,h1,h2⟩:=H.at_ i hi
 rcases h1.2 with ⟨rfl,h3⟩|⟨g',cap,cur,rfl,h3,h4,h5,h6,h7,h8⟩
 ·cases hg
 ·have hgg:g'=g:=by simpa [Value.ownBlock] using hg
  subst hgg
  obtain⟨cy,TZ,rfl⟩:=hR
  have sh:=Vf (agg:=GT.agg α) (cs:=cy) (fun h=>by rw[GT.len TZ];exact GT.single h)<|GT.one TZ
  have Ze:=GT.len TZ
  have Xc:j*GT.size α+cy.length≤cur.size:=by
   rw[h7,Ze]
   have:(j+1)*GT.size α≤cap*GT.size α:=aqr _ aq
   rw[aqd] at this
   omega
  have kU:=CY (P:=P) (w:=w) F (g:=g') (o:=j*GT.size α) (v:=ta (GT.agg α) cy) h4 (by rw[sh];simpa using Ze) (by rw[sh];simpa using Xc)<|by rw[sh];simpa using GT.one TZ
  rw[sh] at kU
  simp only[List.toList_toArray] at kU
  refine SO.skip (w':=w.setRow g' (wr cur (j*GT.size α) cy)) ?_ (h _ ?_)
  ·simp[execOp,aP ox,aP oy,hx,hy,Instr.storeAt,Instr.sureAddr,kU]
  ·have DD:∀c,c<w.heap.size→(own w0.heap.size e (Value.slice (some ⟨g',0,none⟩) xs.length cap) xs).jR≠some c→(w.setRow g' (wr cur (j*GT.size α) cy)).heap[c]? =w.heap[c]?:=
    fun c hc gI=>setRow_other w g' c _ (fun e=>gI (by rw[e];rfl))
   have hblk:∀b,(own w0.heap.size e (Value.slice (some ⟨g',0,none⟩) xs.length cap) (xs.set j yv)).jR=some b→b<(w.setRow g' (wr cur (j*GT.size α) cy)).heap.size∧((own w0.heap.size e (Value.slice (some ⟨g',0,none⟩) xs.length cap) xs).jR=some b∨w.heap.size≤b):=by
    intro b hb
    refine⟨?_,.inl hb⟩
    rw[size_setRow]
    exact(H.jD _ (dO hi) b hb).2
   refine H.wx i hi J J J (by simp) (apn _) DD hblk ?_
   refine⟨cs.take (j*GT.size α)++cy++cs.drop (j*GT.size α+cy.length),?_,?_⟩
   ·rw[apk]
    have hlen:(cs.take (j*GT.size α)++cy++cs.drop (j*GT.size α+cy.length)).length=xs.length*GT.size α:=by
     have sg:=h1.1
     have:(j+1)*GT.size α≤xs.length*GT.size α:=aqr _ aq
     rw[aqd] at this
     simp only[gj,iH,apJ]
     omega
    refine⟨hlen,.inr ⟨g',cap,wr cur (j*GT.size α) cy,J,h3,setRow_heap w g' cur _ e _ h4,h5,h6,?_,?_⟩⟩
    ·simp only[wr,aqT,gj,iH,apJ,ap9]
     omega
    ·have hle:(j+1)*GT.size α≤xs.length*GT.size α:=aqr _ aq
     rw[aqd] at hle
     have sg:=h1.1
     have pZ:xs.length*GT.size α≤cur.size:=by rw[h7];exact aqr _ h5
     simp only[wr]
     rw[←h8]
     exact Ol cur.toList cy (j*GT.size α) (xs.length*GT.size α) aq<|by simpa using pZ
   ·
    have rb:Up (MS M0 l) w (MS M0 (l.set i (own w0.heap.size e (Value.slice (some ⟨g',0,none⟩) xs.length cap) (xs.set j yv)))) (w.setRow g' (wr cur (j*GT.size α) cy)):=by
     refine⟨by simp,fun b hb hM=>⟨setRow_other w g' b _ (fun e=>hM<|.inr ⟨_,dO hi,by rw[e];rfl⟩),?_⟩⟩
     rintro(DR|⟨it,hit,mi⟩)
     ·exact hM<|.inl DR
     ·rcases aqb hit with hit|rfl
      ·exact hM<|.inr ⟨it,hit,mi⟩
      ·exact hM<|.inr ⟨_,dO hi,mi⟩
    exact bC.lift rb<|bC.set TZ j hj h2
theorem dP (ox:bM n x=true) (hx:ev f x=.slice ao m cc) (hu:P.underlying T=some (.slice e)) (h:K (cq f d (.int .i64 (m:Int))) w):
  SO P n ops ⟨some d,.call {callee:=.builtin .len,args:=#[x],argTypes:=#[T]},ty,ps,af,none⟩ f w K:=
 SO.value (v:=.int .i64 (m:Int)) (by simp[execOp,resolve,invoke,builtin,Builtin.len_,aP ox,hx,gO hu,goInt]) h
theorem wQ {s:aY} (ox:bM n x=true) (hx:ev f x=.string s) (hu:P.underlying T=some .string) (h:K (cq f d (.int .i64 (s.size:Int))) w):
  SO P n ops ⟨some d,.call {callee:=.builtin .len,args:=#[x],argTypes:=#[T]},ty,ps,af,none⟩ f w K:=
 SO.value (v:=.int .i64 (s.size:Int)) (by simp[execOp,resolve,invoke,builtin,Builtin.len_,aP ox,hx,gO hu,goInt]) h
theorem aau (hu:P.underlying T=some (.slice e)):(binOp .eql T (.slice ao m cc) (.slice none 0 0)).run P w=.ok (.bool ao.isNone) w:=by
 show ((Op.equal T (.slice ao m cc) (.slice none 0 0) >>=fun b=>pure (Value.bool b)):Sem Value).run P w=_
 have h:(Op.equal T (.slice ao m cc) (.slice none 0 0)).run P w=.ok ao.isNone w:=by
  rw[show Op.equal T (.slice ao m cc) (.slice none 0 0)=Op.equalIn (9999+1) T (.slice ao m cc) (.slice none 0 0) from rfl]
  unfold Op.equalIn
  rw[Sem.run_bind,gO hu]
  cases ao<;>rfl
 rw[Sem.run_bind,h];rfl
theorem UR (ox:bM n x=true) (oy:bM n y=true) (hx:ev f x=.slice ao m cc) (hy:ev f y=.slice none 0 0) (hu:P.underlying T=some (.slice e)) (h:K (cq f d (.bool ao.isNone)) w):
  SO P n ops ⟨some d,.binOp .eql T x y T2,ty,ps,af,none⟩ f w K:=
 SO.value (v:=.bool ao.isNone) (by
  have hg:(eqGuard .eql T x y (.slice ao m cc) (.slice none 0 0)).run P w=.ok () w:=by unfold eqGuard;rfl
  have hr:=aau (P:=P) (w:=w) (ao:=ao) (m:=m) (cc:=cc) hu
  simp only[execOp,aP ox,aP oy,hx,hy,Sem.run_bind,hg,hr,Result.andThen_ok,Sem.run_pure]) h
end
end Go.Ew
namespace Go.Ew
open Go.RowKit Go.IntWalk
variable {B i:Nat} {v u:Value}
theorem Ext.grown {w w':aJ} (h:w.grownBy w' none) (hd:w.drawn≤w'.drawn):Ext w w':=⟨⟨h.os,h.tape,h.output,h.size,fun k hk=>h.block k hk (by simp)⟩,hd⟩
def Src {α:Type} [GT α] (M:cg) (w:aJ) (v:Value) (ys:List α):Prop:=
 ∃a c,v=.slice a ys.length c∧(ys.length=0∨∃ad,a=some ad∧∃cs,bC M w cs ys∧∀j u,cs[j]? =some u→w.cell? (ad.add j)=some u)
theorem VE.chunks {α:Type} [GT α] {M:cg} {w:aJ}:∀{xs:List α} {ad:Addr},VE M w ad xs→∃cs,bC M w cs xs∧∀j u,cs[j]? =some u→w.cell? (ad.add j)=some u
 |[],ad,_=>⟨[],rfl,fun j u h=>by simp at h⟩
 |x::xs,ad,h=>by
  obtain⟨c1,h1,_,h2⟩:=h 0 x rfl
  have Rr:VE M w (ad.add (GT.size α)) xs:=by
   intro i y hy
   have:=h (i+1) y<|by simpa using hy
   rw[add_add]
   rwa [show (i+1)*GT.size α=GT.size α+i*GT.size α from by rw[aqd];omega] at this
  obtain⟨c2,h3,h4⟩:=VE.chunks Rr
  refine⟨c1++c2,⟨c1,c2,J,h1,h3⟩,fun j u hu=>?_⟩
  rw[List.getElem?_append] at hu
  have hl:=GT.len h1
  split at hu
  ·have:=h2 j u hu
   rwa [add_add,arR,ap_] at this
  ·have:=h4 _ u hu
   rw[add_add,hl] at this
   rwa [show GT.size α+(j-GT.size α)=j from by omega] at this
theorem RV.src {α:Type} [GT α] {M:cg} {w:aJ} {v:Value} {ys:List α} (h:RV M w v ys):Src M w v ys:=by
 obtain⟨a,n,c,rfl,rfl,h3,h4,h5⟩:=RV.list.1 h
 refine⟨a,c,J,?_⟩
 rcases h5 with h5|⟨ad,h5,h6⟩
 ·exact .inl h5
 ·exact .inr ⟨ad,h5,h6.chunks⟩
theorem hG {α:Type} [GT α] {M:cg} {w:aJ} {v:Value} {ys:List α} {B:Nat} {e:TypeId} (h:(own B e v ys).holds M w):Src M w v ys:=by
 obtain⟨cs,h1,h2⟩:=h
 rcases h1.2 with ⟨rfl,h3⟩|⟨g,cap,cur,rfl,h3,h4,h5,h6,h7,h8⟩
 ·exact⟨none,0,by rw[h3],.inl h3⟩
 ·exact⟨_,cap,J,.inr ⟨_,J,cs,h2,h1.cells (g:=g) rfl⟩⟩
theorem AB {α:Type} [GT α] {M M':cg} {w:aJ} {v:Value} {ys:List α} {B:Nat} {e:TypeId} (h:(own B e v ys).holds M w) (hM:∀b,b<w.heap.size→M' b→M b) (hv:∀b,v.ownBlock=some b→¬M' b):RV M' w v ys:=by
 obtain⟨cs,h1,h2⟩:=h
 refine RV.list.2 ?_
 rcases h1.2 with ⟨rfl,h3⟩|⟨g,cap,cur,rfl,h3,h4,h5,h6,h7,h8⟩
 ·exact⟨none,0,0,J,h3,apn _,by simp[maxLen],.inl rfl⟩
 ·refine⟨_,_,cap,J,J,h5,h6,.inr ⟨_,J,fun i x hx=>?_⟩⟩
  obtain⟨c,zt,AW⟩:=bC.at_ h2 i x hx
  refine⟨c,GT.lift zt (Up.less hM),by rw[wg];exact hv g rfl,fun j u hu=>?_⟩
  rw[add_add]
  exact h1.cells (g:=g) J _ u<|AW j u hu
section
variable {M0:cg} {w0 w w':aJ} {l:List Item} {α:Type} [GT α] {v:Value} {xs:List α} {e:TypeId}
theorem xm (H:HI M0 w0 w l) (hi:l[i]? =some (own B e v xs)):∀b,v.ownBlock=some b→w0.heap.size≤b∧b<w.heap.size:=H.jD _ (dO hi)
theorem HI.freeze (H:HI M0 w0 w l) (i:Nat) (hi:l[i]? =some (own B e v xs)):HI M0 w0 w (l.set i (sf v xs)):=by
 refine H.wx i hi J J J (apn _) (apn _) (fun _ _ _=>rfl) (fun b hb=>by cases hb) ?_
 have hO:=H.at_ i hi
 refine AB hO (fun b hb hM=>?_)<|fun b hb hM=>?_
 ·rcases hM with hM|⟨it,hit,mi⟩
  ·exact .inl hM
  ·rcases aqb hit with hit|rfl
   ·exact .inr ⟨it,hit,mi⟩
   ·cases mi
 ·have Cv:=xm H hi b hb
  rcases hM with hM|⟨it,hit,mi⟩
  ·have:=H.m0 b hM;omega
  ·obtain⟨m,hm,rfl⟩:=arj.1 hit
   rw[ar5] at mi
   split at mi
   ·cases mi
   ·rename_i gI
    have uu:m<l.length:=by simpa using hm
    exact gI<|il (·.jR) l H.nodup i m _ l[m] hi (eB uu) (by show (v.ownBlock).isSome=true;rw[hb];rfl)<|by rw[mi];exact hb
theorem HI.qZ (α:Type) [GT α] (H:HI M0 w0 w l) (e:TypeId):HI M0 w0 w (own w0.heap.size e (.slice none 0 0) ([]:List α)::l):=
 H.put rfl ⟨[],World.ownsRow_nil w _ e _,rfl⟩
theorem HI.ahn (H:HI M0 w0 w l) (h:Z5 (MS M0 l) w xs v w'):HI M0 w0 w' (sf v xs::l):=(H.ext h.1).put rfl h.2
theorem af0.ahn {β:Type} [GT β] {y:β} {M:cg} (h:af0 w y v w') (hM:∀b,M b→b<w.heap.size):Z5 M w y v w':=⟨h.1,h.2.lift (Up.less fun b _ hb=>hM b hb)⟩
theorem HI.aaI (H:HI M0 w0 w l) (i:Nat) (hi:l[i]? =some (own w0.heap.size e v xs)) (amv:∀it∈l,∀b,it.jR=some b→True):RV M0 w v xs:=by
 have hO:=H.at_ i hi
 refine AB hO (fun b _ hb=>.inl hb)<|fun b hb hM=>?_
 have:=xm H hi b hb
 have:=H.m0 b hM
 omega
end
section
variable {P:Program} {n:Nat} {ops:Array Oper} {f:aR} {w:aJ} {K:aR→aJ→Prop} {x y c:Operand} {d:Nat} {ty T T2 e:TypeId} {ps:String} {af:Array Edge} {v v2 u:Value} {a b:Int} {M M0:cg} {w0:aJ} {l:List Item} {kk:IntKind} {bytes:Nat} {z:Value} {ad:Addr} {size:Nat} {agg:Bool}
theorem wz {s m:Nat} {cs:List Value} (h:w.ownsRow B e s v m cs):∃a c,v=.slice a m c:=by
 rcases h.2 with ⟨rfl,rfl⟩|⟨g,cap,cur,rfl,_⟩
 ·exact⟨none,0,J⟩
 ·exact⟨_,cap,J⟩
theorem ap {α:Type} [GT α] {xs ys:List α} {B:Nat} (H:HI M0 w0 w l) (i:Nat) (hi:l[i]? =some (own B e v xs)) (hB:B=w0.heap.size) (ox:bM n x=true) (oy:bM n y=true) (hx:ev f x=v) (hy:ev f y=u)
  (hs:Src (MS M0 l) w u ys) (hu:P.underlying T=some (.slice e)) (F:ez P e (GT.size α) agg bytes z) (hz:z.cells.size=GT.size α) (hl:(xs.length+ys.length)*bytes≤140737488355328) (od:xs.length+ys.length≤9223372036854775807)
  (h:∀a c w',HI M0 w0 w' (l.set i (own B e (.slice a (xs++ys).length c) (xs++ys)))→K (cq f d (.slice a (xs++ys).length c)) w'):
  SO P n ops ⟨some d,.call {callee:=.builtin .append,args:=#[x,y],argTypes:=#[T,T]},ty,ps,af,none⟩ f w K:=by
 subst hB
 obtain⟨cs,h1,h2⟩:=H.at_ i hi
 obtain⟨a0,c0,rfl,Gb⟩:=hs
 obtain⟨inf,tk,ux,vM,DH⟩:=F.info
 have eH:∀b,v.ownBlock=some b→w0.heap.size≤b∧b<w.heap.size:=xm H hi
 
 obtain⟨v',w',kU,z7,rQ,Cu⟩:∃v' w',(Builtin.append_ #[T,T] ty #[v,.slice a0 ys.length c0]).run P w=.ok v' w'∧
   (∃ds,w'.ownsRow w0.heap.size e (GT.size α) v' (xs.length+ys.length) (cs++ds)∧bC (MS M0 l) w ds ys)∧w.grownBy w' v.ownBlock∧(v'.ownBlock=v.ownBlock∨∀b,v'.ownBlock=some b→w.heap.size≤b∧b<w'.heap.size):=by
  rcases Gb with h0|⟨ad,rfl,ds,uy,DL⟩
  ·have hys:ys=[]:=aqM h0
   subst hys
   have hr:(Builtin.append_ #[T,T] ty #[v,.slice a0 0 c0]).run P w=.ok v w:=by
    rcases h1.2 with ⟨rfl,hn⟩|⟨g,cap,cur,rfl,hb,hg,hnc,_⟩
    ·cases a0<;>simp[Builtin.append_,gO hu,sizeOf,typeInfo,tk,Builtin.lenOf,Builtin.firstCells,loadCells,loadCellsFrom]
    ·have:xs.length≤cap:=hnc
     cases a0<;>simp[Builtin.append_,gO hu,sizeOf,typeInfo,tk,Builtin.lenOf,Builtin.firstCells,loadCells,loadCellsFrom,this,storeCells]
   exact⟨v,w,by simpa using hr,⟨[],by simpa using h1,J⟩,⟨J,J,J,apn _,fun _ _ _=>rfl⟩,.inl rfl⟩
  ·obtain⟨v',w',r1,r2,r3,_,r4⟩:=run_append_own_at (P:=P) w w0.heap.size T ty e inf z (GT.size α) bytes hu tk ux vM DH hz GT.pos v xs.length cs h1 ad ys.length c0 ds (bC.length uy) DL (bC.BB uy) (by simp only[maxLen];omega) hl H.below.size
   refine⟨v',w',r1,⟨ds,r2,uy⟩,r3,?_⟩
   rcases r4 with hb|hb
   ·exact .inl hb
   ·refine .inr fun b wU=>⟨?_,(r2.lt b wU).2⟩
    rw[hb] at wU
    cases wU
    exact apn _
 obtain⟨ds,ho,Uj⟩:=z7
 obtain⟨a',c',rfl⟩:=wz ho
 refine SO.value (v:=.slice a' (xs.length+ys.length) c') (w':=w') ?_ ?_
 ·simp[execOp,resolve,invoke,builtin,aP ox,aP oy,hx,hy,kU]
 ·have:=h a' c' w'
  rw[gj] at this
  refine this ?_
  have hblk:∀b,(own w0.heap.size e (.slice a' (xs.length+ys.length) c') (xs++ys)).jR=some b→b<w'.heap.size∧((own w0.heap.size e v xs).jR=some b∨w.heap.size≤b):=by
   intro b hb
   refine⟨(ho.lt b hb).2,?_⟩
   rcases Cu with Cu|Cu
   ·exact .inl (by rw[←hb];exact Cu.symm)
   ·exact .inr (Cu b hb).1
  refine H.wx i hi rQ.os rQ.tape rQ.output rQ.size (sW _ kU) (fun c hc gI=>rQ.block c hc<|fun e=>gI e.symm) hblk ?_
  refine⟨cs++ds,by rw[gj];exact ho,?_⟩
  refine bC.lift ?_<|bC.append h2 Uj
  refine⟨rQ.size,fun b hb hM=>⟨rQ.block b hb (fun e=>hM<|.inr ⟨_,dO hi,e.symm⟩),?_⟩⟩
  rintro(DR|⟨it,hit,mi⟩)
  ·exact hM<|.inl DR
  ·rcases aqb hit with hit|rfl
   ·exact hM<|.inr ⟨it,hit,mi⟩
   ·rcases (hblk b mi).2 with h'|h'
    ·exact hM<|.inr ⟨_,dO hi,h'⟩
    ·omega
theorem l7 {α:Type} [GT α] {xs ys:List α} {B:Nat} (H:HI M0 w0 w l) (i:Nat) (hi:l[i]? =some (own B e v xs)) (hB:B=w0.heap.size) (ox:bM n x=true) (oy:bM n y=true) (hx:ev f x=v) (hy:ev f y=u)
  (hs:Src (MS M0 l) w u ys) (hu:P.underlying T=some (.slice e)) (F:ez P e (GT.size α) agg bytes z) (hz:z.cells.size=GT.size α) (hl:(xs.length+ys.length)*bytes≤140737488355328) (qb:Nat.ble 1 bytes=true)
  (h:∀a c w',HI M0 w0 w' (l.set i (own B e (.slice a (xs++ys).length c) (xs++ys)))→K (cq f d (.slice a (xs++ys).length c)) w'):
  SO P n ops ⟨some d,.call {callee:=.builtin .append,args:=#[x,y],argTypes:=#[T,T]},ty,ps,af,none⟩ f w K:=
 ap H i hi hB ox oy hx hy hs hu F hz hl (Nat.le_trans (Nat.le_mul_of_pos_right _ (aqx qb)) (Nat.le_trans hl aw)) h
theorem aaZ {α:Type} [GT α] {M:cg} {xs:List α} {cells:Array Value} {B:Nat} {w w':aJ} (hx:Ext w w') (hB:B≤w.heap.size) (hh:w'.heap[w.heap.size]? =some (.cells cells e (0,0))) (hc:bC M w cells.toList xs) (hl:xs.length≤maxLen) {M':cg} (hM:∀b,b<w.heap.size→M' b→M b):
  (own B e (.slice (some ⟨w.heap.size,0,none⟩) xs.length xs.length) xs).holds M' w':=by
 refine⟨cells.toList,⟨bC.length hc,.inr ⟨w.heap.size,xs.length,cells,J,hB,hh,apn _,hl,?_,?_⟩⟩,bC.lift ⟨hx.size,fun b hb hn=>⟨hx.block b hb,fun h=>hn (hM b hb h)⟩⟩ hc⟩
 ·have:=bC.length hc;simpa using this
 ·rw[apu (by rw[bC.length hc];exact apn _)]
theorem af1 {it:Item} {b:Nat} (hn:it.jR=some b):∀c,c<b→MS M0 (it::l) c→MS M0 l c:=by
 rintro c hc (h|⟨j,hj,yt⟩)
 ·exact .inl h
 ·rcases apD.1 hj with rfl|hj
  ·rw[hn] at yt;cases yt;omega
  ·exact .inr ⟨j,hj,yt⟩
theorem eA:(([]:List (Nat×Operand)).map fun p=>(p.1,ev f p.2))=[]:=rfl
theorem ct {L:List (Nat×Operand)} {V:List (Nat×Value)} (h:ev f x=v) (t:(L.map fun p=>(p.1,ev f p.2))=V):(((i,x)::L).map fun p=>(p.1,ev f p.2))=(i,v)::V:=by
 rw[apP,t,h]
theorem bs {α:Type} [GT α] {xs:List α} {len:Nat} {L:List (Nat×Operand)} {V:List (Nat×Value)} {cells:Array Value} (H:HI M0 w0 w l) (ol:Ha n (L.map (·.2))=true) (hL:(L.map fun p=>(p.1,ev f p.2))=V)
  (hb:∀w,(Instr.buildSlice T len V.toArray).run P w=.ok (.slice (some ⟨w.heap.size,0,none⟩) len len) (w.alloc (.cells cells e)))
  (hc:bC (MS M0 l) w cells.toList xs) (hl:xs.length=len) (hm:len≤maxLen)
  (h:∀g w',Ext w w'→HI M0 w0 w' (own w0.heap.size e (.slice (some ⟨g,0,none⟩) len len) xs::l)→K (cq f d (.slice (some ⟨g,0,none⟩) len len)) w'):
  SO P n ops ⟨some d,.buildSlice T len L.toArray,ty,ps,af,none⟩ f w K:=by
 subst hl hL
 refine SO.value (v:=.slice (some ⟨w.heap.size,0,none⟩) xs.length xs.length) (w':=w.alloc (.cells cells e)) ?_<|h _ _ (Ext.alloc w _) ?_
 ·have he:(L.map fun p=>(p.1,(cp n f).eval p.2))=L.map fun p=>(p.1,ev f p.2):=by
   apply aqw
   intro p hp
   rw[aP (aps.1 ol p.2 (ap4.2 ⟨p,hp,rfl⟩))]
  simp only[execOp,aro]
  have:=hb w
  rw[←he] at this
  simp[this]
 ·refine H.new (Ext.alloc w _) w.heap.size J (apn _) (by simp) ?_
  exact aaZ (Ext.alloc w _) H.below.size (heap_alloc_new w _) hc hm<|af1 (b:=w.heap.size) J
theorem mk {α:Type} [GT α] {m:Nat} {zx:α} (H:HI M0 w0 w l) (ox:bM n x=true) (oy:bM n y=true) (hx:ev f x=.int .i64 (m:Int)) (hy:ev f y=.int .i64 (m:Int)) (hu:P.underlying T=some (.slice e)) (F:ez P e (GT.size α) (GT.agg α) bytes z)
  (hz:∀M w,GT.rep (α:=α) M w z.cells.toList zx) (hb:bytes*m≤281474976710656) (hm:m≤9223372036854775807)
  (h:∀g w',Ext w w'→HI M0 w0 w' (own w0.heap.size e (.slice (some ⟨g,0,none⟩) m m) (List.replicate m zx)::l)→K (cq f d (.slice (some ⟨g,0,none⟩) m m)) w'):
  SO P n ops ⟨some d,.makeSlice T x y,ty,ps,af,none⟩ f w K:=by
 obtain⟨inf,tk,ux,vM,DH⟩:=F.info
 obtain⟨w',kU,z7,rQ⟩:=run_make_full (P:=P) w w0.heap.size T e inf z (GT.size α) hu tk ux vM .i64 .i64 m (by rw[DH];exact hb) (by simp only[maxLen];omega) H.below.size
 refine SO.value (v:=.slice (some ⟨w.heap.size,0,none⟩) m m) (w':=w') (by simp[execOp,aP ox,aP oy,hx,hy,kU])<|h _ _ (Ext.grown rQ<|sW _ kU) ?_
 refine H.new (Ext.grown rQ<|sW _ kU) w.heap.size J (apn _) ((z7.lt _ J).2) ?_
 refine⟨_,by rw[oI];exact z7,?_⟩
 
 have YS:z.cells.toList.length=GT.size α:=GT.len<|hz (fun _=>False) w
 have key:∀k,(madeCells z.cells (k*GT.size α)).toList=(List.replicate k z.cells.toList).flatten:=by
  intro k
  apply aqY
  ·simp[madeCells,YS,arT]
  ·intro i h1 h2
   have tW:i<k*GT.size α:=by simpa [madeCells] using h1
   simp only[madeCells]
   have hs:z.cells.size=GT.size α:=by simpa using YS
   have Dw:0<GT.size α:=GT.pos
   have eH:i%GT.size α<z.cells.size:=by rw[hs];exact Nat.mod_lt _ Dw
   have e2:((List.replicate k z.cells.toList).flatten)[i]? =z.cells.toList[i%GT.size α]?:=by
    clear h1 h2 eH
    induction k generalizing i with
    |zero=>simp at tW
    |succ k ih=>
     rw[aqf,aqU,List.getElem?_append]
     split
     ·rename_i hl
      rw[YS] at hl
      rw[arC hl]
     ·rename_i hl
      rw[YS] at hl ⊢
      rw[ih (i-GT.size α) (by rw[aqd] at tW;omega)]
      rw[show i%GT.size α=(i-GT.size α)%GT.size α from by
       rw[Nat.mod_eq_sub_mod aq]]
   have e3:=eB h2
   rw[e2,eB (by simpa using eH)] at e3
   rw[←apm e3]
   simp only[asd,Array.getElem_map,Array.getElem_range,hs]
   rw[asw z.cells (i%GT.size α) eH]
 have hcs:∀k M w,bC (α:=α) M w ((List.replicate k z.cells.toList).flatten) (List.replicate k zx):=by
  intro k
  induction k with
  |zero=>intro M w;rfl
  |succ k ih=>intro M w;exact⟨_,_,by rw[aqf,aqU],hz M w,ih M w⟩
 rw[key]
 exact hcs _ _ _
theorem mk0 {α:Type} [GT α] {m:Nat} (H:HI M0 w0 w l) (ox:bM n x=true) (oy:bM n y=true) (hx:ev f x=.int .i64 0) (hy:ev f y=.int .i64 (m:Int)) (hu:P.underlying T=some (.slice e)) (F:ez P e (GT.size α) agg bytes z)
  (hb:bytes*m≤281474976710656) (hm:m≤9223372036854775807)
  (h:∀g w',Ext w w'→HI M0 w0 w' (own w0.heap.size e (.slice (some ⟨g,0,none⟩) 0 m) ([]:List α)::l)→K (cq f d (.slice (some ⟨g,0,none⟩) 0 m)) w'):
  SO P n ops ⟨some d,.makeSlice T x y,ty,ps,af,none⟩ f w K:=by
 obtain⟨inf,tk,ux,vM,DH⟩:=F.info
 obtain⟨w',kU,z7,rQ⟩:=run_make_own (P:=P) w w0.heap.size T e inf z (GT.size α) hu tk ux vM .i64 .i64 m (by rw[DH];exact hb) (by simp only[maxLen];omega) H.below.size
 refine SO.value (v:=.slice (some ⟨w.heap.size,0,none⟩) 0 m) (w':=w') (by simp[execOp,aP ox,aP oy,hx,hy,kU])<|h _ _ (Ext.grown rQ<|sW _ kU) ?_
 exact H.new (Ext.grown rQ<|sW _ kU) w.heap.size J (apn _) ((z7.lt _ J).2) ⟨[],z7,J⟩
theorem RV.cut {α:Type} [GT α] {M:cg} {w:aJ} {ao:Option Addr} {m cc:Nat} {xs:List α} (h:RV M w (.slice ao m cc) xs) (lo hi:Nat) (h1:lo≤hi) (h2:hi≤xs.length) (hc:cc=lo→xs.length=lo):
  RV M w (.slice (if cc=lo then ao else ao.map (·.add (lo*GT.size α))) (hi-lo) (cc-lo)) ((xs.drop lo).take (hi-lo)):=by
 obtain⟨a,n,c,he,h3,h4,h5,h6⟩:=RV.list.1 h
 simp only[Value.slice.injEq] at he
 obtain⟨rfl,rfl,rfl⟩:=he
 refine RV.list.2 ⟨_,_,_,J,by simp;omega,by omega,by omega,?_⟩
 by_cases h0:hi-lo=0
 ·exact .inl h0
 ·rcases h6 with h6|⟨ad,rfl,hs⟩
  ·omega
  ·have gI:cc≠lo:=fun e=>by have:=hc e;omega
   refine .inr ⟨ad.add (lo*GT.size α),by simp[gI],fun i x hx=>?_⟩
   rw[apS] at hx
   split at hx
   ·rw[ap6] at hx
    have:=hs (lo+i) x hx
    rw[add_add]
    rwa [←aqd]
   ·cases hx
theorem O_ {α:Type} [GT α] {xs:List α} {ao:Option Addr} {cc:Nat} {lo:Int} {rL:Operand} (hR:RV M w (.slice ao xs.length cc) xs) (ox:bM n x=true) (ol:bM n rL=true) (hx:ev f x=.slice ao xs.length cc)
  (hl:ev f rL=.int kk lo) (hb:0≤lo∧lo≤xs.length) (hu:P.underlying T=some (.slice e)) (F:ez P e (GT.size α) agg bytes z)
  (h:∀a c,RV M w (.slice a (xs.drop lo.toNat).length c) (xs.drop lo.toNat)→K (cq f d (.slice a (xs.drop lo.toNat).length c)) w):
  SO P n ops ⟨some d,.slice T x (some rL) none none,ty,ps,af,none⟩ f w K:=by
 have hle:xs.length≤cc:=by obtain⟨a',n',c',he,_,h4,_⟩:=RV.list.1 hR;simp only[Value.slice.injEq] at he;omega
 have hc:=hR.cut lo.toNat xs.length aq aq<|fun e=>by omega
 rw[apu (by simp)] at hc
 have hlen:(xs.drop lo.toNat).length=xs.length-lo.toNat:=by simp
 refine SO.value (v:=.slice (if cc=lo.toNat then ao else ao.map (·.add (lo.toNat*GT.size α))) (xs.length-lo.toNat) (cc-lo.toNat)) (w':=w) ?_<|by rw[hlen] at h;exact h _ _ hc
 have vQ:P.underlying T=some (.slice (P.elem T)):=by rw[hu];simp[Program.elem,hu]
 have uY:P.elem T=e:=by simp[Program.elem,hu]
 simp[execOp,aP ox,aP ol,hx,hl,Instr.sliceAt,gO hu]
 have:=run_slice_l (P:=P) (w:=w) T ao xs.length cc vQ kk lo hb.1 aq
 rw[uY,F.jA] at this
 simp[this,sliced]
theorem Jx {α:Type} [GT α] {xs:List α} {ao:Option Addr} {cc:Nat} {hi:Int} {px:Operand} (hR:RV M w (.slice ao xs.length cc) xs) (ox:bM n x=true) (oh:bM n px=true) (hx:ev f x=.slice ao xs.length cc)
  (hh:ev f px=.int kk hi) (hb:0≤hi∧hi≤xs.length) (hu:P.underlying T=some (.slice e)) (F:ez P e (GT.size α) agg bytes z)
  (h:∀a c,RV M w (.slice a (xs.take hi.toNat).length c) (xs.take hi.toNat)→K (cq f d (.slice a (xs.take hi.toNat).length c)) w):
  SO P n ops ⟨some d,.slice T x none (some px) none,ty,ps,af,none⟩ f w K:=by
 have hle:xs.length≤cc:=by obtain⟨a',n',c',he,_,h4,_⟩:=RV.list.1 hR;simp only[Value.slice.injEq] at he;omega
 have hc:=hR.cut 0 hi.toNat aq aq<|fun e=>by omega
 simp only[arY,arS] at hc
 have hlen:(xs.take hi.toNat).length=hi.toNat:=by simp;omega
 refine SO.value (v:=.slice (if cc=0 then ao else ao.map (·.add (0*GT.size α))) hi.toNat cc) (w':=w) ?_<|by rw[hlen] at h;exact h _ _ hc
 have vQ:P.underlying T=some (.slice (P.elem T)):=by rw[hu];simp[Program.elem,hu]
 have uY:P.elem T=e:=by simp[Program.elem,hu]
 simp[execOp,aP ox,aP oh,hx,hh,Instr.sliceAt,gO hu]
 have:=run_slice_h (P:=P) (w:=w) T ao xs.length cc vQ kk hi hb.1 aq
 rw[uY,F.jA] at this
 simp[this,sliced]
theorem bd {L:List (Nat×Operand)} {V:List (Nat×Value)} (ol:Ha n (L.map (·.2))=true) (hL:(L.map fun p=>(p.1,ev f p.2))=V) (hb:∀w,(Instr.build T V.toArray).run P w=.ok v w) (h:K (cq f d v) w):
  SO P n ops ⟨some d,.build T L.toArray,ty,ps,af,none⟩ f w K:=by
 subst hL
 refine SO.value (v:=v) (w':=w) ?_ h
 have he:(L.map fun p=>(p.1,(cp n f).eval p.2))=L.map fun p=>(p.1,ev f p.2):=by
  apply aqw
  intro p hp
  rw[aP (aps.1 ol p.2 (ap4.2 ⟨p,hp,rfl⟩))]
 simp only[execOp,aro]
 have:=hb w
 rw[←he] at this
 simp[this]
theorem fd (ox:bM n x=true) (hx:ev f x=u) (hr:∀w,(Instr.field T u i).run P w=.ok v w) (h:K (cq f d v) w):SO P n ops ⟨some d,.field T x i,ty,ps,af,none⟩ f w K:=
 SO.value (v:=v) (by simp[execOp,aP ox,hx,hr w]) h
theorem ix (ox:bM n x=true) (oy:bM n y=true) (hx:ev f x=u) (hy:ev f y=v2) (hr:∀w,(Instr.index T u v2).run P w=.ok v w) (h:K (cq f d v) w):SO P n ops ⟨some d,.index T x y,ty,ps,af,none⟩ f w K:=
 SO.value (v:=v) (by simp[execOp,aP ox,aP oy,hx,hy,hr w]) h
theorem YR {i:Int} {m:Nat} (ox:bM n x=true) (oy:bM n y=true) (hx:ev f x=.pointer (some ad)) (hy:ev f y=.int kk i) (hi:0≤i∧i<(m:Int)) (hu:P.underlying T=some (.array m e)) (F:ez P e size agg bytes z)
  (h:K (cq f d (.pointer (some (ad.add (i.toNat*size))))) w):SO P n ops ⟨some d,.indexAddr T x y,ty,ps,af,none⟩ f w K:=
 SO.value (v:=.pointer (some (ad.add (i.toNat*size)))) (by
  simp[execOp,aP ox,aP oy,hx,hy,Instr.indexAt,asIntOf,gO hu,Instr.sureAddr,hi.1,hi.2,F.jA]) h
theorem ajt {i m:Nat} (ox:bM n x=true) (oy:bM n y=true) (hx:ev f x=.pointer (some ad)) (hy:ev f y=.int kk ((i:Nat):Int)) (hi:i<m) (hu:P.underlying T=some (.array m e)) (F:ez P e size agg bytes z)
  (h:K (cq f d (.pointer (some (ad.add (i*size))))) w):SO P n ops ⟨some d,.indexAddr T x y,ty,ps,af,none⟩ f w K:=
 YR ox oy hx hy aq hu F (by rw[dS];exact h)
theorem ixS {s:aY} {i:Int} (ox:bM n x=true) (oy:bM n y=true) (hx:ev f x=.string s) (hy:ev f y=.int kk i) (hi:0≤i∧i<s.size) (hu:P.underlying T=some .string)
  (h:∀c,s[i.toNat]? =some c→K (cq f d (.int .u8 (c.toNat:Int))) w):SO P n ops ⟨some d,.index T x y,ty,ps,af,none⟩ f w K:=by
 have eH:i.toNat<s.size:=by omega
 have hg:s[i.toNat]? =some s[i.toNat]:=getElem?_pos s i.toNat eH
 exact SO.value (v:=.int .u8 ((s[i.toNat]).toNat:Int)) (by
  simp[execOp,aP ox,aP oy,hx,hy,Instr.index,asIntOf,gO hu,hi.1,hg]) (h _ hg)
theorem ZI {s t:aY} (ox:bM n x=true) (oy:bM n y=true) (hx:ev f x=.string s) (hy:ev f y=.string t) (h:K (cq f d (.bool (decide (s=t)))) w):SO P n ops ⟨some d,.binOp .eql T x y T2,ty,ps,af,none⟩ f w K:=
 SO.value (v:=.bool (decide (s=t))) (by
  have e:(s.toList==t.toList)=decide (s=t):=by
   rw[←beq_toListBytes,apF]
   rcases s with ⟨a⟩
   rcases t with ⟨b⟩
   show (a==b)=true↔_
   simp
  have hg:(eqGuard .eql T x y (.string s) (.string t)).run P w=.ok () w:=by unfold eqGuard;rfl
  simp only[execOp,aP ox,aP oy,hx,hy,Sem.run_bind,hg,Result.andThen_ok]
  simp[binOp,Op.stringOp,e]) h
theorem neS {s t:aY} (ox:bM n x=true) (oy:bM n y=true) (hx:ev f x=.string s) (hy:ev f y=.string t) (h:K (cq f d (.bool (!decide (s=t)))) w):SO P n ops ⟨some d,.binOp .neq T x y T2,ty,ps,af,none⟩ f w K:=
 SO.value (v:=.bool (!decide (s=t))) (by
  have e:(s.toList==t.toList)=decide (s=t):=by
   rw[←beq_toListBytes,apF]
   rcases s with ⟨a⟩
   rcases t with ⟨b⟩
   show (a==b)=true↔_
   simp
  have hg:(eqGuard .neq T x y (.string s) (.string t)).run P w=.ok () w:=by unfold eqGuard;rfl
  simp only[execOp,aP ox,aP oy,hx,hy,Sem.run_bind,hg,Result.andThen_ok]
  simp[binOp,Op.stringOp,e]) h
theorem eqB {p q:Bool} (ox:bM n x=true) (oy:bM n y=true) (hx:ev f x=.bool p) (hy:ev f y=.bool q) (hu:P.underlying T=some .bool) (h:K (cq f d (.bool (p==q))) w):SO P n ops ⟨some d,.binOp .eql T x y T2,ty,ps,af,none⟩ f w K:=
 SO.value (v:=.bool (p==q)) (by
  have hg:(eqGuard .eql T x y (.bool p) (.bool q)).run P w=.ok () w:=by unfold eqGuard;rfl
  have hr:(binOp .eql T (.bool p) (.bool q)).run P w=.ok (.bool (p==q)) w:=by
   show ((Op.equal T (.bool p) (.bool q) >>=fun b=>pure (Value.bool b)):Sem Value).run P w=_
   have h:(Op.equal T (.bool p) (.bool q)).run P w=.ok (p==q) w:=by
    rw[show Op.equal T (.bool p) (.bool q)=Op.equalIn (9999+1) T (.bool p) (.bool q) from rfl]
    unfold Op.equalIn
    rw[Sem.run_bind,gO hu];rfl
   rw[Sem.run_bind,h];rfl
  simp only[execOp,aP ox,aP oy,hx,hy,Sem.run_bind,hg,hr,Result.andThen_ok,Sem.run_pure]) h
theorem gB {op:BinOp} (ox:bM n x=true) (oy:bM n y=true) (hx:ev f x=v) (hy:ev f y=v2) (hg:(eqGuard op T x y v v2).run P w=.ok () w) (hr:(binOp op T v v2).run P w=.ok u w) (h:K (cq f d u) w):
  SO P n ops ⟨some d,.binOp op T x y T2,ty,ps,af,none⟩ f w K:=
 SO.value (v:=u) (by simp only[execOp,aP ox,aP oy,hx,hy,Sem.run_bind,hg,hr,Result.andThen_ok,Sem.run_pure]) h
end
end Go.Ew
namespace Go.Ew
open Go.RowKit
variable {v:Value}
def PW (P:Program) (n:Nat) (ops:Array Oper) (w0:aJ) (K:aR→Prop):dz→aR→Prop
 |[],f=>K f
 |o::r,f=>∃v,(∀w,Ext w0 w→SO P n ops o f w (fun f' w'=>f'=de f o.dst v∧Ext w w'))∧PW P n ops w0 K r (de f o.dst v)
def G' (l:dz):Nat→dz→Bool
 |_,[]=>true
 |i,o::r=>(o.looksAt l.toArray).all (fun t=>!(jt l.length l).contains t||(List.range i).any (fun j=>kY o j&&Nat.beq (jk l j) t&&((l[j]?).bind (·.dst)).isSome))&&
   (match o.op with| .select _ _=>false|_=>true)&&G' l (i+1) r
def Re (n:Nat) (l:dz):Bool:=Pu n l.length l&&G' l 0 l
section
variable {P:Program} {n:Nat} {ops:Array Oper} {w0:aJ} {K:aR→Prop} {o:Oper} {f f2:aR} {w:aJ} {v:Value}
theorem Ea {x:Operand} (h:∀t,x=.tmp t→f2 t=f t):(cp n f2).eval x=(cp n f).eval x:=by
 cases x with
 |tmp t=>
  by_cases ht:t<n
  ·simp[Act.eval,cp,ht,h t rfl]
  ·simp[Act.eval,cp,ht]
 |_=>rfl
theorem yO (hg:∀j b,o.guard=some (j,b)→∀t,(ops[j]?).bind (·.dst)=some t→f2 t=f t):Region.wanted o (yielded ops (cp n f2).tmps)=Region.wanted o (yielded ops (cp n f).tmps):=by
 unfold Region.wanted
 cases hgd:o.guard with
 |none=>rfl
 |some gw=>
  obtain⟨j,b⟩:=gw
  simp only[]
  have:yielded ops (cp n f2).tmps j=yielded ops (cp n f).tmps j:=by
   unfold yielded
   cases ht:(ops[j]?).bind (·.dst) with
   |none=>rfl
   |some t=>
    have he:=hg j b hgd t ht
    by_cases hn:t<n
    ·simp[cp,hn,he]
    ·simp[cp,hn]
  rw[this]
theorem GS {d:Nat} {u:Value} (hd:d<n) (h:cp n (cq f d u)=cp n (cq f d v)):u=v:=by
 have h1:(cp n (cq f d u)).tmps[d]? =(cp n (cq f d v)).tmps[d]?:=by rw[h]
 simpa [cp,hd,jh] using h1
theorem za {l:dz}:∀(r:dz) (i:Nat),G' l i r=true→∀j o,r[j]? =some o→(∀t∈o.looksAt l.toArray,(jt l.length l).contains t=false∨∃q,q<i+j∧kY o q=true∧jk l q=t∧((l[q]?).bind (·.dst)).isSome=true)∧∀cs b,o.op≠.select cs b
 |[],_,_,j,o,h=>by simp at h
 |x::r,i,h,j,o,hj=>by
  simp only[G',eP] at h
  cases j with
  |zero=>
   simp only[apC,apy] at hj
   subst hj
   refine⟨fun t ht=>?_,fun cs b e=>?_⟩
   ·have:=aps.1 h.1.1 t ht
    rcases aqg.1 this with h1|h1
    ·exact .inl (by simpa using h1)
    ·obtain⟨q,hq,nK⟩:=apO.1 h1
     simp only[eP,Nat.beq_eq] at nK
     exact .inr ⟨q,by have:=apq.1 hq;omega,nK.1.1,by simpa using nK.1.2,nK.2⟩
   ·have:=h.1.2
    rw[e] at this;cases this
  |succ j=>
   simp only[apI] at hj
   have:=za r (i+1) h.2 j o hj
   refine⟨fun t ht=>?_,this.2⟩
   rcases this.1 t ht with h1|⟨q,h1,h2⟩
   ·exact .inl h1
   ·exact .inr ⟨q,by omega,h2⟩
end
theorem gu {P:Program} {n:Nat} {ops:Array Oper} {f:aR} {w:aJ} {K:aR→aJ→Prop} {d:Option Nat} {op:Op} {ty:TypeId} {ps:String} {af:Array Edge} {j t:Nat} {want:Bool}
  (hj:yE ops j=some t) (ht:Nat.blt t n=true) (hv:f t=undef)
  (h:K (de f d undef) w):SO P n ops ⟨d,op,ty,ps,af,some (j,want)⟩ f w K:=by
 intro Q rest hk
 have hy:yielded ops (cp n f).tmps j=none:=by
  simp only[art] at ht
  unfold yE at hj
  simp[yielded,hj,cp,ht,hv,undef]
 unfold wpList
 rw[apr (by simp[Region.wanted,hy])]
 rw[qX]
 exact hk _ _ h
section
variable {P:Program} {n:Nat} {ops:Array Oper} {w0:aJ} {K:aR→Prop} {f:aR} {rest:dz}
theorem e1 {f:aR} {w:aJ}:f=f∧Ext w w:=⟨rfl,Ext.refl w⟩
theorem e2 {f:aR} {d:Nat} {x:Value} {w w':aJ} (h:v=x∧Ext w w'):de f (some d) v=de f (some d) x∧Ext w w':=⟨by rw[h.1],h.2⟩
theorem kq {o:Oper} (h:∀w,Ext w0 w→SO P n ops o f w (fun f' w'=>f'=de f o.dst v∧Ext w w')) (r:PW P n ops w0 K rest (de f o.dst v)):PW P n ops w0 K (o::rest) f:=⟨v,h,r⟩
theorem zq (h:K f):PW P n ops w0 K [] f:=h
variable {d:Option Nat} {op:Op} {ty:TypeId} {ps:String} {af:Array Edge} {j t:Nat} {want b:Bool}
theorem qy (hj:yE ops j=some t) (ht:Nat.blt t n=true) (hv:f t=.bool b) (hb:b=want)
  (h:PW P n ops w0 K (⟨d,op,ty,ps,af,none⟩::rest) f):PW P n ops w0 K (⟨d,op,ty,ps,af,some (j,want)⟩::rest) f:=by
 obtain⟨v,h1,h2⟩:=h
 exact⟨v,fun w hw=>gy hj ht hv hb (h1 w hw),h2⟩
theorem qn (hj:yE ops j=some t) (ht:Nat.blt t n=true) (hv:f t=.bool b) (hb:b=!want)
  (h:PW P n ops w0 K rest (de f d undef)):PW P n ops w0 K (⟨d,op,ty,ps,af,some (j,want)⟩::rest) f:=
 ⟨undef,fun w hw=>gn hj ht hv hb ⟨rfl,Ext.refl w⟩,h⟩
theorem qu (hj:yE ops j=some t) (ht:Nat.blt t n=true) (hv:f t=undef)
  (h:PW P n ops w0 K rest (de f d undef)):PW P n ops w0 K (⟨d,op,ty,ps,af,some (j,want)⟩::rest) f:=
 ⟨undef,fun w hw=>gu hj ht hv ⟨rfl,Ext.refl w⟩,h⟩
end
section
variable {P:Program} {n:Nat} {ops:Array Oper} {w0:aJ} {K:aR→Prop} {f:aR} {rest:dz} {d:Nat} {ty:TypeId} {ps:String} {af:Array Edge} {M:cg} {x y:Operand} {T e:TypeId} {kk:IntKind} {agg:Bool} {bytes:Nat} {z v:Value} {ad:Addr}
theorem qz {α:Type} [GT α] {xs:List α} {i:Int} (hR:RV M w0 v xs) (ox:bM n x=true) (oy:bM n y=true) (hx:ev f x=v) (hy:ev f y=.int kk i) (hi:0≤i∧i<xs.length) (hu:P.underlying T=some (.slice e)) (F:ez P e (GT.size α) agg bytes z)
  (h:∀ad xv,xs[i.toNat]? =some xv→At M w0 ad xv→PW P n ops w0 K rest (cq f d (.pointer (some ad)))):PW P n ops w0 K (⟨some d,.indexAddr T x y,ty,ps,af,none⟩::rest) f:=by
 obtain⟨a,m,c,rfl,h1,h2,h3,h4⟩:=RV.list.1 hR
 rcases h4 with h4|⟨ad,rfl,hs⟩
 ·omega
 ·have eH:i.toNat<xs.length:=by omega
  refine⟨.pointer (some<|ad.add<|i.toNat*GT.size α),fun w hw=>SO.value (v:=.pointer (some<|ad.add<|i.toNat*GT.size α)) (w':=w) ?_ ⟨J,Ext.refl w⟩,h _ xs[i.toNat] (eB eH) (hs _ _<|eB eH)⟩
  have hb:0≤i∧i<(m:Int):=by omega
  simp[execOp,aP ox,aP oy,hx,hy,Instr.indexAt,asIntOf,gO hu,hb,F.jA]
theorem tL {α:Type} [GT α] {xs:List α} {B:Nat} {i:Int} (hO:(own B e v xs).holds M w0) (ox:bM n x=true) (oy:bM n y=true) (hx:ev f x=v) (hy:ev f y=.int kk i) (hi:0≤i∧i<xs.length) (hu:P.underlying T=some (.slice e)) (F:ez P e (GT.size α) agg bytes z)
  (h:∀ad xv,xs[i.toNat]? =some xv→ik M w0 ad xv→PW P n ops w0 K rest (cq f d (.pointer (some ad)))):PW P n ops w0 K (⟨some d,.indexAddr T x y,ty,ps,af,none⟩::rest) f:=by
 obtain⟨cs,h1,h2⟩:=hO
 rcases h1.2 with ⟨_,h3⟩|⟨g,cap,cur,rfl,h3,h4,h5,h6,h7,h8⟩
 ·omega
 ·have eH:i.toNat<xs.length:=by omega
  have lE:(⟨g,0,none⟩:Addr).add (i.toNat*GT.size α)=⟨g,i.toNat*GT.size α,none⟩:=by unfold Addr.add;split<;>simp_all
  refine⟨.pointer (some ⟨g,i.toNat*GT.size α,none⟩),fun w hw=>SO.value (v:=.pointer (some ⟨g,i.toNat*GT.size α,none⟩)) (w':=w) ?_ ⟨J,Ext.refl w⟩,h _ xs[i.toNat] (eB eH) ?_⟩
  ·have hb:0≤i∧i<(xs.length:Int):=by omega
   simp[execOp,aP ox,aP oy,hx,hy,Instr.indexAt,asIntOf,gO hu,hb,F.jA,lE]
  ·obtain⟨c,zt,AW⟩:=bC.at_ h2 i.toNat xs[i.toNat] (eB eH)
   refine⟨c,zt,fun j u hu=>?_⟩
   have ve:=h1.cells (g:=g) J (i.toNat*GT.size α+j) u<|AW j u hu
   rwa [←add_add,lE] at ve
theorem yX {α:Type} [GT α] {xv:α} (hA:ik M w0 ad xv) (F:ez P T (GT.size α) (GT.agg α) bytes z) (ox:bM n x=true) (hx:ev f x=.pointer (some ad))
  (h:∀v,RV M w0 v xv→PW P n ops w0 K rest (cq f d v)):PW P n ops w0 K (⟨some d,.load T x,ty,ps,af,none⟩::rest) f:=by
 obtain⟨cs,h1,h2⟩:=hA
 refine⟨ta (GT.agg α) cs,fun w hw=>SO.value (v:=ta (GT.agg α) cs) (w':=w) ?_ ⟨J,Ext.refl w⟩,h _ ⟨cs,h1,J⟩⟩
 have h3:∀j v,cs[j]? =some v→w.cell? (ad.add j)=some v:=fun j v hv=>(World.cell?_of_block<|hw.block _<|qi<|h2 j v hv).trans (h2 j v hv)
 simp[execOp,aP ox,hx,Instr.loadAt,Instr.sureAddr,r9 F GT.single (GT.len h1) h3]
theorem mC {i:Int} (hA:ik M w0 ad i) (F:ez P T 1 false bytes z) (ox:bM n x=true) (hx:ev f x=.pointer (some ad)) (h:aK i→PW P n ops w0 K rest (cq f d (.int .i64 i))):
  PW P n ops w0 K (⟨some d,.load T x,ty,ps,af,none⟩::rest) f:=yX hA F ox hx fun v hv=>by obtain⟨rfl,hi⟩:=RV.int.1 hv;exact h hi
theorem ags {u:bw} (hA:ik M w0 ad u) (F:ez P T 1 false bytes z) (ox:bM n x=true) (hx:ev f x=.pointer (some ad)) (h:PW P n ops w0 K rest (cq f d (aj u))):
  PW P n ops w0 K (⟨some d,.load T x,ty,ps,af,none⟩::rest) f:=yX hA F ox hx fun v hv=>by rw[RV.bv.1 hv];exact h
theorem YB {u:Bool} (hA:ik M w0 ad u) (F:ez P T 1 false bytes z) (ox:bM n x=true) (hx:ev f x=.pointer (some ad)) (h:PW P n ops w0 K rest (cq f d (.bool u))):
  PW P n ops w0 K (⟨some d,.load T x,ty,ps,af,none⟩::rest) f:=yX hA F ox hx fun v hv=>by rw[RV.bool.1 hv];exact h
theorem G5 {α:Type} [GT α] {xs:List α} (hA:ik M w0 ad xs) (F:ez P T 1 false bytes z) (ox:bM n x=true) (hx:ev f x=.pointer (some ad))
  (h:∀a c,RV M w0 (.slice a xs.length c) xs→PW P n ops w0 K rest (cq f d (.slice a xs.length c))):PW P n ops w0 K (⟨some d,.load T x,ty,ps,af,none⟩::rest) f:=
 yX hA F ox hx fun v hv=>by obtain⟨a,c,rfl,hr⟩:=(RV.list.1 hv).explicit;exact h a c hr
end
end Go.Ew
namespace Go.Ew
open Go.RowKit
abbrev UT:=List (Nat×(Value→aJ→Prop))
def MU (aj:UT) (t:Nat):Bool:=aj.any (fun p=>Nat.beq p.1 t)
section
variable {P:Program} {n:Nat} {ops:Array Oper} {w0:aJ} {o:Oper} {f f2:aR} {w:aJ} {v:Value} {ai:Value→aJ→Prop}
theorem SO.sy (h:SO P n ops o f w (fun f' w'=>∃v,f'=de f o.dst v∧Ext w w'∧ai v w')) (hs:∀cs b,o.op≠.select cs b) (hu:∀t∈o.looksAt ops,f2 t=f t) (hd:∀d,o.dst=some d→d<n):
  SO P n ops o f2 w (fun f' w'=>∃v,f'=de f2 o.dst v∧Ext w w'∧ai v w'):=by
 intro Q rest hk
 have h1:=h (fun e a w'=>match e with| .normal=>∃v,a=cp n (de f o.dst v)∧Ext w w'∧ai v w'|_=>False) []<|fun f' w' hK=>wpList_nil<|by obtain⟨v,h1,h2⟩:=hK;exact⟨v,by rw[h1],h2⟩
 have he:execOp (cp n f2).eval o=execOp (cp n f).eval o:=execOp_congr o hs fun x hx=>Ea fun t ht=>hu t (by
  subst ht
  exact aqG _ (apR.2 ⟨.tmp t,by simpa using hx,rfl⟩))
 have hw:Region.wanted o (yielded ops (cp n f2).tmps)=Region.wanted o (yielded ops (cp n f).tmps):=yO fun j b hg t ht=>hu t (by
  unfold Oper.looksAt
  rw[hg]
  refine aqA _ ?_
  simp[ht])
 have key:∀u w',(∃v,(cp n f).put o.dst u=cp n (de f o.dst v)∧Ext w w'∧ai v w')→wpList P ops Q rest ((cp n f2).put o.dst u) w':=by
  rintro u w' ⟨v,hq,h2,h3⟩
  rw[qX] at hq ⊢
  cases tZ:o.dst with
  |none=>exact hk _ _ ⟨v,by rw[tZ];rfl,h2,h3⟩
  |some d=>
   rw[tZ] at hq
   have T3:u=v:=GS (hd d tZ) hq
   subst T3
   exact hk _ _ ⟨u,by rw[tZ],h2,h3⟩
 unfold wpList at h1 ⊢
 rw[hw]
 split at h1
 ·rename_i Dt
  rw[apo Dt]
  refine .inl ?_
  rcases h1 with h2|⟨_,a0,w1,hq⟩
  ·unfold Oper.wp at h2 ⊢
   rw[he]
   generalize (execOp (cp n f).eval o).run P w=r at *
   cases r with
   |ok x w'=>
    cases x with
    |enter g args=>
     simp only[Oper.upon] at h2 ⊢
     refine Calls.mono h2 ?_
     intro e mK zp
     cases e with
     |returned u=>exact key u mK zp
     |panicked c=>exact zp.elim
     |outgrown=>obtain⟨a0,w1,hq⟩:=zp;exact hq.elim
    |row r args=>
     simp only[Oper.upon] at h2 ⊢
     exact Rows.mono h2 fun u mK zp=>key u mK zp
    |defer d=>
     simp only[Oper.upon] at h2 ⊢
     obtain⟨v,h3, -⟩:=(show ∃v,_∧_ from h2)
     exfalso
     have h4:=apj (fun a=>a.defers.length) h3
     cases tZ:o.dst<;>rw[tZ] at h4<;>simp[Act.put,cp] at h4
    |value u=>
     simp only[Oper.upon] at h2 ⊢
     exact key u w' h2
    |skip=>
     simp only[Oper.upon] at h2 ⊢
     exact key undef w' h2
    |_=>exact(show False from h2).elim
   |halt x w'=>cases x<;>simp only[Oper.upon] at h2 ⊢<;>exact h2.elim
  ·exact hq.elim
 ·rename_i Dt
  rw[apr Dt]
  exact key undef w h1
def Agr (L:List Nat) (aj:UT) (f g:aR) (w:aJ):Prop:=
 ∀t∈L,(MU aj t=false→g t=f t)∧(∀(j:Nat) (Φ:Value→aJ→Prop),aj[j]? =some (t,Φ)→Φ (g t) w)
def GO (P:Program) (n:Nat) (ops:Array Oper) (w0:aJ) (o:Oper) (aj:UT) (f:aR) (ai:Value→aJ→Prop):Prop:=
 ∀w g,Ext w0 w→Agr (o.looksAt ops) aj f g w→SO P n ops o g w (fun f' w'=>∃v,f'=de g o.dst v∧Ext w w'∧ai v w')
def PX (P:Program) (n:Nat) (ops:Array Oper) (w0:aJ) (K:UT→aR→Prop):dz→UT→aR→Prop
 |[],aj,f=>K aj f
 |o::r,aj,f=>(∃X,GO P n ops w0 o aj f (eV X)∧PX P n ops w0 K r aj (de f o.dst X))∨
   (∃d Φ,o.dst=some d∧(∀v w w',Ext w w'→Φ v w→Φ v w')∧GO P n ops w0 o aj f Φ∧PX P n ops w0 K r ((d,Φ)::aj) f)
abbrev EN:=Option Value×(Value→aJ→Prop)
def D1:List (Oper×EN)→aR→aR
 |[],f=>f
 |(o,(some X,_))::r,f=>D1 r (de f o.dst X)
 |(_,(none,_))::r,f=>D1 r f
def yI:List (Oper×EN)→UT→UT
 |[],aj=>aj
 |(_,(some _,_))::r,aj=>yI r aj
 |(o,(none,Φ))::r,aj=>yI r ((o.dst.getD 0,Φ)::aj)
theorem PX.values {K:UT→aR→Prop}:∀(l:dz) (aj:UT) (f:aR),PX P n ops w0 K l aj f→∃es:List EN,es.length=l.length∧(∀e∈es,∀X,e.1=some X→e.2=eV X)∧(∀e∈es,∀v w w',Ext w w'→e.2 v w→e.2 v w')∧
  (∀i o e,l[i]? =some o→es[i]? =some e→GO P n ops w0 o (yI (List.zip (l.take i) es) aj) (D1 (List.zip (l.take i) es) f) e.2)∧K (yI (List.zip l es) aj) (D1 (List.zip l es) f)
 |[],aj,f,h=>⟨[],rfl,by simp,by simp,fun i o e hi=>by simp at hi,h⟩
 |o::r,aj,f,.inl ⟨X,h1,h2⟩=>by
  obtain⟨es,hl,hc,hm,hs,hK⟩:=PX.values r aj _ h2
  refine⟨(some X,eV X)::es,by simp[hl],?_,?_,fun i o' e hi he=>?_,hK⟩
  ·intro e he Y hY
   rcases apD.1 he with rfl|he
   ·cases hY;rfl
   ·exact hc e he Y hY
  ·intro e he
   rcases apD.1 he with rfl|he
   ·exact fun _ _ _ _ h=>h
   ·exact hm e he
  ·cases i with
   |zero=>
    simp only[apC,apy] at hi he
    subst hi;subst he
    exact h1
   |succ i=>
    simp only[apI] at hi he
    exact hs i o' e hi he
 |o::r,aj,f,.inr ⟨d,Φ,hd,T',h1,h2⟩=>by
  obtain⟨es,hl,hc,hm,hs,hK⟩:=PX.values r _ f h2
  have e0:∀l',yI ((o,((none,Φ):EN))::l') aj=yI l' ((d,Φ)::aj):=fun l'=>by show yI l' ((o.dst.getD 0,Φ)::aj)=_;rw[hd];rfl
  refine⟨(none,Φ)::es,by simp[hl],?_,?_,fun i o' e hi he=>?_,?_⟩
  ·intro e he Y hY
   rcases apD.1 he with rfl|he
   ·cases hY
   ·exact hc e he Y hY
  ·intro e he
   rcases apD.1 he with rfl|he
   ·exact T'
   ·exact hm e he
  ·cases i with
   |zero=>
    simp only[apC,apy] at hi he
    subst hi;subst he
    exact h1
   |succ i=>
    simp only[apI] at hi he
    have:=hs i o' e hi he
    show GO P n ops w0 o' (yI ((o,((none,Φ):EN))::List.zip (r.take i) es) aj) (D1 (List.zip (r.take i) es) f) e.2
    rw[e0];exact this
  ·show K (yI ((o,((none,Φ):EN))::List.zip r es) aj) (D1 (List.zip r es) f)
   rw[e0];exact hK
theorem EH:∀(l:dz) (es:List EN) (f:aR) (t:Nat),(∀o∈l,o.dst≠some t)→D1 (List.zip l es) f t=f t
 |[],es,f,t,h=>rfl
 |o::l,[],f,t,h=>rfl
 |o::l,(some X,Φ)::es,f,t,h=>by
  show D1 (List.zip l es) (de f o.dst X) t=f t
  rw[EH l es _ t (fun o' ho=>h o' (apT _ ho))]
  have:=h o ap'
  cases hd:o.dst with
  |none=>rfl
  |some d=>exact jN f X (fun e=>this (by rw[hd,e]))
 |o::l,(none,Φ)::es,f,t,h=>EH l es f t (fun o' ho=>h o' (apT _ ho))
theorem Ny:∀(l:dz) (es:List EN) (f:aR) (i:Nat) (o:Oper) (d:Nat) (X:Value) (Φ:Value→aJ→Prop),(l.filterMap (·.dst)).Nodup→l[i]? =some o→es[i]? =some (some X,Φ)→o.dst=some d→D1 (List.zip l es) f d=X
 |[],es,f,i,o,d,X,Φ,hn,hi,he,hd=>by simp at hi
 |x::l,[],f,i,o,d,X,Φ,hn,hi,he,hd=>by simp at he
 |x::l,e::es,f,i,o,d,X,Φ,hn,hi,he,hd=>by
  cases i with
  |zero=>
   simp only[apC,apy] at hi he
   subst hi;subst he
   show D1 (List.zip l es) (de f x.dst X) d=X
   rw[EH l es _ d (fun o' ho e=>by
    rw[aqa,hd] at hn
    exact(aqt.1 hn).1 (apR.2 ⟨o',ho,e⟩)),hd]
   exact jh f d X
  |succ i=>
   simp only[apI] at hi he
   have M6:(l.filterMap (·.dst)).Nodup:=by
    rw[aqa] at hn
    split at hn
    ·exact hn
    ·exact(aqt.1 hn).2
   obtain⟨a,b⟩:=e
   cases a with
   |none=>exact Ny l es f i o d X Φ M6 hi he hd
   |some Y=>exact Ny l es _ i o d X Φ M6 hi he hd
theorem I7:∀(l:dz) (es:List EN) (aj:UT) (p:Nat×(Value→aJ→Prop)),p∈yI (List.zip l es) aj→p∈aj∨∃(i:Nat) (o:Oper),l[i]? =some o∧es[i]? =some (none,p.2)∧o.dst.getD 0=p.1
 |[],es,aj,p,h=>.inl h
 |o::l,[],aj,p,h=>.inl h
 |o::l,(some X,Φ)::es,aj,p,h=>by
  rcases I7 l es aj p h with h1|⟨i,o',h1,h2,h3⟩
  ·exact .inl h1
  ·exact .inr ⟨i+1,o',h1,h2,h3⟩
 |o::l,(none,Φ)::es,aj,p,h=>by
  rcases I7 l es _ p h with h1|⟨i,o',h1,h2,h3⟩
  ·rcases apD.1 h1 with rfl|h1
   ·exact .inr ⟨0,o,J,J,J⟩
   ·exact .inl h1
  ·exact .inr ⟨i+1,o',h1,h2,h3⟩
theorem abp:∀(l:dz) (es:List EN) (aj:UT) (i:Nat) (o:Oper) (Φ:Value→aJ→Prop),l[i]? =some o→es[i]? =some (none,Φ)→(o.dst.getD 0,Φ)∈yI (List.zip l es) aj∧MU (yI (List.zip l es) aj) (o.dst.getD 0)=true:=by
 have tj:∀(aj:UT) (t:Nat) (Φ:Value→aJ→Prop),(t,Φ)∈aj→MU aj t=true:=fun aj t Φ h=>apO.2 ⟨_,h,by simp⟩
 have MP:∀(l:dz) (es:List EN) (aj:UT) (p:Nat×(Value→aJ→Prop)),p∈aj→p∈yI (List.zip l es) aj:=by
  intro l
  induction l with
  |nil=>intro es aj p h;exact h
  |cons o l ih=>
   intro es aj p h
   cases es with
   |nil=>exact h
   |cons e es=>
    obtain⟨a,Φ⟩:=e
    cases a with
    |none=>exact ih es _ p (apT _ h)
    |some X=>exact ih es aj p h
 intro l
 induction l with
 |nil=>intro es aj i o Φ hi;simp at hi
 |cons x l ih=>
  intro es aj i o Φ hi he
  cases es with
  |nil=>simp at he
  |cons e es=>
   cases i with
   |zero=>
    simp only[apC,apy] at hi he
    subst hi;subst he
    have:=MP l es ((x.dst.getD 0,Φ)::aj) (x.dst.getD 0,Φ) ap'
    exact⟨this,tj _ _ _ this⟩
   |succ i=>
    simp only[apI] at hi he
    obtain⟨a,Ψ⟩:=e
    cases a with
    |none=>exact ih es _ i o Φ hi he
    |some X=>exact ih es aj i o Φ hi he
end
def KX (n:Nat) (Q:Exit→Act→aJ→Prop) (w0:aJ) (aj:UT) (f:aR):Prop:=
 ∀(w':aJ) (g:aR),Ext w0 w'→(∀t,MU aj t=false→g t=f t)→(∀(j t:Nat) (Φ:Value→aJ→Prop),aj[j]? =some (t,Φ)→Φ (g t) w')→Q .normal (cp n g) w'
section
variable {P:Program} {n:Nat}
theorem U4 {id:Nat} {l:dz} {Q:Exit→Act→aJ→Prop} {f:aR} {w:aJ} (hm:P.follows .mixedOrders=true) (qK:Re n l=true)
  (h:PX P n l.toArray w (KX n Q w) l [] f):WC P n (.region id l.toArray true) Q f w:=by
 obtain⟨es,hl,hc,T',hs,hK⟩:=PX.values l [] f h
 simp only[Re,eP] at qK
 obtain⟨IZ,Ry⟩:=qK
 have aeb:=IZ
 simp only[Pu,eP] at IZ
 obtain⟨⟨⟨⟨⟨hE,hD⟩,hN⟩,hn⟩,hT⟩,AR⟩:=IZ
 have lX:(l.filterMap (·.dst)).Nodup:=by
  have:=pc _ hN
  unfold jt at this
  rwa [aqh] at this
 have eH:∀(i:Nat) (o:Oper) (d:Nat),l[i]? =some o→o.dst=some d→d<n:=by
  intro i o d hi hd
  have:=aps.1 hn d<|ra hi (dZ.1 hi).1 hd
  simpa using this
 have tZ:∀(i:Nat) (o:Oper),l[i]? =some o→∃d,o.dst=some d:=by
  intro i o hi
  rw[aqh] at hD
  exact apL.1<|aps.1 hD o<|dO hi
 have Dw:∀(i:Nat) (o:Oper) (d:Nat),l[i]? =some o→o.dst=some d→jk l i=d:=by
  intro i o d hi hd
  unfold jk
  rw[hi];show (o.dst).getD 0=d
  rw[hd];rfl
 have Ct:∀(i:Nat),i<l.length→∃e,es[i]? =some e:=fun i hi=>⟨_,eB aq⟩
 have Rx:∀(i:Nat) (e:EN) (v:Value) (w':aJ),es[i]? =some e→(Az (es.map (·.2)) i v w'↔e.2 v w'):=by
  intro i e v w' he
  unfold Az
  rw[gX,apx,he]
  exact Iff.rfl
 have BR:∀(i j:Nat) (o o':Oper),l[i]? =some o→l[j]? =some o'→o.dst.getD 0=o'.dst.getD 0→i=j:=by
  intro i j o o' hi hj he
  obtain⟨d,hd⟩:=tZ i o hi
  obtain⟨d',nM⟩:=tZ j o' hj
  exact il (·.dst) l lX i j o o' hi hj (by show o.dst.isSome=true;rw[hd];rfl)<|by show o.dst=o'.dst;rw[hd,nM] at he ⊢;rw[show d=d' from he]
 
 have Y_:∀(m:Nat),m≤l.length→∀(g:aR) (w':aJ) (t:Nat),
   ((jt l.length l).contains t=false→g t=f t)→(∀(q:Nat) (o:Oper) (e:EN),q<m→l[q]? =some o→es[q]? =some e→o.dst=some t→e.2 (g t) w')→
   (∀(q:Nat) (o:Oper),l[q]? =some o→o.dst=some t→q<m)→
   (MU (yI (List.zip (l.take m) es) []) t=false→g t=D1 (List.zip (l.take m) es) f t)∧∀(j:Nat) (Φ:Value→aJ→Prop),(yI (List.zip (l.take m) es) [])[j]? =some (t,Φ)→Φ (g t) w':=by
  intro m hm g w' t h1 h2 h3
  constructor
  ·intro hu
   by_cases ht:(jt l.length l).contains t=true
   ·have Ua:t∈l.filterMap (·.dst):=by
     have:=ap2.1 ht
     unfold jt at this
     rwa [aqh] at this
    obtain⟨o,ho,AQ⟩:=apR.1 Ua
    obtain⟨q,hq⟩:=apG.1 ho
    have jn:=h3 q o hq AQ
    obtain⟨e,he⟩:=Ct q (dZ.1 hq).1
    have YZ:(l.take m)[q]? =some o:=by rw[apS,apo jn];exact hq
    obtain⟨a,Φ⟩:=e
    cases a with
    |none=>
     have:=(abp (l.take m) es [] q o Φ YZ he).2
     rw[AQ] at this
     rw[show (some t).getD 0=t from rfl] at this
     rw[hu] at this;cases this
    |some X=>
     have hv:=h2 q o _ jn hq he AQ
     rw[hc _ (dO he) X rfl] at hv
     rw[Ny (l.take m) es f q o t X Φ (lX.sublist ((List.take_sublist m l).filterMap _)) YZ he AQ]
     exact hv
   ·rw[h1 (by simpa using ht),EH]
    intro o' vL he
    obtain⟨j,hj⟩:=apG.1 (aqF vL)
    exact ht<|ap2.2<|ra hj (dZ.1 hj).1 he
  ·intro j Φ hj
   rcases I7 (l.take m) es [] (t,Φ) (dO hj) with h4|⟨q,o,hq,he,hd⟩
   ·cases h4
   ·have jn:q<m:=by have:=(dZ.1 hq).1;rw[iH] at this;omega
    rw[apS,apo jn] at hq
    obtain⟨d,Nc⟩:=tZ q o hq
    have hdt:d=t:=by have h9:o.dst.getD 0=t:=hd;rw[Nc] at h9;exact h9
    rw[hdt] at Nc
    exact h2 q o _ jn hq he Nc
 have hof:∀(r:dz) (i:Nat),(∀j o,r[j]? =some o→DStep P n l l.length (es.map (·.2)) f w (i+j) o)→j4 P n l l.length (es.map (·.2)) f w i r:=by
  intro r
  induction r with
  |nil=>intro i _;trivial
  |cons x r ih=>
   intro i hx
   refine⟨fun _=>hx 0 x rfl,ih (i+1) fun j o hj=>?_⟩
   have:=hx (j+1) o<|by simpa using hj
   rwa [show i+(j+1)=i+1+j from by omega] at this
 refine dr l.length (es.map (·.2)) hm aeb (hof l 0 fun i o hi=>?_) fun g w' hg hx hp=>?_
 ·rw[ap_]
  have jU:=(dZ.1 hi).1
  obtain⟨e,he⟩:=Ct i jU
  refine⟨fun g w' hg hx hp=>?_,fun v w1 w2 hx h=>by rw[Rx i e v _ he] at h ⊢;exact T' e (dO he) v w1 w2 hx h⟩
  refine(hs i o e hi he w' g hx fun t ht=>?_).mono ?_
  ·refine Y_ i (Nat.le_of_lt jU) g w' t (hg t) (fun q o' e' hq uq heq AQ=>?_)<|fun q o' uq AQ=>?_
   ·rcases (za l 0 Ry i o hi).1 t ht with h1|⟨q',hq',vK,Y5,hqd⟩
    ·have:=ra uq (dZ.1 uq).1 AQ
     rw[ap2.2 this] at h1;cases h1
    ·have JY:q'<l.length:=by omega
     obtain⟨d',nM⟩:=tZ q' l[q'] (eB JY)
     have:=Dw q' _ d' (eB JY) nM
     have hqq:q'=q:=BR q' q _ _ (eB JY) uq<|by rw[nM,AQ];show d'=t;rw[←this,Y5]
     subst hqq
     have h5:=hp q' vK<|by simpa using JY
     rw[Y5] at h5
     exact(Rx q' e' _ w' heq).1 h5
   ·rcases (za l 0 Ry i o hi).1 t ht with h1|⟨q',hq',vK,Y5,hqd⟩
    ·have:=ra uq (dZ.1 uq).1 AQ
     rw[ap2.2 this] at h1;cases h1
    ·have JY:q'<l.length:=by omega
     obtain⟨d',nM⟩:=tZ q' l[q'] (eB JY)
     have:=Dw q' _ d' (eB JY) nM
     have hqq:q'=q:=BR q' q _ _ (eB JY) uq<|by rw[nM,AQ];show d'=t;rw[←this,Y5]
     omega
  ·rintro Fh mK ⟨v,rfl,iY,hv⟩
   exact⟨v,J,iY,(Rx i e _ _ he).2 hv⟩
 ·rw[aqX (apn _)]
  refine z ?_
  have pf:∀t,_:=fun t=>Y_ l.length (apn _) g w' t (hg t) (fun q o e hq uq heq AQ=>by
   have h5:=hp q<|by simpa using hq
   rw[Dw q o t uq AQ] at h5
   exact(Rx q e _ w' heq).1 h5) (fun q o uq AQ=>(dZ.1 uq).1)
  rw[aqh] at pf
  exact hK w' g hx (fun t ht=>(pf t).1 ht)<|fun j t Φ hj=>(pf t).2 j Φ hj
end
section
variable {P:Program} {n:Nat} {ops:Array Oper} {w0:aJ} {K:UT→aR→Prop} {f:aR} {rest:dz} {aj:UT} {o:Oper} {v X:Value} {Φ Ψ:Value→aJ→Prop} {d d2:Nat}
def Lk (ops:Array Oper) (o:Oper) (aj:UT):Bool:=(o.looksAt ops).all (fun t=>!MU aj t)
def RX (ops:Array Oper) (o:Oper) (aj:UT) (d:Nat):Bool:=(o.looksAt ops).all (fun t=>Nat.beq t d||!MU aj t)
def lB (n:Nat) (o:Oper):Bool:=(match o.op with| .select _ _=>false|_=>true)&&(match o.dst with|some d=>Nat.blt d n|none=>true)
theorem gA (h:lB n o=true):(∀cs b,o.op≠.select cs b)∧∀d,o.dst=some d→d<n:=by
 unfold lB at h
 rw[eP] at h
 refine⟨fun cs b e=>(by rw[e] at h;have h1:=h.1;cases h1),fun d hd=>?_⟩
 have:=h.2
 rw[hd] at this
 simpa using this
theorem Nt (h:Lk ops o aj=true) {g:aR} {w:aJ} (ha:Agr (o.looksAt ops) aj f g w):∀t∈o.looksAt ops,g t=f t:=by
 intro t ht
 have:=aps.1 h t ht
 exact(ha t ht).1 (by simpa using this)
theorem xk (hf:(lB n o&&Lk ops o aj)=true) (h:∀w,Ext w0 w→SO P n ops o f w (fun f' w'=>f'=de f o.dst X∧Ext w w')) (r:PX P n ops w0 K rest aj (de f o.dst X)):PX P n ops w0 K (o::rest) aj f:=by
 rw[eP] at hf
 refine .inl ⟨X,fun w g hx ha=>?_,r⟩
 exact SO.sy ((h w hx).mono fun f' w' hq=>⟨X,hq.1,hq.2,J⟩) (gA hf.1).1 (Nt hf.2 ha) (gA hf.1).2
theorem xu (Φ:Value→aJ→Prop) (hd:o.dst=some d) (hm:∀v w w',Ext w w'→Φ v w→Φ v w') (hf:(lB n o&&Lk ops o aj)=true) (h:∀w,Ext w0 w→SO P n ops o f w (fun f' w'=>∃v,f'=de f o.dst v∧Ext w w'∧Φ v w')) (r:PX P n ops w0 K rest ((d,Φ)::aj) f):PX P n ops w0 K (o::rest) aj f:=by
 rw[eP] at hf
 exact .inr ⟨d,Φ,hd,hm,fun w g hx ha=>SO.sy (h w hx) (gA hf.1).1 (Nt hf.2 ha) (gA hf.1).2,r⟩
theorem Ps {j:Nat} (hU:aj[j]? =some (d,Ψ)) (h:RX ops o aj d=true) {g:aR} {w:aJ} (ha:Agr (o.looksAt ops) aj f g w) (hl:(o.looksAt ops).contains d=true):Ψ (g d) w∧∀t∈o.looksAt ops,g t=cq f d (g d) t:=by
 refine⟨(ha d<|ap2.1 hl).2 j Ψ hU,fun t ht=>?_⟩
 by_cases e:t=d
 ·subst e;exact(jh _ _ _).symm
 ·rw[jN _ _ e]
  have:=aps.1 h t ht
  rcases aqg.1 this with h1|h1
  ·exact absurd (aqy h1) e
  ·exact(ha t ht).1 (by simpa using h1)
theorem xk1 (j:Nat) (hU:aj[j]? =some (d,Ψ)) (hf:(lB n o&&RX ops o aj d&&(o.looksAt ops).contains d)=true) (h:∀w v,Ext w0 w→Ψ v w→SO P n ops o (cq f d v) w (fun f' w'=>f'=de (cq f d v) o.dst X∧Ext w w')) (r:PX P n ops w0 K rest aj (de f o.dst X)):PX P n ops w0 K (o::rest) aj f:=by
 rw[eP,eP] at hf
 refine .inl ⟨X,fun w g hx ha=>?_,r⟩
 obtain⟨h1,h2⟩:=Ps hU hf.1.2 ha hf.2
 exact SO.sy ((h w (g d) hx h1).mono fun f' w' hq=>⟨X,hq.1,hq.2,J⟩) (gA hf.1.1).1 h2 (gA hf.1.1).2
theorem xu1 (Φ:Value→aJ→Prop) (j:Nat) (hU:aj[j]? =some (d,Ψ)) (hd:o.dst=some d2) (hm:∀v w w',Ext w w'→Φ v w→Φ v w') (hf:(lB n o&&RX ops o aj d&&(o.looksAt ops).contains d)=true) (h:∀w v,Ext w0 w→Ψ v w→SO P n ops o (cq f d v) w (fun f' w'=>∃u,f'=de (cq f d v) o.dst u∧Ext w w'∧Φ u w')) (r:PX P n ops w0 K rest ((d2,Φ)::aj) f):PX P n ops w0 K (o::rest) aj f:=by
 rw[eP,eP] at hf
 refine .inr ⟨d2,Φ,hd,hm,fun w g hx ha=>?_,r⟩
 obtain⟨h1,h2⟩:=Ps hU hf.1.2 ha hf.2
 exact SO.sy (h w (g d) hx h1) (gA hf.1.1).1 h2 (gA hf.1.1).2
theorem zx (h:K aj f):PX P n ops w0 K [] aj f:=h
theorem xq (hf:(lB n o&&Lk ops o aj)=true) (h:PW P n ops w0 (fun f'=>PX P n ops w0 K rest aj f') [o] f):PX P n ops w0 K (o::rest) aj f:=by
 obtain⟨X,h1,h2⟩:=h
 exact xk hf h1 h2
end
section
variable {P:Program} {n:Nat} {ops:Array Oper} {w0:aJ}
theorem PW.toX {K:aR→Prop}:∀(l:dz) (f:aR),(∀o∈l,(∀cs b,o.op≠.select cs b)∧∀d,o.dst=some d→d<n)→PW P n ops w0 K l f→PX P n ops w0 (fun aj f=>aj=[]∧K f) l [] f
 |[],f,_,h=>⟨rfl,h⟩
 |o::r,f,ho,⟨X,h1,h2⟩=>.inl ⟨X,fun w g hx ha=>SO.sy ((h1 w hx).mono fun f' w' hq=>⟨X,hq.1,hq.2,rfl⟩) (ho o ap').1 (fun t ht=>(ha t ht).1 rfl) (ho o ap').2,PW.toX r _ (fun o' vL=>ho o' (apT _ vL)) h2⟩
theorem PX.mono {K K':UT→aR→Prop} (hK:∀aj f,K aj f→K' aj f):∀(l:dz) (aj:UT) (f:aR),PX P n ops w0 K l aj f→PX P n ops w0 K' l aj f
 |[],aj,f,h=>hK aj f h
 |o::r,aj,f,.inl ⟨X,h1,h2⟩=>.inl ⟨X,h1,PX.mono hK r aj _ h2⟩
 |o::r,aj,f,.inr ⟨d,Φ,h0,hm,h1,h2⟩=>.inr ⟨d,Φ,h0,hm,h1,PX.mono hK r _ f h2⟩
theorem A2 {id:Nat} {l:dz} {Q:Exit→Act→aJ→Prop} {f:aR} {w:aJ} (hm:P.follows .mixedOrders=true) (qK:Re n l=true)
  (h:PW P n l.toArray w (fun f'=>∀w',Ext w w'→Q .normal (cp n f') w') l f):WC P n (.region id l.toArray true) Q f w:=by
 have aec:=qK
 simp only[Re,eP] at aec
 obtain⟨IZ,Ry⟩:=aec
 simp only[Pu,eP] at IZ
 obtain⟨⟨⟨⟨⟨hE,hD⟩,hN⟩,hn⟩,hT⟩,AR⟩:=IZ
 refine U4 hm qK<|PX.mono ?_ l [] f<|PW.toX l f ?_ h
 ·rintro aj g ⟨rfl,hK⟩ w' g' hx hg _
  have e:g'=g:=by funext t;exact hg t rfl
  rw[e];exact hK w' hx
 ·intro o ho
  obtain⟨i,hi⟩:=apG.1 ho
  refine⟨(za l 0 Ry i o hi).2,fun d hd=>?_⟩
  have:=aps.1 hn d<|ra hi (dZ.1 hi).1 hd
  simpa using this
end
end Go.Ew
namespace Go.Ew
open Go.RowKit
section
variable {P:Program} {n:Nat} {l:dz}
theorem aad {Q:Exit→Act→aJ→Prop} (ab:(Nat→Bool)→aR→aJ→Prop) (hE:rH 0 l=true)
  (EA:∀(L:Nat→Bool) (f:aR) (w:aJ) (i:Nat) (o:Oper),l[i]? =some o→L i=false→(∀j,L j=true→j<l.length)→(∀j,kY o j=true→L j=true)→ab L f w→SO P n l.toArray o f w (ab (fun k=>L k||decide (k=i))))
  (wF:∀(f:aR) (w:aJ),ab (fun k=>decide (k<l.length)) f w→Q .normal (cp n f) w):
  ∀(d:Nat) (listed:Array Bool) (f:aR) (w:aJ),listed.size=l.length→(listed.toList.filter (fun b=>!b)).length=d→ab (fun k=>listed.getD k false) f w→wpAny P .any l.toArray Q d listed (cp n f) w:=by
 intro d
 induction d with
 |zero=>
  intro listed f w pZ hd hJ
  have pf:∀i,i<l.length→listed.getD i false=true:=by
   intro i hi
   have h0:=aqM hd
   rw[aqv] at h0
   have p9:i<listed.size:=by omega
   have:=h0 listed[i]<|by simp
   simp at this
   simp[Array.getD,p9,this]
  refine⟨?_,?_⟩
  ·apply List.eq_nil_iff_forall_not_mem.2
   intro i hi
   obtain⟨h0,o,ho, -⟩:=mem_ready.1 hi
   have qJ:l[i]? =some o:=by simpa using ho
   have jU:i<l.length:=(dZ.1 qJ).1
   rw[show listed.getD i true=listed.getD i false from ru aq _ _,pf i jU] at h0
   cases h0
  ·refine wF f w ?_
   have:(fun k=>decide (k<l.length))=fun k=>listed.getD k false:=by
    funext k
    by_cases hk:k<l.length
    ·rw[pf k hk];exact apt hk
    ·rw[apv hk];simp[Array.getD];omega
   rw[this];exact hJ
 |succ d ih=>
  intro listed f w pZ hd hJ
  obtain⟨i0,Kg⟩:∃i,i<l.length∧listed.getD i false=false:=by
   apply ap7
   intro Hy
   have:listed.toList.filter (fun b=>!b)=[]:=by
    rw[aqv]
    intro b hb
    obtain⟨i,hi,rfl⟩:=arj.1 hb
    simp only[ap9] at hi
    cases wW:listed.toList[i] with
    |true=>simp
    |false=>
     exfalso
     refine Hy ⟨i,by omega,?_⟩
     simp only[asd] at wW
     simp[Array.getD,hi,wW]
   rw[this] at hd;cases hd
  obtain⟨m,Ub,Ua⟩:=exists_least (p:=fun i=>i<l.length∧listed.getD i false=false) ⟨i0,Kg⟩
  have uu:m<l.length:=by omega
  have js:l[m]? =some l[m]:=eB uu
  have Cp:m∈Region.ready .any l.toArray listed:=by
   rw[mem_ready]
   refine⟨?_,l[m],by simp,fun e he hb=>?_⟩
   ·rw[show listed.getD m true=listed.getD m false from ru aq _ _];exact Ub.2
   ·have eH:=xn l 0 hE m l[m] js e he hb
    cases wW:listed.getD e.on false with
    |true=>rfl
    |false=>
     have:=Ua e.on ⟨by omega,wW⟩
     omega
  refine⟨fun h0=>(by rw[h0] at Cp;cases Cp),fun i hi=>?_⟩
  obtain⟨h0,o,ho,AV⟩:=mem_ready.1 hi
  have qJ:l[i]? =some o:=by simpa using ho
  have jU:i<l.length:=(dZ.1 qJ).1
  have Nn:listed.getD i false=false:=by
   rw[show listed.getD i false=listed.getD i true from ru aq _ _];exact h0
  have agK:∀j,kY o j=true→listed.getD j false=true:=by
   intro j hj
   obtain⟨e,he,hb,vK⟩:=xA.1 hj
   subst vK
   exact AV e he hb
  have eH:∀j,listed.getD j false=true→j<l.length:=by
   intro j hj
   refine ap7 fun hn=>?_
   rw[show listed.getD j false=false from by simp[Array.getD];omega] at hj
   cases hj
  have Uk:((listed.setIfInBounds i true).toList.filter (fun b=>!b)).length=d:=by
   have M_:i<listed.size:=by omega
   have uW:listed.toList[i]? =some false:=by
    rw[eB (by simpa using M_)]
    simp only[Array.getD,M_,dif_pos] at Nn
    simpa [ara] using Nn
   have key:∀(L:List Bool) (i:Nat),L[i]? =some false→((L.set i true).filter (fun b=>!b)).length+1=(L.filter (fun b=>!b)).length:=by
    intro L
    induction L with
    |nil=>intro i h;simp at h
    |cons b L ihL=>
     intro i h
     cases i with
     |zero=>simp at h;subst h;simp
     |succ i=>
      simp at h
      have:=ihL i h
      cases b<;>simp at this ⊢<;>omega
   have:=key listed.toList i uW
   rw[Array.toList_setIfInBounds]
   omega
  refine GW ho (EA (fun k=>listed.getD k false) f w i o qJ Nn eH agK hJ) fun f' w' hK=>?_
  refine ih _ _ _ (by simp[pZ]) Uk ?_
  have:(fun k=>(listed.setIfInBounds i true).getD k false)=fun k=>listed.getD k false||decide (k=i):=by
   funext k
   by_cases hk:k=i
   ·subst hk
    have M_:k<listed.size:=by omega
    simp[Array.getD,M_]
   ·rw[apv hk,aqR]
    exact getD_set_ne false fun e=>hk e.symm
  rw[this];exact hK
theorem drj {id:Nat} {Q:Exit→Act→aJ→Prop} {f:aR} {w:aJ} (ab:(Nat→Bool)→aR→aJ→Prop) (hm:P.follows .mixedOrders=true) (hE:rH 0 l=true)
  (h0:ab (fun _=>false) f w.drew)
  (EA:∀(L:Nat→Bool) (f:aR) (w:aJ) (i:Nat) (o:Oper),l[i]? =some o→L i=false→(∀j,L j=true→j<l.length)→(∀j,kY o j=true→L j=true)→ab L f w→SO P n l.toArray o f w (ab (fun k=>L k||decide (k=i))))
  (wF:∀(f:aR) (w:aJ),ab (fun k=>decide (k<l.length)) f w→Q .normal (cp n f) w):
  WC P n (.region id l.toArray true) Q f w:=by
 refine wp_region_any hm ?_
 have h3:(fun k=>(Array.replicate l.length false).getD k false)=fun _:Nat=>false:=by
  funext i
  simp only[Array.getD];split<;>simp
 have h:=aad (P:=P) (Q:=Q) ab hE EA wF l.length (Array.replicate l.length false) f w.drew (by simp) (by simp)<|by rw[h3];exact h0
 simpa using h
end
end Go.Ew
namespace Go.Ew
open Go.RowKit
inductive ZK|r|f|s|e|n
def zkE:ZK→Bool
 | .e=>true
 |_=>false
def zkR:ZK→Bool
 | .r=>true
 | .n=>true
 |_=>false
def zkN:ZK→Bool
 | .n=>true
 |_=>false
def zkS:ZK→Bool
 | .s=>true
 |_=>false
def vH (Ks:List ZK) (i:Nat):ZK:=Ks.getD i .r
def eQ (Ks:List ZK) (i:Nat):Bool:=zkE (vH Ks i)
def yl (Ks:List ZK) (i:Nat):Bool:=zkR (vH Ks i)
def nT (Ks:List ZK) (i:Nat):Bool:=zkN (vH Ks i)
def MR (Ks:List ZK) (i:Nat):Bool:=zkS (vH Ks i)
def tH (o:Oper):Bool:=match o.op with
 | .move _=>true
 | .assign _=>true
 | .extract _ _=>true
 |_=>false
def jY (l:dz) (i:Nat):Bool:=match l[i]? with
 |some o=>tH o
 |none=>false
def tT (l:dz) (Ks:List ZK) (i:Nat):Bool:=eQ Ks i&&jY l i
def My (o:Oper):Bool:=match o.op with
 | .select _ _=>false
 |_=>true
def Ms (n:Nat) (l:dz) (Ks:List ZK):Nat→dz→Bool
 |_,[]=>true
 |i,o::r=>
  (o.looksAt l.toArray).all (fun t=>Nat.blt t n&&(!(l.filterMap (·.dst)).contains t||(List.range i).any (fun j=>kY o j&&(match (l[j]?).bind (·.dst) with|some d=>Nat.beq d t|none=>false)&&(eQ Ks i||!eQ Ks j))))&&
   (My o&&((eQ Ks i||o.dst.isSome)&&((!MR Ks i||tH o)&&((!yl Ks i||(List.range l.length).all (fun e=>!eQ Ks e||oZ l l.length e i))&&((!eQ Ks i||(List.range i).all (fun e=>!eQ Ks e||(jY l e||oZ l l.length i e)))&&((!(eQ Ks i&&tH o)||(o.dst.isSome&&(List.range i).any (fun e=>eQ Ks e&&!jY l e)))&&Ms n l Ks (i+1) r))))))
def okZ (n:Nat) (l:dz) (Ks:List ZK):Bool:=
 rH 0 l&&(nodupB (l.filterMap (·.dst))&&((l.filterMap (·.dst)).all (fun d=>Nat.blt d n)&&Ms n l Ks 0 l))
section
variable {P:Program} {n:Nat} {l:dz} {Ks:List ZK} {ops:Array Oper}
structure Z1 (n:Nat) (l:dz) (Ks:List ZK) (i:Nat) (o:Oper):Prop where
 look:∀t∈o.looksAt l.toArray,t<n∧((∀(q:Nat) (o':Oper),l[q]? =some o'→o'.dst≠some t)∨∃(j:Nat) (o':Oper),j<i∧kY o j=true∧l[j]? =some o'∧o'.dst=some t∧(eQ Ks i=false→eQ Ks j=false))
 sel:∀cs b,o.op≠.select cs b
 dst:eQ Ks i=false→∃d,o.dst=some d
 slot:MR Ks i=true→tH o=true
 rd:yl Ks i=true→∀e,e<l.length→eQ Ks e=true→oZ l l.length e i=true
 ord:eQ Ks i=true→∀e,e<i→eQ Ks e=true→jY l e=false→oZ l l.length i e=true
 xd:eQ Ks i=true→tH o=true→(∃d,o.dst=some d)∧∃e,e<i∧eQ Ks e=true∧jY l e=false
theorem TI {o:Oper} (h:My o=true):∀cs b,o.op≠.select cs b:=fun cs b e=>by unfold My at h;rw[e] at h;cases h
theorem Pt:∀(r:dz) (i:Nat),Ms n l Ks i r=true→∀j o,r[j]? =some o→Z1 n l Ks (i+j) o
 |[],_,_,j,o,h=>by simp at h
 |x::r,i,h,j+1,o,hj=>by
  simp only[Ms,eP] at h
  have:=Pt r (i+1) h.2.2.2.2.2.2.2 j o<|by simpa using hj
  rwa [show i+1+j=i+(j+1) from by omega] at this
 |x::r,i,h,0,o,hj=>by
  simp only[apC,apy] at hj
  subst hj
  simp only[Ms,eP] at h
  obtain⟨h1,h2,h3,h4,h5,h6,h7, -⟩:=h
  refine⟨fun t ht=>?_,TI h2,fun hE=>?_,fun hS=>?_,fun hR e he nt=>?_,fun hE e he nt rh=>?_,fun hE hs=>?_⟩
  ·have:=aps.1 h1 t ht
   simp only[eP,art,apw,aqo] at this
   refine⟨this.1,this.2.imp (fun h q o' hq hd=>?_) fun h=>?_⟩
   ·have hm:t∈l.filterMap (·.dst):=apR.2 ⟨o',dO hq,hd⟩
    rw[ap2.2 hm] at h;cases h
   ·obtain⟨j,hj,hq⟩:=apO.1 h
    simp only[eP,apw,aqo] at hq
    obtain⟨⟨q1,q2⟩,q3⟩:=hq
    cases hl:l[j]? with
    |none=>rw[hl] at q2;cases q2
    |some o'=>
     rw[hl] at q2
     cases hd:o'.dst with
     |none=>simp[hd] at q2
     |some d=>
      simp[hd] at q2
      refine⟨j,o',by have:=apq.1 hj;omega,q1,hl,by rw[hd,q2],fun hi=>?_⟩
      rcases q3 with q3|q3
      ·rw[ap3] at hi;rw[hi] at q3;cases q3
      ·exact q3
  ·rw[ap3] at hE
   rw[hE] at h3
   exact apL.1<|by simpa using h3
  ·rw[ap3] at hS
   rw[hS] at h4;simpa using h4
  ·rw[ap3] at hR ⊢
   rw[hR] at h5
   rw[arL,are] at h5
   have:=aps.1 h5 e<|apq.2 he
   rw[nt] at this;simpa using this
  ·rw[ap3] at hE he ⊢
   rw[hE] at h6
   rw[arL,are] at h6
   have:=aps.1 h6 e<|apq.2 he
   rw[nt,rh] at this;simpa using this
  ·rw[ap3] at hE ⊢
   rw[hE,hs] at h7
   simp only[Bool.and_self,arL,are,eP] at h7
   obtain⟨e,he,hq⟩:=apO.1 h7.2
   rw[eP,aqo] at hq
   exact⟨apL.1 h7.1,e,apq.1 he,hq.1,hq.2⟩
theorem Jw {o:Oper} {g:aR} {w:aJ} {ai:Value→aJ→Prop} (hs:tH o=true) (hd:∃d,o.dst=some d∧d<n)
  (h:SO P n ops o g w (fun f' w'=>∃v,f'=de g o.dst v∧True∧ai v w')):
  ∃v,ai v w∧∀g2 w2,(∀t∈o.looksAt ops,g2 t=g t)→SO P n ops o g2 w2 (fun f' w'=>f'=de g2 o.dst v∧w'=w2):=by
 obtain⟨d,hd,tl⟩:=hd
 have h1:=h (fun e a w'=>match e with| .normal=>∃v,a=cp n (de g o.dst v)∧True∧ai v w'|_=>False) []<|fun f' w' hK=>wpList_nil<|by obtain⟨v,h1,h2⟩:=hK;exact⟨v,by rw[h1],h2⟩
 have hw:∀g2:aR,(∀t∈o.looksAt ops,g2 t=g t)→Region.wanted o (yielded ops (cp n g2).tmps)=Region.wanted o (yielded ops (cp n g).tmps):=fun g2 hu=>yO fun j b hg t ht=>hu t (by
  unfold Oper.looksAt
  rw[hg]
  refine aqA _ ?_
  simp[ht])
 have ajC:∀cs b,o.op≠.select cs b:=fun cs b e=>by unfold tH at hs;rw[e] at hs;cases hs
 have he:∀g2:aR,(∀t∈o.looksAt ops,g2 t=g t)→execOp (cp n g2).eval o=execOp (cp n g).eval o:=fun g2 hu=>execOp_congr o ajC fun x hx=>Ea fun t ht=>hu t (by
  subst ht
  exact aqG _ (apR.2 ⟨.tmp t,by simpa using hx,rfl⟩))
 have Rw:∀(g2:aR) (u:Value),(cp n g2).put o.dst u=cp n (de g2 o.dst u):=fun g2 u=>by rw[qX]
 unfold wpList at h1
 split at h1
 ·rename_i Dt
  
  have kU:(∃u,∀w2,(execOp (cp n g).eval o).run P w2=.ok (.value u) w2)∨∀w2 x w3,(execOp (cp n g).eval o).run P w2≠.ok x w3:=by
   obtain⟨dst,op,ty,ps,af,gd⟩:=o
   unfold tH at hs
   cases op<;>simp only at hs<;>try (cases hs;done)
   ·left;exact⟨_,fun w2=>rfl⟩
   ·left;exact⟨_,fun w2=>rfl⟩
   ·rename_i x i
    cases hx:(cp n g).eval x with
    |tuple vs=>
     cases hi:vs[i]? with
     |some v=>left;exact⟨v,fun w2=>by simp[execOp,Instr.extract,hx,hi]⟩
     |none=>right;intro w2 y w3 hh;simp[execOp,Instr.extract,hx,hi] at hh
    |_=>right;intro w2 y w3 hh;simp[execOp,Instr.extract,hx] at hh
  rcases h1 with h2|⟨_,a0,w1,hq⟩
  ·rcases kU with ⟨u,hu⟩|Hy
   ·unfold Oper.wp at h2
    rw[hu w] at h2
    simp only[Oper.upon] at h2
    obtain⟨v,hv, -,hR⟩:=(show ∃v,_∧_∧_ from h2)
    rw[Rw,hd] at hv
    have T3:u=v:=GS tl hv
    subst T3
    refine⟨u,hR,fun g2 w2 hl Q rest hk=>?_⟩
    unfold wpList
    rw[hw g2 hl,apo Dt]
    refine .inl ?_
    unfold Oper.wp
    rw[he g2 hl,hu w2]
    simp only[Oper.upon]
    rw[Rw]
    exact hk _ _ ⟨J,J⟩
   ·exfalso
    unfold Oper.wp at h2
    generalize hr:(execOp (cp n g).eval o).run P w=r at h2
    cases r with
    |ok x w'=>exact Hy w x w' hr
    |halt x w'=>cases x<;>simp only[Oper.upon] at h2<;>exact h2.elim
  ·exact hq.elim
 ·rename_i Dt
  have h2:=h1
  obtain⟨v,hv, -,hR⟩:=(show ∃v,(cp n g).put o.dst undef=_∧_∧_ from h2)
  rw[Rw,hd] at hv
  have T3:undef=v:=GS tl hv
  subst T3
  refine⟨undef,hR,fun g2 w2 hl Q rest hk=>?_⟩
  unfold wpList
  rw[hw g2 hl,apr Dt]
  rw[Rw]
  exact hk _ _ ⟨J,J⟩
theorem V4 {o:Oper} {g:aR} {w:aJ} {ai:Value→aJ→Prop} (hs:tH o=true) (hd:∃d,o.dst=some d∧d<n)
  (h:SO P n ops o g w (fun f' w'=>∃v,f'=de g o.dst v∧Ext w w'∧ai v w')):
  ∃v,ai v w∧∀g2 w2,(∀t∈o.looksAt ops,g2 t=g t)→SO P n ops o g2 w2 (fun f' w'=>f'=de g2 o.dst v∧w'=w2):=
 Jw hs hd (h.mono fun f' w' ⟨v,h1,_,h2⟩=>⟨v,h1,trivial,h2⟩)
theorem SO.Yy {o:Oper} {f g:aR} {w:aJ} {ai:aR→aJ→Prop} (h:SO P n ops o g w ai) (hs:∀cs b,o.op≠.select cs b) (hu:∀t∈o.looksAt ops,f t=g t):
  SO P n ops o f w (fun f' w'=>∃v g',f'=de f o.dst v∧cp n g'=cp n (de g o.dst v)∧ai g' w'):=by
 intro Q rest hk
 have h1:=h (fun e a w'=>match e with| .normal=>∃g',a=cp n g'∧ai g' w'|_=>False) []<|fun f' w' hK=>wpList_nil ⟨f',J,hK⟩
 have he:execOp (cp n f).eval o=execOp (cp n g).eval o:=execOp_congr o hs fun x hx=>Ea fun t ht=>hu t (by
  subst ht
  exact aqG _ (apR.2 ⟨.tmp t,by simpa using hx,rfl⟩))
 have hw:Region.wanted o (yielded ops (cp n f).tmps)=Region.wanted o (yielded ops (cp n g).tmps):=yO fun j b hg t ht=>hu t (by
  unfold Oper.looksAt
  rw[hg]
  refine aqA _ ?_
  simp[ht])
 have key:∀u w',(∃g',(cp n g).put o.dst u=cp n g'∧ai g' w')→wpList P ops Q rest ((cp n f).put o.dst u) w':=by
  rintro u w' ⟨g',hq,h2⟩
  rw[qX] at hq ⊢
  exact hk _ _ ⟨u,g',J,hq.symm,h2⟩
 unfold wpList at h1 ⊢
 rw[hw]
 split at h1
 ·rename_i Dt
  rw[apo Dt]
  refine .inl ?_
  rcases h1 with h2|⟨_,a0,w1,hq⟩
  ·unfold Oper.wp at h2 ⊢
   rw[he]
   generalize (execOp (cp n g).eval o).run P w=r at *
   cases r with
   |ok x w'=>
    cases x with
    |enter c args=>
     simp only[Oper.upon] at h2 ⊢
     refine Calls.mono h2 ?_
     intro e mK zp
     cases e with
     |returned u=>exact key u mK zp
     |panicked c=>exact zp.elim
     |outgrown=>obtain⟨a0,w1,hq⟩:=zp;exact hq.elim
    |row r args=>
     simp only[Oper.upon] at h2 ⊢
     exact Rows.mono h2 fun u mK zp=>key u mK zp
    |defer dd=>
     simp only[Oper.upon] at h2 ⊢
     obtain⟨g',h3, -⟩:=(show ∃g',_∧_ from h2)
     exfalso
     have h4:=apj (fun a=>a.defers.length) h3
     cases tZ:o.dst<;>rw[tZ] at h4<;>simp[Act.put,cp] at h4
    |value u=>
     simp only[Oper.upon] at h2 ⊢
     exact key u w' h2
    |skip=>
     simp only[Oper.upon] at h2 ⊢
     exact key undef w' h2
    |_=>exact(show False from h2).elim
   |halt x w'=>cases x<;>simp only[Oper.upon] at h2 ⊢<;>exact h2.elim
  ·exact hq.elim
 ·rename_i Dt
  rw[apr Dt]
  exact key undef w h1
end
def WE (P:Program) (n:Nat) (ops:Array Oper) (ag:aJ→Prop) (K:aR→aJ→Prop):dz→aR→aJ→Prop
 |[],f,w=>K f w
 |o::r,f,w=>SO P n ops o f w (fun f' w'=>ag w'∧WE P n ops ag K r f' w')
def GB:List ZK→dz→dz
 |_,[]=>[]
 |ks,o::r=>match ks.headD .r with
  | .e=>o::GB ks.tail r
  |_=>GB ks.tail r
abbrev PR:=(Nat→Prop)→Value→aJ→Prop
abbrev UN:=List (Nat×PR)
def ym (aj:UN) (t:Nat):Bool:=aj.any (fun p=>Nat.beq p.1 t)
def eN (X:Value):PR:=fun _ v _=>v=X
structure sD (Φ:PR):Prop where
 ext:∀N v w w',Ext w w'→Φ N v w→Φ N v w'
 grow:∀(N N':cg) v (w:aJ),(∀b,N b→N' b)→(∀b,N' b→N b∨w.heap.size≤b)→Φ N v w→Φ N' v w
theorem YI (X:Value):sD (eN X):=⟨fun _ _ _ _ _ h=>h,fun _ _ _ _ _ _ h=>h⟩
def KH (w0:aJ) (z:Array Value) (T:TypeId):PR:=fun N v w=>∃b,v=.pointer (some ⟨b,0,none⟩)∧w0.heap.size≤b∧w.heap[b]? =some (.cells z T (0,0))∧N b
theorem agx (w0:aJ) (z:Array Value) (T:TypeId):sD (KH w0 z T):=
 ⟨fun N v w w' hx ⟨b,h1,h2,h3,h4⟩=>⟨b,h1,h2,(hx.block b (apU.1 h3).1).trans h3,h4⟩,fun N N' v w h _ ⟨b,h1,h2,h3,h4⟩=>⟨b,h1,h2,h3,h b h4⟩⟩
def Ft (w0:aJ) (N:cg) (w:aJ):Prop:=∀b,N b→w0.heap.size≤b∧b<w.heap.size
def Z6 (L:List Nat) (aj:UN) (f g:aR) (N:cg) (w:aJ):Prop:=
 ∀t∈L,(ym aj t=false→g t=f t)∧(∀(j:Nat) (Φ:PR),aj[j]? =some (t,Φ)→Φ N (g t) w)
def GN (P:Program) (n:Nat) (ops:Array Oper) (w0:aJ) (o:Oper) (aj:UN) (f:aR) (ai:PR):Prop:=
 ∀w g N,Ext w0 w→Ft w0 N w→Z6 (o.looksAt ops) aj f g N w→SO P n ops o g w (fun f' w'=>∃v,f'=de g o.dst v∧Ext w w'∧ai N v w')
def Ob (z:Array Value) (T:TypeId) (w:aJ) (v:Value) (w':aJ):Prop:=∃b,v=.pointer (some ⟨b,0,none⟩)∧w.heap.size≤b∧w'.heap[b]? =some (.cells z T (0,0))
def PZ (P:Program) (n:Nat) (ops:Array Oper) (w0:aJ) (ag:aJ→Prop) (K:UN→aR→Prop):dz→List ZK→UN→aR→Prop
 |[],_,aj,f=>K aj f
 |o::r,ks,aj,f=>match ks.headD .r with
  | .e=>PZ P n ops w0 ag K r ks.tail aj f
  | .f=>∃X,(∀w g,ag w→(∀t∈o.looksAt ops,ym aj t=false∧g t=f t)→SO P n ops o g w (fun f' w'=>f'=de g o.dst X∧w'=w))∧((o.looksAt ops).all (fun t=>!ym aj t))=true∧PZ P n ops w0 ag K r ks.tail aj (de f o.dst X)
  | .n=>∃d z T,o.dst=some d∧((o.looksAt ops).all (fun t=>!ym aj t))=true∧(∀w g,Ext w0 w→(∀t∈o.looksAt ops,g t=f t)→SO P n ops o g w (fun f' w'=>∃v,f'=de g o.dst v∧Ext w w'∧Ob z T w v w'))∧PZ P n ops w0 ag K r ks.tail ((d,KH w0 z T)::aj) f
  |_=>(∃X,GN P n ops w0 o aj f (eN X)∧PZ P n ops w0 ag K r ks.tail aj (de f o.dst X))∨
    (∃d Φ,o.dst=some d∧sD Φ∧GN P n ops w0 o aj f Φ∧PZ P n ops w0 ag K r ks.tail ((d,Φ)::aj) f)
def KZ (P:Program) (n:Nat) (ops:Array Oper) (Q:Exit→Act→aJ→Prop) (w0:aJ) (ag:aJ→Prop) (E:dz) (Nd:List Nat) (aj:UN) (f:aR):Prop:=
 ∀(w':aJ) (g:aR) (N:cg),Ext w0 w'→Ft w0 N w'→(∀d d',d∈Nd→d'∈Nd→d≠d'→g d≠g d')→(∀t,ym aj t=false→g t=f t)→(∀(j t:Nat) (Φ:PR),aj[j]? =some (t,Φ)→Φ N (g t) w')→WE P n ops ag (fun f w=>Q .normal (cp n f) w) E g w'
def F1:List ZK→dz→List Nat
 |_,[]=>[]
 |ks,o::r=>match ks.headD .r with
  | .n=>o.dst.getD 0::F1 ks.tail r
  |_=>F1 ks.tail r
def nz (E:List PR) (i:Nat):PR:=E.getD i (fun _ _ _=>True)
section
variable {P:Program} {n:Nat} {l:dz} {Ks:List ZK} {w0:aJ} {ag:aJ→Prop} {f0:aR}
structure Kn (l:dz) (Ks:List ZK) (f0:aR) (E:List PR) (m:Nat) (g:aR) (N:cg) (w:aJ) (t:Nat):Prop where
 off:(∀(q:Nat) (o:Oper),l[q]? =some o→o.dst=some t→eQ Ks q=true)→g t=f0 t
 A0:∀(q:Nat) (o:Oper),q<m→l[q]? =some o→o.dst=some t→eQ Ks q=false→nz E q N (g t) w
def ZW (l:dz) (Ks:List ZK) (m t:Nat):Prop:=∀(q:Nat) (o:Oper),l[q]? =some o→o.dst=some t→eQ Ks q=false→q<m
structure Sj (l:dz) (Ks:List ZK) (f0:aR) (E:List PR) (m:Nat) (aj:UN) (f:aR):Prop where
 is:∀(g:aR) (N:cg) (w:aJ) (t:Nat),ZW l Ks m t→Kn l Ks f0 E m g N w t→(ym aj t=false→g t=f t)∧∀(j:Nat) (Φ:PR),aj[j]? =some (t,Φ)→Φ N (g t) w
 Ia:∀(j t:Nat) (Φ:PR),aj[j]? =some (t,Φ)→∃(q:Nat) (o:Oper),q<m∧l[q]? =some o∧o.dst=some t
def ahE (P:Program) (n:Nat) (l:dz) (Ks:List ZK) (w0:aJ) (f0:aR) (E:List PR) (i:Nat) (o:Oper):Prop:=
 ∀(g:aR) (N:cg) (w:aJ),Ext w0 w→Ft w0 N w→(∀t∈o.looksAt l.toArray,Kn l Ks f0 E i g N w t)→SO P n l.toArray o g w (fun f' w'=>∃v,f'=de g o.dst v∧Ext w w'∧nz E i N v w')
def ahF (P:Program) (n:Nat) (l:dz) (Ks:List ZK) (w0:aJ) (f0:aR) (E:List PR) (i:Nat) (o:Oper):Prop:=
 ∃z T,nz E i=KH w0 z T∧∀(g:aR) (N:cg) (w:aJ),Ext w0 w→(∀t∈o.looksAt l.toArray,Kn l Ks f0 E i g N w t)→SO P n l.toArray o g w (fun f' w'=>∃v,f'=de g o.dst v∧Ext w w'∧Ob z T w v w')
def ahG (P:Program) (n:Nat) (l:dz) (Ks:List ZK) (ag:aJ→Prop) (f0:aR) (E:List PR) (i:Nat) (o:Oper):Prop:=
 ∃X,nz E i=eN X∧∀(g:aR) (N:cg) (w w1:aJ),ag w→(∀t∈o.looksAt l.toArray,Kn l Ks f0 E i g N w1 t)→SO P n l.toArray o g w (fun f' w'=>f'=de g o.dst X∧w'=w)
structure Fact (P:Program) (n:Nat) (l:dz) (Ks:List ZK) (w0:aJ) (ag:aJ→Prop) (f0:aR) (E:List PR) (i:Nat) (o:Oper):Prop where
 mono:sD (nz E i)
 go:eQ Ks i=false→(ahE P n l Ks w0 f0 E i o∧nT Ks i=false∧(yl Ks i=true∨MR Ks i=true))∨(ahG P n l Ks ag f0 E i o∧nT Ks i=false)∨(ahF P n l Ks w0 f0 E i o∧nT Ks i=true)
theorem P9 {E E0:List PR} {m:Nat} (h:E.take m=E0) (hl:E0.length=m) {q:Nat} (hq:q<m):nz E q=nz E0 q:=by
 unfold nz
 rw[←h,gX,gX,apS,apo hq]
theorem Kn.of {E E0:List PR} {m:Nat} {g:aR} {N:cg} {w:aJ} {t:Nat} (h:E.take m=E0) (hl:E0.length=m) (k:Kn l Ks f0 E m g N w t):Kn l Ks f0 E0 m g N w t:=
 ⟨k.off,fun q o hq h1 h2 h3=>by rw[←P9 h hl hq];exact k.A0 q o hq h1 h2 h3⟩
theorem xG {aj:UN} {t:Nat}:ym aj t=true↔∃(j:Nat) (Φ:PR),aj[j]? =some (t,Φ):=by
 unfold ym
 rw[apO]
 constructor
 ·rintro⟨⟨a,b⟩,h1,h2⟩
  obtain⟨j,hj⟩:=apG.1 h1
  simp at h2
  exact⟨j,b,by rw[hj,h2]⟩
 ·rintro⟨j,Φ,h⟩
  exact⟨_,dO h,by simp⟩
theorem PZ.table (lX:(l.filterMap (·.dst)).Nodup) (hZ:∀(i:Nat) (o:Oper),l[i]? =some o→Z1 n l Ks i o) {K:UN→aR→Prop}:∀(r:dz) (ks:List ZK) (m:Nat) (aj:UN) (f:aR) (E0:List PR),
  l.drop m=r→Ks.drop m=ks→E0.length=m→m+r.length=l.length→Sj l Ks f0 E0 m aj f→PZ P n l.toArray w0 ag K r ks aj f→
  ∃(E:List PR) (U':UN) (f':aR),E.length=l.length∧E.take m=E0∧(∀(i:Nat) (o:Oper),m≤i→l[i]? =some o→Fact P n l Ks w0 ag f0 E i o)∧Sj l Ks f0 E l.length U' f'∧K U' f'
 |[],ks,m,aj,f,E0,hr,Kc,hl,uu,hL,h=>by
  simp only[gC,ap3] at uu
  subst uu
  refine⟨E0,aj,f,hl,by rw[←hl,aqh],fun i o hi ho=>?_,hL,h⟩
  have:=(dZ.1 ho).1
  omega
 |o::r,ks,m,aj,f,E0,hr,Kc,hl,uu,hL,h=>by
  have js:l[m]? =some o:=by
   have:(l.drop m)[0]? =some o:=by rw[hr];rfl
   rwa [ap6,ap3] at this
  have hr':l.drop (m+1)=r:=by rw[←aqj,hr];rfl
  have M8:Ks.drop (m+1)=ks.tail:=by rw[←aqj,Kc];cases ks<;>rfl
  have ajL:m+1+r.length=l.length:=by simp only[jb] at uu;omega
  have Ud:ks.headD .r=vH Ks m:=by
   unfold vH
   rw[←Kc,gX]
   cases hq:Ks.drop m with
   |nil=>rw[apz (by have:=apj List.length hq;simp at this;omega)];rfl
   |cons a b=>
    have:(Ks.drop m)[0]? =some a:=by rw[hq];rfl
    rw[ap6,ap3] at this
    rw[this];rfl
  have z:=hZ m o js
  have BR:∀(q:Nat) (o':Oper) (t:Nat),l[q]? =some o'→o'.dst=some t→o.dst=some t→q=m:=fun q o' t hq hd DL=>
   il (·.dst) l lX q m o' o hq js (by show o'.dst.isSome=true;rw[hd];rfl) (by show o'.dst=o.dst;rw[hd,DL])
  have Lg:∀t∈o.looksAt l.toArray,eQ Ks m=false→ZW l Ks m t:=by
   intro t ht hE q o' hq hd Cx
   rcases (z.look t ht).2 with h1|⟨j,tR,hj, -,qM,uw, -⟩
   ·exact absurd hd<|h1 q o' hq
   ·have:q=j:=il (·.dst) l lX q j o' tR hq qM (by show o'.dst.isSome=true;rw[hd];rfl)<|by show o'.dst=tR.dst;rw[hd,uw]
    omega
  have fin:∀(e:PR) (U2:UN) (f2:aR),Sj l Ks f0 (E0++[e]) (m+1) U2 f2→PZ P n l.toArray w0 ag K r ks.tail U2 f2→
    (∀E:List PR,E.take (m+1)=E0++[e]→Fact P n l Ks w0 ag f0 E m o)→
    ∃(E:List PR) (U':UN) (f':aR),E.length=l.length∧E.take m=E0∧(∀(i:Nat) (o:Oper),m≤i→l[i]? =some o→Fact P n l Ks w0 ag f0 E i o)∧Sj l Ks f0 E l.length U' f'∧K U' f':=by
   intro e U2 f2 hL2 hP hF
   obtain⟨E,U',f',h1,h2,h3,h4,h5⟩:=PZ.table lX hZ r ks.tail (m+1) U2 f2 (E0++[e]) hr' M8 (by simp[hl]) ajL hL2 hP
   refine⟨E,U',f',h1,?_,fun i o' hi vL=>?_,h4,h5⟩
   ·have:=apj (List.take m) h2
    rw[aqS,aqk aq,aqL aq,←hl,aqh] at this
    rw[hl] at this;exact this
   ·by_cases ux:i=m
    ·subst ux
     rw[js] at vL;cases vL
     exact hF E h2
    ·exact h3 i o' aq vL
  have B3:∀(E:List PR) (e:PR),E.take (m+1)=E0++[e]→nz E m=e:=by
   intro E e h2
   rw[P9 h2 (by simp[hl]) (aqN m)]
   unfold nz
   rw[gX,oM aq,hl,aqq];rfl
  have ak5:∀(e:PR) (q:Nat),q<m→nz (E0++[e]) q=nz E0 q:=by
   intro e q hq
   unfold nz
   rw[gX,pt aq,gX]
  have K9:∀(E:List PR) (e:PR),E.take (m+1)=E0++[e]→E.take m=E0:=by
   intro E e h2
   have:=apj (List.take m) h2
   rw[aqS,aqk aq,aqL aq,←hl,aqh] at this
   rw[hl] at this;exact this
  
  have TT:∀(e:PR) (g:aR) (N:cg) (w:aJ) (t:Nat),Kn l Ks f0 (E0++[e]) (m+1) g N w t→Kn l Ks f0 E0 m g N w t:=fun e g N w t k=>
   ⟨k.off,fun q o' hq h1 h2 h3=>by rw[←ak5 e q hq];exact k.A0 q o' aq h1 h2 h3⟩
  unfold PZ at h
  rw[Ud] at h
  cases hk:vH Ks m with
  |e=>
   rw[hk] at h
   have hE:eQ Ks m=true:=by unfold eQ;rw[hk];rfl
   refine fin (fun _ _ _=>True) aj f ⟨fun g N w t hV rq=>?_,fun j t Φ hj=>?_⟩ h fun E h2=>⟨by rw[B3 E _ h2];exact⟨fun _ _ _ _ _ _=>trivial,fun _ _ _ _ _ _ _=>trivial⟩,fun uB=>by rw[hE] at uB;cases uB⟩
   ·exact hL.is g N w t (fun q o' hq hd Cx=>by
     have:=hV q o' hq hd Cx
     by_cases jn:q=m
     ·subst jn;rw[hE] at Cx;cases Cx
     ·omega) (TT _ g N w t rq)
   ·obtain⟨q,o',h1,h2,h3⟩:=hL.Ia j t Φ hj
    exact⟨q,o',by omega,h2,h3⟩
  |f=>
   rw[hk] at h
   obtain⟨X,h1,h1b,h2⟩:=h
   have hE:eQ Ks m=false:=by unfold eQ;rw[hk];rfl
   obtain⟨d,hd⟩:=z.dst hE
   have hN:nT Ks m=false:=by unfold nT;rw[hk];rfl
   refine fin (eN X) aj (de f o.dst X) ⟨fun g N w t hV rq=>?_,fun j t Φ hj=>?_⟩ h2 fun E uB=>⟨by rw[B3 E _ uB];exact YI X,fun _=>.inr (.inl ⟨⟨X,B3 E _ uB,fun g N w w1 hI rq=>?_⟩,hN⟩)⟩
   ·by_cases ht:o.dst=some t
    ·have hv:g t=X:=by
      have:=rq.A0 m o (aqN m) js ht hE
      unfold nz at this
      rw[gX,oM aq,hl,aqq] at this
      exact this
     refine⟨fun _=>by rw[ht];show g t=cq f t X t;rw[jh];exact hv,fun j Φ hj=>?_⟩
     obtain⟨q,o',h1,h2,h3⟩:=hL.Ia j t Φ hj
     have:=BR q o' t h2 h3 ht
     omega
    ·have:=hL.is g N w t (fun q o' hq nM Cx=>by
      have:=hV q o' hq nM Cx
      by_cases jn:q=m
      ·subst jn;rw[js] at hq;cases hq;exact absurd nM ht
      ·omega) (TT _ g N w t rq)
     refine⟨fun hu=>?_,this.2⟩
     rw[this.1 hu,hd]
     exact(jN f X<|fun e=>ht<|by rw[hd,e]).symm
   ·obtain⟨q,o',h1,h2,h3⟩:=hL.Ia j t Φ hj
    exact⟨q,o',by omega,h2,h3⟩
   ·refine h1 w g hI fun t ht=>?_
    have hu:ym aj t=false:=by
     have:=aps.1 h1b t ht
     simpa using this
    exact⟨hu,(hL.is g N w1 t (Lg t ht hE)<|(rq t ht).of (K9 E _ uB) hl).1 hu⟩
  |n=>
   rw[hk] at h
   have hE:eQ Ks m=false:=by unfold eQ;rw[hk];rfl
   have hN:nT Ks m=true:=by unfold nT;rw[hk];rfl
   obtain⟨d,zz,T,hd,h1b,h1,h2⟩:=h
   refine fin (KH w0 zz T) ((d,KH w0 zz T)::aj) f ⟨fun g N w t hV rq=>?_,fun j t Ψ hj=>?_⟩ h2 fun E uB=>⟨by rw[B3 E _ uB];exact agx w0 zz T,fun _=>.inr (.inr ⟨⟨zz,T,B3 E _ uB,fun g N w hx rq=>?_⟩,hN⟩)⟩
   ·by_cases ht:d=t
    ·subst ht
     have hv:KH w0 zz T N (g d) w:=by
      have:=rq.A0 m o (aqN m) js hd hE
      unfold nz at this
      rw[gX,oM aq,hl,aqq] at this
      exact this
     refine⟨fun hu=>?_,fun j Ψ hj=>?_⟩
     ·rw[xG.2 ⟨0,KH w0 zz T,rfl⟩] at hu;cases hu
     ·cases j with
      |zero=>cases hj;exact hv
      |succ j=>
       obtain⟨q,o',h1,h2,h3⟩:=hL.Ia j d Ψ hj
       have:=BR q o' d h2 h3 hd
       omega
    ·have AT:=hL.is g N w t (fun q o' hq nM Cx=>by
      have:=hV q o' hq nM Cx
      by_cases jn:q=m
      ·subst jn;rw[js] at hq;cases hq;rw[hd] at nM;cases nM;exact absurd rfl ht
      ·omega) (TT _ g N w t rq)
     refine⟨fun hu=>AT.1 ?_,fun j Ψ hj=>?_⟩
     ·cases hb:ym aj t with
      |false=>rfl
      |true=>
       obtain⟨j,Ψ,hj⟩:=xG.1 hb
       rw[xG.2 ⟨j+1,Ψ,hj⟩] at hu;cases hu
     ·cases j with
      |zero=>cases hj;exact absurd rfl ht
      |succ j=>exact AT.2 j Ψ hj
   ·cases j with
    |zero=>cases hj;exact⟨m,o,aqN m,js,hd⟩
    |succ j=>
     obtain⟨q,o',h1,h2,h3⟩:=hL.Ia j t Ψ hj
     exact⟨q,o',by omega,h2,h3⟩
   ·refine h1 w g hx fun t ht=>?_
    have hu:ym aj t=false:=by
     have:=aps.1 h1b t ht
     simpa using this
    exact(hL.is g N w t (Lg t ht hE)<|(rq t ht).of (K9 E _ uB) hl).1 hu
  |r|s=>
   all_goals
    rw[hk] at h
    have hE:eQ Ks m=false:=by unfold eQ;rw[hk];rfl
    have hN:nT Ks m=false:=by unfold nT;rw[hk];rfl
    have hRS:yl Ks m=true∨MR Ks m=true:=by unfold yl MR;rw[hk];first|exact .inl rfl|exact .inr rfl
    obtain⟨d0,Nf⟩:=z.dst hE
    rcases h with ⟨X,h1,h2⟩|⟨d,Φ,hd,T',h1,h2⟩
    ·refine fin (eN X) aj (de f o.dst X) ⟨fun g N w t hV rq=>?_,fun j t Φ hj=>?_⟩ h2 fun E uB=>⟨by rw[B3 E _ uB];exact YI X,fun _=>.inl ⟨fun g N w hx hNI rq=>?_,hN,hRS⟩⟩
     ·by_cases ht:o.dst=some t
      ·have hv:g t=X:=by
        have:=rq.A0 m o (aqN m) js ht hE
        unfold nz at this
        rw[gX,oM aq,hl,aqq] at this
        exact this
       refine⟨fun _=>by rw[ht];show g t=cq f t X t;rw[jh];exact hv,fun j Φ hj=>?_⟩
       obtain⟨q,o',h1,h2,h3⟩:=hL.Ia j t Φ hj
       have:=BR q o' t h2 h3 ht
       omega
      ·have:=hL.is g N w t (fun q o' hq nM Cx=>by
        have:=hV q o' hq nM Cx
        by_cases jn:q=m
        ·subst jn;rw[js] at hq;cases hq;exact absurd nM ht
        ·omega) (TT _ g N w t rq)
       refine⟨fun hu=>?_,this.2⟩
       rw[this.1 hu,Nf]
       exact(jN f X<|fun e=>ht<|by rw[Nf,e]).symm
     ·obtain⟨q,o',h1,h2,h3⟩:=hL.Ia j t Φ hj
      exact⟨q,o',by omega,h2,h3⟩
     ·rw[B3 E _ uB]
      exact h1 w g N hx hNI fun t ht=>hL.is g N w t (Lg t ht hE) ((rq t ht).of (K9 E _ uB) hl)
    ·refine fin Φ ((d,Φ)::aj) f ⟨fun g N w t hV rq=>?_,fun j t Ψ hj=>?_⟩ h2 fun E uB=>⟨by rw[B3 E _ uB];exact T',fun _=>.inl ⟨fun g N w hx hNI rq=>?_,hN,hRS⟩⟩
     ·by_cases ht:d=t
      ·subst ht
       have hv:Φ N (g d) w:=by
        have:=rq.A0 m o (aqN m) js hd hE
        unfold nz at this
        rw[gX,oM aq,hl,aqq] at this
        exact this
       refine⟨fun hu=>?_,fun j Ψ hj=>?_⟩
       ·rw[xG.2 ⟨0,Φ,rfl⟩] at hu;cases hu
       ·cases j with
        |zero=>cases hj;exact hv
        |succ j=>
         obtain⟨q,o',h1,h2,h3⟩:=hL.Ia j d Ψ hj
         have:=BR q o' d h2 h3 hd
         omega
      ·have AT:=hL.is g N w t (fun q o' hq nM Cx=>by
        have:=hV q o' hq nM Cx
        by_cases jn:q=m
        ·subst jn;rw[js] at hq;cases hq;rw[hd] at nM;cases nM;exact absurd rfl ht
        ·omega) (TT _ g N w t rq)
       refine⟨fun hu=>AT.1 ?_,fun j Ψ hj=>?_⟩
       ·cases hb:ym aj t with
        |false=>rfl
        |true=>
         obtain⟨j,Ψ,hj⟩:=xG.1 hb
         rw[xG.2 ⟨j+1,Ψ,hj⟩] at hu;cases hu
       ·cases j with
        |zero=>cases hj;exact absurd rfl ht
        |succ j=>exact AT.2 j Ψ hj
     ·cases j with
      |zero=>cases hj;exact⟨m,o,aqN m,js,hd⟩
      |succ j=>
       obtain⟨q,o',h1,h2,h3⟩:=hL.Ia j t Ψ hj
       exact⟨q,o',by omega,h2,h3⟩
     ·rw[B3 E _ uB]
      exact h1 w g N hx hNI fun t ht=>hL.is g N w t (Lg t ht hE) ((rq t ht).of (K9 E _ uB) hl)
end
def qU (Ks:List ZK) (L:Nat→Bool):Nat→dz→dz
 |_,[]=>[]
 |i,o::r=>if eQ Ks i&&!L i then o::qU Ks L (i+1) r else qU Ks L (i+1) r
section
variable {Ks:List ZK} {L L':Nat→Bool}
theorem FV:∀(r:dz) (i:Nat) (ks:List ZK),Ks.drop i=ks→qU Ks (fun _=>false) i r=GB ks r
 |[],_,_,_=>rfl
 |o::r,i,ks,h=>by
  have M8:Ks.drop (i+1)=ks.tail:=by rw[←aqj,h];cases ks<;>rfl
  have Ud:ks.headD .r=vH Ks i:=by
   unfold vH
   rw[←h,gX]
   cases hq:Ks.drop i with
   |nil=>rw[apz (by have:=apj List.length hq;simp at this;omega)];rfl
   |cons a b=>
    have:(Ks.drop i)[0]? =some a:=by rw[hq];rfl
    rw[ap6,ap3] at this
    rw[this];rfl
  unfold qU GB
  rw[Ud,FV r (i+1) ks.tail M8]
  unfold eQ
  cases vH Ks i<;>simp[zkE]
theorem oa:∀(r:dz) (i:Nat),(∀k,i≤k→eQ Ks k=true→L k=L' k)→qU Ks L i r=qU Ks L' i r
 |[],_,_=>rfl
 |o::r,i,h=>by
  unfold qU
  rw[oa r (i+1) fun k hk=>h k aq]
  cases hE:eQ Ks i with
  |false=>simp
  |true=>rw[h i (apn _) hE]
theorem C1:∀(r:dz) (i j:Nat) (o:Oper),r[j]? =some o→eQ Ks (i+j)=true→L (i+j)=false→(∀e,i≤e→e<i+j→eQ Ks e=true→L e=true)→
  qU Ks L i r=o::qU Ks (fun k=>L k||decide (k=i+j)) i r
 |[],_,_,_,h,_,_,_=>by simp at h
 |x::r,i,0,o,h,hE,hL,_=>by
  simp only[apC,apy] at h
  subst h
  rw[ap3] at hE hL
  unfold qU
  rw[hE,hL]
  simp only[ap3,Bool.not_false,ast,decide_true,Bool.or_true,arL,asm,aq0,asq,aqe]
  congr 1
  refine oa r (i+1) fun k hk _=>?_
  rw[apv aq,aqR]
 |x::r,i,j+1,o,h,hE,hL,hb=>by
  have ih:=C1 r (i+1) j o (by simpa using h) (by rw[show i+1+j=i+(j+1) from by omega];exact hE) (by rw[show i+1+j=i+(j+1) from by omega];exact hL) fun e h1 h2 h3=>hb e aq aq h3
  rw[show i+1+j=i+(j+1) from by omega] at ih
  have h0:(eQ Ks i&&!L i)=false:=by
   cases yD:eQ Ks i with
   |false=>rfl
   |true=>rw[hb i (apn _) aq yD];rfl
  unfold qU
  rw[h0,apv (show ¬i=i+(j+1) by omega),aqR,h0]
  simpa using ih
theorem FU:∀(r:dz) (i:Nat),(∀k,i≤k→k<i+r.length→L k=true)→qU Ks L i r=[]
 |[],_,_=>rfl
 |o::r,i,h=>by
  unfold qU
  rw[h i (apn _) (by simp),FU r (i+1) fun k h1 h2=>h k aq (by simp only[jb];omega)]
  simp
end
theorem IN {l:dz} {L:Nat→Bool} (hC:∀i o,L i=true→l[i]? =some o→∀j,kY o j=true→L j=true):
  ∀(n i m:Nat) (o:Oper),l[i]? =some o→(∀j,kY o j=true→L j=true)→oZ l n i m=true→L m=true
 |0,_,_,_,_,_,h=>by cases h
 |n+1,i,m,o,ho,hd,h=>by
  simp only[oZ,ho,apw] at h
  rcases h with h|h
  ·exact hd m h
  ·obtain⟨j,_,hj⟩:=apO.1 h
   simp only[eP] at hj
   have hlj:=hd j hj.1
   cases rk:l[j]? with
   |none=>
    have h2:=hj.2
    cases n with
    |zero=>cases h2
    |succ n=>simp[oZ,rk] at h2
   |some o'=>exact IN hC n j m o' rk (hC j o' hlj rk) hj.2
section
variable {P:Program} {n:Nat} {l:dz} {Ks:List ZK} {w0:aJ} {ag:aJ→Prop} {f0:aR} {E:List PR} {K:aR→aJ→Prop}
def VP (P:Program) (n:Nat) (l:dz) (ag:aJ→Prop) (o:Oper) (g:aR) (d:Nat):Prop:=∀(w2:aJ) (g2:aR),ag w2→(∀t∈o.looksAt l.toArray,g2 t=g t)→SO P n l.toArray o g2 w2 (fun f' w'=>f'=de g2 o.dst (g d)∧w'=w2)
structure J1 (l:dz) (Ks:List ZK) (w0:aJ) (f0:aR) (E:List PR) (L:Nat→Bool) (f:aR) (w:aJ) (N:cg):Prop where
 ni:Ft w0 N w
 dis:∀(p q:Nat) (o o':Oper) (d d':Nat),L p=true→L q=true→p≠q→l[p]? =some o→l[q]? =some o'→nT Ks p=true→nT Ks q=true→o.dst=some d→o'.dst=some d'→f d≠f d'
 no:∀e,e<l.length→eQ Ks e=true→L e=false
 ext:Ext w0 w
 off:∀t,(∀(q:Nat) (o:Oper),l[q]? =some o→o.dst=some t→eQ Ks q=true)→f t=f0 t
 A0:∀(q:Nat) (o:Oper) (t:Nat),L q=true→l[q]? =some o→o.dst=some t→eQ Ks q=false→nz E q N (f t) w
structure J2 (P:Program) (n:Nat) (l:dz) (Ks:List ZK) (ag:aJ→Prop) (K:aR→aJ→Prop) (L:Nat→Bool) (f:aR) (w:aJ) (g:aR) (V:Nat→Bool):Prop where
 rd:∀(q:Nat) (o:Oper),l[q]? =some o→yl Ks q=true→L q=true
 eq:∀t,t<n→(∀(q:Nat) (o:Oper),l[q]? =some o→o.dst=some t→(eQ Ks q=false∨V q=true)→L q=true)→g t=f t
 vp:∀(q:Nat) (o:Oper) (d:Nat),l[q]? =some o→o.dst=some d→(eQ Ks q=false∨V q=true)→L q=false→VP P n l ag o g d
 i:ag w
 we:WE P n l.toArray ag K (qU Ks (fun k=>L k||V k) 0 l) g w
 vx:∀q,V q=true→tT l Ks q=true
 vl:∀q,V q=true→∀e,e<q→eQ Ks e=true→jY l e=false→L e=true
 vd:∀q,V q=true→∀m,m<q→tT l Ks m=true→L m=false→V m=true
def NF (l:dz) (Ks:List ZK) (L V:Nat→Bool) (m:Nat):Prop:=∀q,q<m→tT l Ks q=true→L q=false→(∀e,e<q→eQ Ks e=true→jY l e=false→L e=true)→V q=true
theorem ZG (lX:(l.filterMap (·.dst)).Nodup) (hZ:∀(i:Nat) (o:Oper),l[i]? =some o→Z1 n l Ks i o) (hF:∀(i:Nat) (o:Oper),l[i]? =some o→Fact P n l Ks w0 ag f0 E i o) {L:Nat→Bool} {f:aR} {w:aJ} {N:cg}
  (h:J1 l Ks w0 f0 E L f w N) (hI:∀w',Ext w0 w'→ag w') (hR:∀(q:Nat) (o:Oper),l[q]? =some o→yl Ks q=true→L q=true) (eH:∀(i:Nat) (o:Oper) (d:Nat),l[i]? =some o→o.dst=some d→d<n):∀m,m≤l.length→
  ∃g:aR,(∀t,(∀(q:Nat) (o:Oper),q<m→l[q]? =some o→o.dst=some t→eQ Ks q=false→L q=true)→g t=f t)∧
   (∀(q:Nat) (o:Oper) (d:Nat),q<m→l[q]? =some o→o.dst=some d→eQ Ks q=false→L q=false→VP P n l ag o g d)∧
   (∀(q:Nat) (o:Oper) (t:Nat),q<m→l[q]? =some o→o.dst=some t→eQ Ks q=false→nz E q N (g t) w)
 |0,_=>⟨f,fun _ _=>rfl,fun q o d hq=>absurd hq (aq2 _),fun q o t hq=>absurd hq (aq2 _)⟩
 |m+1,hm=>by
  obtain⟨g,g1,g2,g3⟩:=ZG lX hZ hF h hI hR eH m aq
  have js:l[m]? =some l[m]:=eB aq
  generalize l[m]=o at js
  have z:=hZ m o js
  have uniq:∀(q q':Nat) (a b:Oper) (t:Nat),l[q]? =some a→l[q']? =some b→a.dst=some t→b.dst=some t→q=q':=fun q q' a b t h1 h2 h3 h4=>
   il (·.dst) l lX q q' a b h1 h2 (by show a.dst.isSome=true;rw[h3];rfl) (by show a.dst=b.dst;rw[h3,h4])
  cases hE:eQ Ks m with
  |true=>
   refine⟨g,fun t ht=>g1 t fun q o' hq=>ht q o' aq,fun q o' d hq h1 h2 h3 h4=>?_,fun q o' t hq h1 h2 h3=>?_⟩
   ·by_cases jn:q=m
    ·subst jn;rw[hE] at h3;cases h3
    ·exact g2 q o' d aq h1 h2 h3 h4
   ·by_cases jn:q=m
    ·subst jn;rw[hE] at h3;cases h3
    ·exact g3 q o' t aq h1 h2 h3
  |false=>
   obtain⟨d,hd⟩:=z.dst hE
   have gd:g d=f d:=g1 d fun q o' hq h1 h2 h3=>by have:=uniq q m o' o d h1 js h2 hd;omega
   cases Us:L m with
   |true=>
    refine⟨g,fun t ht=>g1 t fun q o' hq=>ht q o' aq,fun q o' d' hq h1 h2 h3 h4=>?_,fun q o' t hq h1 h2 h3=>?_⟩
    ·by_cases jn:q=m
     ·subst jn;rw[Us] at h4;cases h4
     ·exact g2 q o' d' aq h1 h2 h3 h4
    ·by_cases jn:q=m
     ·subst jn
      rw[js] at h1;cases h1
      rw[hd] at h2;cases h2
      rw[gd];exact h.A0 q o d Us js hd hE
     ·exact g3 q o' t aq h1 h2 h3
   |false=>
    
    have Uc:∀t∈o.looksAt l.toArray,t≠d∧∀(q:Nat) (o':Oper),l[q]? =some o'→o'.dst=some t→eQ Ks q=false→q<m:=by
     intro t ht
     rcases (z.look t ht).2 with h1|⟨j,tR,hj, -,qM,uw, -⟩
     ·exact⟨fun e=>h1 m o js (by rw[hd,e]),fun q o' hq nM _=>absurd nM (h1 q o' hq)⟩
     ·refine⟨fun e=>?_,fun q o' hq nM _=>?_⟩
      ·have:=uniq j m tR o d qM js (by rw[uw,e]) hd;omega
      ·have:=uniq q j o' tR t hq qM nM uw;omega
    have zn:∀t∈o.looksAt l.toArray,Kn l Ks f0 E m g N w t:=fun t ht=>⟨fun Gk=>by
      rw[g1 t fun q o' hq h1 h2 h3=>absurd h3 (by rw[Gk q o' h1 h2];decide)]
      exact h.off t Gk,fun q o' hq h1 h2 h3=>g3 q o' t hq h1 h2 h3⟩
    have key:∃v,nz E m N v w∧∀(w2:aJ) (g2:aR),ag w2→(∀t∈o.looksAt l.toArray,g2 t=g t)→SO P n l.toArray o g2 w2 (fun f' w'=>f'=de g2 o.dst v∧w'=w2):=by
     rcases (hF m o js).go hE with ⟨hFR, -,hk⟩|⟨⟨X,hX,hFF⟩, -⟩|⟨-,hk⟩
     ·rcases hk with hk|hk
      ·have:=hR m o js hk;rw[Us] at this;cases this
      ·obtain⟨v,hv,Cn⟩:=V4 (z.slot hk) ⟨d,hd,eH m o d js hd⟩ (hFR g N w h.ext h.ni zn)
       exact⟨v,hv,fun w2 g2 _ hg=>Cn g2 w2 hg⟩
     rotate_left
     ·have:=hR m o js (by unfold nT at hk;unfold yl;cases hq:vH Ks m<;>rw[hq] at hk<;>first|rfl|cases hk);rw[Us] at this;cases this
     ·refine⟨X,by rw[hX];rfl,fun w2 g2 HF hg=>hFF g2 N w2 w HF fun t ht=>?_⟩
      have k:=zn t ht
      exact⟨fun Gk=>by rw[hg t ht];exact k.off Gk,fun q o' hq h1 h2 h3=>by rw[hg t ht];exact k.A0 q o' hq h1 h2 h3⟩
    obtain⟨v,hv,hvp⟩:=key
    have gI:∀t,t≠d→cq g d v t=g t:=fun t ht=>jN g v ht
    refine⟨cq g d v,fun t ht=>?_,fun q o' d' hq h1 h2 h3 h4=>?_,fun q o' t hq h1 h2 h3=>?_⟩
    ·have Dv:t≠d:=fun e=>by
      have:=ht m o (aqN m) js (by rw[hd,e]) hE
      rw[Us] at this;cases this
     rw[gI t Dv]
     exact g1 t fun q o' hq=>ht q o' aq
    ·by_cases jn:q=m
     ·subst jn
      rw[js] at h1;cases h1
      rw[hd] at h2;cases h2
      intro w2 gg HF hg
      rw[jh]
      exact hvp w2 gg HF fun t ht=>by rw[hg t ht,gI t (Uc t ht).1]
     ·have Nc:d'≠d:=fun e=>jn<|uniq q m o' o d h1 js (by rw[h2,e]) hd
      have zq:=hZ q o' h1
      intro w2 gg HF hg
      rw[gI d' Nc]
      refine g2 q o' d' aq h1 h2 h3 h4 w2 gg HF fun t ht=>?_
      rw[hg t ht]
      refine gI t fun e=>?_
      rcases (zq.look t ht).2 with h5|⟨j,tR,hj, -,qM,uw, -⟩
      ·exact h5 m o js<|by rw[hd,e]
      ·have:=uniq j m tR o d qM js (by rw[uw,e]) hd;omega
    ·by_cases jn:q=m
     ·subst jn
      rw[js] at h1;cases h1
      rw[hd] at h2;cases h2
      rw[jh];exact hv
     ·rw[gI t fun e=>jn (uniq q m o' o d h1 js (by rw[h2,e]) hd)]
      exact g3 q o' t aq h1 h2 h3
theorem Tu (a b:Bool) (c:Prop) [Decidable c]:((a||b)||decide c)=(a||(b||decide c)):=by cases a<;>cases b<;>rfl
theorem ZH (lX:(l.filterMap (·.dst)).Nodup) (hZ:∀(i:Nat) (o:Oper),l[i]? =some o→Z1 n l Ks i o) (eH:∀(i:Nat) (o:Oper) (d:Nat),l[i]? =some o→o.dst=some d→d<n) {L:Nat→Bool} {f g0:aR} {w:aJ} {V0:Nat→Bool} (h0:J2 P n l Ks ag K L f w g0 V0):∀m,m≤l.length→
  ∃g V,J2 P n l Ks ag K L f w g V∧NF l Ks L V m
 |0,_=>⟨g0,V0,h0,fun q hq=>absurd hq (aq2 _)⟩
 |m+1,hm=>by
  obtain⟨g,V,h,hN⟩:=ZH lX hZ eH h0 m aq
  have uniq:∀(q q':Nat) (a b:Oper) (t:Nat),l[q]? =some a→l[q']? =some b→a.dst=some t→b.dst=some t→q=q':=fun q q' a b t h1 h2 h3 h4=>
   il (·.dst) l lX q q' a b h1 h2 (by show a.dst.isSome=true;rw[h3];rfl) (by show a.dst=b.dst;rw[h3,h4])
  by_cases hgo:tT l Ks m=true∧L m=false∧V m=false∧∀e,e<m→eQ Ks e=true→jY l e=false→L e=true
  rotate_left
  ·refine⟨g,V,h,fun q hq hx hL hr=>?_⟩
   by_cases jn:q=m
   ·subst jn
    cases hV:V q with
    |true=>rfl
    |false=>exact absurd ⟨hx,hL,hV,hr⟩ hgo
   ·exact hN q aq hx hL hr
  obtain⟨hx,hL,hV,hr⟩:=hgo
  have js:l[m]? =some l[m]:=eB aq
  generalize l[m]=o at js
  have z:=hZ m o js
  have Hu:eQ Ks m=true∧jY l m=true:=by
   have:=hx;unfold tT at this;rwa [eP] at this
  have hso:tH o=true:=by have:=Hu.2;unfold jY at this;rwa [js] at this
  obtain⟨⟨d,hd⟩, -⟩:=z.xd Hu.1 hso
  have tl:=eH m o d js hd
  have hbV:∀e,e<m→eQ Ks e=true→(L e||V e)=true:=by
   intro e he nt
   cases rh:jY l e with
   |false=>rw[hr e he nt rh];rfl
   |true=>
    cases hLe:L e with
    |true=>rfl
    |false=>rw[hN e he (by unfold tT;rw[nt,rh];rfl) hLe fun e' h1 h2 h3=>hr e' aq h2 h3];rfl
  have yp:=h.we
  rw[C1 l 0 m o js (by rw[ap_];exact Hu.1) (by rw[ap_,hL,hV];rfl) (fun e _ h2 h3=>hbV e aq h3)] at yp
  simp only[ap_] at yp
  have hsr:=SO.Yy (show SO P n l.toArray o g w _ from yp) z.sel<|fun t _=>rfl
  obtain⟨v,⟨g',hg',Zo,E6⟩,kU⟩:=Jw (P:=P) (n:=n) (ops:=l.toArray) (ai:=fun v w'=>∃g',cp n g'=cp n (de g o.dst v)∧ag w'∧WE P n l.toArray ag K (qU Ks (fun k=>(L k||V k)||decide (k=m)) 0 l) g' w') hso ⟨d,hd,tl⟩ (hsr.mono fun f' w' ⟨v,g',e1,e2,e3,e4⟩=>⟨v,e1,trivial,g',e2,e3,e4⟩)
  have Kh:∀t,t<n→g' t=cq g d v t:=by
   intro t ht
   have:(cp n g').tmps[t]? =(cp n (de g o.dst v)).tmps[t]?:=by rw[hg']
   rw[hd] at this
   simpa [cp,ht,de] using this
  have Zm:∀q,(V q||decide (q=m))=true→q≠m→V q=true:=fun q h4 jn=>by
   rcases aqg.1 h4 with h4|h4
   ·exact h4
   ·exact absurd (by simpa using h4) jn
  
  have agI:∀(q:Nat) (o':Oper),l[q]? =some o'→q≠m→(eQ Ks q=false∨V q=true)→∀t∈o'.looksAt l.toArray,t≠d:=by
   intro q o' hq jn DE t ht e
   subst e
   rcases ((hZ q o' hq).look t ht).2 with h5|⟨j,tR,hj, -,qM,uw,hj4⟩
   ·exact h5 m o js hd
   ·have:=uniq j m tR o t qM js uw hd
    subst this
    rcases DE with h6|h6
    ·rw[hj4 h6] at Hu;cases Hu.1
    ·have:=h.vd q h6 j hj hx hL
     rw[hV] at this;cases this
  refine⟨g',fun k=>V k||decide (k=m),⟨h.rd,fun t ht hq=>?_,fun q o' d' h1 h2 h3 h4=>?_,h.i,?_,fun q hq=>?_,fun q hq e he nt rh=>?_,fun q hq m' hm' qH Fb=>?_⟩,fun q hq qH Fb hr'=>?_⟩
  ·have Dv:t≠d:=fun e=>by
    have:=hq m o js (by rw[hd,e])<|.inr (by simp)
    rw[hL] at this;cases this
   rw[Kh t ht,jN g v Dv]
   exact h.eq t ht fun q o' h1 h2 h3=>hq q o' h1 h2 (h3.imp id fun h=>by rw[h];rfl)
  ·by_cases jn:q=m
   ·subst jn
    rw[js] at h1;cases h1
    rw[hd] at h2;cases h2
    intro w2 gg _ hg
    rw[Kh d tl,jh]
    refine kU gg w2 fun t ht=>?_
    have hk:=z.look t ht
    rw[hg t ht,Kh t hk.1]
    refine jN g v fun e=>?_
    rcases hk.2 with h5|⟨j,tR,hj, -,qM,uw, -⟩
    ·exact h5 q o js<|by rw[hd,e]
    ·have:=uniq j q tR o d qM js (by rw[uw,e]) hd;omega
   ·have DE:eQ Ks q=false∨V q=true:=h3.imp id fun h=>Zm q h jn
    have hv:=h.vp q o' d' h1 h2 DE h4
    have Nc:d'≠d:=fun e=>jn<|uniq q m o' o d h1 js (by rw[h2,e]) hd
    intro w2 gg HF hg
    rw[Kh d' (eH q o' d' h1 h2),jN g v Nc]
    refine hv w2 gg HF fun t ht=>?_
    rw[hg t ht,Kh t ((hZ q o' h1).look t ht).1]
    exact jN g v<|agI q o' h1 jn DE t ht
  ·rw[oa (L':=fun k=>(L k||V k)||decide (k=m)) l 0 fun k _ _=>(Tu _ _ _).symm]
   exact E6
  ·by_cases jn:q=m
   ·subst jn;exact hx
   ·exact h.vx q<|Zm q hq jn
  ·by_cases jn:q=m
   ·subst jn;exact hr e he nt rh
   ·exact h.vl q (Zm q hq jn) e he nt rh
  ·show (V m'||decide (m'=m))=true
   by_cases jn:q=m
   ·subst jn
    rw[hN m' hm' qH Fb fun e h1 h2 h3=>hr e aq h2 h3];rfl
   ·rw[h.vd q (Zm q hq jn) m' hm' qH Fb];rfl
  ·show (V q||decide (q=m))=true
   by_cases jn:q=m
   ·subst jn;simp
   ·rw[hN q aq qH Fb hr'];rfl
theorem SI (lX:(l.filterMap (·.dst)).Nodup) (hZ:∀(i:Nat) (o:Oper),l[i]? =some o→Z1 n l Ks i o) (eH:∀(i:Nat) (o:Oper) (d:Nat),l[i]? =some o→o.dst=some d→d<n) {L:Nat→Bool} {f g:aR} {w:aJ} {V:Nat→Bool} (h:J2 P n l Ks ag K L f w g V) (hN:NF l Ks L V l.length) {i:Nat} {o:Oper}
  (ho:l[i]? =some o) (hE:eQ Ks i=true) (hS:jY l i=false) (uA:L i=false) (hb:∀e,e<i→eQ Ks e=true→jY l e=false→L e=true) (tl:∀j,kY o j=true→L j=true):
  SO P n l.toArray o f w (fun f' w'=>∃g' V',J2 P n l Ks ag K (fun k=>L k||decide (k=i)) f' w' g' V'∧NF l Ks (fun k=>L k||decide (k=i)) V' l.length):=by
 have z:=hZ i o ho
 have jU:=(dZ.1 ho).1
 have uniq:∀(q q':Nat) (a b:Oper) (t:Nat),l[q]? =some a→l[q']? =some b→a.dst=some t→b.dst=some t→q=q':=fun q q' a b t h1 h2 h3 h4=>
  il (·.dst) l lX q q' a b h1 h2 (by show a.dst.isSome=true;rw[h3];rfl) (by show a.dst=b.dst;rw[h3,h4])
 have hXi:tT l Ks i=false:=by unfold tT;rw[hS,asm]
 have hVi:V i=false:=by
  cases hq:V i with
  |false=>rfl
  |true=>rw[h.vx i hq] at hXi;cases hXi
 have DE:∀q,(eQ Ks q=false∨V q=true)→q≠i:=fun q h3 e=>by
  subst e
  rcases h3 with h3|h3
  ·rw[hE] at h3;cases h3
  ·rw[hVi] at h3;cases h3
 have hbV:∀e,e<i→eQ Ks e=true→(L e||V e)=true:=by
  intro e he nt
  cases rh:jY l e with
  |false=>rw[hb e he nt rh];rfl
  |true=>
   cases hLe:L e with
   |true=>rfl
   |false=>rw[hN e aq (by unfold tT;rw[nt,rh];rfl) hLe fun e' h1 h2 h3=>hb e' aq h2 h3];rfl
 have yp:=h.we
 rw[C1 l 0 i o ho (by rw[ap_];exact hE) (by rw[ap_,uA,hVi];rfl) (fun e _ h2 h3=>hbV e aq h3)] at yp
 simp only[ap_] at yp
 have Uc:∀t∈o.looksAt l.toArray,f t=g t:=by
  intro t ht
  have q:=z.look t ht
  refine(h.eq t q.1 fun q' o' h1 h2 h3=>?_).symm
  rcases q.2 with h4|⟨j,tR,hj,M9,qM,uw, -⟩
  ·exact absurd h2<|h4 q' o' h1
  ·rw[uniq q' j o' tR t h1 qM h2 uw];exact tl j M9
 refine(SO.Yy (show SO P n l.toArray o g w _ from yp) z.sel Uc).mono ?_
 rintro f' w' ⟨v,g',rfl,hg',Zo,E6⟩
 have Kh:∀t,t<n→g' t=de g o.dst v t:=by
  intro t ht
  have:(cp n g').tmps[t]? =(cp n (de g o.dst v)).tmps[t]?:=by rw[hg']
  simpa [cp,ht] using this
 refine ZH (V0:=V) lX hZ eH (L:=fun k=>L k||decide (k=i)) (g0:=g') ⟨fun q o' h1 h2=>by rw[h.rd q o' h1 h2];rfl,fun t ht hq=>?_,fun q o' d h1 h2 h3 h4=>?_,Zo,?_,h.vx,fun q hq e he nt rh=>by rw[h.vl q hq e he nt rh];rfl,fun q hq m hm hx hL=>h.vd q hq m hm hx ?_⟩ l.length<|apn _
 ·rw[Kh t ht]
  cases hd:o.dst with
  |none=>
   show g t=f t
   refine h.eq t ht fun q o' h1 h2 h3=>?_
   rcases aqg.1 (hq q o' h1 h2 h3) with h4|h4
   ·exact h4
   ·exact absurd (by simpa using h4)<|DE q h3
  |some d=>
   show cq g d v t=cq f d v t
   by_cases Dv:t=d
   ·subst Dv;rw[jh,jh]
   ·rw[jN g v Dv,jN f v Dv]
    refine h.eq t ht fun q o' h1 h2 h3=>?_
    rcases aqg.1 (hq q o' h1 h2 h3) with h4|h4
    ·exact h4
    ·exact absurd (by simpa using h4)<|DE q h3
 ·have h4':L q=false:=by
   cases hq:L q with
   |false=>rfl
   |true=>rw[hq] at h4;cases h4
  have hv:=h.vp q o' d h1 h2 h3 h4'
  have gI:∀t,t<n→o.dst≠some t→g' t=g t:=by
   intro t ht hd
   rw[Kh t ht]
   cases nM:o.dst with
   |none=>rfl
   |some d'=>exact jN g v fun e=>hd (by rw[nM,e])
  intro w2 gg HF hg
  rw[gI d (eH q o' d h1 h2) (fun e=>DE q h3 (uniq q i o' o d h1 ho h2 e))]
  refine hv w2 gg HF fun t ht=>?_
  rw[hg t ht]
  have zq:=(hZ q o' h1).look t ht
  refine gI t zq.1 fun e=>?_
  rcases zq.2 with h5|⟨j,tR,hj, -,qM,uw,hj4⟩
  ·exact h5 i o ho e
  ·have:=uniq j i tR o t qM ho uw e
   subst this
   rcases h3 with h3|h3
   ·rw[hj4 h3] at hE;cases hE
   ·rw[h.vl q h3 j hj hE hS] at uA;cases uA
 ·rw[oa (L':=fun k=>(L k||V k)||decide (k=i)) l 0 fun k _ _=>by cases L k<;>cases V k<;>cases decide (k=i)<;>rfl]
  exact E6
 ·cases hq:L m with
  |false=>rfl
  |true=>simp[hq] at hL
theorem MB {Ks:List ZK} {d:Nat}:∀(r:dz) (i:Nat) (ks:List ZK),Ks.drop i=ks→d∈F1 ks r→∃(j:Nat) (o:Oper),r[j]? =some o∧nT Ks (i+j)=true∧o.dst.getD 0=d
 |[],_,_,_,h=>by cases h
 |o::r,i,ks,h,hd=>by
  have M8:Ks.drop (i+1)=ks.tail:=by rw[←aqj,h];cases ks<;>rfl
  have Ud:ks.headD .r=vH Ks i:=by
   unfold vH
   rw[←h,gX]
   cases hq:Ks.drop i with
   |nil=>rw[apz (by have:=apj List.length hq;simp at this;omega)];rfl
   |cons a b=>
    have:(Ks.drop i)[0]? =some a:=by rw[hq];rfl
    rw[ap6,ap3] at this
    rw[this];rfl
  have adV:d∈F1 ks.tail r→∃(j:Nat) (o':Oper),(o::r)[j]? =some o'∧nT Ks (i+j)=true∧o'.dst.getD 0=d:=fun hd=>by
   obtain⟨j,o',h1,h2,h3⟩:=MB r (i+1) ks.tail M8 hd
   exact⟨j+1,o',by simpa using h1,by rw[show i+(j+1)=i+1+j from by omega];exact h2,h3⟩
  unfold F1 at hd
  rw[Ud] at hd
  cases hk:vH Ks i with
  |n=>
   rw[hk] at hd
   rcases apD.1 hd with rfl|hd
   ·exact⟨0,o,J,by rw[ap3];unfold nT;rw[hk];rfl,J⟩
   ·exact adV hd
  |_=>rw[hk] at hd;exact adV hd
theorem mw {id:Nat} {Q:Exit→Act→aJ→Prop} {f:aR} {w:aJ} (Ks:List ZK) (ag:aJ→Prop) (hm:P.follows .mixedOrders=true) (qK:okZ n l Ks=true) (hI:∀w',Ext w w'→ag w')
  (h:PZ P n l.toArray w ag (KZ P n l.toArray Q w ag (GB Ks l) (F1 Ks l)) l Ks [] f):WC P n (.region id l.toArray true) Q f w:=by
 simp only[okZ,eP] at qK
 obtain⟨hE,hN,hn,h1⟩:=qK
 have lX:(l.filterMap (·.dst)).Nodup:=pc _ hN
 have eH:∀(i:Nat) (o:Oper) (d:Nat),l[i]? =some o→o.dst=some d→d<n:=by
  intro i o d hi hd
  have:=aps.1 hn d<|apR.2 ⟨o,dO hi,hd⟩
  simpa using this
 have hZ:∀(i:Nat) (o:Oper),l[i]? =some o→Z1 n l Ks i o:=fun i o hi=>by
  have:=Pt l 0 h1 i o hi
  rwa [ap_] at this
 have uniq:∀(q q':Nat) (a b:Oper) (t:Nat),l[q]? =some a→l[q']? =some b→a.dst=some t→b.dst=some t→q=q':=fun q q' a b t h1 h2 h3 h4=>
  il (·.dst) l lX q q' a b h1 h2 (by show a.dst.isSome=true;rw[h3];rfl) (by show a.dst=b.dst;rw[h3,h4])
 obtain⟨E,U',f',hEl, -,hF0,hL,hK⟩:=PZ.table (f0:=f) lX hZ l Ks 0 [] f [] rfl rfl rfl (by simp)
  ⟨fun g N w t hV rq=>⟨fun _=>rq.off fun q o h1 h2=>by
   cases hq:eQ Ks q with
   |true=>rfl
   |false=>exact absurd (hV q o h1 h2 hq) (aq2 _),fun j Φ hj=>by simp at hj⟩,fun j t Φ hj=>by simp at hj⟩ h
 have hF:∀(i:Nat) (o:Oper),l[i]? =some o→Fact P n l Ks w ag f E i o:=fun i o hi=>hF0 i o (aqH _) hi
 have Gl:∀d,d∈F1 Ks l→∃(q:Nat) (o:Oper),l[q]? =some o∧nT Ks q=true∧o.dst=some d:=fun d hd=>by
  obtain⟨j,o,h2,h3,h4⟩:=MB l 0 Ks rfl hd
  rw[ap_] at h3
  have gI:eQ Ks j=false:=by unfold nT at h3;unfold eQ;cases hq:vH Ks j<;>rw[hq] at h3<;>first|rfl|exact Bool.noConfusion h3
  obtain⟨d',nM⟩:=(hZ j o h2).dst gI
  rw[nM] at h4
  exact⟨j,o,h2,h3,by rw[nM];exact apj some h4⟩
 have Zn:∀q,nT Ks q=true→yl Ks q=true:=fun q h3=>by unfold nT at h3;unfold yl;cases hq:vH Ks q<;>rw[hq] at h3<;>first|rfl|exact Bool.noConfusion h3
 refine drj (P:=P) (Q:=Q) (fun L g w'=>(∀(i:Nat) (o:Oper),L i=true→l[i]? =some o→∀j,kY o j=true→L j=true)∧((∃N,J1 l Ks w f E L g w' N)∨∃g2 V,J2 P n l Ks ag (fun f w=>Q .normal (cp n f) w) L g w' g2 V∧NF l Ks L V l.length)) hm hE ?_ ?_ ?_
 ·exact⟨fun i o hi=>Bool.noConfusion hi,.inl ⟨fun _=>False,fun b hb=>hb.elim,fun p q o o' d d' hp=>Bool.noConfusion hp,fun e _ _=>rfl,Ext.drew w,fun t _=>rfl,fun q o t hq=>Bool.noConfusion hq⟩⟩
 ·rintro L g w' i o ho uA hLl tl ⟨hC,hJ⟩
  have z:=hZ i o ho
  have jU:=(dZ.1 ho).1
  have Nk:∀(q:Nat) (o':Oper),(L q||decide (q=i))=true→l[q]? =some o'→∀j,kY o' j=true→(L j||decide (j=i))=true:=by
   intro q o' hq uq j hj
   rcases aqg.1 hq with h1|h1
   ·rw[hC q o' h1 uq j hj];rfl
   ·have:q=i:=by simpa using h1
    subst this
    rw[ho] at uq;cases uq
    rw[tl j hj];rfl
  have late:∀(g2:aR) (V:Nat→Bool),J2 P n l Ks ag (fun f w=>Q .normal (cp n f) w) L g w' g2 V→NF l Ks L V l.length→∀d,o.dst=some d→(eQ Ks i=false∨V i=true)→(eQ Ks i=true→tT l Ks i=true)→
    SO P n l.toArray o g w' (fun Fh mK=>∃g2 V,J2 P n l Ks ag (fun f w=>Q .normal (cp n f) w) (fun k=>L k||decide (k=i)) Fh mK g2 V∧NF l Ks (fun k=>L k||decide (k=i)) V l.length):=by
   intro g2 V hJ HE d hd DE agE
   have Uc:∀t∈o.looksAt l.toArray,g t=g2 t:=by
    intro t ht
    have q:=z.look t ht
    refine(hJ.eq t q.1 fun q' o' h1 h2 h3=>?_).symm
    rcases q.2 with h4|⟨j,tR,hj,M9,qM,uw, -⟩
    ·exact absurd h2<|h4 q' o' h1
    ·rw[uniq q' j o' tR t h1 qM h2 uw];exact tl j M9
   have Zf:∀q,(L q||decide (q=i))=true→q≠i→L q=true:=fun q h4 tV=>by
    rcases aqg.1 h4 with h4|h4
    ·exact h4
    ·exact absurd (by simpa using h4) tV
   have hLf:∀q,(L q||decide (q=i))=false→L q=false:=fun q h4=>by
    cases hq:L q with
    |false=>rfl
    |true=>simp[hq] at h4
   refine(hJ.vp i o d ho hd DE uA w' g hJ.i Uc).mono ?_
   rintro Fh mK ⟨rfl,rfl⟩
   refine⟨g2,V,⟨fun q o' h1 h2=>by rw[hJ.rd q o' h1 h2];rfl,fun t ht hq=>?_,fun q o' d' h1 h2 h3 h4=>hJ.vp q o' d' h1 h2 h3 (hLf q h4),hJ.i,?_,hJ.vx,fun q hq e he nt rh=>by rw[hJ.vl q hq e he nt rh];rfl,fun q hq m hm hx Fb=>hJ.vd q hq m hm hx (hLf m Fb)⟩,fun q hq hx Fb hr=>HE q hq hx (hLf q Fb) fun e he nt rh=>Zf e (hr e he nt rh) fun e'=>?_⟩
   ·rw[hd]
    show g2 t=cq g d (g2 d) t
    by_cases Dv:t=d
    ·subst Dv;rw[jh]
    ·rw[jN g _ Dv]
     refine hJ.eq t ht fun q o' h1 h2 h3=>Zf q (hq q o' h1 h2 h3) fun e=>?_
     subst e
     rw[ho] at h1;cases h1
     rw[hd] at h2;cases h2
     exact Dv J
   ·rw[oa (L':=fun k=>L k||V k) l 0 fun k _ hk=>?_]
    ·exact hJ.we
    ·by_cases AS:k=i
     ·subst AS
      rcases DE with h1|h1
      ·rw[h1] at hk;cases hk
      ·simp[h1]
     ·rw[apv AS,aqR]
   ·subst e'
    have:=agE nt
    unfold tT at this
    rw[rh,asm] at this;cases this
  cases yD:eQ Ks i with
  |true=>
   have hb:∀e,e<i→eQ Ks e=true→jY l e=false→L e=true:=fun e he nt rh=>IN hC l.length i e o ho tl<|z.ord yD e he nt rh
   have hsl:tH o=jY l i:=by unfold jY;rw[ho]
   have hR:∀(q:Nat) (o':Oper),l[q]? =some o'→yl Ks q=true→L q=true:=fun q o' hq hk=>by
    have:=(hZ q o' hq).rd hk i jU yD
    exact IN hC l.length i q o ho tl this
   rcases hJ with ⟨N,hJ⟩|⟨g2,V,hJ,HE⟩
   ·have Kk:jY l i=false:=by
     cases Kk:jY l i with
     |false=>rfl
     |true=>
      obtain⟨-,e,he,nt,rh⟩:=z.xd yD (by rw[hsl,Kk])
      have h1:=hb e he nt rh
      rw[hJ.no e aq nt] at h1;cases h1
    obtain⟨g2,q1,q2,q3⟩:=ZG lX hZ hF hJ hI hR eH l.length (apn _)
    have zn:∀t,Kn l Ks f E l.length g2 N w' t:=fun t=>⟨fun Gk=>by
      rw[q1 t fun q o' _ h1 h2 h3=>absurd h3 (by rw[Gk q o' h1 h2];decide)]
      exact hJ.off t Gk,fun q o' hq h1 h2 h3=>q3 q o' t hq h1 h2 h3⟩
    have hV:∀t,ZW l Ks l.length t:=fun t q o' h1 _ _=>(dZ.1 h1).1
    have yp:=hK w' g2 N hJ.ext hJ.ni (fun d d' h1 h2 h3=>by
     obtain⟨p,o1,a1,a2,a3⟩:=Gl d h1
     obtain⟨q,o2,b1,b2,b3⟩:=Gl d' h2
     have e1:g2 d=g d:=q1 d fun q' o' _ c1 c2 _=>by rw[uniq q' p o' o1 d c1 a1 c2 a3];exact hR p o1 a1 (Zn p a2)
     have e2:g2 d'=g d':=q1 d' fun q' o' _ c1 c2 _=>by rw[uniq q' q o' o2 d' c1 b1 c2 b3];exact hR q o2 b1 (Zn q b2)
     rw[e1,e2]
     exact hJ.dis p q o1 o2 d d' (hR p o1 a1 (Zn p a2)) (hR q o2 b1 (Zn q b2)) (fun e=>h3 (by subst e;rw[a1] at b1;cases b1;rw[a3] at b3;exact apm b3)) a1 b1 a2 b2 a3 b3) (fun t ht=>(hL.is g2 N w' t (hV t) (zn t)).1 ht) (fun j t Φ hj=>(hL.is g2 N w' t (hV t) (zn t)).2 j Φ hj)
    have hJ2:J2 P n l Ks ag (fun f w=>Q .normal (cp n f) w) L g w' g2 (fun _=>false):=by
     refine⟨hR,fun t _ ht=>q1 t fun q o' _ h1 h2 h3=>ht q o' h1 h2 (.inl h3),fun q o' d h1 h2 h3=>q2 q o' d (dZ.1 h1).1 h1 h2 (h3.resolve_right aw),hI w' hJ.ext,?_,fun q hq=>(by cases hq),fun q hq=>(by cases hq),fun q hq=>(by cases hq)⟩
     rw[oa (L':=L) l 0 fun k _ _=>aqR _]
     have:qU Ks L 0 l=GB Ks l:=by
      rw[←FV l 0 Ks rfl]
      refine oa l 0 fun k _ hk=>?_
      by_cases AR:k<l.length
      ·exact hJ.no k AR hk
      ·cases hLk:L k with
       |false=>rfl
       |true=>exact absurd (hLl k hLk) AR
     rw[this];exact yp
    have HE:NF l Ks L (fun _=>false) l.length:=fun q hq hx _ hr=>by
     have qH:eQ Ks q=true∧jY l q=true:=by unfold tT at hx;rwa [eP] at hx
     have uq:l[q]? =some l[q]:=eB hq
     obtain⟨-,e,he,nt,rh⟩:=(hZ q _ uq).xd qH.1 (by have:=qH.2;unfold jY at this;rwa [uq] at this)
     have h1:=hr e he nt rh
     rw[hJ.no e aq nt] at h1;cases h1
    exact(SI lX hZ eH hJ2 HE ho yD Kk uA hb tl).mono fun Fh mK h=>⟨Nk,.inr h⟩
   ·cases Kk:jY l i with
    |false=>exact(SI lX hZ eH hJ HE ho yD Kk uA hb tl).mono fun Fh mK h=>⟨Nk,.inr h⟩
    |true=>
     obtain⟨⟨d,hd⟩, -⟩:=z.xd yD (by rw[hsl,Kk])
     exact(late g2 V hJ HE d hd (.inr (HE i jU (by unfold tT;rw[yD,Kk];rfl) uA hb))<|fun Zp=>by unfold tT;rw[Kk,ast];exact Zp).mono fun Fh mK h=>⟨Nk,.inr h⟩
  |false=>
   obtain⟨d,hd⟩:=z.dst yD
   rcases hJ with ⟨N,hJ⟩|⟨g2,V,hJ,HE⟩
   ·
    have zn:∀t∈o.looksAt l.toArray,Kn l Ks f E i g N w' t:=by
     intro t ht
     refine⟨hJ.off t,fun q o' hq h1 h2 h3=>?_⟩
     rcases (z.look t ht).2 with h4|⟨j,tR,hj,M9,qM,uw, -⟩
     ·exact absurd h2<|h4 q o' h1
     ·have hqj:=uniq q j o' tR t h1 qM h2 uw
      subst hqj
      exact hJ.A0 q o' t (tl q M9) h1 h2 h3
    have fin:∀(v:Value) (w2:aJ) (N':cg),Ext w' w2→Ft w N' w2→(∀b,N b→N' b)→(∀b,N' b→N b∨w'.heap.size≤b)→nz E i N' v w2→
      (nT Ks i=true→∀(q:Nat) (o':Oper) (d':Nat),L q=true→l[q]? =some o'→nT Ks q=true→o'.dst=some d'→g d'≠v)→J1 l Ks w f E (fun k=>L k||decide (k=i)) (de g o.dst v) w2 N':=by
     intro v w2 N' hx hni T_ hn2 hv Nb
     have Nj:∀q,(L q||decide (q=i))=true→q≠i→L q=true:=fun q h4 tV=>by
      rcases aqg.1 h4 with h4|h4
      ·exact h4
      ·exact absurd (by simpa using h4) tV
     rw[hd]
     have M5:∀(q:Nat) (o':Oper) (t:Nat),l[q]? =some o'→o'.dst=some t→q≠i→cq g d v t=g t:=fun q o' t h1 h2 tV=>jN g v<|fun e=>tV<|uniq q i o' o d h1 ho (by rw[h2,e]) hd
     refine⟨hni,fun p q o1 o2 d1 d2 hp hq Hx a1 b1 a2 b2 a3 b3=>?_,fun e he nt=>?_,hJ.ext.trans hx,fun t ht=>?_,fun q o' t hq h1 h2 h3=>?_⟩
     ·show cq g d v d1≠cq g d v d2
      by_cases T9:p=i
      ·subst T9
       have tV:q≠p:=fun e=>Hx e.symm
       rw[ho] at a1;cases a1
       rw[hd] at a3;cases a3
       rw[jh,M5 q o2 d2 b1 b3 tV]
       exact fun e=>Nb a2 q o2 d2 (Nj q hq tV) b1 b2 b3 e.symm
      ·by_cases tV:q=i
       ·subst tV
        rw[ho] at b1;cases b1
        rw[hd] at b3;cases b3
        rw[jh,M5 p o1 d1 a1 a3 T9]
        exact Nb b2 p o1 d1 (Nj p hp T9) a1 a2 a3
       ·rw[M5 p o1 d1 a1 a3 T9,M5 q o2 d2 b1 b3 tV]
        exact hJ.dis p q o1 o2 d1 d2 (Nj p hp T9) (Nj q hq tV) Hx a1 b1 a2 b2 a3 b3
     ·rw[hJ.no e he nt,apv (fun e'=>by rw[e',yD] at nt;cases nt)];rfl
     ·show cq g d v t=f t
      rw[jN g v (fun e=>by have:=ht i o ho (by rw[hd,e]);rw[yD] at this;cases this)]
      exact hJ.off t ht
     ·by_cases tV:q=i
      ·subst tV
       rw[ho] at h1;cases h1
       rw[hd] at h2;cases h2
       show nz E q N' (cq g d v d) w2
       rw[jh];exact hv
      ·show nz E q N' (cq g d v t) w2
       rw[M5 q o' t h1 h2 tV]
       exact(hF q o' h1).mono.ext _ _ _ _ hx ((hF q o' h1).mono.grow _ _ _ _ T_ hn2 (hJ.A0 q o' t (Nj q hq tV) h1 h2 h3))
    have aee:∀w2,Ext w' w2→Ft w N w2:=fun w2 hx b hb=>⟨(hJ.ni b hb).1,apV (hJ.ni b hb).2 hx.size⟩
    rcases (hF i o ho).go yD with ⟨hFR,hN, -⟩|⟨⟨X,hX,hFF⟩,hN⟩|⟨⟨zz,T,hX,hFN⟩,hN⟩
    ·refine(hFR g N w' hJ.ext hJ.ni zn).mono ?_
     rintro Fh mK ⟨v,rfl,hx,hv⟩
     exact⟨Nk,.inl ⟨N,fin v mK N hx (aee mK hx) (fun _ h=>h) (fun _ h=>.inl h) hv fun h=>by rw[hN] at h;cases h⟩⟩
    ·refine(hFF g N w' w' (hI w' hJ.ext) zn).mono ?_
     rintro Fh mK ⟨rfl,rfl⟩
     exact⟨Nk,.inl ⟨N,fin X mK N (Ext.refl _) hJ.ni (fun _ h=>h) (fun _ h=>.inl h) (by rw[hX];rfl) fun h=>by rw[hN] at h;cases h⟩⟩
    ·refine(hFN g N w' hJ.ext zn).mono ?_
     rintro Fh mK ⟨v,rfl,hx,b0,qb,wW,Zg⟩
     have ajM:b0<mK.heap.size:=(apU.1 Zg).1
     refine⟨Nk,.inl ⟨fun b=>N b∨b=b0,fin v mK _ hx (fun b hb=>?_) (fun _ h=>.inl h) (fun b hb=>?_) (by rw[hX];exact⟨b0,qb,Nat.le_trans hJ.ext.size wW,Zg,.inr rfl⟩) fun _ q o' d' Nj h1 h2 h3 e=>?_⟩⟩
     ·rcases hb with hb|rfl
      ·exact aee mK hx b hb
      ·exact⟨Nat.le_trans hJ.ext.size wW,ajM⟩
     ·rcases hb with hb|rfl
      ·exact .inl hb
      ·exact .inr wW
     ·have hqE:eQ Ks q=false:=by unfold nT at h2;unfold eQ;cases hq:vH Ks q<;>rw[hq] at h2<;>first|rfl|exact Bool.noConfusion h2
      rcases (hF q o' h1).go hqE with ⟨-,h9, -⟩|⟨-,h9⟩|⟨⟨z2,T2,hX2, -⟩, -⟩
      ·rw[h2] at h9;cases h9
      ·rw[h2] at h9;cases h9
      ·have:=hJ.A0 q o' d' Nj h1 h3 hqE
       rw[hX2] at this
       obtain⟨b1,c1, -,c3, -⟩:=this
       rw[c1,qb] at e
       have:b1=b0:=by
        have:=apj (fun v=>match v with|Value.pointer (some a)=>a.block|_=>0) e
        simpa using this
       have h7:=(apU.1 c3).1
       omega
   ·exact(late g2 V hJ HE d hd (.inl yD)<|fun Zp=>by rw[yD] at Zp;cases Zp).mono fun Fh mK h=>⟨Nk,.inr h⟩
 ·rintro g w' ⟨-,hJ⟩
  have hz:qU Ks (fun k=>decide (k<l.length)) 0 l=[]:=FU l 0 fun k _ hk=>by rw[apt aq]
  rcases hJ with ⟨N,hJ⟩|⟨g2,V,hJ, -⟩
  ·have zn:∀t,Kn l Ks f E l.length g N w' t:=fun t=>⟨hJ.off t,fun q o' hq h1 h2 h3=>hJ.A0 q o' t (apt hq) h1 h2 h3⟩
   have hV:∀t,ZW l Ks l.length t:=fun t q o' h1 _ _=>(dZ.1 h1).1
   have yp:=hK w' g N hJ.ext hJ.ni (fun d d' h1 h2 h3=>by
    obtain⟨p,o1,a1,a2,a3⟩:=Gl d h1
    obtain⟨q,o2,b1,b2,b3⟩:=Gl d' h2
    exact hJ.dis p q o1 o2 d d' (apt (dZ.1 a1).1) (apt (dZ.1 b1).1) (fun e=>h3 (by subst e;rw[a1] at b1;cases b1;rw[a3] at b3;exact apm b3)) a1 b1 a2 b2 a3 b3) (fun t ht=>(hL.is g N w' t (hV t) (zn t)).1 ht) (fun j t Φ hj=>(hL.is g N w' t (hV t) (zn t)).2 j Φ hj)
   have:GB Ks l=[]:=by
    rw[←FV l 0 Ks rfl,←hz]
    refine oa l 0 fun k _ hk=>?_
    by_cases AR:k<l.length
    ·have:=hJ.no k AR hk
     rw[apt AR] at this;cases this
    ·rw[apv AR]
   rw[this] at yp
   exact yp
  ·have yp:=hJ.we
   rw[FU l 0 fun k _ hk=>by rw[apt aq];rfl] at yp
   have:cp n g2=cp n g:=by
    unfold cp
    congr 2
    funext t
    exact hJ.eq t t.2 fun q o h3 _ _=>apt (dZ.1 h3).1
   have h9:Q .normal (cp n g2) w':=yp
   rwa [this] at h9
end
end Go.Ew
namespace Go.Ew
open Go.RowKit
variable {g:aR} {N:cg} {w:aJ} {K:aR→aJ→Prop} {b:Nat}
def Lu:ZK→Bool
 | .r=>true
 | .s=>true
 |_=>false
def ED (ops:Array Oper) (o:Oper) (aj:UN):Bool:=(o.looksAt ops).all (fun t=>!ym aj t)
def Ll (ops:Array Oper) (o:Oper) (aj:UN) (d:Nat):Bool:=(o.looksAt ops).all (fun t=>Nat.beq t d||!ym aj t)&&(o.looksAt ops).contains d
def RY (ops:Array Oper) (o:Oper) (aj:UN) (d d1:Nat):Bool:=(o.looksAt ops).all (fun t=>Nat.beq t d||(Nat.beq t d1||!ym aj t))&&((o.looksAt ops).contains d&&((o.looksAt ops).contains d1&&!Nat.beq d d1))
theorem mN {Φ:Value→aJ→Prop} (h:∀v w w',Ext w w'→Φ v w→Φ v w'):sD (fun _=>Φ):=⟨fun _ v w w'=>h v w w',fun _ _ _ _ _ _ h=>h⟩
theorem mE {Φ:Value→Prop}:sD (fun _ v _=>Φ v):=⟨fun _ _ _ _ _ h=>h,fun _ _ _ _ _ _ h=>h⟩
section
variable {P:Program} {n:Nat} {ops:Array Oper} {w0:aJ} {ag:aJ→Prop} {K:UN→aR→Prop} {f:aR} {rest:dz} {zk:ZK} {ks:List ZK} {aj:UN} {o:Oper} {v X:Value} {Φ Ψ Ψ':PR} {d d1 d2:Nat}
theorem P2 (h:ED ops o aj=true) (ha:Z6 (o.looksAt ops) aj f g N w):∀t∈o.looksAt ops,g t=f t:=by
 intro t ht
 have:=aps.1 h t ht
 exact(ha t ht).1 (by simpa using this)
theorem ye (h:PZ P n ops w0 ag K rest ks aj f):PZ P n ops w0 ag K (o::rest) (.e::ks) aj f:=h
theorem PZ.of (hz:Lu zk=true) (h:(∃X,GN P n ops w0 o aj f (eN X)∧PZ P n ops w0 ag K rest ks aj (de f o.dst X))∨(∃d Φ,o.dst=some d∧sD Φ∧GN P n ops w0 o aj f Φ∧PZ P n ops w0 ag K rest ks ((d,Φ)::aj) f)):PZ P n ops w0 ag K (o::rest) (zk::ks) aj f:=by
 cases zk with
 |r=>exact h
 |s=>exact h
 |f=>cases hz
 |e=>cases hz
 |n=>cases hz
theorem yz (h:K aj f):PZ P n ops w0 ag K [] ks aj f:=h
theorem yq (hz:Lu zk=true) (hf:(lB n o&&ED ops o aj)=true) (h:PW P n ops w0 (fun f'=>PZ P n ops w0 ag K rest ks aj f') [o] f):PZ P n ops w0 ag K (o::rest) (zk::ks) aj f:=by
 obtain⟨X,h1,h2⟩:=h
 rw[eP] at hf
 exact PZ.of hz<|.inl ⟨X,fun w g N hx _ ha=>SO.sy (ai:=fun v w'=>v=X) ((h1 w hx).mono fun f' w' hq=>⟨X,hq.1,hq.2,J⟩) (gA hf.1).1 (P2 hf.2 ha) (gA hf.1).2,h2⟩
theorem yu (hz:Lu zk=true) (Φ:PR) (hd:o.dst=some d) (hm:sD Φ) (hf:(lB n o&&ED ops o aj)=true) (h:∀w N,Ext w0 w→Ft w0 N w→SO P n ops o f w (fun f' w'=>∃v,f'=de f o.dst v∧Ext w w'∧Φ N v w')) (r:PZ P n ops w0 ag K rest ks ((d,Φ)::aj) f):PZ P n ops w0 ag K (o::rest) (zk::ks) aj f:=by
 rw[eP] at hf
 exact PZ.of hz<|.inr ⟨d,Φ,hd,hm,fun w g N hx hn ha=>SO.sy (ai:=fun v w'=>Φ N v w') (h w N hx hn) (gA hf.1).1 (P2 hf.2 ha) (gA hf.1).2,r⟩
theorem TB {j:Nat} (hU:aj[j]? =some (d,Ψ)) (h:Ll ops o aj d=true) (ha:Z6 (o.looksAt ops) aj f g N w):Ψ N (g d) w∧∀t∈o.looksAt ops,g t=cq f d (g d) t:=by
 unfold Ll at h
 rw[eP] at h
 refine⟨(ha d<|ap2.1 h.2).2 j Ψ hU,fun t ht=>?_⟩
 by_cases e:t=d
 ·subst e;exact(jh _ _ _).symm
 ·rw[jN _ _ e]
  have:=aps.1 h.1 t ht
  rcases aqg.1 this with h1|h1
  ·exact absurd (aqy h1) e
  ·exact(ha t ht).1 (by simpa using h1)
theorem Sn (hz:Lu zk=true) (j:Nat) (hU:aj[j]? =some (d,Ψ)) (hf:(lB n o&&Ll ops o aj d)=true) (h:∀w N v,Ext w0 w→Ft w0 N w→Ψ N v w→SO P n ops o (cq f d v) w (fun f' w'=>f'=de (cq f d v) o.dst X∧Ext w w')) (r:PZ P n ops w0 ag K rest ks aj (de f o.dst X)):PZ P n ops w0 ag K (o::rest) (zk::ks) aj f:=by
 rw[eP] at hf
 refine PZ.of hz<|.inl ⟨X,fun w g N hx hn ha=>?_,r⟩
 obtain⟨h1,h2⟩:=TB hU hf.2 ha
 exact SO.sy (ai:=fun v w'=>v=X) ((h w N (g d) hx hn h1).mono fun f' w' hq=>⟨X,hq.1,hq.2,J⟩) (gA hf.1).1 h2 (gA hf.1).2
theorem lP (hz:Lu zk=true) (Φ:PR) (j:Nat) (hU:aj[j]? =some (d,Ψ)) (hd:o.dst=some d2) (hm:sD Φ) (hf:(lB n o&&Ll ops o aj d)=true) (h:∀w N v,Ext w0 w→Ft w0 N w→Ψ N v w→SO P n ops o (cq f d v) w (fun f' w'=>∃u,f'=de (cq f d v) o.dst u∧Ext w w'∧Φ N u w')) (r:PZ P n ops w0 ag K rest ks ((d2,Φ)::aj) f):PZ P n ops w0 ag K (o::rest) (zk::ks) aj f:=by
 rw[eP] at hf
 refine PZ.of hz<|.inr ⟨d2,Φ,hd,hm,fun w g N hx hn ha=>?_,r⟩
 obtain⟨h1,h2⟩:=TB hU hf.2 ha
 exact SO.sy (ai:=fun v w'=>Φ N v w') (h w N (g d) hx hn h1) (gA hf.1).1 h2 (gA hf.1).2
theorem acb {j i:Nat} (hU:aj[j]? =some (d,Ψ)) (hU':aj[i]? =some (d1,Ψ')) (h:RY ops o aj d d1=true) (ha:Z6 (o.looksAt ops) aj f g N w):Ψ N (g d) w∧Ψ' N (g d1) w∧∀t∈o.looksAt ops,g t=cq (cq f d (g d)) d1 (g d1) t:=by
 unfold RY at h
 simp only[eP,aqo] at h
 obtain⟨h0,h1,h2,h3⟩:=h
 refine⟨(ha d<|ap2.1 h1).2 j Ψ hU,(ha d1<|ap2.1 h2).2 i Ψ' hU',fun t ht=>?_⟩
 by_cases e1:t=d1
 ·subst e1;exact(jh _ _ _).symm
 ·rw[jN _ _ e1]
  by_cases e:t=d
  ·subst e;exact(jh _ _ _).symm
  ·rw[jN _ _ e]
   have:=aps.1 h0 t ht
   rcases aqg.1 this with h4|h4
   ·exact absurd (aqy h4) e
   ·rcases aqg.1 h4 with h4|h4
    ·exact absurd (aqy h4) e1
    ·exact(ha t ht).1 (by simpa using h4)
theorem yu2 (hz:Lu zk=true) (Φ:PR) (j i:Nat) (hU:aj[j]? =some (d,Ψ)) (hU':aj[i]? =some (d1,Ψ')) (hd:o.dst=some d2) (hm:sD Φ) (hf:(lB n o&&RY ops o aj d d1)=true) (h:∀w N v v',Ext w0 w→Ft w0 N w→Ψ N v w→Ψ' N v' w→SO P n ops o (cq (cq f d v) d1 v') w (fun f' w'=>∃u,f'=de (cq (cq f d v) d1 v') o.dst u∧Ext w w'∧Φ N u w')) (r:PZ P n ops w0 ag K rest ks ((d2,Φ)::aj) f):PZ P n ops w0 ag K (o::rest) (zk::ks) aj f:=by
 rw[eP] at hf
 refine PZ.of hz<|.inr ⟨d2,Φ,hd,hm,fun w g N hx hn ha=>?_,r⟩
 obtain⟨h1,h2,h3⟩:=acb hU hU' hf.2 ha
 exact SO.sy (ai:=fun v w'=>Φ N v w') (h w N (g d) (g d1) hx hn h1 h2) (gA hf.1).1 h3 (gA hf.1).2
theorem yf (hf:(lB n o&&ED ops o aj)=true) (h:∀w,ag w→SO P n ops o f w (fun f' w'=>f'=de f o.dst X∧w'=w)) (r:PZ P n ops w0 ag K rest ks aj (de f o.dst X)):PZ P n ops w0 ag K (o::rest) (.f::ks) aj f:=by
 rw[eP] at hf
 refine⟨X,fun w g hI ha=>?_,hf.2,r⟩
 refine(SO.sy (ai:=fun v w'=>v=X∧w'=w) ((h w hI).mono fun f' w' hq=>⟨X,hq.1,by rw[hq.2];exact Ext.refl w,J,hq.2⟩) (gA hf.1).1 (fun t ht=>(ha t ht).2) (gA hf.1).2).mono ?_
 rintro f' w' ⟨v,rfl, -,rfl,rfl⟩
 exact⟨J,J⟩
theorem e3 {f:aR}:f=f∧w=w:=⟨rfl,rfl⟩
theorem yn {z:Array Value} {T:TypeId} (hd:o.dst=some d) (hf:(lB n o&&ED ops o aj)=true) (h:∀w,SO P n ops o f w (fun f' w'=>∃v,f'=de f o.dst v∧Ext w w'∧Ob z T w v w')) (r:PZ P n ops w0 ag K rest ks ((d,KH w0 z T)::aj) f):PZ P n ops w0 ag K (o::rest) (.n::ks) aj f:=by
 rw[eP] at hf
 exact⟨d,z,T,hd,hf.2,fun w g hx ha=>SO.sy (ai:=fun v w'=>Ob z T w v w') (h w) (gA hf.1).1 ha (gA hf.1).2,r⟩
end
section
variable {P:Program} {n:Nat} {ops:Array Oper} {w w0:aJ} {ag:aJ→Prop} {f:aR} {o:Oper} {rest:dz} {d:Nat} {T ty:TypeId} {ps:String} {af:Array Edge} {x:Operand} {v z:Value} {size bytes:Nat} {agg:Bool}
theorem Qt (F:ez P T size agg bytes z):SO P n ops ⟨some d,.alloc T,ty,ps,af,none⟩ f w (fun f' w'=>∃v,f'=de f (some d) v∧Ext w w'∧Ob z.cells T w v w'):=
 SO.value (v:=.pointer (some ⟨w.heap.size,0,none⟩)) (w':=w.alloc (.cells z.cells T)) (by simp[execOp,Instr.alloc,F.uK,BD]) ⟨_,rfl,Ext.alloc w _,_,rfl,apn _,heap_alloc_new w _⟩
theorem ke (h:SO P n ops o f w (fun f' w'=>ag w'∧WE P n ops ag K rest f' w')):WE P n ops ag K (o::rest) f w:=h
theorem km (h:SO P n ops o f w (fun f' w'=>WE P n ops (fun _=>True) K rest f' w')):WE P n ops (fun _=>True) K (o::rest) f w:=h.mono fun _ _ h=>⟨trivial,h⟩
theorem kz (h:K f w):WE P n ops ag K [] f w:=h
end
section
variable {M0:cg} {Aq w w':aJ} {l:List Item}
theorem HI.lays (H:HI M0 Aq w l) (x:Ext w w') (bs:List (Nat×Array Value×TypeId)) (hb:∀q∈bs,w.heap.size≤q.1∧w'.heap[q.1]? =some (.cells q.2.1 q.2.2 (0,0))) (hn:(bs.map (·.1)).Nodup):
  HI M0 Aq w' (bs.map (fun q=>box q.1 q.2.1 q.2.2)++l):=by
 have pZ:∀q∈bs,q.1<w'.heap.size:=fun q hq=>(apU.1 (hb q hq).2).1
 have Zb:(bs.map (fun q=>box q.1 q.2.1 q.2.2)).filterMap (·.jR)=bs.map (·.1):=by
  clear hb hn pZ
  induction bs with
  |nil=>rfl
  |cons q bs ih=>simp only[apP,aqa,ih];rfl
 refine⟨H.below.trans x,H.m0,?_,?_,?_⟩
 ·intro it hit b Cv
  rcases apM.1 hit with h|h
  ·obtain⟨q,hq,rfl⟩:=ap4.1 h
   cases Cv
   exact⟨Nat.le_trans H.below.size (hb q hq).1,pZ q hq⟩
  ·exact⟨(H.jD it h b Cv).1,apV (H.jD it h b Cv).2 x.size⟩
 ·rw[arA,Zb,aq7]
  refine⟨hn,H.nodup,?_⟩
  intro b qb c hc e
  subst e
  obtain⟨q,hq,rfl⟩:=ap4.1 qb
  obtain⟨it,hit,Cr⟩:=apR.1 hc
  have:=(H.jD it hit _ Cr).2
  have:=(hb q hq).1
  omega
 ·intro it hit
  rcases apM.1 hit with h|h
  ·obtain⟨q,hq,rfl⟩:=ap4.1 h
   exact(hb q hq).2
  ·refine it.lift (H.all it h) ⟨x.size,fun c hc hM=>⟨x.block c hc,?_⟩⟩ fun c hc=>x.block c (H.jD it h c hc).2
   rintro(Ng|⟨j,hj,yt⟩)
   ·exact hM<|.inl Ng
   ·rcases apM.1 hj with hj|hj
    ·obtain⟨q,hq,rfl⟩:=ap4.1 hj
     cases yt
     have:=(hb q hq).1
     omega
    ·exact hM<|.inr ⟨j,hj,yt⟩
end
def MN (M N:cg) (c:Nat):Prop:=M c∨N c
section
variable {α:Type} [GT α] {M N N':cg} {w0 w w':aJ} {v:Value} {x:α}
theorem kv (h:RV M w0 v x) (e:Ext w0 w) (hN:∀c,N c→w0.heap.size≤c∧c<w.heap.size):RV (MN M N) w v x:=
 h.lift ⟨e.size,fun c hc hn=>⟨e.block c hc,by
  rintro(h1|h1)
  ·exact hn h1
  ·have:=(hN c h1).1;omega⟩⟩
theorem kR (hM:∀b,M b→b<w0.heap.size) (e:Ext w0 w) (hN:∀c,N c→w0.heap.size≤c∧c<w.heap.size):∀b,MN M N b→b<w.heap.size:=by
 rintro b (h|h)
 ·exact apV (hM b h) e.size
 ·exact(hN b h).2
theorem ig (h:RV (MN M N) w v x) (k:∀b,N' b→N b∨w.heap.size≤b):RV (MN M N') w v x:=
 h.lift ⟨apn _,fun c hc hn=>⟨rfl,by
  rintro(h1|h1)
  ·exact hn<|.inl h1
  ·rcases k c h1 with h2|h2
   ·exact hn<|.inr h2
   ·omega⟩⟩
end
def VM (w0 w:aJ) (N:cg) (bs:List (Nat×Array Value×TypeId)):Prop:=∀q∈bs,w0.heap.size≤q.1∧w.heap[q.1]? =some (.cells q.2.1 q.2.2 (0,0))∧N q.1
theorem Qk {w0:aJ}:VM w0 w N []:=fun _ h=>by cases h
theorem Qj {w0:aJ} {bs:List (Nat×Array Value×TypeId)} {z:Array Value} {T:TypeId} (h1:w0.heap.size≤b) (h2:w.heap[b]? =some (.cells z T (0,0))) (h3:N b) (h:VM w0 w N bs):VM w0 w N ((b,z,T)::bs):=by
 intro q hq
 rcases apD.1 hq with rfl|hq
 ·exact⟨h1,h2,h3⟩
 ·exact h q hq
theorem PA:b∉([]:List Nat):=by simp
theorem PC:([]:List Nat).Nodup:=ash
theorem PB {l:List Nat} (h:b∉l) (h1:l.Nodup):(b::l).Nodup:=aqt.2 ⟨h,h1⟩
theorem HI.Ez {M0:cg} {Aq w':aJ} {l:List Item} {bs:List (Nat×Array Value×TypeId)} (H:HI M0 Aq w l) (x:Ext w w') (hb:VM w w' N bs) (hn:(bs.map (·.1)).Nodup):HI M0 Aq w' (bs.map (fun q=>box q.1 q.2.1 q.2.2)++l):=
 H.lays x bs (fun q hq=>⟨(hb q hq).1,(hb q hq).2.1⟩) hn
theorem aas {α:Type} [GT α] {M0 N:cg} {l:List Item} {w:aJ} {v:Value} {x:α} (bs:List (Nat×Array Value×TypeId)) (h:RV (MN (MS M0 l) N) w v x) (hb:∀q∈bs,N q.1):RV (MS M0 (bs.map (fun q=>box q.1 q.2.1 q.2.2)++l)) w v x:=
 h.lift (Up.less fun c hc hn=>by
  rcases hn with h1|⟨it,hit,Cr⟩
  ·exact .inl (.inl h1)
  ·rcases apM.1 hit with h2|h2
   ·obtain⟨q,hq,rfl⟩:=ap4.1 h2
    cases Cr
    exact .inr (hb q hq)
   ·exact .inl (.inr ⟨it,h2,Cr⟩))
theorem sJ {α:Type} [GT α] {M0 N:cg} {l:List Item} {w0 w:aJ} {v:Value} {x:α} {bs:List (Nat×Array Value×TypeId)} (h:RV (MN (MS M0 l) N) w v x) (hb:VM w0 w N bs):RV (MS M0 (bs.map (fun q=>box q.1 q.2.1 q.2.2)++l)) w v x:=
 aas bs h fun q hq=>(hb q hq).2.2
theorem aat {α:Type} [GT α] {M0:cg} {l:List Item} {it:Item} {w:aJ} {v:Value} {x:α} (h:it.jR=none) (r:RV (MS M0 l) w v x):RV (MS M0 (it::l)) w v x:=by rw[aG h];exact r
end Go.Ew
namespace Go.Ew
open Go.RowKit Go.IntWalk
theorem ieq {v:Value} {kk:IntKind} {a b:Int} (h:v=.int kk a) (e:a=b):v=.int kk b:=e▸h
theorem O3 {v:Value} {a b:bw} (h:v=aj a) (e:a=b):v=aj b:=e▸h
theorem gf {b:Bool} (h:(!b)=true):b=false:=by cases b<;>simp_all
theorem fu {b:Bool} (h:(!b)=false):b=true:=by cases b<;>simp_all
theorem ik.ext {α:Type} [GT α] {M:cg} {w w':aJ} {ad:Addr} {x:α} (h:ik M w ad x) (e:Ext w w'):ik M w' ad x:=by
 obtain⟨cs,h1,h2⟩:=h
 refine⟨cs,GT.lift h1 (Up.ext e),fun j v hv=>?_⟩
 have hc:=h2 j v hv
 exact(World.cell?_of_block<|e.block _<|qi hc).trans hc
theorem G3 {α:Type} [GT α] (M:cg) (w:aJ):RS M w (.slice none 0 0) ([]:List α):=⟨none,0,0,rfl,rfl,apn _,by simp[maxLen],.inl rfl⟩
theorem ep {α:Type} [GT α] (M:cg) (w:aJ):RV M w (.slice none 0 0) ([]:List α):=RV.list.2 (G3 M w)
theorem bQ {M0:cg}:MS M0 []=M0:=by funext b;simp[MS]
class Flat (α:Type) [GT α]:Prop where
 flat:∀{M w M' w' cs} {x:α},GT.rep M w cs x→GT.rep M' w' cs x
instance :Flat Int:=⟨fun h=>h⟩
instance :Flat bw:=⟨fun h=>h⟩
instance :Flat (BitVec 8):=⟨fun h=>h⟩
instance :Flat Bool:=⟨fun h=>h⟩
instance :Flat aY:=⟨fun h=>h⟩
instance {α β:Type} [GT α] [GT β] [Flat α] [Flat β]:Flat (α×β):=⟨fun h=>by
 obtain⟨c1,c2,h0,h1,h2⟩:=h
 exact⟨c1,c2,h0,Flat.flat h1,Flat.flat h2⟩⟩
theorem bC.flat {α:Type} [GT α] [Flat α] {M M':cg} {w w':aJ}:∀{xs:List α} {cs:List Value},bC M w cs xs→bC M' w' cs xs
 |[],_,h=>h
 |x::xs,cs,⟨c1,c2,h1,h2,h3⟩=>⟨c1,c2,h1,Flat.flat h2,bC.flat h3⟩
section
variable {M0:cg} {w0 w w':aJ} {l l':List Item} {α:Type} [GT α] {v:Value} {xs:List α} {x:α} {e:TypeId} {ad:Addr}
theorem HI.rv (H:HI M0 w0 w l) (i:Nat) (hi:l[i]? =some (sf v x)):RV (MS M0 l) w v x:=H.at_ i hi
theorem HI.Fq (H:HI M0 w0 w l) (i:Nat) (hi:l[i]? =some (nO ad x)):At (MS M0 l) w ad x:=H.at_ i hi
theorem HI.fz (H:HI M0 w0 w l) (i:Nat) (hi:l[i]? =some (sf v x)):RV M0 w v x:=(H.rv i hi).lift H.out
theorem HI.mD (H:HI M0 w0 w l) (i:Nat) (hi:l[i]? =some (own w0.heap.size e v xs)):RV M0 w v xs:=H.aaI i hi (fun _ _ _ _=>trivial)
theorem zd {β γ:Type} (g:β→Option γ):∀(is:List β),is.Nodup→(∀i∈is,∀j∈is,∀b,g i=some b→g j=some b→i=j)→(is.filterMap g).Nodup
 |[],_,_=>ash
 |i::is,hn,hg=>by
  have M6:=aqt.1 hn
  have ih:=zd g is M6.2<|fun a ha b hb=>hg a (apT _ ha) b<|apT _ hb
  rw[aqa]
  cases hgi:g i with
  |none=>exact ih
  |some b=>
   refine aqt.2 ⟨fun hm=>?_,ih⟩
   obtain⟨j,hj,hgj⟩:=apR.1 hm
   have:=hg i (ap') j (apT _ hj) b hgi hgj
   exact M6.1<|this▸hj
theorem HI.bX (H:HI M0 w0 w l) (is:List Nat) (hn:is.Nodup) (he:is.filterMap (fun i=>l[i]?)=l'):HI M0 w0 w l':=by
 subst he
 refine H.pick _ (fun it hit=>?_) ?_
 ·obtain⟨i,_,hi⟩:=apR.1 hit
  exact dO hi
 ·rw[List.filterMap_filterMap]
  refine zd _ is hn fun i _ j _ b hi hj=>?_
  obtain⟨a,ha,Fa⟩:=arZ.1 hi
  obtain⟨c,hc,hcb⟩:=arZ.1 hj
  exact il (·.jR) l H.nodup i j a c ha hc (by rw[Fa];rfl)<|by rw[Fa,hcb]
end
theorem j4.rest {P:Program} {n:Nat} {l:dz} {k:Nat} {Φ:List (Value→aJ→Prop)} {f0:aR} {w0:aJ} {i:Nat} (h:Nat.ble k i=true):∀r,j4 P n l k Φ f0 w0 i r:=by
 intro r
 induction r generalizing i with
 |nil=>trivial
 |cons o r ih=>
  refine⟨fun hb=>?_,ih ?_⟩
  ·simp at h hb;omega
  ·simp at h ⊢;omega
theorem afZ.rv {α:Type} [GT α] {e:TypeId} {w w':aJ} {xs:List α} {v:Value} {M:cg} (h:afZ e w xs v w') (hM:∀b,M b→b<w.heap.size):RV M w' v xs:=by
 obtain⟨_,hb,ho⟩:=h
 refine AB ho (fun b _ vS=>.inl (hM b vS))<|fun b wU hMb=>?_
 obtain⟨cs,h1,_⟩:=ho
 have:=(h1.lt b wU).1
 have:=hM b hMb
 omega
section
variable {P:Program} {n:Nat} {fn:Func} {ai:Value→aJ→Prop} {f:aR} {w w0:aJ} {M0:cg} {l:List Item} {agg:Bool} {bytes:Nat} {z:Value} {k:Nat}
theorem qk {t:Nat} (h:Nat.blt t n=true):(cp n f).tmps.getD t undef=f t:=Bj h
theorem uL {T:TypeId} {b:Nat} {cs:Array Value} {ty:TypeId} (H:HI M0 w0 w l) (i:Nat) (hi:l[i]? =some (box b cs ty)) (F:ez P T k agg bytes z) (hk:agg=false→k=1) (hl:((cs.toList.drop 0).take k).length=k):
  (loadVar T ⟨b,0,none⟩).run P w=.ok (ta agg ((cs.toList.drop 0).take k)) w:=by
 have hb:w.heap[b]? =some (.cells cs ty (0,0)):=H.at_ i hi
 refine r9 F hk hl fun j u hu=>?_
 rw[show (⟨b,0,none⟩:Addr).add j=⟨b,j,none⟩ from by unfold Addr.add;split<;>simp_all,cell_of_row w b j cs ty (0,0) hb]
 have hj:j<k:=by
  have:=(dZ.1 hu).1
  omega
 rw[apS,apo hj,ap6] at hu
 simpa using hu
theorem py {T:TypeId} {b:Nat} {cs:Array Value} {ty:TypeId} {p:Nat} (H:HI M0 w0 w l) (i:Nat) (hi:l[i]? =some (box b cs ty)) (F:ez P T k agg bytes z) (hr:fn.results=#[.cell p T]) (hp:Nat.blt p n=true) (hx:f p=.pointer (some ⟨b,0,none⟩)) (hl:((cs.toList.drop 0).take k).length=k) (hk:agg=false→k=1)
  (h:ai (ta agg ((cs.toList.drop 0).take k)) w):sM P n fn ai .ret (cp n f) w:=by
 refine⟨f,J,_,?_,h⟩
 have h:=uL (P:=P) H i hi F hk hl
 have h0:(cp n f).tmps.getD p undef=.pointer (some ⟨b,0,none⟩):=by rw[qk hp,hx]
 simp only[results,hr,ar2]
 simp only[asi,ass]
 simp[h,h0,asAddr]
theorem iB {T:TypeId} {b:Nat} {cs:Array Value} {ty:TypeId} {p t:Nat} (H:HI M0 w0 w l) (i:Nat) (hi:l[i]? =some (box b cs ty)) (F:ez P T k agg bytes z) (hr:fn.results=#[.cell p T,.tmp t]) (hp:Nat.blt p n=true) (ht:Nat.blt t n=true) (hx:f p=.pointer (some ⟨b,0,none⟩)) (hl:((cs.toList.drop 0).take k).length=k) (hk:agg=false→k=1)
  (h:ai (.tuple #[ta agg ((cs.toList.drop 0).take k),f t]) w):sM P n fn ai .ret (cp n f) w:=by
 refine⟨f,J,_,?_,h⟩
 have h:=uL (P:=P) H i hi F hk hl
 have h0:(cp n f).tmps.getD p undef=.pointer (some ⟨b,0,none⟩):=by rw[qk hp,hx]
 have h2:=qk (f:=f) ht
 simp only[results,hr,ar2]
 simp only[asi,ass]
 simp[h,h0,asAddr,h2]
theorem rc4 {T:TypeId} {b:Nat} {cs:Array Value} {ty:TypeId} {p t t2 t3:Nat} (H:HI M0 w0 w l) (i:Nat) (hi:l[i]? =some (box b cs ty)) (F:ez P T k agg bytes z) (hr:fn.results=#[.cell p T,.tmp t,.tmp t2,.tmp t3]) (hp:Nat.blt p n=true) (ht:Nat.blt t n=true) (T4:Nat.blt t2 n=true) (ht3:Nat.blt t3 n=true) (hx:f p=.pointer (some ⟨b,0,none⟩)) (hl:((cs.toList.drop 0).take k).length=k) (hk:agg=false→k=1)
  (h:ai (.tuple #[ta agg ((cs.toList.drop 0).take k),f t,f t2,f t3]) w):sM P n fn ai .ret (cp n f) w:=by
 refine⟨f,J,_,?_,h⟩
 have h:=uL (P:=P) H i hi F hk hl
 have h0:(cp n f).tmps.getD p undef=.pointer (some ⟨b,0,none⟩):=by rw[qk hp,hx]
 have h2:=qk (f:=f) ht
 have h3:=qk (f:=f) T4
 have h4:=qk (f:=f) ht3
 simp only[results,hr,ar2]
 simp only[asi,ass]
 simp[h,h0,asAddr,h2,h3,h4]
theorem r3 {t t2 t3:Nat} (hr:fn.results=#[.tmp t,.tmp t2,.tmp t3]) (ht:Nat.blt t n=true) (T4:Nat.blt t2 n=true) (ht3:Nat.blt t3 n=true)
  (h:ai (.tuple #[f t,f t2,f t3]) w):sM P n fn ai .ret (cp n f) w:=by
 refine⟨f,J,_,?_,h⟩
 have h2:=qk (f:=f) ht
 have h3:=qk (f:=f) T4
 have h4:=qk (f:=f) ht3
 simp only[results,hr,ar2]
 simp only[asi,ass]
 simp[h2,h3,h4]
end
theorem IM {α:Type} [GT α] {M:cg} {w:aJ} {a:Option Addr} {n c:Nat} {xs:List α} (h:RV M w (.slice a n c) xs) (ha:a.isNone=true):xs=[]:=by
 cases a with
 |some _=>cases ha
 |none=>
  obtain⟨a,m,c',e,h2, -, -,h5⟩:=RV.list.1 h
  injection e with e1 e2 e3
  subst e1
  rcases h5 with h5|⟨ad,h5, -⟩
  ·exact aqp.1<|h2.trans h5
  ·cases h5
end Go.Ew
