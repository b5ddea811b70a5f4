/- Engine, part A: a frame's temporaries as a function; single operations in continuation form; regions, loops, cuts. Independent of any program. -/
import Derived.WalkKit
import Derived.Deep.LoopGhost
import Derived.Maps.AppendAt
set_option linter.unusedVariables false
set_option linter.unusedSimpArgs false
namespace Go.Ew
theorem J.{u}{α:Sort u}{a:α}:a=a:=rfl
abbrev an0:=@congrArg
abbrev an1:=@List.length_set
abbrev an2:=@decide_eq_true_eq
abbrev an3:=@Nat.le_refl
abbrev an4:=@if_pos
abbrev an5:=@Option.some.inj
abbrev an6:=@decide_eq_true
abbrev an7:=@List.mem_range
abbrev an8:=@if_neg
abbrev an9:=@List.all_eq_true
abbrev an_:=@List.take_of_length_le
abbrev an':=@decide_eq_false
abbrev aoa:=@List.getElem?_map
abbrev aob:=@decide_eq_false_iff_not
abbrev aoc:=@Bool.or_eq_true
abbrev aod:=@Option.some.injEq
abbrev aoe:=@List.getElem?_cons_zero
abbrev aof:=@List.getElem?_eq_none
abbrev aog:=@List.length_drop
abbrev aoh:=@List.mem_cons
abbrev aoi:=@List.mem_filter
abbrev aoj:=@Bool.eq_iff_iff
abbrev aok:=@List.mem_iff_getElem?
abbrev aol:=@List.getElem?_set_self
abbrev aom:=@List.findIdx?_eq_some_iff_getElem
abbrev aon:=@List.getElem?_cons_succ
abbrev aoo:=@List.length_map
abbrev aop:=@Option.map_eq_some_iff
abbrev aoq:=@List.map_cons
abbrev aor:=@Array.getElem?_eq_some_iff
abbrev aos:=@Option.isSome_iff_exists
abbrev aot:=@List.mem_append
abbrev aou:=@List.mem_filterMap
abbrev aov:=@List.getElem?_take
abbrev aow:=@List.mem_cons_of_mem
abbrev aox:=@Nat.lt_of_lt_of_le
abbrev aoy:=@List.take_add_one
abbrev aoz:=@List.ext_getElem?
abbrev aoA:=@List.append_assoc
abbrev aoB:=@List.any_eq_true
abbrev aoC:=@Int.toNat_of_nonneg
abbrev aoD:=@List.getElem?_set_ne
abbrev aoE:=@List.mem_map
abbrev aoF:=@List.contains_iff_mem
abbrev aoG:=@List.getElem?_drop
abbrev aoH:=@Nat.add_zero
abbrev aoI:=@Prod.mk.injEq
abbrev aoJ:=@Nat.zero_add
abbrev aoK:=@Classical.byContradiction
abbrev aoL:=@List.getElem?_range
abbrev aoM:=@Array.length_toList
abbrev aoN:=@of_decide_eq_true
abbrev aoO:=@List.mem_cons_self
abbrev aoP:=@List.map_congr_left
abbrev aoQ:=@List.filterMap_cons
abbrev aoR:=@List.mem_or_eq_of_mem_set
abbrev aoS:=@List.drop_eq_getElem_cons
abbrev aoT:=@Nat.add_mul
abbrev aoU:=@if_false
abbrev aoV:=@Option.map_some
abbrev aoW:=@List.replicate_succ
abbrev aoX:=@Bool.or_eq_true_iff
abbrev aoY:=@Bool.true_and
abbrev aoZ:=@Nat.sub_self
abbrev ao0:=@List.drop_drop
abbrev ao1:=@List.take_length
abbrev ao2:=@List.take_append_drop
abbrev ao3:=@List.length_filter_le
abbrev ao4:=@Bool.not_eq_true'
abbrev ao5:=@List.length_eq_zero_iff
abbrev ao6:=@Nat.mul_le_mul_right
abbrev ao7:=@Nat.min_eq_left
abbrev ao8:=@List.nodup_cons
abbrev ao9:=@List.cons.injEq
abbrev ao':=@List.filter_eq_nil_iff
abbrev apa:=@List.getElem?_set
abbrev apb:=@Nat.le_of_ble_eq_true
abbrev apc:=@Nat.eq_of_beq_eq_true
abbrev apd:=@List.set_append_right
abbrev ape:=@List.mem_append_right
abbrev apf:=@List.getElem?_take_of_lt
abbrev apg:=@BitVec.eq_of_toNat_eq
abbrev aph:=@Array.getElem?_toList
abbrev api:=@List.map_append
abbrev apj:=@List.mem_singleton
abbrev apk:=@decide_eq_decide
abbrev apl:=@List.mem_of_mem_take
abbrev apm:=@List.mem_append_left
abbrev apn:=@Nat.zero_le
abbrev apo:=@List.drop_eq_nil_of_le
abbrev apq:=@List.range_succ
abbrev apr:=@List.getElem!_eq_getElem?_getD
abbrev aps:=@List.append_nil
abbrev apt:=@List.take_append_of_le_length
abbrev apu:=@List.eq_nil_of_length_eq_zero
abbrev apv:=@Nat.lt_succ_self
abbrev apw:=@List.find?_eq_none
abbrev apx:=@List.filter_append
abbrev apy:=@Bool.or_false
abbrev apz:=@List.take_take
abbrev apA:=@Bool.or_eq_false_iff
abbrev apC:=@List.size_toArray
abbrev apD:=@List.flatMap_cons
abbrev apE:=@List.ext_getElem
abbrev apF:=@of_decide_eq_false
abbrev apG:=@if_true
abbrev apH:=@List.findIdx?_eq_none_iff
abbrev apI:=@Nat.lt_succ_iff_lt_or_eq
abbrev apJ:=@List.mem_of_mem_drop
abbrev apK:=@Array.eq_empty_of_size_eq_zero
abbrev apL:=@List.nodup_append
abbrev apM:=@List.length_range
abbrev apN:=@List.any_eq_false
abbrev apO:=@List.getElem?_replicate
abbrev apP:=@List.flatMap_append
abbrev apR:=@Option.getD_some
abbrev apS:=@Nat.mod_eq_of_lt
abbrev apT:=@Array.getInternal_eq_getElem
abbrev apU:=@List.set_cons_zero
abbrev apV:=@BitVec.toNat_ofInt
abbrev apW:=@Nat.not_lt_zero
abbrev apX:=@List.length_singleton
abbrev apY:=@List.getElem?_zipWith
abbrev apZ:=@Bool.false_or
abbrev ap0:=@Array.getElem?_append_left
abbrev ap1:=@List.foldl_append
abbrev ap2:=@Nat.shiftRight_eq_div_pow
abbrev ap3:=@List.mem_iff_getElem
abbrev ap4:=@List.getElem?_of_mem
abbrev ap5:=@List.take_zero
abbrev ap6:=@not_true
abbrev ap7:=@List.map_toArray
abbrev ap8:=@BitVec.toNat_ushiftRight
abbrev ap9:=@BitVec.eq_of_getLsbD_eq
abbrev ap_:=@Nat.lt_irrefl
abbrev ap':=@beq_iff_eq
abbrev aqa:=@Nat.blt_eq
abbrev aqb:=@Bool.not_eq_false'
abbrev aqc:=@BitVec.getLsbD_and
abbrev aqd:=@Nat.mul_one
abbrev aqe:=@List.find?_eq_some_iff_append
abbrev aqf:=@List.flatten_cons
abbrev aqg:=@List.filter_congr
abbrev aqh:=@List.map_map
abbrev aqi:=@List.filterMap_append
abbrev aqj:=@Bool.and_eq_false_iff
abbrev aqk:=@Nat.div_eq_of_lt
abbrev aql:=@List.take_append
abbrev aqm:=@List.nodup_range
abbrev aqn:=@List.getElem_mem
abbrev aqo:=@List.contains_eq_mem
abbrev aqp:=@List.cons_append
abbrev aqq:=@List.findSome?_eq_none_iff
abbrev aqr:=@Bool.not_true
abbrev aqs:=@BitVec.toInt_eq_toNat_cond
abbrev aqt:=@List.flatten_append
abbrev aqu:=@List.findSome?_cons
abbrev aqv:=@ne_eq
abbrev aqw:=@List.mem_of_find?_eq_some
abbrev aqx:=@List.foldl_cons
abbrev aqy:=@Int.emod_nonneg
abbrev aqz:=@or_false
abbrev aqA:=@Nat.zero_mul
abbrev aqB:=@Nat.mul_comm
abbrev aqC:=@List.getElem_range
abbrev aqD:=@List.Nodup.sublist
abbrev aqE:=@Bool.false_ne_true
abbrev aqF:=@BitVec.getLsbD_shiftLeft
abbrev aqG:=@List.drop_zero
abbrev aqH:=@Option.bind_eq_some_iff
abbrev aqI:=@Option.isSome_map
abbrev aqJ:=@Nat.lt_trichotomy
abbrev aqK:=@List.mapM_toArray
abbrev aqL:=@Array.size_append
abbrev aqM:=@List.getElem_cons_drop
abbrev aqN:=@Nat.add_assoc
abbrev aqO:=@List.sum_cons
abbrev aqP:=@List.getElem_set
abbrev aqQ:=@List.all_reverse
abbrev aqR:=@Nat.sub_zero
abbrev aqS:=@Nat.mod_lt
abbrev aqT:=@Nat.lt_or_ge
abbrev aqU:=@Nat.ble_eq
abbrev aqV:=@List.take_left'
abbrev aqW:=@List.findIdx?_append
abbrev aqX:=@Array.getElem_toList
abbrev aqY:=@List.drop_append_of_le_length
abbrev aqZ:=@List.filter_eq_self
abbrev aq0:=@List.nodup_nil
abbrev aq1:=@List.mapM_cons
abbrev aq2:=@List.drop_take
abbrev aq3:=@Bool.false_and
abbrev aq4:=@Bool.and_false
abbrev aq5:=@false_and
abbrev aq6:=@Nat.eq_zero_or_pos
abbrev aq7:=@List.filterMap_map
abbrev aq8:=@Bool.false_eq_true
abbrev aq9:=@List.mapM_nil
abbrev aq_:=@Bool.and_true
abbrev aq':=@true_and
abbrev ara:=@getElem!_pos
abbrev arb:=@false_or
abbrev arc:=@Nat.min_le_right
abbrev ard:=@Nat.lt_trans
abbrev are:=@List.not_mem_nil
abbrev arf:=@List.mem_flatMap
abbrev arh:=@Nat.le_succ
abbrev ari:=@Int.le_refl
abbrev bp:Type:=BitVec 64
abbrev bh:Type:=ByteArray
abbrev aA:Type:=List Int
abbrev aG:Type:=World
abbrev dh:Type:=List Oper
abbrev hQ:Type:=Nat→Nat→Bool
abbrev bY:Type:=Nat→Prop
theorem aj {p:Prop} (h:p:=by omega):p:=h
theorem au {p:Prop} (h:p:=by decide):p:=h
theorem bj {p:Prop} (h:p:=by simp):p:=h
theorem bt {p:Prop} (h:p:=by assumption):p:=h
variable {i n t id m:Nat} {b:Bool} {x y:Code} {a:Act} {c:Operand}
theorem dW {α:Type} {l:List α} (h:i<l.length):l[i]? =some l[i]:=List.getElem?_eq_getElem h
theorem il {α:Type} {l:List α} {a:α}:l.getD i a=(l[i]?).getD a:=List.getD_eq_getElem?_getD
theorem dJ {α:Type} {l:List α} {a:α}:l[i]? =some a↔∃h:i<l.length,l[i]=a:=List.getElem?_eq_some_iff
theorem dz {α:Type} {l:List α} {a:α} (h:l[i]? =some a):a∈l:=List.mem_of_getElem? h
theorem ez (a b:Bool):((a&&b)=true)=(a=true∧b=true):=Bool.and_eq_true a b
theorem dq (n:Nat):(n:Int).toNat=n:=Int.toNat_natCast n
theorem fJ {α:Type} {a b:List α}:(a++b).length=a.length+b.length:=List.length_append
theorem oz {α:Type} {a:α}:(List.replicate n a).length=n:=List.length_replicate
theorem ic {α:Type} {l:List α}:(l.take i).length=min i l.length:=List.length_take
theorem nH {α:Type} {a b:List α} (h:a.length≤n):(a++b)[n]? =b[n-a.length]?:=List.getElem?_append_right h
theorem iS {α:Type} {a:α} {l:List α}:(a::l).length=l.length+1:=List.length_cons
theorem gA {α:Type}:([]:List α).length=0:=List.length_nil
theorem oB {α:Type} {a b:List α} (h:n<a.length):(a++b)[n]? =a[n]?:=List.getElem?_append_left h
open Go.RowKit
abbrev aO:=Nat→Value
def cg (f:aO) (d:Nat) (v:Value):aO:=fun t=>bif Nat.beq t d then v else f t
def cW (f:aO):Option Nat→Value→aO
 |some d,v=>cg f d v
 |none,_=>f
def cj (n:Nat) (f:aO):Act:=⟨Array.ofFn (fun i:Fin n=>f i),[]⟩
def ev (f:aO):Operand→Value
 | .tmp t=>f t
 | .const v=>v
 | .global g=>.pointer (some ⟨g,0,none⟩)
 | .func k=>.func (.func k) #[] #[]
def bD (n:Nat):Operand→Bool
 | .tmp t=>Nat.blt t n
 |_=>true
theorem aJ {n:Nat} {f:aO} {x:Operand} (h:bD n x=true):(cj n f).eval x=ev f x:=by
 cases x with
 |tmp t=>
  simp only[bD,aqa] at h
  simp[Act.eval,cj,ev,h]
 |_=>rfl
theorem iY (f:aO) (d:Nat) (v:Value):cg f d v d=v:=by simp[cg]
theorem jD (f:aO) {d t:Nat} (v:Value) (h:t≠d):cg f d v t=f t:=by
 have:Nat.beq t d=false:=by
  cases hb:Nat.beq t d with
  |false=>rfl
  |true=>exact absurd (apc hb) h
 simp only[cg,this,cond_false]
theorem qJ (n:Nat) (f:aO) (d:Option Nat) (v:Value):(cj n f).put d v=cj n (cW f d v):=by
 cases d with
 |none=>rfl
 |some d=>
  simp only[Act.put,cj,cW,Act.mk.injEq,and_true]
  apply Array.ext
  ·simp
  ·intro i h1 h2
   simp only[Array.size_ofFn] at h2
   by_cases hi:i=d
   ·subst hi
    simp[cg]
   ·rw[Array.getElem_setIfInBounds_ne (by simpa using h2) aj]
    simp only[Array.getElem_ofFn]
    exact(jD f v hi).symm
theorem abg (n:Nat) (tmps:Array Value) (h:tmps.size=n):(⟨tmps,[]⟩:Act)=cj n (fun t=>tmps.getD t undef):=by
 simp only[cj,Act.mk.injEq,and_true]
 apply Array.ext
 ·simp[h]
 ·intro i h1 h2
  simp[h1]
def xO (ops:Array Oper) (j:Nat):Option Nat:=(ops[j]?).bind (·.dst)
theorem Cc {f:aO} {ops:Array Oper} {j:Nat} (h:xO ops j=some t) (ht:Nat.blt t n=true) (hv:f t=.bool b):
  yielded ops (cj n f).tmps j=some b:=by
 simp only[aqa] at ht
 unfold xO at h
 simp[yielded,h,cj,ht,hv]
def SO (P:Program) (n:Nat) (ops:Array Oper) (o:Oper) (f:aO) (w:aG) (K:aO→aG→Prop):Prop:=
 ∀(Q:Exit→Act→aG→Prop) (rest:dh),(∀f' w',K f' w'→wpList P ops Q rest (cj n f') w')→wpList P ops Q (o::rest) (cj n f) w
theorem SO.mono {P:Program} {ops:Array Oper} {o:Oper} {f:aO} {w:aG} {K K':aO→aG→Prop} (h:SO P n ops o f w K) (hk:∀f' w',K f' w'→K' f' w'):SO P n ops o f w K':=
 fun Q rest hr=>h Q rest fun f' w' hK=>hr f' w' (hk f' w' hK)
section
variable {P:Program} {n:Nat} {ops:Array Oper} {f:aO} {w:aG} {K:aO→aG→Prop} {Q:Exit→Act→aG→Prop} {rest:dh} {o:Oper}
theorem SO.value {d:Option Nat} {op:Op} {ty:TypeId} {ps:String} {af:Array Edge} {v:Value} {w':aG}
  (hr:(execOp (cj n f).eval ⟨d,op,ty,ps,af,none⟩).run P w=.ok (.value v) w') (h:K (cW f d v) w'):SO P n ops ⟨d,op,ty,ps,af,none⟩ f w K:=by
 intro Q rest hk
 refine wpList_plain J fun K' TO=>?_
 simp only[Oper.wp,hr,Oper.upon]
 rw[qJ]
 exact TO _ _<|hk _ _ h
theorem SO.skip {d:Option Nat} {op:Op} {ty:TypeId} {ps:String} {af:Array Edge} {w':aG}
  (hr:(execOp (cj n f).eval ⟨d,op,ty,ps,af,none⟩).run P w=.ok .skip w') (h:K (cW f d undef) w'):SO P n ops ⟨d,op,ty,ps,af,none⟩ f w K:=by
 intro Q rest hk
 refine wpList_plain J fun K' TO=>?_
 simp only[Oper.wp,hr,Oper.upon]
 rw[qJ]
 exact TO _ _<|hk _ _ h
theorem SO.enter {d:Option Nat} {op:Op} {ty:TypeId} {ps:String} {af:Array Edge} {g:FuncId} {args:Array Value} {w':aG}
  (hr:(execOp (cj n f).eval ⟨d,op,ty,ps,af,none⟩).run P w=.ok (.enter g args) w')
  (h:Calls P g args w' fun e mK=>∃v,e=.returned v∧K (cW f d v) mK):SO P n ops ⟨d,op,ty,ps,af,none⟩ f w K:=by
 intro Q rest hk
 refine wpList_plain J fun K' TO=>?_
 simp only[Oper.wp,hr,Oper.upon]
 refine h.mono ?_
 rintro e mK ⟨v,rfl,hv⟩
 show K' ((cj n f).put d v) mK
 rw[qJ]
 exact TO _ _<|hk _ _ hv
theorem gy {d:Option Nat} {op:Op} {ty:TypeId} {ps:String} {af:Array Edge} {j t:Nat} {want b:Bool}
  (hj:xO ops j=some t) (ht:Nat.blt t n=true) (hv:f t=.bool b) (hb:b=want)
  (h:SO P n ops ⟨d,op,ty,ps,af,none⟩ f w K):SO P n ops ⟨d,op,ty,ps,af,some (j,want)⟩ f w K:=by
 subst hb
 intro Q rest hk
 have h1:=h Q rest hk
 have hy:=Cc (n:=n) hj ht hv
 unfold wpList at h1 ⊢
 rw[an4 (by simp[Region.wanted])] at h1
 rw[an4 (by simp[Region.wanted,hy])]
 exact h1
theorem gn {d:Option Nat} {op:Op} {ty:TypeId} {ps:String} {af:Array Edge} {j t:Nat} {want b:Bool}
  (hj:xO ops j=some t) (ht:Nat.blt t n=true) (hv:f t=.bool b) (hb:b=!want)
  (h:K (cW f d undef) w):SO P n ops ⟨d,op,ty,ps,af,some (j,want)⟩ f w K:=by
 subst hb
 intro Q rest hk
 have hy:=Cc (n:=n) hj ht hv
 unfold wpList
 rw[an8 (by simp[Region.wanted,hy])]
 rw[qJ]
 exact hk _ _ h
def WL (P:Program) (n:Nat) (ops:Array Oper) (Q:Exit→Act→aG→Prop):dh→aO→aG→Prop
 |l,f,w=>wpList P ops Q l (cj n f) w
def WC (P:Program) (n:Nat) (c:Code) (Q:Exit→Act→aG→Prop) (f:aO) (w:aG):Prop:=c.wp P Q (cj n f) w
theorem k (h:SO P n ops o f w (WL P n ops Q rest)):WL P n ops Q (o::rest) f w:=h Q rest fun _ _ h=>h
theorem z (h:Q .normal (cj n f) w):WL P n ops Q [] f w:=wpList_nil (P:=P) (ops:=ops) h
theorem rg {l:dh} (h:WL P n l.toArray Q l f w):WC P n (.region id l.toArray false) Q f w:=wp_region_lit h
theorem sq (h:WC P n x (Exit.then (fun a w=>y.wp P Q a w) Q) f w):WC P n (.seq x y) Q f w:=wp_seq h
theorem nx (h:WC P n y Q f w):Exit.then (fun a w=>y.wp P Q a w) Q .normal (cj n f) w:=h
theorem sk (h:Q .normal (cj n f) w):WC P n .skip Q f w:=wp_skip h
theorem rt (h:Q .ret (cj n f) w):WC P n .ret Q f w:=wp_ret h
theorem ex (h:Q (.exit id) (cj n f) w):WC P n (.exit id) Q f w:=wp_exit h
theorem bk {c:Code} (h:WC P n c (Exit.inBlock id Q) f w):WC P n (.block id c) Q f w:=wp_block h
theorem aF (h:Q .normal a w):Exit.inBlock id Q .normal a w:=h
theorem bS (h:Q .ret a w):Exit.inBlock id Q .ret a w:=h
theorem bf (h:Q .normal a w):Exit.inBlock id Q (.exit id) a w:=by
 show (if id=id then _ else _);rw[an4 rfl];exact h
theorem Wl {Yf:Nat} (gB:Yf≠id) (h:Q (.exit Yf) a w):Exit.inBlock id Q (.exit Yf) a w:=by
 show (if Yf=id then _ else _);rw[an8 gB];exact h
theorem aL {next:Act→aG→Prop} (h:Q .ret a w):Exit.then next Q .ret a w:=h
theorem aT {next:Act→aG→Prop} (h:Q (.exit id) a w):Exit.then next Q (.exit id) a w:=h
theorem cd (hc:bD n c=true) (hv:ev f c=.bool b) (ht:b=true→WC P n x Q f w) (hf:b=false→WC P n y Q f w):WC P n (.cond c x y) Q f w:=
 wp_cond_split (by rw[aJ hc,hv]) ht hf
theorem oW (hc:bD n c=true) (hv:ev f c=.bool b) (hb:b=true) (h:WC P n x Q f w):WC P n (.cond c x y) Q f w:=
 wp_cond_true (by rw[aJ hc,hv,hb]) h
theorem pk (hc:bD n c=true) (hv:ev f c=.bool b) (hb:b=false) (h:WC P n y Q f w):WC P n (.cond c x y) Q f w:=
 wp_cond_false (by rw[aJ hc,hv,hb]) h
def W9 (n:Nat) (R:aO→aG→Prop) (Q:Exit→Act→aG→Prop):Exit→Act→aG→Prop
 | .normal,a,w=>∃f,a=cj n f∧R f w
 |e,a,w=>Q e a w
theorem cut {x y:Code} (R:aO→aG→Prop) (h:WC P n x (W9 n R Q) f w) (h2:∀f' w',R f' w'→WC P n y Q f' w'):WC P n (.seq x y) Q f w:=by
 refine wp_seq<|wp_mono h ?_
 intro e a w' hq
 cases e with
 |normal=>obtain⟨f',rfl,hR⟩:=hq;exact h2 f' w' hR
 |_=>exact hq
theorem BA {R:aO→aG→Prop} (h:R f w):W9 n R Q .normal (cj n f) w:=⟨f,rfl,h⟩
theorem IL {R:aO→aG→Prop} (h:Q .ret a w):W9 n R Q .ret a w:=h
def KF (n:Nat) (ae:Nat→aO→aG→Prop) (m:Nat) (Q:Exit→Act→aG→Prop):Exit→Act→aG→Prop
 | .normal,a,w=>∃f m',a=cj n f∧m'<m∧ae m' f w
 |e,a,w=>Q e a w
theorem lp {c:Code} (ae:Nat→aO→aG→Prop) (m0:Nat) (h0:ae m0 f w)
  (hr:∀m f w,ae m f w→WC P n c (KF n ae m Q) f w):WC P n (.loop c) Q f w:=by
 have key:∀m,∀f w,ae m f w→∀b k cs,
   ∃e a' w',Q e a' w'∧Arrives P (lone (b.at (cj n f) (.code c::.inLoop c::k)) cs w) b k cs e a' w':=by
  intro m
  induction m using Nat.strongRecOn with
  |_ m ih=>
   intro f w hI b k cs
   obtain⟨e,a₁,w₁,hq,Db⟩:=hr m f w hI b (.inLoop c::k) cs
   cases e with
   |normal=>
    obtain⟨f',m',rfl,ef,YR⟩:=hq
    obtain⟨e₂,a₂,w₂,af3,aaG⟩:=ih m' ef f' w₁ YR b k cs
    exact⟨e₂,a₂,w₂,af3,.of_steps (Steps.trans Db (.one step_inLoop)) aaG⟩
   |exit id=>exact⟨_,a₁,w₁,hq,.pass (x:=.inLoop c) rfl (fun _ _=>.inl (by simp)) Db⟩
   |goto l=>exact⟨_,a₁,w₁,hq,.pass (x:=.inLoop c) rfl (fun _ _=>.inl (by simp)) Db⟩
   |ret=>exact⟨_,a₁,w₁,hq,.pass (x:=.inLoop c) rfl (fun _ _=>.inl (by simp)) Db⟩
   |panic ch=>exact⟨_,a₁,w₁,hq,.pass (x:=.inLoop c) rfl (fun _ _=>.inl (by simp)) Db⟩
   |outgrown=>exact⟨_,a₁,w₁,hq,.pass (x:=.inLoop c) rfl (fun _ _=>.inl (by simp)) Db⟩
 intro b k cs
 obtain⟨e,a',w',hq,Db⟩:=key m0 f w h0 b k cs
 exact⟨e,a',w',hq,.of_steps (.one step_loop) Db⟩
theorem bF {ae:Nat→aO→aG→Prop} (m':Nat) (hm:m'<m) (h:ae m' f w):KF n ae m Q .normal (cj n f) w:=⟨f,m',rfl,hm,h⟩
theorem dY {ae:Nat→aO→aG→Prop} (h:Q .ret a w):KF n ae m Q .ret a w:=h
theorem aY {ae:Nat→aO→aG→Prop} (h:Q (.exit id) a w):KF n ae m Q (.exit id) a w:=h
end
def si (P:Program) (n:Nat) (fn:Func) (R:Value→aG→Prop):Exit→Act→aG→Prop
 | .normal,a,w| .ret,a,w=>∃f,a=cj n f∧∃v,(results fn (cj n f).tmps).run P w=.ok v w∧R v w
 |_,_,_=>False
def cm (R:Value→aG→Prop):Ending→aG→Prop:=fun e w=>∃v,e=.returned v∧R v w
theorem enter {P:Program} {g:FuncId} {fn:Func} {c:Code} {args:Array Value} {w:aG} {R:Value→aG→Prop} (n:Nat)
  (hf:P.funcs[g]? =some fn) (hb:fn.body=some c) (hn:fn.ntmps=n) (ha:Nat.ble args.size n=true)
  (h:∀f:aO,(∀i,(_:i<args.size)→f i=args[i])→WC P n c (si P n fn R) f w):Calls P g args w (cm R):=by
 refine calls_of_wp hf hb ?_
 subst hn
 simp only[aqU] at ha
 rw[abg fn.ntmps (args++Array.replicate (fn.ntmps-args.size) undef) (by simp;omega)]
 have h1:=h (fun t=>(args++Array.replicate (fn.ntmps-args.size) undef).getD t undef) (fun i hi=>by
  simp[ap0,hi])
 refine wp_mono h1 ?_
 intro e a w' hq
 cases e with
 |normal=>obtain⟨f',rfl,v,h1,h2⟩:=hq;exact⟨rfl,v,h1,v,rfl,h2⟩
 |ret=>obtain⟨f',rfl,v,h1,h2⟩:=hq;exact⟨rfl,v,h1,v,rfl,h2⟩
 |_=>exact hq.elim
section
variable {P:Program} {n:Nat} {fn:Func} {R:Value→aG→Prop} {f:aO} {w:aG}
theorem AY (h:Nat.blt t n=true):(cj n f).tmps.getD t undef=f t:=by
 simp only[aqa] at h
 simp[cj,h]
theorem r1 (hr:fn.results=#[.tmp t]) (ht:Nat.blt t n=true) (h:R (f t) w):si P n fn R .ret (cj n f) w:=
 ⟨f,rfl,f t,by rw[results_tmp hr,AY ht],h⟩
theorem r2 {u:Nat} (hr:fn.results=#[.tmp t,.tmp u]) (ht:Nat.blt t n=true) (hu:Nat.blt u n=true) (h:R (.tuple #[f t,f u]) w):si P n fn R .ret (cj n f) w:=
 ⟨f,rfl,_,by rw[results_tmp2 hr,AY ht,AY hu],h⟩
theorem r0 (hr:fn.results=#[]) (h:R (.tuple #[]) w):si P n fn R .ret (cj n f) w:=
 ⟨f,rfl,_,results_none hr _ _ _,h⟩
theorem Et (hr:fn.results=#[]) (h:R (.tuple #[]) w):si P n fn R .normal (cj n f) w:=
 ⟨f,rfl,_,results_none hr _ _ _,h⟩
end
end Go.Ew
namespace Go.Ew
open Go.RowKit
structure Ext (w w':aG):Prop extends Below w.heap.size w w' where
 drawn:w.drawn≤w'.drawn
theorem Ext.refl (w:aG):Ext w w:=⟨Below.refl _ _,an3 _⟩
theorem Ext.trans {a b c:aG} (h:Ext a b) (k:Ext b c):Ext a c:=⟨Below.trans h.toBelow (Below.mono k.toBelow h.size),Nat.le_trans h.drawn k.drawn⟩
theorem Ext.drew (w:aG):Ext w w.drew:=⟨Below.drew (Below.refl _ _),arh _⟩
theorem Ext.alloc (w:aG) (o:Obj):Ext w (w.alloc o):=⟨Below.alloc (Below.refl _ _) (an3 _) o,an3 _⟩
theorem UR {α:Type} (a:Ask α):∀w:aG,w.drawn≤(w.ask a).2.drawn:=by
 induction a with
 |done a=>intro w;simp only[World.ask];exact an3 _
 |ask amR range k ih=>
  intro w
  simp only[World.ask]
  split
  ·exact ih _ w
  ·exact Nat.le_trans (arh _)<|ih _ {w with drawn:=w.drawn+1}
theorem R3 (w:aG) (c:Sys):w.drawn≤(w.sys c).2.drawn:=by
 have h:=UR (Kernel.perform c w.os) w
 unfold World.sys
 split
 ·exact an3 _
 ·rename_i e;rw[e] at h;exact h
theorem T8 {P:Program} {w w':aG} {a:Addr} {v:Value} {b:Bool} {l:List Addr} (h:w.farStore P a v b=.ok (w',l)):w'.drawn=w.drawn:=by
 unfold World.farStore at h
 split at h
 ·split at h
  ·rename_i e
   simp only[Except.ok.injEq] at h
   subst h
   unfold World.viewStore at e
   simp only[bind,Except.bind,pure,Except.pure] at e
   repeat' (first|cases e|split at e)
   all_goals rfl
  ·cases h
 ·cases h
theorem sB {α:Type} {P:Program} (m:Sem α):∀{w w':aG} {v:α},m.run P w=.ok v w'→w.drawn≤w'.drawn:=by
 induction m with
 |pure a=>intro w w' v h;simp only[Sem.run,Result.ok.injEq] at h;rw[h.2];exact an3 _
 |load m a k ih=>
  intro w w' v h
  simp only[Sem.run] at h
  split at h
  ·exact ih _ h
  ·split at h
   ·exact ih _ h
   ·cases h
 |store m a u k ih=>
  intro w w' v h
  cases u<;>simp only[Sem.run] at h<;>(try (cases h;done))<;>
  ·split at h
   ·split at h
    ·cases h
    ·have:=ih h;exact this
   ·split at h
    ·rename_i e
     have:=ih h
     rw[T8 e] at this
     exact this
    ·cases h
 |new o k ih=>intro w w' v h;have:=ih w.heap.size (w:={w with heap:=w.heap.push o}) h;exact this
 |shape r k ih=>intro w w' v h;exact ih (w.shape? r) h
 |freeze a n k ih=>
  intro w w' v h
  have:=ih (w:=w.freeze a n) h
  simp only[World.freeze] at this
  split at this<;>exact this
 |frozen a k ih=>intro w w' v h;exact ih (w.frozen? a) h
 |getObj r k ih=>
  intro w w' v h
  simp only[Sem.run] at h
  split at h
  ·cases h
  ·exact ih _ h
  ·cases h
 |setObj r o k ih=>
  intro w w' v h
  simp only[Sem.run] at h
  split at h
  ·cases h
  ·have:=ih h;exact this
  ·cases h
 |choose q k ih=>
  intro w w' v h
  simp only[Sem.run] at h
  split at h
  ·exact ih _ h
  ·exact Nat.le_trans (arh _)<|ih _ (w:={w with drawn:=w.drawn+1}) h
 |sys c k ih=>intro w w' v h;exact Nat.le_trans (R3 w c) (ih _ (w:=(w.sys c).2) h)
 |program k ih=>intro w w' v h;exact ih P h
 |mark m k ih=>intro w w' v h;exact ih (w:=w) h
 |halt x=>intro w w' v h;cases h
def kZ (o:Oper) (j:Nat):Bool:=o.after.toList.any fun e=>Region.binds .any e&&e.on==j
def jb (l:dh) (i:Nat):Nat:=(((l[i]?).bind (·.dst)).getD 0)
def jn (k:Nat) (l:dh):List Nat:=(l.take k).filterMap (·.dst)
def nodupB:List Nat→Bool
 |[]=>true
 |x::xs=>!xs.contains x&&nodupB xs
def ri:Nat→dh→Bool
 |_,[]=>true
 |i,o::r=>o.after.all (fun e=>!Region.binds .any e||Nat.blt e.on i)&&ri (i+1) r
def oJ (l:dh):Nat→hQ
 |0,_,_=>false
 |n+1,i,m=>match l[i]? with
  |none=>false
  |some o=>kZ o m||(List.range i).any fun j=>kZ o j&&oJ l n j m
def wJ (l:dh) (k:Nat):Bool:=
 (Nat.ble l.length k||(List.range k).all fun m=>oJ l (k+1) k m)&&
  (List.range l.length).all fun i=>Nat.ble i k||match l[i]? with
   |some o=>kZ o (i-1)
   |none=>true
def OW (n k:Nat) (l:dh):Bool:=
 ri 0 l&&(l.take k).all (fun o=>o.dst.isSome)&&nodupB (jn k l)&&(jn k l).all (fun d=>Nat.blt d n)&&wJ l k&&Nat.ble k l.length
def z8 (Φ:List (Value→aG→Prop)) (i:Nat):Value→aG→Prop:=Φ.getD i (fun _ _=>True)
structure DStep (P:Program) (n:Nat) (l:dh) (k:Nat) (Φ:List (Value→aG→Prop)) (f0:aO) (w0:aG) (i:Nat) (o:Oper):Prop where
 go:∀f w,(∀t,(jn k l).contains t=false→f t=f0 t)→Ext w0 w→(∀j,kZ o j=true→Nat.blt j k=true→z8 Φ j (f (jb l j)) w)→
  SO P n l.toArray o f w (fun f' w'=>∃v,f'=cW f o.dst v∧Ext w w'∧z8 Φ i v w')
 mono:∀v w w',Ext w w'→z8 Φ i v w→z8 Φ i v w'
def lW (P:Program) (n:Nat) (l:dh) (k:Nat) (Φ:List (Value→aG→Prop)) (f0:aO) (w0:aG):Nat→dh→Prop
 |_,[]=>True
 |i,o::r=>(Nat.blt i k=true→DStep P n l k Φ f0 w0 i o)∧lW P n l k Φ f0 w0 (i+1) r
section
variable {P:Program} {n:Nat} {l:dh} {k:Nat} {Φ:List (Value→aG→Prop)} {f0:aO} {w0:aG}
theorem lW.at_:∀(r:dh) (i:Nat),lW P n l k Φ f0 w0 i r→∀j o,r[j]? =some o→Nat.blt (i+j) k=true→DStep P n l k Φ f0 w0 (i+j) o
 |[],_,_,j,o,h,_=>by simp at h
 |x::r,i,h,0,o,hj,hk=>by
  simp only[aoe,aod] at hj
  subst hj
  exact h.1 hk
 |x::r,i,h,j+1,o,hj,hk=>by
  simp only[aon] at hj
  have:=lW.at_ r (i+1) h.2 j o hj<|by rw[show i+1+j=i+(j+1) from by omega];exact hk
  rwa [show i+1+j=i+(j+1) from by omega] at this
theorem wB:∀(r:dh) (i:Nat),ri i r=true→∀j o,r[j]? =some o→∀e∈o.after,Region.binds .any e=true→e.on<i+j
 |[],_,_,j,o,h,_,_,_=>by simp at h
 |x::r,i,h,j,o,hj,e,he,hb=>by
  simp only[ri,ez,Array.all_eq_true_iff_forall_mem,aoc,ao4,aqa] at h
  cases j with
  |zero=>
   simp only[aoe,aod] at hj
   subst hj
   rcases h.1 e he with h1|h1
   ·rw[hb] at h1;cases h1
   ·omega
  |succ j=>
   simp only[aon] at hj
   have:=wB r (i+1) h.2 j o hj e he hb
   omega
theorem wI {o:Oper} {j:Nat}:kZ o j=true↔∃e∈o.after,Region.binds .any e=true∧e.on=j:=by
 simp only[kZ,aoB,Array.mem_toList_iff]
 constructor
 ·rintro⟨e,he,h⟩
  simp only[ez,ap'] at h
  exact⟨e,he,h.1,h.2⟩
 ·rintro⟨e,he,h1,h2⟩
  exact⟨e,he,by simp[h1,h2]⟩
theorem Ah {l:dh} {k:Nat} (h:wJ l k=true) {i:Nat} {o:Oper} (hk:k<i) (ho:l[i]? =some o):kZ o (i-1)=true:=by
 simp only[wJ,ez] at h
 have:=an9.1 h.2 i<|by rw[an7];exact(dJ.1 ho).1
 rw[ho] at this
 have hf:Nat.ble i k=false:=by
  cases hb:Nat.ble i k with
  |false=>rfl
  |true=>rw[aqU] at hb;omega
 rw[hf] at this
 simpa using this
theorem Kt {l:dh} {k:Nat} (h:wJ l k=true) (hk:k<l.length) {m:Nat} (hm:m<k):oJ l (k+1) k m=true:=by
 simp only[wJ,ez,aoc] at h
 rcases h.1 with h1|h1
 ·rw[aqU] at h1;omega
 ·exact an9.1 h1 m<|by rw[an7];exact hm
theorem CB {l:dh} {listed:Array Bool} (hC:∀i o,listed.getD i false=true→l[i]? =some o→∀j,kZ o j=true→listed.getD j false=true):
  ∀(n i m:Nat) (o:Oper),l[i]? =some o→(∀j,kZ o j=true→listed.getD j false=true)→oJ l n i m=true→listed.getD m false=true
 |0,_,_,_,_,_,h=>by cases h
 |n+1,i,m,o,ho,hd,h=>by
  simp only[oJ,ho,aoc] at h
  rcases h with h|h
  ·exact hd m h
  ·obtain⟨j,_,hj⟩:=aoB.1 h
   simp only[ez] at hj
   have hlj:=hd j hj.1
   cases qP:l[j]? with
   |none=>
    have h2:=hj.2
    cases n with
    |zero=>cases h2
    |succ n=>simp[oJ,qP] at h2
   |some o'=>exact CB hC n j m o' qP (hC j o' hlj qP) hj.2
theorem oN:∀(l:List Nat),nodupB l=true→l.Nodup
 |[],_=>aq0
 |x::xs,h=>by
  simp only[nodupB,ez,ao4] at h
  refine ao8.2 ⟨?_,oN xs h.2⟩
  intro hx
  have:=aoF.2 hx
  rw[h.1] at this
  cases this
theorem Gr {ops:Array Oper} {i:Nat} {o:Oper} {f:aO} {w:aG} {K:aO→aG→Prop} {Q:Exit→Act→aG→Prop} {K':Act→aG→Prop}
  (hi:ops[i]? =some o) (h:SO P n ops o f w K) (hk:∀f' w',K f' w'→K' (cj n f') w'):wpOp P ops Q i K' (cj n f) w:=by
 have h1:=h (fun e a w=>match e with| .normal=>K' a w|e=>Q e a w) []<|fun f' w' hK=>hk f' w' hK
 unfold wpOp
 simp only[hi]
 unfold wpList at h1
 split at h1
 ·rename_i hw
  rw[an4 hw]
  refine h1.imp (fun h2=>?_)<|fun h2=>?_
  ·unfold Oper.wp at h2 ⊢
   generalize (execOp (cj n f).eval o).run P w=r at *
   cases r with
   |ok x w'=>
    cases x<;>simp only[Oper.upon] at h2 ⊢<;>first
     |exact h2
     |(refine Calls.mono h2 ?_;intro e mK he;cases e<;>first|exact he|(obtain⟨a0,w1,hq⟩:=he;exact⟨a0,w1,hq⟩))
   |halt x w'=>cases x<;>simp only[Oper.upon] at h2 ⊢<;>exact h2
  ·obtain⟨ha,a0,w1,hq⟩:=h2
   exact⟨ha,a0,w1,hq⟩
 ·rename_i hw
  rw[an8 hw]
  exact h1
def XE (N m:Nat) (listed:Array Bool):Prop:=listed.size=N∧∀i,i<N→listed.getD i false=decide (i<m)
theorem qV {listed:Array Bool} {i:Nat} (h:i<listed.size) (a b:Bool):listed.getD i a=listed.getD i b:=by
 simp[Array.getD,h]
theorem Gs {Q:Exit→Act→aG→Prop} (hE:ri 0 l=true) (hT:wJ l k=true):
  ∀(d m:Nat) (listed:Array Bool) (a:Act) (w:aG),l.length-m=d→k≤m→m≤l.length→XE l.length m listed→wpList P l.toArray Q (l.drop m) a w→wpAny P .any l.toArray Q d listed a w:=by
 intro d
 induction d with
 |zero=>
  intro m listed a w hd hk hm hl h
  have tX:m=l.length:=by omega
  subst tX
  rw[apo (an3 _)] at h
  refine⟨?_,h⟩
  unfold Region.ready
  rw[ao']
  intro i hi
  simp only[apC,an7] at hi
  have:=hl.2 i hi
  rw[show listed.getD i true=listed.getD i false from qV (by rw[hl.1];exact hi) _ _,this]
  simp[hi]
 |succ d ih=>
  intro m listed a w hd hk hm hl h
  have tX:m<l.length:=by omega
  have jk:l[m]? =some l[m]:=dW tX
  have Ti:∀i,i∈Region.ready .any l.toArray listed↔i=m:=by
   intro i
   rw[mem_ready]
   constructor
   ·rintro⟨h0,o,ho,oR⟩
    have jL:i<l.length:=by
     have:=(aor.1 ho).1
     simpa using this
    have hnm:¬i<m:=by
     intro him
     rw[show listed.getD i true=listed.getD i false from qV (by rw[hl.1];exact jL) _ _,hl.2 i jL] at h0
     simp[him] at h0
    by_cases him:i=m
    ·exact him
    ·exfalso
     have hoi:l[i]? =some o:=by simpa using ho
     have hb:=Ah hT (i:=i) aj hoi
     obtain⟨e,he,xI,vg⟩:=wI.1 hb
     have:=oR e he xI
     rw[vg,hl.2 (i-1) aj] at this
     simp at this
     omega
   ·rintro rfl
    refine⟨?_,l[i],by simp,?_⟩
    ·rw[show listed.getD i true=listed.getD i false from qV (by rw[hl.1];exact tX) _ _,hl.2 i tX]
     simp
    ·intro e he xI
     have:=wB l 0 hE i l[i] jk e he xI
     rw[hl.2 e.on aj]
     simp;omega
  have af7:l.drop m=l[m]::l.drop (m+1):=aoS tX
  refine⟨fun h0=>?_,fun i hi=>?_⟩
  ·have:=(Ti m).2 rfl
   rw[h0] at this
   cases this
  ·obtain rfl:=(Ti i).1 hi
   rw[af7] at h
   have qN:XE l.length (i+1) (listed.setIfInBounds i true):=by
    refine⟨by simp[hl.1],fun j hj=>?_⟩
    by_cases nD:i=j
    ·subst nD
     simp[hl.1,tX]
    ·rw[getD_set_ne false nD,hl.2 j hj]
     simp;omega
   unfold wpOp
   rw[show (l.toArray)[i]? =some l[i] from by simp]
   simp only
   unfold wpList at h
   split at h
   ·rename_i hw
    rw[an4 hw]
    refine h.imp (Oper.wp_mono fun a w h'=>ih (i+1) _ a w aj aj aj qN h') id
   ·rename_i hw
    rw[an8 hw]
    exact ih (i+1) _ _ w aj aj aj qN h
theorem qM {i:Nat} {o:Oper} (hi:l[i]? =some o) (hk:i<k) {d:Nat} (hd:o.dst=some d):d∈jn k l:=by
 unfold jn
 rw[aou]
 refine⟨o,?_,hd⟩
 have:(l.take k)[i]? =some o:=by rw[aov,an4 hk];exact hi
 exact dz this
theorem im {α β:Type} (g:α→Option β):∀(l:List α),(l.filterMap g).Nodup→∀(i j:Nat) (a b:α),l[i]? =some a→l[j]? =some b→(g a).isSome→g a=g b→i=j
 |[],_,i,_,_,_,hi,_,_,_=>by simp at hi
 |x::xs,h,i,j,a,b,hi,hj,hs,he=>by
  have QV:(xs.filterMap g).Nodup:=by
   rw[aoQ] at h
   split at h
   ·exact h
   ·exact(ao8.1 h).2
  have Bt:∀(m:Nat) (c:α),xs[m]? =some c→g x=g c→(g x).isSome→False:=by
   intro m c hm hc hx
   obtain⟨y,hy⟩:=aos.1 hx
   rw[aoQ,hy] at h
   exact(ao8.1 h).1 (aou.2 ⟨c,dz hm,by rw[←hc,hy]⟩)
  cases i with
  |zero=>
   cases j with
   |zero=>rfl
   |succ j=>
    simp only[aoe,aod,aon] at hi hj
    subst hi
    exact(Bt j b hj he hs).elim
  |succ i=>
   cases j with
   |zero=>
    simp only[aoe,aod,aon] at hi hj
    subst hj
    exact(Bt i a hi he.symm (he▸hs)).elim
   |succ j=>
    simp only[aon] at hi hj
    rw[im g xs QV i j a b hi hj hs he]
def DJ (n:Nat) (l:dh) (k:Nat) (Φ:List (Value→aG→Prop)) (f0:aO) (w0:aG) (listed:Array Bool) (a:Act) (w:aG):Prop:=
 ∃f,a=cj n f∧(∀t,(jn k l).contains t=false→f t=f0 t)∧Ext w0 w∧(∀i,i<k→listed.getD i false=true→z8 Φ i (f (jb l i)) w)∧
  ∀i o,listed.getD i false=true→l[i]? =some o→∀j,kZ o j=true→listed.getD j false=true
theorem NL {Q:Exit→Act→aG→Prop} (qq:OW n k l=true) (hS:lW P n l k Φ f0 w0 0 l)
  (vR:∀f w,(∀t,(jn k l).contains t=false→f t=f0 t)→Ext w0 w→(∀i,Nat.blt i k=true→z8 Φ i (f (jb l i)) w)→WL P n l.toArray Q (l.drop k) f w):
  ∀(d:Nat) (listed:Array Bool) (a:Act) (w:aG),listed.size=l.length→(∀i,k≤i→listed.getD i false=false)→(listed.toList.filter (fun b=>!b)).length=d→
   DJ n l k Φ f0 w0 listed a w→wpAny P .any l.toArray Q d listed a w:=by
 have adn:=qq
 simp only[OW,ez] at qq
 obtain⟨⟨⟨⟨⟨hE,hD⟩,hN⟩,hn⟩,hT⟩,As⟩:=qq
 simp only[aqU] at As
 intro d
 induction d with
 |zero=>
  intro listed a w pI vi hd hJ
  have oR:∀i,i<l.length→listed.getD i false=true:=by
   intro i hi
   have h0:=apu hd
   rw[ao'] at h0
   have oQ:i<listed.size:=by omega
   have:=h0 listed[i]<|by simp
   simp at this
   simp[Array.getD,oQ,this]
  have ai9:k=l.length:=by
   rcases aqT k l.length with h|h
   ·have h1:=oR k h
    rw[vi k (an3 _)] at h1
    cases h1
   ·omega
  obtain⟨f,rfl,hf,hx,hφ,hC⟩:=hJ
  have:=vR f w hf hx<|fun i hi=>hφ i (by simpa using hi)<|oR i<|by have h9:i<k:=(by simpa using hi);omega
  refine Gs hE hT 0 l.length listed _ w aj aj (an3 _) ⟨pI,fun i hi=>by rw[oR i hi];simp[hi]⟩ ?_
  rw[ai9] at this
  exact this
 |succ d ih=>
  intro listed a w pI vi hd hJ
  by_cases oR:∀i,i<k→listed.getD i false=true
  ·obtain⟨f,rfl,hf,hx,hφ,hC⟩:=hJ
   have:=vR f w hf hx<|fun i hi=>hφ i (by simpa using hi)<|oR i<|by simpa using hi
   have qN:XE l.length k listed:=⟨pI,fun i hi=>by
    by_cases tz:i<k
    ·rw[oR i tz];simp[tz]
    ·rw[vi i aj];simp;omega⟩
   have TF:d+1=l.length-k:=by
    rw[←hd]
    have hl:listed.toList=List.replicate k true++List.replicate (l.length-k) false:=by
     apply apE
     ·simp[pI];omega
     ·intro i h1 h2
      simp only[aoM] at h1
      have:=qN.2 i aj
      simp only[Array.getD,h1,dif_pos] at this
      rw[aqX]
      by_cases tz:i<k
      ·rw[List.getElem_append_left (by simpa using tz)]
       simp[apT,tz] at this ⊢
       exact this
      ·rw[List.getElem_append_right (by simpa using tz)]
       simp[apT,tz] at this ⊢
       exact this
    rw[hl]
    simp
   exact Gs hE hT (d+1) k listed _ w aj (an3 _) As qN this
  ·obtain⟨i0,JM⟩:∃i,i<k∧listed.getD i false=false:=by
    apply aoK
    intro Hf
    refine oR fun i hi=>?_
    cases hb:listed.getD i false with
    |true=>rfl
    |false=>exact(Hf ⟨i,hi,hb⟩).elim
   
   obtain⟨m,Tq,Tp⟩:=exists_least (p:=fun i=>i<k∧listed.getD i false=false) ⟨i0,JM⟩
   have tX:m<l.length:=by omega
   have jk:l[m]? =some l[m]:=dW tX
   have BX:m∈Region.ready .any l.toArray listed:=by
    rw[mem_ready]
    refine⟨?_,l[m],by simp,fun e he hb=>?_⟩
    ·rw[show listed.getD m true=listed.getD m false from qV aj _ _];exact Tq.2
    ·have ef:=wB l 0 hE m l[m] jk e he hb
     cases wb:listed.getD e.on false with
     |true=>rfl
     |false=>
      have:=Tp e.on ⟨by omega,wb⟩
      omega
   refine⟨fun h0=>(by rw[h0] at BX;cases BX),fun i hi=>?_⟩
   obtain⟨h0,o,ho,Ax⟩:=mem_ready.1 hi
   have qp:l[i]? =some o:=by simpa using ho
   have jL:i<l.length:=(dJ.1 qp).1
   have MK:listed.getD i false=false:=by
    rw[show listed.getD i false=listed.getD i true from qV aj _ _];exact h0
   have tz:i<k:=by
    rcases aqT i k with h|h
    ·exact h
    ·exfalso
     obtain⟨f,rfl,hf,hx,hφ,hC⟩:=hJ
     by_cases ai':i=k
     ·subst ai'
      have:=CB hC _ i m o qp (fun j hj=>by
       obtain⟨e,he,xI,vg⟩:=wI.1 hj
       rw[←vg];exact Ax e he xI) (Kt hT jL Tq.1)
      rw[Tq.2] at this
      cases this
     ·have hb:=Ah hT (i:=i) aj qp
      obtain⟨e,he,xI,vg⟩:=wI.1 hb
      have:=Ax e he xI
      rw[vg,vi (i-1) aj] at this
      cases this
   obtain⟨f,rfl,hf,hx,hφ,hC⟩:=hJ
   have D5:=(lW.at_ l 0 hS i o qp<|by simpa using tz)
   simp only[aoJ] at D5
   have hSO:=D5.go f w hf hx (fun j hj JK=>by
    obtain⟨e,he,hb,vg⟩:=wI.1 hj
    subst vg
    exact hφ e.on (by simpa using JK) (Ax e he hb))
   obtain⟨di,vk⟩:∃di,o.dst=some di:=by
    rw[an9] at hD
    have:=hD o<|dz (i:=i)<|by rw[aov,an4 tz];exact qp
    exact aos.1 this
   refine Gr ho hSO fun f' w' hK=>?_
   obtain⟨v,rfl,hxw,hv⟩:=hK
   refine ih (listed.setIfInBounds i true) _ w' (by simp[pI]) (fun j hj=>?_) ?_ ?_
   ·rw[getD_set_ne false aj];exact vi j hj
   ·
    have Mw:i<listed.size:=by omega
    have uC:listed.toList[i]? =some false:=by
     rw[dW (by simpa using Mw)]
     simp only[Array.getD,Mw,dif_pos] at MK
     simpa [apT] using MK
    have key:∀(L:List Bool) (i:Nat),L[i]? =some false→((L.set i true).filter (fun b=>!b)).length+1=(L.filter (fun b=>!b)).length:=by
     intro L
     induction L with
     |nil=>intro i h;simp at h
     |cons b L ihL=>
      intro i h
      cases i with
      |zero=>simp at h;subst h;simp
      |succ i=>
       simp at h
       have:=ihL i h
       cases b<;>simp at this ⊢<;>omega
    have:=key listed.toList i uC
    rw[Array.toList_setIfInBounds]
    omega
   ·refine⟨cW f o.dst v,J,fun t ht=>?_,hx.trans hxw,fun j JK hj=>?_,fun j oj hj qP q hq=>?_⟩
    ·rw[vk]
     have gB:t≠di:=by
      rintro rfl
      have:=qM qp tz vk
      rw[←aoF,ht] at this
      cases this
     rw[show cW f (some di) v=cg f di v from rfl,jD f v gB]
     exact hf t ht
    ·have xF:j<l.length:=by omega
     have qP:l[j]? =some l[j]:=dW xF
     by_cases nD:i=j
     ·subst nD
      have:jb l i=di:=by unfold jb;rw[qp];simp[vk]
      rw[this,vk,show cW f (some di) v=cg f di v from rfl,iY]
      exact hv
     ·rw[getD_set_ne false nD] at hj
      have acV:=hφ j JK hj
      have Tg:=(lW.at_ l 0 hS j l[j] qP<|by simpa using JK)
      simp only[aoJ] at Tg
      obtain⟨dj,EH⟩:∃dj,(l[j]).dst=some dj:=by
       rw[an9] at hD
       have:=hD l[j]<|dz (i:=j)<|by rw[aov,an4 JK];exact qP
       exact aos.1 this
      have hDj:jb l j=dj:=by unfold jb;rw[qP];simp[EH]
      have gB:dj≠di:=by
       rintro rfl
       have lS:=oN _ hN
       unfold jn at lS
       exact nD<|im (·.dst) (l.take k) lS i j o l[j] (by rw[aov,an4 tz];exact qp) (by rw[aov,an4 JK];exact qP) (by simp[vk])<|by simp[vk,EH]
      rw[hDj] at acV ⊢
      rw[vk,show cW f (some di) v=cg f di v from rfl,jD f v gB]
      exact Tg.mono _ _ _ hxw acV
    ·have nC:listed.getD q false=true:=by
      by_cases nD:i=j
      ·subst nD
       rw[qp] at qP
       cases qP
       obtain⟨e,he,xI,vg⟩:=wI.1 hq
       rw[←vg];exact Ax e he xI
      ·rw[getD_set_ne false nD] at hj
       exact hC j oj hj qP q hq
     by_cases tw:i=q
     ·subst tw;rw[MK] at nC;cases nC
     ·rw[getD_set_ne false tw];exact nC
def TA (P:Program) (n:Nat) (l:dh) (Q:Exit→Act→aG→Prop) (d:Nat) (S:List Bool) (f:aO) (w:aG):Prop:=wpAny P .any l.toArray Q d S.toArray (cj n f) w
def RF (P:Program) (n:Nat) (l:dh) (Q:Exit→Act→aG→Prop) (d:Nat) (S:List Bool) (f:aO) (w:aG):List Nat→Prop
 |[]=>True
 |i::r=>(∃o,l[i]? =some o∧SO P n l.toArray o f w (fun f' w'=>TA P n l Q d (S.set i true) f' w'))∧RF P n l Q d S f w r
theorem RF.mem {Q:Exit→Act→aG→Prop} {d:Nat} {S:List Bool} {f:aO} {w:aG}:∀{R:List Nat},RF P n l Q d S f w R→∀i∈R,∃o,l[i]? =some o∧SO P n l.toArray o f w (fun f' w'=>TA P n l Q d (S.set i true) f' w')
 |[],_,i,hi=>by cases hi
 |j::r,h,i,hi=>by
  rcases aoh.1 hi with rfl|hi
  ·exact h.1
  ·exact RF.mem h.2 i hi
theorem dr {id:Nat} {Q:Exit→Act→aG→Prop} {f:aO} {w:aG} (k:Nat) (Φ:List (Value→aG→Prop)) (hm:P.follows .mixedOrders=true) (qq:OW n k l=true)
  (hS:lW P n l k Φ f w 0 l)
  (vR:∀f' w',(∀t,(jn k l).contains t=false→f' t=f t)→Ext w w'→(∀i,Nat.blt i k=true→z8 Φ i (f' (jb l i)) w')→WL P n l.toArray Q (l.drop k) f' w'):
  WC P n (.region id l.toArray true) Q f w:=by
 refine wp_region_any hm ?_
 have h:=NL (P:=P) (w0:=w) (f0:=f) (Q:=Q) qq hS vR l.length (Array.replicate l.length false) (cj n f) w.drew (by simp) (fun i _=>by simp[Array.getD]) (by simp) ⟨f,rfl,fun _ _=>rfl,Ext.drew w,fun i hi h=>(by
  have h2:(Array.replicate l.length false).getD i false=false:=by
   simp only[Array.getD];split<;>simp
  rw[h2] at h;cases h),fun i o h _ _ _=>(by
  have h2:(Array.replicate l.length false).getD i false=false:=by
   simp only[Array.getD];split<;>simp
  rw[h2] at h;cases h)⟩
 simpa using h
end
abbrev eV (x:Value):Value→aG→Prop:=fun v _=>v=x
theorem d0 {f' f:aO} {d:Option Nat} {v:Value} {w:aG} {R:Value→aG→Prop} (e:f'=cW f d v) (h:R v w):∃v,f'=cW f d v∧Ext w w∧R v w:=⟨v,e,Ext.refl w,h⟩
theorem dc {P:Program} {n:Nat} {l:dh} {k:Nat} {Φ:List (Value→aG→Prop)} {f0:aO} {w0:aG} {i:Nat} {o:Oper} {r:dh}
  (go:∀f w,(∀t,(jn k l).contains t=false→f t=f0 t)→Ext w0 w→(∀j,kZ o j=true→Nat.blt j k=true→z8 Φ j (f (jb l j)) w)→SO P n l.toArray o f w (fun f' w'=>∃v,f'=cW f o.dst v∧Ext w w'∧z8 Φ i v w'))
  (rest:lW P n l k Φ f0 w0 (i+1) r) (mono:∀v w w',Ext w w'→z8 Φ i v w→z8 Φ i v w':=by exact fun _ _ _ _ h=>h):lW P n l k Φ f0 w0 i (o::r):=⟨fun _=>⟨go,mono⟩,rest⟩
abbrev I (x:Int):Value:=.int .i64 x
abbrev pV (b o:Nat):Value:=.pointer (some ⟨b,o,none⟩)
theorem BL:(∀b,(b&&true)=b)∧(∀b,(true&&b)=b)∧(∀b,(b&&false)=false)∧(∀b,(false&&b)=false)∧(∀b,(b||true)=true)∧(∀b,(true||b)=true)∧(∀b,(b||false)=b)∧(∀b,(false||b)=b)∧((!true)=false)∧((!false)=true)∧
  (∀(α:Type) (x y:α),cond true x y=x)∧(∀(α:Type) (x y:α),cond false x y=y)∧(∀(α:Type) (x y:α),(some x).getD y=x)∧(∀(α β:Type) (x:α) (f:α→β),(some x).map f=some (f x))∧(∀(α:Type) (l:List α) (i:Nat) (y:α),l.getD i y=(l[i]?).getD y):=by
 refine⟨?_,?_,?_,?_,?_,?_,?_,?_,J,J,fun _ _ _=>rfl,fun _ _ _=>rfl,fun _ _ _=>rfl,fun _ _ _ _=>rfl,fun _ _ _ _=>il⟩<;>intro b<;>cases b<;>rfl
end Go.Ew
namespace Go.Ew
open Go.RowKit Go.IntWalk
abbrev ag (x:bp):Value:=.int .u64 (x.toNat:Int)
def aK (a:Int):Prop:= -9223372036854775808≤a∧a≤9223372036854775807
theorem RU {a:Int} (h:aK a):IntKind.i64.wrap a=a:=i64_in a h
theorem zl (a:Int):IntKind.u64.wrap a=((BitVec.ofInt 64 a).toNat:Int):=by
 rw[IntKind.wrap_u64,apV]
 have h1:(0:Int)≤a%18446744073709551616:=aqy _ au
 show a%18446744073709551616=(((a%((2^64:Nat):Int)).toNat:Nat):Int)
 rw[show ((2^64:Nat):Int)=18446744073709551616 from rfl,aoC h1]
theorem oo (x:bp):BitVec.ofInt 64 (x.toNat:Int)=x:=by
 apply apg
 rw[apV]
 have:=x.isLt
 omega
section
variable {P:Program} {n:Nat} {ops:Array Oper} {f:aO} {w:aG} {K:aO→aG→Prop} {x y c:Operand} {d:Nat} {ty T T2:TypeId} {ps:String} {af:Array Edge} {v v2:Value} {a b:Int} {p q:Bool} {kk kk2:IntKind} {s t:bp}
theorem mv (ox:bD n x=true) (hx:ev f x=v) (h:K (cg f d v) w):SO P n ops ⟨some d,.move x,ty,ps,af,none⟩ f w K:=
 SO.value (v:=v) (by simp[execOp,aJ ox,hx]) h
theorem jM (ox:bD n x=true) (hx:ev f x=v) (h:K (cg f d v) w):SO P n ops ⟨some d,.assign x,ty,ps,af,none⟩ f w K:=
 SO.value (v:=v) (by simp[execOp,aJ ox,hx]) h
theorem aP (oc:bD n c=true) (ox:bD n x=true) (oy:bD n y=true) (hc:ev f c=.bool p) (hp:p=true) (hx:ev f x=v) (h:K (cg f d v) w):SO P n ops ⟨some d,.pick c x y,ty,ps,af,none⟩ f w K:=
 SO.value (v:=v) (by simp[execOp,asBool,aJ oc,aJ ox,aJ oy,hc,hp,hx]) h
theorem dG (oc:bD n c=true) (ox:bD n x=true) (oy:bD n y=true) (hc:ev f c=.bool p) (hp:p=false) (hy:ev f y=v) (h:K (cg f d v) w):SO P n ops ⟨some d,.pick c x y,ty,ps,af,none⟩ f w K:=
 SO.value (v:=v) (by simp[execOp,asBool,aJ oc,aJ ox,aJ oy,hc,hp,hy]) h
theorem j4 (ox:bD n x=true) (hx:ev f x=.bool p) (h:K (cg f d (.bool (!p))) w):SO P n ops ⟨some d,.unOp .not T x,ty,ps,af,none⟩ f w K:=
 SO.value (v:=.bool (!p)) (by simp[execOp,aJ ox,hx,Op.unary]) h
theorem bin {op:BinOp} (ox:bD n x=true) (oy:bD n y=true) (hx:ev f x=.int kk a) (hy:ev f y=.int kk2 b) (hr:(binOp op T (.int kk a) (.int kk2 b)).run P w=.ok v w) (h:K (cg f d v) w):
  SO P n ops ⟨some d,.binOp op T x y T2,ty,ps,af,none⟩ f w K:=
 SO.value (v:=v) (by
  simp only[execOp,aJ ox,aJ oy,hx,hy]
  have hg:(eqGuard op T x y (.int kk a) (.int kk2 b)).run P w=.ok () w:=by unfold eqGuard;split<;>rfl
  simp[hg,hr,Result.andThen]) h
theorem add (ox:bD n x=true) (oy:bD n y=true) (hx:ev f x=.int .i64 a) (hy:ev f y=.int .i64 b) (hi:aK (a+b)) (h:K (cg f d (.int .i64 (a+b))) w):SO P n ops ⟨some d,.binOp .add T x y T2,ty,ps,af,none⟩ f w K:=
 bin ox oy hx hy (by simp[binOp,Op.intArith,RU hi]) h
theorem sub (ox:bD n x=true) (oy:bD n y=true) (hx:ev f x=.int .i64 a) (hy:ev f y=.int .i64 b) (hi:aK (a-b)) (h:K (cg f d (.int .i64 (a-b))) w):SO P n ops ⟨some d,.binOp .sub T x y T2,ty,ps,af,none⟩ f w K:=
 bin ox oy hx hy (by simp[binOp,Op.intArith,RU hi]) h
theorem mul (ox:bD n x=true) (oy:bD n y=true) (hx:ev f x=.int .i64 a) (hy:ev f y=.int .i64 b) (hi:aK (a*b)) (h:K (cg f d (.int .i64 (a*b))) w):SO P n ops ⟨some d,.binOp .mul T x y T2,ty,ps,af,none⟩ f w K:=
 bin ox oy hx hy (by simp[binOp,Op.intArith,RU hi]) h
theorem quo (ox:bD n x=true) (oy:bD n y=true) (hx:ev f x=.int .i64 a) (hy:ev f y=.int .i64 b) (hi:0≤a∧a≤9223372036854775807∧1≤b) (h:K (cg f d (.int .i64 (a/b))) w):SO P n ops ⟨some d,.binOp .quo T x y T2,ty,ps,af,none⟩ f w K:=
 bin ox oy hx hy (by
  have hb:b≠0:=by omega
  simp[binOp,Op.intDiv,hb];exact i64_quo a b hi) h
theorem rem (ox:bD n x=true) (oy:bD n y=true) (hx:ev f x=.int kk a) (hy:ev f y=.int kk b) (hi:0≤a∧1≤b) (h:K (cg f d (.int kk (a%b))) w):SO P n ops ⟨some d,.binOp .rem T x y T2,ty,ps,af,none⟩ f w K:=
 bin ox oy hx hy (by
  have hb:b≠0:=by omega
  simp[binOp,Op.intDiv,hb,rem_in a b hi.1]) h
theorem lss (ox:bD n x=true) (oy:bD n y=true) (hx:ev f x=.int kk a) (hy:ev f y=.int kk b) (h:K (cg f d (.bool (decide (a<b)))) w):SO P n ops ⟨some d,.binOp .lss T x y T2,ty,ps,af,none⟩ f w K:=
 bin ox oy hx hy (by simp[binOp,Op.intCmp]) h
theorem leq (ox:bD n x=true) (oy:bD n y=true) (hx:ev f x=.int kk a) (hy:ev f y=.int kk b) (h:K (cg f d (.bool (decide (a≤b)))) w):SO P n ops ⟨some d,.binOp .leq T x y T2,ty,ps,af,none⟩ f w K:=
 bin ox oy hx hy (by simp[binOp,Op.intCmp]) h
theorem gtr (ox:bD n x=true) (oy:bD n y=true) (hx:ev f x=.int kk a) (hy:ev f y=.int kk b) (h:K (cg f d (.bool (decide (b<a)))) w):SO P n ops ⟨some d,.binOp .gtr T x y T2,ty,ps,af,none⟩ f w K:=
 bin ox oy hx hy (by simp[binOp,Op.intCmp]) h
theorem geq (ox:bD n x=true) (oy:bD n y=true) (hx:ev f x=.int kk a) (hy:ev f y=.int kk b) (h:K (cg f d (.bool (decide (b≤a)))) w):SO P n ops ⟨some d,.binOp .geq T x y T2,ty,ps,af,none⟩ f w K:=
 bin ox oy hx hy (by simp[binOp,Op.intCmp]) h
theorem eql (ox:bD n x=true) (oy:bD n y=true) (hx:ev f x=.int kk a) (hy:ev f y=.int kk b) (h:K (cg f d (.bool (decide (a=b)))) w):SO P n ops ⟨some d,.binOp .eql T x y T2,ty,ps,af,none⟩ f w K:=
 bin ox oy hx hy (by simp[binOp,Op.intCmp];rfl) h
theorem neq (ox:bD n x=true) (oy:bD n y=true) (hx:ev f x=.int kk a) (hy:ev f y=.int kk b) (h:K (cg f d (.bool (!decide (a=b)))) w):SO P n ops ⟨some d,.binOp .neq T x y T2,ty,ps,af,none⟩ f w K:=
 bin ox oy hx hy (by simp[binOp,Op.intCmp];rfl) h
theorem Lt (ox:bD n x=true) (oy:bD n y=true) (hx:ev f x=.int .i64 a) (hy:ev f y=.int .u64 6) (h:K (cg f d (.int .i64 (a/64))) w):SO P n ops ⟨some d,.binOp .shr T x y T2,ty,ps,af,none⟩ f w K:=
 bin ox oy hx hy (by
  simp[binOp,Op.shift]
  show a.fdiv (2^min 6 64)=_
  rw[show (2:Int)^min 6 64=64 from rfl,Int.fdiv_eq_ediv_of_nonneg _ au]) h
theorem KU (ox:bD n x=true) (oy:bD n y=true) (hx:ev f x=.int .i64 a) (hy:ev f y=.int .i64 63) (h:K (cg f d (.int .i64 (a%64))) w):SO P n ops ⟨some d,.binOp .and T x y T2,ty,ps,af,none⟩ f w K:=
 bin ox oy hx hy (by
  simp only[binOp,Op.intBits,aqv,ap6,aoU,Sem.run_pure]
  have h1:((BitVec.ofInt IntKind.i64.bits a &&& BitVec.ofInt IntKind.i64.bits 63).toNat:Int)=a%64:=by
   show ((BitVec.ofInt 64 a &&& BitVec.ofInt 64 63).toNat:Int)=a%64
   rw[BitVec.toNat_and,apV,show (BitVec.ofInt 64 63).toNat=2^6-1 from rfl,Nat.and_two_pow_sub_one_eq_mod]
   have:(0:Int)≤a%((2^64:Nat):Int):=aqy _ au
   omega
  rw[h1,RU (by unfold aK;omega)]) h
theorem Ic (r:bp):IntKind.u64.wrap (r.toNat:Int)=(r.toNat:Int):=by rw[zl,oo]
theorem DA (s t:bp) (ox:bD n x=true) (oy:bD n y=true) (hx:ev f x=ag s) (hy:ev f y=ag t) (h:K (cg f d (ag (s &&& t))) w):SO P n ops ⟨some d,.binOp .and T x y T2,ty,ps,af,none⟩ f w K:=
 bin ox oy hx hy (by
  have e1:BitVec.ofInt IntKind.u64.bits (s.toNat:Int)=s:=oo s
  have e2:BitVec.ofInt IntKind.u64.bits (t.toNat:Int)=t:=oo t
  simp only[binOp,Op.intBits,aqv,ap6,aoU,Sem.run_pure,e1,e2];exact an0 (fun z=>Result.ok (Value.int .u64 z) w) (Ic (s &&& t))) h
theorem SP (s t:bp) (ox:bD n x=true) (oy:bD n y=true) (hx:ev f x=ag s) (hy:ev f y=ag t) (h:K (cg f d (ag (s ||| t))) w):SO P n ops ⟨some d,.binOp .or T x y T2,ty,ps,af,none⟩ f w K:=
 bin ox oy hx hy (by
  have e1:BitVec.ofInt IntKind.u64.bits (s.toNat:Int)=s:=oo s
  have e2:BitVec.ofInt IntKind.u64.bits (t.toNat:Int)=t:=oo t
  simp only[binOp,Op.intBits,aqv,ap6,aoU,Sem.run_pure,e1,e2];exact an0 (fun z=>Result.ok (Value.int .u64 z) w) (Ic (s ||| t))) h
theorem abc (s t:bp) (ox:bD n x=true) (oy:bD n y=true) (hx:ev f x=ag s) (hy:ev f y=ag t) (h:K (cg f d (ag (s &&& ~~~t))) w):SO P n ops ⟨some d,.binOp .andNot T x y T2,ty,ps,af,none⟩ f w K:=
 bin ox oy hx hy (by
  have e1:BitVec.ofInt IntKind.u64.bits (s.toNat:Int)=s:=oo s
  have e2:BitVec.ofInt IntKind.u64.bits (t.toNat:Int)=t:=oo t
  simp only[binOp,Op.intBits,aqv,ap6,aoU,Sem.run_pure,e1,e2];exact an0 (fun z=>Result.ok (Value.int .u64 z) w) (Ic (s &&& ~~~t))) h
theorem IY (s t:bp) (ox:bD n x=true) (oy:bD n y=true) (hx:ev f x=ag s) (hy:ev f y=ag t) (h:K (cg f d (ag (s+t))) w):SO P n ops ⟨some d,.binOp .add T x y T2,ty,ps,af,none⟩ f w K:=
 bin ox oy hx hy (by
  simp only[binOp,Op.intArith,aqv,ap6,aoU,Sem.run_pure]
  refine an0 (fun z=>Result.ok (Value.int .u64 z) w) ?_
  rw[IntKind.wrap_u64,BitVec.toNat_add];omega) h
theorem abC (s t:bp) (ox:bD n x=true) (oy:bD n y=true) (hx:ev f x=ag s) (hy:ev f y=ag t) (h:K (cg f d (ag (s-t))) w):SO P n ops ⟨some d,.binOp .sub T x y T2,ty,ps,af,none⟩ f w K:=
 bin ox oy hx hy (by
  simp only[binOp,Op.intArith,aqv,ap6,aoU,Sem.run_pure]
  refine an0 (fun z=>Result.ok (Value.int .u64 z) w) ?_
  have:=t.isLt
  rw[IntKind.wrap_u64,BitVec.toNat_sub];omega) h
theorem acp (s:bp) (ox:bD n x=true) (hx:ev f x=ag s) (h:K (cg f d (ag (-s))) w):SO P n ops ⟨some d,.unOp .neg T x,ty,ps,af,none⟩ f w K:=
 SO.value (v:=ag (-s)) (by
  simp only[execOp,aJ ox,hx,Op.unary,Op.intArith,aqv,ap6,aoU]
  have e:IntKind.u64.wrap (0-(s.toNat:Int))=((-s).toNat:Int):=by
   have:=s.isLt
   rw[IntKind.wrap_u64,BitVec.toNat_neg];omega
  rw[e];simp) h
theorem FJ (s t:bp) (ox:bD n x=true) (oy:bD n y=true) (hx:ev f x=ag s) (hy:ev f y=ag t) (h:K (cg f d (ag (s*t))) w):SO P n ops ⟨some d,.binOp .mul T x y T2,ty,ps,af,none⟩ f w K:=
 bin ox oy hx hy (by
  simp only[binOp,Op.intArith,aqv,ap6,aoU,Sem.run_pure]
  refine an0 (fun z=>Result.ok (Value.int .u64 z) w) ?_
  rw[IntKind.wrap_u64,BitVec.toNat_mul];exact(Int.natCast_emod _ _).symm) h
theorem aiC (s t:bp) (ht:t≠0#64) (ox:bD n x=true) (oy:bD n y=true) (hx:ev f x=ag s) (hy:ev f y=ag t) (h:K (cg f d (ag (s/t))) w):SO P n ops ⟨some d,.binOp .quo T x y T2,ty,ps,af,none⟩ f w K:=
 bin ox oy hx hy (by
  have h0:t.toNat≠0:=fun h=>ht<|apg h
  have h1:(t.toNat:Int)≠0:=by omega
  have hs:=s.isLt
  simp only[binOp,Op.intDiv,aqv,ap6,aoU,h1,Sem.run_pure]
  refine an0 (fun z=>Result.ok (Value.int .u64 z) w) ?_
  rw[u64_quo _ _ aj,BitVec.toNat_udiv];rfl) h
theorem abJ (s:bp) (b:Int) (hb:0≤b) (ox:bD n x=true) (oy:bD n y=true) (hx:ev f x=ag s) (hy:ev f y=.int kk b) (h:K (cg f d (ag (s <<< b.toNat))) w):SO P n ops ⟨some d,.binOp .shl T x y T2,ty,ps,af,none⟩ f w K:=
 bin ox oy hx hy (by
  have h0:¬b<0:=by omega
  simp only[binOp,Op.shift,h0,aoU,Sem.run_pure]
  refine an0 (fun z=>Result.ok (Value.int .u64 z) w) ?_
  show IntKind.u64.wrap ((s.toNat:Int)*2^min b.toNat 64)=_
  rw[IntKind.wrap_u64,BitVec.toNat_shiftLeft,Nat.shiftLeft_eq]
  rcases aqT b.toNat 64 with ef|vi
  ·rw[ao7 aj]
   simp
  ·rw[Nat.min_eq_right vi]
   have e1:s.toNat*2^b.toNat%2^64=0:=by
    rw[show b.toNat=64+(b.toNat-64) from by omega,Nat.pow_add,←Nat.mul_assoc,aqB (s.toNat) _,Nat.mul_assoc]
    exact Nat.mul_mod_right _ _
   rw[e1]
   show (s.toNat:Int)*18446744073709551616%18446744073709551616=0
   exact Int.mul_emod_left _ _) h
theorem aix (s:bp) (b:Int) (hb:0≤b) (ox:bD n x=true) (oy:bD n y=true) (hx:ev f x=ag s) (hy:ev f y=.int kk b) (h:K (cg f d (ag (s >>> b.toNat))) w):SO P n ops ⟨some d,.binOp .shr T x y T2,ty,ps,af,none⟩ f w K:=
 bin ox oy hx hy (by
  have h0:¬b<0:=by omega
  simp only[binOp,Op.shift,h0,aoU,Sem.run_pure]
  refine an0 (fun z=>Result.ok (Value.int .u64 z) w) ?_
  show (s.toNat:Int).fdiv (2^min b.toNat 64)=_
  rw[Int.fdiv_eq_ediv_of_nonneg _ (by have:(0:Int)<2^min b.toNat 64:=Int.pow_pos au;omega),ap8,ap2]
  rcases aqT b.toNat 64 with ef|vi
  ·rw[ao7 aj]
   simp
  ·rw[Nat.min_eq_right vi]
   have hs:=s.isLt
   have e1:s.toNat/2^b.toNat=0:=aqk<|aox hs<|Nat.pow_le_pow_right au vi
   rw[e1]
   show (s.toNat:Int)/18446744073709551616=0
   omega) h
theorem DW (s:bp) (k:Nat) (ox:bD n x=true) (oy:bD n y=true) (hx:ev f x=ag s) (hy:ev f y=.int kk ((k:Nat):Int)) (h:K (cg f d (ag (s >>> k))) w):SO P n ops ⟨some d,.binOp .shr T x y T2,ty,ps,af,none⟩ f w K:=
 aix s ((k:Nat):Int) aj ox oy hx hy (by rw[dq];exact h)
theorem eqU (s t:bp) (ox:bD n x=true) (oy:bD n y=true) (hx:ev f x=ag s) (hy:ev f y=ag t) (h:K (cg f d (.bool (decide (s=t)))) w):SO P n ops ⟨some d,.binOp .eql T x y T2,ty,ps,af,none⟩ f w K:=
 bin ox oy hx hy (by
  simp only[binOp,Op.intCmp,aqv,ap6,aoU,Sem.run_pure]
  refine an0 (fun z=>Result.ok (Value.bool z) w) ?_
  by_cases e:s=t
  ·subst e;simp
  ·have:(s.toNat:Int)≠t.toNat:=fun h=>e<|apg aj
   simp[e,this]) h
theorem neU (s t:bp) (ox:bD n x=true) (oy:bD n y=true) (hx:ev f x=ag s) (hy:ev f y=ag t) (h:K (cg f d (.bool (!decide (s=t)))) w):SO P n ops ⟨some d,.binOp .neq T x y T2,ty,ps,af,none⟩ f w K:=
 bin ox oy hx hy (by
  simp only[binOp,Op.intCmp,aqv,ap6,aoU,Sem.run_pure]
  refine an0 (fun z=>Result.ok (Value.bool z) w) ?_
  by_cases e:s=t
  ·subst e;simp
  ·have:(s.toNat:Int)≠t.toNat:=fun h=>e<|apg aj
   simp[e,this]) h
theorem YV (s t:bp) (ox:bD n x=true) (oy:bD n y=true) (hx:ev f x=ag s) (hy:ev f y=ag t) (h:K (cg f d (.bool (decide (t.toNat<s.toNat)))) w):SO P n ops ⟨some d,.binOp .gtr T x y T2,ty,ps,af,none⟩ f w K:=
 bin ox oy hx hy (by
  simp only[binOp,Op.intCmp,aqv,ap6,aoU,Sem.run_pure]
  refine an0 (fun z=>Result.ok (Value.bool z) w) ?_
  simp) h
theorem cv {e:TypeDesc} {k2:IntKind} (ox:bD n x=true) (hx:ev f x=.int kk a) (h1:P.underlying T=some e) (h2:P.underlying T2=some (.int k2)) (h:K (cg f d (.int k2 (k2.wrap a))) w):
  SO P n ops ⟨some d,.convert T T2 x,ty,ps,af,none⟩ f w K:=
 SO.value (v:=.int k2 (k2.wrap a)) (by simp[execOp,aJ ox,hx,convert,underlying,h1,h2,Conv.intToInt]) h
theorem PE {e:TypeDesc} (ox:bD n x=true) (hx:ev f x=.int kk a) (h1:P.underlying T=some e) (h2:P.underlying T2=some (.int .u64)) (h:K (cg f d (ag (BitVec.ofInt 64 a))) w):
  SO P n ops ⟨some d,.convert T T2 x,ty,ps,af,none⟩ f w K:=
 cv ox hx h1 h2 (by rw[zl];exact h)
theorem Zc {e:TypeDesc} (ox:bD n x=true) (hx:ev f x=.int kk a) (hi:aK a) (h1:P.underlying T=some e) (h2:P.underlying T2=some (.int .i64)) (h:K (cg f d (.int .i64 a)) w):
  SO P n ops ⟨some d,.convert T T2 x,ty,ps,af,none⟩ f w K:=
 cv ox hx h1 h2 (by rw[RU hi];exact h)
theorem max2 (ox:bD n x=true) (oy:bD n y=true) (hx:ev f x=.int kk a) (hy:ev f y=.int kk b) {Nr:Array TypeId} (h:K (cg f d (.int kk (max a b))) w):
  SO P n ops ⟨some d,.call {callee:=.builtin .max,args:=#[x,y],argTypes:=Nr},ty,ps,af,none⟩ f w K:=
 SO.value (v:=.int kk (max a b)) (by
  have:(if b>a then b else a)=max a b:=by split<;>omega
  simp[execOp,resolve,invoke,builtin,Builtin.max_,Builtin.max2,aJ ox,aJ oy,hx,hy,this]) h
theorem xt {i:Nat} {vs:Array Value} (ox:bD n x=true) (hx:ev f x=.tuple vs) (hi:vs[i]? =some v) (h:K (cg f d v) w):SO P n ops ⟨some d,.extract x i,ty,ps,af,none⟩ f w K:=
 SO.value (v:=v) (by simp[execOp,Instr.extract,aJ ox,hx,hi]) h
def GP (n:Nat) (L:List Operand):Bool:=L.all (bD n)
theorem yX {L:List Operand} (h:GP n L=true):L.map (cj n f).eval=L.map (ev f):=by
 apply aoP
 intro x hx
 exact aJ<|an9.1 h x hx
theorem mf {fn:Fn} {C:List Operand} (oc:GP n C=true) (h:K (cg f d (.func fn #[] (C.map (ev f)).toArray)) w):SO P n ops ⟨some d,.makeFunc fn #[] C.toArray,ty,ps,af,none⟩ f w K:=
 SO.value (v:=.func fn #[] (C.map (ev f)).toArray) (by simp[execOp,Instr.makeFunc,yX oc]) h
theorem xX {g:FuncId} {fn:Func} {c:Code} {args:Array Value} (hf:P.funcs[g]? =some fn) (hb:fn.body=some c) (hn:(fn.name== "runtime.NumGoroutine")=false):
  (callFunc g args).run P w=.ok (.enter g args) w:=by
 simp only[beq_eq_false_iff_ne,aqv] at hn
 simp[callFunc,hf,hb,hn]
def cx (P:Program) (g:FuncId):Prop:=∃fn c,P.funcs[g]? =some fn∧fn.body=some c∧(fn.name== "runtime.NumGoroutine")=false
theorem e0:([]:List Operand).map (ev f)=[]:=rfl
theorem ec {L:List Operand} {vs:List Value} (h:ev f x=v) (t:L.map (ev f)=vs):(x::L).map (ev f)=v::vs:=by
 rw[aoq,h,t]
theorem ca {g:FuncId} {L:List Operand} {vs:List Value} {Nr:Array TypeId} {R:Value→aG→Prop} (G:cx P g) (ol:GP n L=true) (hL:L.map (ev f)=vs)
  (hc:Calls P g vs.toArray w (cm R)) (h:∀v w',R v w'→K (cg f d v) w'):
  SO P n ops ⟨some d,.call {callee:=.value (.func g),args:=L.toArray,argTypes:=Nr},ty,ps,af,none⟩ f w K:=by
 obtain⟨fn,c,hf,hb,hn⟩:=G
 subst hL
 exact SO.enter (g:=g) (args:=(L.map (ev f)).toArray) (w':=w) (by
  simp only[execOp,resolve,ap7,yX ol]
  show ((Deferred.ofValue (.func (.func g) #[] #[]) (L.map (ev f)).toArray >>=fun d=>invoke d.target d.args).run P w)=_
  simp[Deferred.ofValue,invoke,xX hf hb hn]) (hc.mono fun e w' hr=>by
   obtain⟨v,rfl,hv⟩:=hr
   exact⟨v,rfl,h v w' hv⟩)
theorem cf {fx:Operand} {g:FuncId} {L:List Operand} {vs C:List Value} {Nr:Array TypeId} {R:Value→aG→Prop} (G:cx P g)
  (ofx:bD n fx=true) (ol:GP n L=true) (hfx:ev f fx=.func (.func g) #[] C.toArray) (hL:L.map (ev f)=vs)
  (hc:Calls P g (vs++C).toArray w (cm R)) (h:∀v w',R v w'→K (cg f d v) w'):
  SO P n ops ⟨some d,.call {callee:=.value fx,args:=L.toArray,argTypes:=Nr},ty,ps,af,none⟩ f w K:=by
 obtain⟨fn,c,hf,hb,hn⟩:=G
 subst hL
 exact SO.enter (g:=g) (args:=(L.map (ev f)++C).toArray) (w':=w) (by
  simp only[execOp,resolve,ap7,yX ol,aJ ofx,hfx]
  simp[Deferred.ofValue,invoke,xX hf hb hn]) (hc.mono fun e w' hr=>by
   obtain⟨v,rfl,hv⟩:=hr
   exact⟨v,rfl,h v w' hv⟩)
end
end Go.Ew
namespace Go.Ew
open Go.RowKit
variable {M:bY} {w:aG} {v:Value}
def Up (M:bY) (w:aG) (M':bY) (w':aG):Prop:=
 w.heap.size≤w'.heap.size∧∀b,b<w.heap.size→¬M b→w'.heap[b]? =w.heap[b]?∧¬M' b
theorem Up.refl (M:bY) (w:aG):Up M w M w:=⟨an3 _,fun _ _ h=>⟨rfl,h⟩⟩
theorem Up.trans {M M' M'':bY} {w w' mK:aG} (h:Up M w M' w') (k:Up M' w' M'' mK):Up M w M'' mK:=
 ⟨Nat.le_trans h.1 k.1,fun b hb hM=>by
  have h1:=h.2 b hb hM
  have h2:=k.2 b (aox hb h.1) h1.2
  exact⟨h2.1.trans h1.1,h2.2⟩⟩
theorem Up.ext {w':aG} (h:Ext w w'):Up M w M w':=⟨h.size,fun b hb hM=>⟨h.block b hb,hM⟩⟩
theorem Up.less {M':bY} (h:∀b,b<w.heap.size→M' b→M b):Up M w M' w:=⟨an3 _,fun b hb hM=>⟨rfl,fun h'=>hM (h b hb h')⟩⟩
theorem pQ {ad:Addr} (h:w.cell? ad=some v):ad.block<w.heap.size:=World.block_lt_of_cell? w ad h
theorem Up.cell {M M':bY} {w w':aG} (h:Up M w M' w') {ad:Addr} {v:Value} (hM:¬M ad.block) (hc:w.cell? ad=some v):w'.cell? ad=some v:=
 (World.cell?_of_block (h.2 _ (pQ hc) hM).1).trans hc
theorem vC (a:Addr) (j:Nat):(a.add j).block=a.block:=by unfold Addr.add;split<;>rfl
theorem add_add (a:Addr) (i j:Nat):(a.add i).add j=a.add (i+j):=by
 unfold Addr.add
 by_cases hi:i=0
 ·subst hi;simp
 ·by_cases hj:j=0
  ·subst hj;simp
  ·simp[hi,hj,aqN]
class GT (α:Type) where
 size:Nat
 agg:Bool
 rep:(bY)→aG→List Value→α→Prop
 len:∀{M w cs x},rep M w cs x→cs.length=size
 one:∀{M w cs x},rep M w cs x→∀c∈cs,c.oneCell'=true
 single:agg=false→size=1
 pos:0<size
 lift:∀{M w M' w' cs x},rep M w cs x→Up M w M' w'→rep M' w' cs x
def sF (agg:Bool) (cs:List Value):Value:=bif agg then .agg cs.toArray else cs.headD undef
theorem Uv {agg:Bool} {cs:List Value} (h:agg=false→cs.length=1) (h1:∀c∈cs,c.oneCell'=true):(sF agg cs).cells=cs.toArray:=by
 cases agg with
 |true=>rfl
 |false=>
  match cs,h rfl with
  |[c],_=>
   have:=h1 c<|by simp
   cases c<;>first|rfl|cases this
def RV {α:Type} [GT α] (M:bY) (w:aG) (v:Value) (x:α):Prop:=∃cs,GT.rep M w cs x∧v=sF (GT.agg α) cs
def At {α:Type} [GT α] (M:bY) (w:aG) (ad:Addr) (x:α):Prop:=∃cs,GT.rep M w cs x∧¬M ad.block∧∀j v,cs[j]? =some v→w.cell? (ad.add j)=some v
theorem RV.lift {α:Type} [GT α] {M M':bY} {w w':aG} {v:Value} {x:α} (h:RV M w v x) (u:Up M w M' w'):RV M' w' v x:=
 let ⟨cs,h1,h2⟩:=h;⟨cs,GT.lift h1 u,h2⟩
theorem At.lift {α:Type} [GT α] {M M':bY} {w w':aG} {ad:Addr} {x:α} (h:At M w ad x) (u:Up M w M' w'):At M' w' ad x:=by
 obtain⟨cs,h1,h2,h3⟩:=h
 have gB:0<cs.length:=by rw[GT.len h1];exact GT.pos
 have ef:ad.block<w.heap.size:=by
  have:=h3 0 cs[0]<|dW gB
  have:=pQ this
  rwa [vC] at this
 exact⟨cs,GT.lift h1 u,(u.2 _ ef h2).2,fun j v hv=>u.cell (by rw[vC];exact h2) (h3 j v hv)⟩
instance anq:GT Int where
 size:=1
 agg:=false
 rep _ _ cs x:=cs=[.int .i64 x]∧aK x
 len h:=by rw[h.1];rfl
 one h:=by rw[h.1];simp[Value.oneCell']
 single _:=rfl
 pos:=by decide
 lift h _:=h
instance gBV:GT bp where
 size:=1
 agg:=false
 rep _ _ cs x:=cs=[ag x]
 len h:=by rw[h];rfl
 one h:=by rw[h];simp[Value.oneCell']
 single _:=rfl
 pos:=by decide
 lift h _:=h
abbrev U8 (x:BitVec 8):Value:=.int .u8 (x.toNat:Int)
instance gB8:GT (BitVec 8) where
 size:=1
 agg:=false
 rep _ _ cs x:=cs=[U8 x]
 len h:=by rw[h];rfl
 one h:=by rw[h];simp[Value.oneCell']
 single _:=rfl
 pos:=by decide
 lift h _:=h
instance amM:GT Bool where
 size:=1
 agg:=false
 rep _ _ cs x:=cs=[.bool x]
 len h:=by rw[h];rfl
 one h:=by rw[h];simp[Value.oneCell']
 single _:=rfl
 pos:=by decide
 lift h _:=h
instance anp:GT bh where
 size:=1
 agg:=false
 rep _ _ cs x:=cs=[.string x]∧x.size≤maxLen
 len h:=by rw[h.1];rfl
 one h:=by rw[h.1];simp[Value.oneCell']
 single _:=rfl
 pos:=by decide
 lift h _:=h
instance amK {α β:Type} [GT α] [GT β]:GT (α×β) where
 size:=GT.size α+GT.size β
 agg:=true
 rep M w cs x:=∃c1 c2,cs=c1++c2∧GT.rep M w c1 x.1∧GT.rep M w c2 x.2
 len:=by
  rintro M w cs x ⟨c1,c2,rfl,h1,h2⟩
  rw[fJ,GT.len h1,GT.len h2]
 one:=by
  rintro M w cs x ⟨c1,c2,rfl,h1,h2⟩ c hc
  rcases aot.1 hc with h|h
  ·exact GT.one h1 c h
  ·exact GT.one h2 c h
 single h:=by cases h
 pos:=by have:=GT.pos (α:=α);omega
 lift:=by
  rintro M w M' w' cs x ⟨c1,c2,rfl,h1,h2⟩ u
  exact⟨c1,c2,J,GT.lift h1 u,GT.lift h2 u⟩
def U4 {α:Type} [GT α] (M:bY) (w:aG) (ad:Addr) (xs:List α):Prop:=
 ∀i x,xs[i]? =some x→At M w (ad.add (i*GT.size α)) x
def RS {α:Type} [GT α] (M:bY) (w:aG) (v:Value) (xs:List α):Prop:=
 ∃a n c,v=.slice a n c∧xs.length=n∧n≤c∧c≤maxLen∧(n=0∨∃ad,a=some ad∧U4 M w ad xs)
theorem RS.lift {α:Type} [GT α] {M M':bY} {w w':aG} {v:Value} {xs:List α} (h:RS M w v xs) (u:Up M w M' w'):RS M' w' v xs:=by
 obtain⟨a,n,c,h1,h2,h3,h4,h5⟩:=h
 refine⟨a,n,c,h1,h2,h3,h4,?_⟩
 rcases h5 with h5|⟨ad,h5,h6⟩
 ·exact .inl h5
 ·exact .inr ⟨ad,h5,fun i x hx=>(h6 i x hx).lift u⟩
instance amL {α:Type} [GT α]:GT (List α) where
 size:=1
 agg:=false
 rep M w cs xs:=∃v,cs=[v]∧RS M w v xs
 len:=by rintro M w cs x ⟨v,rfl,_⟩;rfl
 one:=by
  rintro M w cs x ⟨v,rfl,a,n,c,rfl,_⟩ c hc
  simp at hc;subst hc;rfl
 single _:=rfl
 pos:=by decide
 lift:=by
  rintro M w M' w' cs x ⟨v,rfl,h⟩ u
  exact⟨v,J,h.lift u⟩
theorem RV.int {M:bY} {w:aG} {v:Value} {x:Int}:RV M w v x↔v=.int .i64 x∧aK x:=by
 constructor
 ·rintro⟨cs,⟨rfl,h⟩,rfl⟩;exact⟨rfl,h⟩
 ·rintro⟨rfl,h⟩;exact⟨_,⟨rfl,h⟩,rfl⟩
theorem RV.bv {x:bp}:RV M w v x↔v=ag x:=by
 constructor
 ·rintro⟨cs,rfl,rfl⟩;rfl
 ·rintro rfl;exact⟨_,rfl,rfl⟩
theorem RV.b8 {x:BitVec 8}:RV M w v x↔v=U8 x:=by
 constructor
 ·rintro⟨cs,rfl,rfl⟩;rfl
 ·rintro rfl;exact⟨_,rfl,rfl⟩
theorem RV.bool {M:bY} {w:aG} {v:Value} {x:Bool}:RV M w v x↔v=.bool x:=by
 constructor
 ·rintro⟨cs,rfl,rfl⟩;rfl
 ·rintro rfl;exact⟨_,rfl,rfl⟩
theorem RV.str {x:bh}:RV M w v x↔v=.string x∧x.size≤maxLen:=by
 constructor
 ·rintro⟨cs,⟨rfl,h⟩,rfl⟩;exact⟨rfl,h⟩
 ·rintro⟨rfl,h⟩;exact⟨_,⟨rfl,h⟩,rfl⟩
theorem RV.list {α:Type} [GT α] {M:bY} {w:aG} {v:Value} {xs:List α}:RV M w v xs↔RS M w v xs:=by
 constructor
 ·rintro⟨cs,⟨u,rfl,h⟩,rfl⟩;exact h
 ·intro h;exact⟨[v],⟨v,rfl,h⟩,rfl⟩
structure Item where
 jI:Option Nat
 holds:(bY)→aG→Prop
 lift:∀{M M' w w'},holds M w→Up M w M' w'→(∀b,jI=some b→w'.heap[b]? =w.heap[b]?)→holds M' w'
def tq {α:Type} [GT α] (v:Value) (x:α):Item:=⟨none,fun M w=>RV M w v x,fun h u _=>h.lift u⟩
def pR {α:Type} [GT α] (ad:Addr) (x:α):Item:=⟨none,fun M w=>At M w ad x,fun h u _=>h.lift u⟩
def box (b:Nat) (cs:Array Value) (t:TypeId):Item:=⟨some b,fun M w=>w.heap[b]? =some (.cells cs t (0,0)),fun h u hb=>(hb b rfl).trans h⟩
def bz {α:Type} [GT α] (M:bY) (w:aG):List Value→List α→Prop
 |cs,[]=>cs=[]
 |cs,x::xs=>∃c1 c2,cs=c1++c2∧GT.rep M w c1 x∧bz M w c2 xs
theorem bz.lift {α:Type} [GT α] {M M':bY} {w w':aG} (u:Up M w M' w'):∀{xs:List α} {cs:List Value},bz M w cs xs→bz M' w' cs xs
 |[],_,h=>h
 |x::xs,cs,⟨c1,c2,h1,h2,h3⟩=>⟨c1,c2,h1,GT.lift h2 u,bz.lift u h3⟩
theorem bz.length {α:Type} [GT α] {M:bY} {w:aG}:∀{xs:List α} {cs:List Value},bz M w cs xs→cs.length=xs.length*GT.size α
 |[],_,h=>by rw[show _=[] from h];simp
 |x::xs,cs,⟨c1,c2,h1,h2,h3⟩=>by rw[h1,fJ,GT.len h2,bz.length h3,iS,aoT];omega
theorem bz.append {α:Type} [GT α] {M:bY} {w:aG}:∀{xs ys:List α} {cs ds:List Value},bz M w cs xs→bz M w ds ys→bz M w (cs++ds) (xs++ys)
 |[],ys,cs,ds,h,k=>by rw[show cs=[] from h];exact k
 |x::xs,ys,cs,ds,⟨c1,c2,h1,h2,h3⟩,k=>⟨c1,c2++ds,by rw[h1,aoA],h2,bz.append h3 k⟩
theorem bz.Bd {α:Type} [GT α] {M:bY} {w:aG}:∀{xs:List α} {cs:List Value},bz M w cs xs→∀c∈cs,c.oneCell'=true
 |[],_,h,c,hc=>by rw[show _=[] from h] at hc;cases hc
 |x::xs,cs,⟨c1,c2,h1,h2,h3⟩,c,hc=>by
  rw[h1] at hc
  rcases aot.1 hc with h|h
  ·exact GT.one h2 c h
  ·exact bz.Bd h3 c h
theorem bz.at_ {α:Type} [GT α] {M:bY} {w:aG}:∀{xs:List α} {cs:List Value},bz M w cs xs→∀i x,xs[i]? =some x→∃c,GT.rep M w c x∧∀j v,c[j]? =some v→cs[i*GT.size α+j]? =some v
 |[],_,_,i,x,hx=>by simp at hx
 |y::xs,cs,⟨c1,c2,h1,h2,h3⟩,i,x,hx=>by
  cases i with
  |zero=>
   simp at hx;subst hx
   refine⟨c1,h2,fun j v hv=>?_⟩
   have hj:j<c1.length:=(dJ.1 hv).1
   rw[h1,aqA,aoJ,oB hj];exact hv
  |succ i=>
   simp at hx
   obtain⟨c,yS,Ay⟩:=bz.at_ h3 i x hx
   refine⟨c,yS,fun j v hv=>?_⟩
   have hl:=GT.len h2
   rw[h1,nH (by rw[hl,aoT];omega),hl]
   have:=Ay j v hv
   rw[show (i+1)*GT.size α+j-GT.size α=i*GT.size α+j from by rw[aoT];omega]
   exact this
def own {α:Type} [GT α] (B:Nat) (e:TypeId) (v:Value) (xs:List α):Item:=
 ⟨v.ownBlock,fun M w=>∃cs,w.ownsRow B e (GT.size α) v xs.length cs∧bz M w cs xs,fun {M M' w w'} h u hb=>by
  obtain⟨cs,h1,h2⟩:=h
  refine⟨cs,⟨h1.1,?_⟩,bz.lift u h2⟩
  rcases h1.2 with h3|⟨g,cap,cur,rfl,h4,h5,h6⟩
  ·exact .inl h3
  ·exact .inr ⟨g,cap,cur,rfl,h4,(hb g rfl).trans h5,h6⟩⟩
def MS (M0:bY) (l:List Item) (b:Nat):Prop:=M0 b∨∃it∈l,it.jI=some b
structure HI (M0:bY) (w0 w:aG) (l:List Item):Prop where
 below:Ext w0 w
 m0:∀b,M0 b→b<w0.heap.size
 jl:∀it∈l,∀b,it.jI=some b→w0.heap.size≤b∧b<w.heap.size
 nodup:(l.filterMap (·.jI)).Nodup
 all:∀it∈l,it.holds (MS M0 l) w
abbrev HI.fg {M0:Nat→Prop} {w0 w:aG} {l:List Item} (_:HI M0 w0 w l):Nat→Prop:=MS M0 l
section
variable {M0:bY} {w0 w w':aG} {l:List Item} {it nA:Item}
theorem HI.at_ (h:HI M0 w0 w l) (i:Nat) (hi:l[i]? =some it):it.holds (MS M0 l) w:=h.all it (dz hi)
theorem HI.mb (h:HI M0 w0 w l):∀b,MS M0 l b→b<w.heap.size:=by
 rintro b (hb|⟨it,hit,hb⟩)
 ·exact aox (h.m0 b hb) h.below.size
 ·exact(h.jl it hit b hb).2
theorem HI.start (hM:∀b,M0 b→b<w.heap.size):HI M0 w w []:=
 ⟨Ext.refl w,hM,fun _ h=>(by cases h),aq0,fun _ h=>(by cases h)⟩
theorem HI.ext (h:HI M0 w0 w l) (x:Ext w w'):HI M0 w0 w' l:=
 ⟨h.below.trans x,h.m0,fun it hit b hb=>⟨(h.jl it hit b hb).1,aox (h.jl it hit b hb).2 x.size⟩,h.nodup,
  fun it hit=>it.lift (h.all it hit) (Up.ext x) fun b hb=>x.block b (h.jl it hit b hb).2⟩
theorem aH (hn:it.jI=none):MS M0 (it::l)=MS M0 l:=by
 funext b
 simp only[MS,aoh,eq_iff_iff]
 constructor
 ·rintro(h|⟨i,rfl|hi,hb⟩)
  ·exact .inl h
  ·rw[hn] at hb;cases hb
  ·exact .inr ⟨i,hi,hb⟩
 ·rintro(h|⟨i,hi,hb⟩)
  ·exact .inl h
  ·exact .inr ⟨i,.inr hi,hb⟩
theorem HI.put (h:HI M0 w0 w l) (hn:it.jI=none) (hh:it.holds (MS M0 l) w):HI M0 w0 w (it::l):=by
 refine⟨h.below,h.m0,?_,by simpa [aoQ,hn] using h.nodup,?_⟩
 ·intro i hi b hb
  rcases aoh.1 hi with rfl|hi
  ·rw[hn] at hb;cases hb
  ·exact h.jl i hi b hb
 ·rw[aH hn]
  intro i hi
  rcases aoh.1 hi with rfl|hi
  ·exact hh
  ·exact h.all i hi
theorem HI.new (h:HI M0 w0 w l) (x:Ext w w') (b:Nat) (hn:it.jI=some b) (hb:w.heap.size≤b) (vm:b<w'.heap.size) (hh:it.holds (MS M0 (it::l)) w'):HI M0 w0 w' (it::l):=by
 refine⟨h.below.trans x,h.m0,?_,?_,?_⟩
 ·intro i hi c hc
  rcases aoh.1 hi with rfl|hi
  ·rw[hn] at hc;cases hc;exact⟨Nat.le_trans h.below.size hb,vm⟩
  ·exact⟨(h.jl i hi c hc).1,aox (h.jl i hi c hc).2 x.size⟩
 ·rw[aoQ,hn]
  refine ao8.2 ⟨?_,h.nodup⟩
  intro hm
  obtain⟨i,hi,BZ⟩:=aou.1 hm
  have:=(h.jl i hi b BZ).2
  omega
 ·intro i hi
  rcases aoh.1 hi with rfl|hi
  ·exact hh
  ·refine i.lift (h.all i hi) ⟨x.size,fun c hc hM=>⟨x.block c hc,?_⟩⟩ fun c hc=>x.block c (h.jl i hi c hc).2
   rintro(MD|⟨j,hj,xG⟩)
   ·exact hM<|.inl MD
   ·rcases aoh.1 hj with rfl|hj
    ·rw[hn] at xG;cases xG;omega
    ·exact hM<|.inr ⟨j,hj,xG⟩
theorem HI.uk (h:HI M0 w0 w l) (i:Nat) (hi:l[i]? =some it) (hos:w'.os=w.os) (hta:w'.tape=w.tape) (hou:w'.output=w.output) (hs:w.heap.size≤w'.heap.size) (hdr:w.drawn≤w'.drawn)
  (hk:∀c,c<w.heap.size→it.jI≠some c→w'.heap[c]? =w.heap[c]?)
  (hb:∀b,nA.jI=some b→b<w'.heap.size∧(it.jI=some b∨w.heap.size≤b))
  (hh:nA.holds (MS M0 (l.set i nA)) w'):HI M0 w0 w' (l.set i nA):=by
 have jL:i<l.length:=(dJ.1 hi).1
 have hit:it∈l:=dz hi
 have Bt:∀j,j∈l.set i nA→j=nA∨∃m,m≠i∧l[m]? =some j:=by
  intro j hj
  obtain⟨m,hm,rfl⟩:=ap3.1 hj
  rw[aqP]
  split
  ·exact .inl rfl
  ·rename_i gB
   exact .inr ⟨m,fun e=>gB e.symm,dW (by simpa using hm)⟩
 
 have MA:∀m j b,m≠i→l[m]? =some j→j.jI=some b→it.jI≠some b:=by
  intro m j b hm hj wa BZ
  exact hm<|im (·.jI) l h.nodup m i j it hj hi (by rw[wa];rfl)<|by rw[wa,BZ]
 refine⟨⟨⟨hos.trans h.below.os,hta.trans h.below.tape,hou.trans h.below.output,Nat.le_trans h.below.size hs,fun c hc=>?_⟩,Nat.le_trans h.below.drawn hdr⟩,h.m0,?_,?_,?_⟩
 ·rw[hk c (aox hc h.below.size) (fun e=>by have:=(h.jl it hit c e).1;omega)]
  exact h.below.block c hc
 ·intro j hj b wa
  rcases Bt j hj with rfl|⟨m,hm,Aw⟩
  ·obtain⟨h1,h2⟩:=hb b wa
   refine⟨?_,h1⟩
   rcases h2 with h2|h2
   ·exact(h.jl it hit b h2).1
   ·exact Nat.le_trans h.below.size h2
  ·have:=h.jl j (dz Aw) b wa
   exact⟨this.1,aox this.2 hs⟩
 ·
  have ac2:l=l.take i++it::l.drop (i+1):=by
   have h1:=ao2 i l
   rw[aoS jL] at h1
   have h2:l[i]=it:=by
    have:=dW jL
    rw[hi] at this
    exact(an5 this).symm
   rw[h2] at h1
   exact h1.symm
  have aiR:l.set i nA=l.take i++nA::l.drop (i+1):=by
   rw[List.set_eq_take_append_cons_drop,an4 jL]
  have lS:=h.nodup
  rw[ac2] at lS
  rw[aiR]
  simp only[aqi,aoQ] at lS ⊢
  have Mn:((l.take i).filterMap (·.jI)++(l.drop (i+1)).filterMap (·.jI)).Nodup:=by
   refine aqD ?_ lS
   refine List.Sublist.append (List.Sublist.refl _) ?_
   cases it.jI with
   |none=>exact List.Sublist.refl _
   |some b=>exact List.sublist_cons_self _ _
  cases B2:nA.jI with
  |none=>simpa [B2] using Mn
  |some b=>
   simp only[]
   have adp:∀j,(j∈l.take i∨j∈l.drop (i+1))→j.jI≠some b:=by
    intro j hj wa
    have Aw:∃m,m≠i∧l[m]? =some j:=by
     rcases hj with hj|hj
     ·obtain⟨m,hm,rfl⟩:=ap3.1 hj
      simp only[ic] at hm
      exact⟨m,by omega,by rw[List.getElem_take];exact dW aj⟩
     ·obtain⟨m,hm,rfl⟩:=ap3.1 hj
      simp only[aog] at hm
      exact⟨i+1+m,by omega,by rw[List.getElem_drop];exact dW aj⟩
    obtain⟨m,hm,Aw⟩:=Aw
    rcases (hb b B2).2 with h2|h2
    ·exact MA m j b hm Aw wa h2
    ·have:=(h.jl j (dz Aw) b wa).2
     omega
   have:((l.take i).filterMap (·.jI)++b::(l.drop (i+1)).filterMap (·.jI)).Nodup:=by
    rw[apL] at Mn ⊢
    refine⟨Mn.1,ao8.2 ⟨?_,Mn.2.1⟩,?_⟩
    ·intro hm
     obtain⟨j,hj,wa⟩:=aou.1 hm
     exact adp j (.inr hj) wa
    ·intro c hc c' MD he
     subst he
     rcases aoh.1 MD with rfl|MD
     ·obtain⟨j,hj,wa⟩:=aou.1 hc
      exact adp j (.inl hj) wa
     ·exact Mn.2.2 c hc c MD J
   exact this
 ·intro j hj
  rcases Bt j hj with rfl|⟨m,hm,Aw⟩
  ·exact hh
  ·have xF:=dz Aw
   refine j.lift (h.all j xF) ⟨hs,fun c hc hM=>?_⟩ fun c hc=>hk c (h.jl j xF c hc).2 (MA m j c hm Aw hc)
   refine⟨hk c hc fun e=>hM (.inr ⟨it,hit,e⟩),?_⟩
   rintro(h1|⟨q,hq,hqc⟩)
   ·exact hM<|.inl h1
   ·rcases Bt q hq with rfl|⟨m',Ts,je⟩
    ·rcases (hb c hqc).2 with h2|h2
     ·exact hM<|.inr ⟨it,hit,h2⟩
     ·omega
    ·exact hM<|.inr ⟨q,dz je,hqc⟩
theorem HI.pick (h:HI M0 w0 w l) (l':List Item) (hs:∀it∈l',it∈l) (hn:(l'.filterMap (·.jI)).Nodup):HI M0 w0 w l':=
 ⟨h.below,h.m0,fun it hit=>h.jl it (hs it hit),hn,fun it hit=>it.lift (h.all it (hs it hit)) (Up.less fun b _ hb=>by
  rcases hb with hb|⟨j,hj,wa⟩
  ·exact .inl hb
  ·exact .inr ⟨j,hs j hj,wa⟩) fun _ _=>rfl⟩
theorem HI.drop (h:HI M0 w0 w l) (i:Nat):HI M0 w0 w (l.eraseIdx i):=
 h.pick _ (fun it hit=>List.mem_of_mem_eraseIdx hit) (h.nodup.sublist ((List.eraseIdx_sublist l i).filterMap _))
theorem HI.tail (h:HI M0 w0 w (it::l)):HI M0 w0 w l:=h.drop 0
theorem HI.out (h:HI M0 w0 w l):Up (MS M0 l) w M0 w:=Up.less fun b _ hb=>.inl hb
end
def Zx {α:Type} [GT α] (M:bY) (w0:aG) (x:α) (v:Value) (w:aG):Prop:=Ext w0 w∧RV M w v x
def afo {α:Type} [GT α] (w0:aG) (x:α) (v:Value) (w:aG):Prop:=Ext w0 w∧RV (fun b=>b<w0.heap.size) w v x
def afn {α:Type} [GT α] (e:TypeId) (w0:aG) (xs:List α) (v:Value) (w:aG):Prop:=
 Ext w0 w∧(∀b,v.ownBlock=some b→b<w.heap.size)∧(own w0.heap.size e v xs).holds (fun b=>b<w0.heap.size∨v.ownBlock=some b) w
theorem bE (b:Bool):b=true∨b=false:=Bool.eq_false_or_eq_true b
theorem dT {p:Prop} [Decidable p] (h:decide p=true):p:=aoN h
theorem dF {p:Prop} [Decidable p] (h:decide p=false):¬p:=apF h
abbrev OA:=Option Addr
abbrev sL {α:Type} (a:Option Addr) (xs:List α) (c:Nat):Value:=.slice a xs.length c
abbrev iL {α:Type} [GT α] (a:Option Addr) (xs:List α) (c:Nat):Item:=tq (.slice a xs.length c) xs
abbrev oL {α:Type} [GT α] (w:aG) (e:TypeId) (a:Option Addr) (xs:List α) (c:Nat):Item:=own w.heap.size e (.slice a xs.length c) xs
end Go.Ew
namespace Go.Ew
open Go.RowKit Go.IntWalk
variable {ao:Option Addr} {m cc:Nat}
def ae_ (P:Program) (t:TypeId):Option Bool:=(P.underlying t).map fun| .struct _| .array _ _=>true|_=>false
structure ep (P:Program) (t:TypeId) (k:Nat) (agg:Bool) (bytes:Nat) (z:Value):Prop where
 i:(P.info? t).map (fun i=>(i.zero,i.size,i.bytes))=some (some z,k,bytes)
 a:ae_ P t=some agg
section
variable {P:Program} {t e:TypeId} {k bytes:Nat} {agg:Bool} {z:Value} {w:aG}
theorem ep.info (F:ep P t k agg bytes z):∃i,P.info? t=some i∧i.zero=some z∧i.size=k∧i.bytes=bytes:=info_parts F.i
theorem ep.Jg (F:ep P t k agg bytes z) (w:aG):(isAgg t).run P w=.ok agg w:=by
 have h:=F.a
 unfold ae_ at h
 cases hu:P.underlying t with
 |none=>rw[hu] at h;cases h
 |some d=>
  rw[hu] at h
  simp only[aoV,aod] at h
  subst h
  cases d<;>simp[isAgg,underlying,hu]
theorem ep.iK (F:ep P t k agg bytes z) (w:aG):(sizeOf t).run P w=.ok k w:=by
 obtain⟨i,h1,_,h2,_⟩:=F.info
 simp[sizeOf,typeInfo,h1,h2]
theorem ep.um (F:ep P t k agg bytes z) (w:aG):(zeroValue t).run P w=.ok z w:=by
 obtain⟨i,h1,h2,_⟩:=F.info
 simp[zeroValue,typeInfo,h1,h2]
theorem gp {d:TypeDesc} (h:P.underlying t=some d) (w:aG):(underlying t).run P w=.ok d w:=by simp[underlying,h]
theorem rI (F:ep P t k agg bytes z) (hk:agg=false→k=1) {ad:Addr} {cs:List Value} (hl:cs.length=k) (hc:∀j v,cs[j]? =some v→w.cell? (ad.add j)=some v):
  (loadVar t ad).run P w=.ok (sF agg cs) w:=by
 cases agg with
 |true=>
  subst hl
  simp[loadVar,F.Jg,F.iK,run_loadCells_list w ad cs hc,sF]
 |false=>
  match cs,hl,hc with
  |[c],_,hc=>
   have h0:w.cell? ad=some c:=by
    have:=hc 0 c J
    rwa [show ad.add 0=ad from by simp[Addr.add]] at this
   simp[loadVar,F.Jg,h0,sF]
  |[],hl,_=>simp at hl;have:=hk rfl;omega
  |_::_::_,hl,_=>simp at hl;have:=hk rfl;omega
end
def gP {α:Type} [GT α] (M:bY) (w:aG) (ad:Addr) (x:α):Prop:=∃cs,GT.rep M w cs x∧∀j v,cs[j]? =some v→w.cell? (ad.add j)=some v
theorem At.w {α:Type} [GT α] {M:bY} {w:aG} {ad:Addr} {x:α} (h:At M w ad x):gP M w ad x:=let ⟨cs,h1,_,h3⟩:=h;⟨cs,h1,h3⟩
theorem At.fst {α β:Type} [GT α] [GT β] {M:bY} {w:aG} {ad:Addr} {x:α×β} (h:At M w ad x):At M w ad x.1:=by
 obtain⟨_,⟨c1,c2,rfl,h1,h2⟩,hM,hc⟩:=h
 exact⟨c1,h1,hM,fun j v hv=>hc j v (by rw[oB (dJ.1 hv).1];exact hv)⟩
theorem At.snd {α β:Type} [GT α] [GT β] {M:bY} {w:aG} {ad:Addr} {x:α×β} (h:At M w ad x):At M w (ad.add (GT.size α)) x.2:=by
 obtain⟨_,⟨c1,c2,rfl,h1,h2⟩,hM,hc⟩:=h
 refine⟨c2,h2,by rw[vC];exact hM,fun j v hv=>?_⟩
 rw[add_add]
 refine hc _ v ?_
 rw[nH (by rw[GT.len h1];omega),GT.len h1]
 rw[show GT.size α+j-GT.size α=j from by omega]
 exact hv
theorem gP.fst {α β:Type} [GT α] [GT β] {M:bY} {w:aG} {ad:Addr} {x:α×β} (h:gP M w ad x):gP M w ad x.1:=by
 obtain⟨_,⟨c1,c2,rfl,h1,h2⟩,hc⟩:=h
 exact⟨c1,h1,fun j v hv=>hc j v (by rw[oB (dJ.1 hv).1];exact hv)⟩
theorem gP.snd {α β:Type} [GT α] [GT β] {M:bY} {w:aG} {ad:Addr} {x:α×β} (h:gP M w ad x):gP M w (ad.add (GT.size α)) x.2:=by
 obtain⟨_,⟨c1,c2,rfl,h1,h2⟩,hc⟩:=h
 refine⟨c2,h2,fun j v hv=>?_⟩
 rw[add_add]
 refine hc _ v ?_
 rw[nH (by rw[GT.len h1];omega),GT.len h1]
 rw[show GT.size α+j-GT.size α=j from by omega]
 exact hv
section
variable {P:Program} {n:Nat} {ops:Array Oper} {f:aO} {w:aG} {K:aO→aG→Prop} {x y c:Operand} {d:Nat} {ty T T2 e:TypeId} {ps:String} {af:Array Edge} {v v2:Value} {a b:Int} {M M0:bY} {w0:aG} {l:List Item} {kk:IntKind} {bytes:Nat} {z:Value} {ad:Addr} {size:Nat} {agg:Bool}
theorem nz {α:Type} [GT α] {xv:α} (hA:gP M w ad xv) (F:ep P T (GT.size α) (GT.agg α) bytes z) (ox:bD n x=true) (hx:ev f x=.pointer (some ad))
  (h:∀v,RV M w v xv→K (cg f d v) w):SO P n ops ⟨some d,.load T x,ty,ps,af,none⟩ f w K:=by
 obtain⟨cs,h1,h2⟩:=hA
 exact SO.value (v:=sF (GT.agg α) cs) (by
  simp[execOp,aJ ox,hx,Instr.loadAt,Instr.sureAddr,rI F GT.single (GT.len h1) h2]) (h _ ⟨cs,h1,rfl⟩)
theorem mP {i:Int} (hA:gP M w ad i) (F:ep P T 1 false bytes z) (ox:bD n x=true) (hx:ev f x=.pointer (some ad)) (h:aK i→K (cg f d (.int .i64 i)) w):
  SO P n ops ⟨some d,.load T x,ty,ps,af,none⟩ f w K:=nz hA F ox hx fun v hv=>by obtain⟨rfl,hi⟩:=RV.int.1 hv;exact h hi
theorem yK {u:bp} (hA:gP M w ad u) (F:ep P T 1 false bytes z) (ox:bD n x=true) (hx:ev f x=.pointer (some ad)) (h:K (cg f d (ag u)) w):
  SO P n ops ⟨some d,.load T x,ty,ps,af,none⟩ f w K:=nz hA F ox hx fun v hv=>by rw[RV.bv.1 hv];exact h
theorem ld8 {u:BitVec 8} (hA:gP M w ad u) (F:ep P T 1 false bytes z) (ox:bD n x=true) (hx:ev f x=.pointer (some ad)) (h:K (cg f d (U8 u)) w):
  SO P n ops ⟨some d,.load T x,ty,ps,af,none⟩ f w K:=nz hA F ox hx fun v hv=>by rw[RV.b8.1 hv];exact h
theorem ldB {u:Bool} (hA:gP M w ad u) (F:ep P T 1 false bytes z) (ox:bD n x=true) (hx:ev f x=.pointer (some ad)) (h:K (cg f d (.bool u)) w):
  SO P n ops ⟨some d,.load T x,ty,ps,af,none⟩ f w K:=nz hA F ox hx fun v hv=>by rw[RV.bool.1 hv];exact h
theorem Yd {u:bh} (hA:gP M w ad u) (F:ep P T 1 false bytes z) (ox:bD n x=true) (hx:ev f x=.pointer (some ad)) (h:u.size≤maxLen→K (cg f d (.string u)) w):
  SO P n ops ⟨some d,.load T x,ty,ps,af,none⟩ f w K:=nz hA F ox hx fun v hv=>by obtain⟨rfl,hi⟩:=RV.str.1 hv;exact h hi
theorem RS.explicit {α:Type} [GT α] {xs:List α} (h:RS M w v xs):∃a c,v=.slice a xs.length c∧RV M w (.slice a xs.length c) xs:=by
 obtain⟨a,n,c,rfl,rfl,h3⟩:=h
 exact⟨a,c,J,RV.list.2 ⟨a,_,c,J,J,h3⟩⟩
theorem va {α:Type} [GT α] {xs:List α} (hA:gP M w ad xs) (F:ep P T 1 false bytes z) (ox:bD n x=true) (hx:ev f x=.pointer (some ad))
  (h:∀a c,RV M w (.slice a xs.length c) xs→K (cg f d (.slice a xs.length c)) w):SO P n ops ⟨some d,.load T x,ty,ps,af,none⟩ f w K:=
 nz hA F ox hx fun v hv=>by obtain⟨a,c,rfl,hr⟩:=(RV.list.1 hv).explicit;exact h a c hr
theorem cB {bb off:Nat} {cs:Array Value} {t:TypeId} {k:Nat} (H:HI M0 w0 w l) (i:Nat) (hi:l[i]? =some (box bb cs t)) (F:ep P T k agg bytes z) (ox:bD n x=true) (hx:ev f x=.pointer (some ⟨bb,off,none⟩))
  (hk:agg=false→k=1) (hl:((cs.toList.drop off).take k).length=k) (h:K (cg f d (sF agg ((cs.toList.drop off).take k))) w):SO P n ops ⟨some d,.load T x,ty,ps,af,none⟩ f w K:=by
 have hb:w.heap[bb]? =some (.cells cs t (0,0)):=H.at_ i hi
 refine SO.value (v:=sF agg ((cs.toList.drop off).take k)) ?_ h
 have hc:∀j u,((cs.toList.drop off).take k)[j]? =some u→w.cell? ((⟨bb,off,none⟩:Addr).add j)=some u:=by
  intro j u hu
  rw[show (⟨bb,off,none⟩:Addr).add j=⟨bb,off+j,none⟩ from by unfold Addr.add;split<;>simp_all,cell_of_row w bb (off+j) cs t (0,0) hb]
  have hj:j<k:=by
   have:=(dJ.1 hu).1
   omega
  rw[aov,an4 hj,aoG] at hu
  simpa using hu
 simp[execOp,aJ ox,hx,Instr.loadAt,Instr.sureAddr,rI F hk hl hc]
theorem lx {bb off:Nat} {cs:Array Value} {t:TypeId} (H:HI M0 w0 w l) (i:Nat) (hi:l[i]? =some (box bb cs t)) (F:ep P T 1 false bytes z) (ox:bD n x=true) (hx:ev f x=.pointer (some ⟨bb,off,none⟩))
  (hl:((cs.toList.drop off).take 1).length=1) (h:K (cg f d (sF false ((cs.toList.drop off).take 1))) w):SO P n ops ⟨some d,.load T x,ty,ps,af,none⟩ f w K:=cB H i hi F ox hx (fun _=>rfl) hl h
def wr (cs:Array Value) (off:Nat) (vs:List Value):Array Value:=(cs.toList.take off++vs++cs.toList.drop (off+vs.length)).toArray
theorem Ct (F:ep P T size agg bytes z) {g o:Nat} {cs:Array Value} {t:TypeId} (hg:w.heap[g]? =some (.cells cs t (0,0))) (hs:v.cells.size=size) (hf:o+v.cells.toList.length≤cs.size) (h1:∀u∈v.cells.toList,u.oneCell'=true):
  (storeVar T ⟨g,o,none⟩ v).run P w=.ok () (w.setRow g (wr cs o v.cells.toList)):=by
 have oP:=run_storeCells_at P g o t v.cells.toList 0 cs w hg (by simpa using hf) h1
 simp only[aoH] at oP
 simp[storeVar,F.iK,hs,oP,wr]
theorem HI.wrote {g:Nat} {cs cs':Array Value} {t:TypeId} (H:HI M0 w0 w l) (i:Nat) (hi:l[i]? =some (box g cs t)):HI M0 w0 (w.setRow g cs') (l.set i (box g cs' t)):=by
 have hb:w.heap[g]? =some (.cells cs t (0,0)):=H.at_ i hi
 refine H.uk i hi J J J (by simp) (an3 _) (fun c hc gB=>setRow_other w g c _<|fun e=>gB<|by rw[e];rfl) (fun b vm=>?_)<|setRow_heap w g cs _ t _ hb
 refine⟨?_,.inl vm⟩
 rw[size_setRow]
 exact(H.jl _ (dz hi) b vm).2
theorem bu {dd:Option Nat} {bb off:Nat} {cs:Array Value} {t:TypeId} (H:HI M0 w0 w l) (i:Nat) (hi:l[i]? =some (box bb cs t)) (F:ep P T size agg bytes z) (ox:bD n x=true) (oy:bD n y=true) (hx:ev f x=.pointer (some ⟨bb,off,none⟩)) (hy:ev f y=v)
  (hs:v.cells.size=size) (hf:Nat.ble (off+v.cells.toList.length) cs.size=true) (h1:v.cells.toList.all Value.oneCell'=true)
  (h:∀w',HI M0 w0 w' (l.set i (box bb (wr cs off v.cells.toList) t))→K (cW f dd undef) w'):SO P n ops ⟨dd,.store T x y,ty,ps,af,none⟩ f w K:=by
 have hb:w.heap[bb]? =some (.cells cs t (0,0)):=H.at_ i hi
 refine SO.skip ?_ (h _<|H.wrote i hi)
 simp[execOp,aJ ox,aJ oy,hx,hy,Instr.storeAt,Instr.sureAddr,Ct F hb hs (by simpa using hf) (fun u hu=>an9.1 h1 u hu)]
theorem Bf (t:TypeId) (v:Value) (w:aG):(newVar t v).run P w=.ok ⟨w.heap.size,0,none⟩ (w.alloc (.cells v.cells t)):=by simp[newVar,newRow]
theorem HI.aeU (H:HI M0 w0 w l) (cs:Array Value) (t:TypeId):HI M0 w0 (w.alloc (.cells cs t)) (box w.heap.size cs t::l):=
 H.new (Ext.alloc w _) w.heap.size rfl (an3 _) (by simp) (heap_alloc_new w _)
theorem al (H:HI M0 w0 w l) (F:ep P T size agg bytes z) (h:∀b w',Ext w w'→HI M0 w0 w' (box b z.cells T::l)→K (cg f d (.pointer (some ⟨b,0,none⟩))) w'):
  SO P n ops ⟨some d,.alloc T,ty,ps,af,none⟩ f w K:=
 SO.value (v:=.pointer (some ⟨w.heap.size,0,none⟩)) (w':=w.alloc (.cells z.cells T)) (by simp[execOp,Instr.alloc,F.um,Bf]) (h _ _ (Ext.alloc w _) (H.aeU z.cells T))
theorem bx (H:HI M0 w0 w l) (ox:bD n x=true) (hx:ev f x=v) (h:∀b w',Ext w w'→HI M0 w0 w' (box b v.cells T::l)→K (cg f d (.pointer (some ⟨b,0,none⟩))) w'):
  SO P n ops ⟨some d,.box T x,ty,ps,af,none⟩ f w K:=
 SO.value (v:=.pointer (some ⟨w.heap.size,0,none⟩)) (w':=w.alloc (.cells v.cells T)) (by simp[execOp,Instr.box,aJ ox,hx,Bf]) (h _ _ (Ext.alloc w _) (H.aeU v.cells T))
structure gR (P:Program) (s:TypeId) (j:Nat) (off:Nat):Prop where
 h:∃fs fd,P.underlying s=some (.struct fs)∧fs[j]? =some fd∧fd.offset=off∧((P.info? fd.type).map fun i=>Nat.beq i.size 0)=some false
theorem fa {j off:Nat} (F:gR P T j off) (ox:bD n x=true) (hx:ev f x=.pointer (some ad)) (h:K (cg f d (.pointer (some (ad.add off)))) w):SO P n ops ⟨some d,.fieldAddr T x j,ty,ps,af,none⟩ f w K:=by
 obtain⟨fs,fd,h1,h2,rfl,h3⟩:=F.h
 obtain⟨i,h4,h6⟩:=aop.1 h3
 have h5:i.size≠0:=by
  intro e
  rw[e] at h6
  cases h6
 exact SO.value (v:=.pointer (some (ad.add fd.offset))) (by
  simp[execOp,aJ ox,hx,Instr.fieldAt,gp h1,h2,Instr.sureAddr,fieldPlace,sizeOf,typeInfo,h4,h5]) h
theorem ia {α:Type} [GT α] {xs:List α} {i:Int} (hR:RV M w v xs) (ox:bD n x=true) (oy:bD n y=true) (hx:ev f x=v) (hy:ev f y=.int kk i) (hi:0≤i∧i<xs.length) (hu:P.underlying T=some (.slice e)) (F:ep P e (GT.size α) agg bytes z)
  (h:∀ad xv,xs[i.toNat]? =some xv→At M w ad xv→K (cg f d (.pointer (some ad))) w):SO P n ops ⟨some d,.indexAddr T x y,ty,ps,af,none⟩ f w K:=by
 obtain⟨a,m,c,rfl,h1,h2,h3,h4⟩:=RV.list.1 hR
 rcases h4 with h4|⟨ad,rfl,hs⟩
 ·omega
 ·have ef:i.toNat<xs.length:=by omega
  refine SO.value (v:=.pointer (some<|ad.add<|i.toNat*GT.size α)) ?_<|h _ xs[i.toNat] (dW ef)<|hs _ _<|dW ef
  have hb:0≤i∧i<(m:Int):=by omega
  simp[execOp,aJ ox,aJ oy,hx,hy,Instr.indexAt,asIntOf,gp hu,hb,F.iK]
theorem iz {α:Type} [GT α] {xs:List α} {B:Nat} {i:Int} (hO:(own B e v xs).holds M w) (ox:bD n x=true) (oy:bD n y=true) (hx:ev f x=v) (hy:ev f y=.int kk i) (hi:0≤i∧i<xs.length) (hu:P.underlying T=some (.slice e)) (F:ep P e (GT.size α) agg bytes z)
  (h:∀g xv,v.ownBlock=some g→xs[i.toNat]? =some xv→gP M w ⟨g,i.toNat*GT.size α,none⟩ xv→K (cg f d (.pointer (some ⟨g,i.toNat*GT.size α,none⟩))) w):SO P n ops ⟨some d,.indexAddr T x y,ty,ps,af,none⟩ f w K:=by
 obtain⟨cs,h1,h2⟩:=hO
 rcases h1.2 with ⟨_,h3⟩|⟨g,cap,cur,rfl,h3,h4,h5,h6,h7,h8⟩
 ·omega
 ·have ef:i.toNat<xs.length:=by omega
  have kn:(⟨g,0,none⟩:Addr).add (i.toNat*GT.size α)=⟨g,i.toNat*GT.size α,none⟩:=by unfold Addr.add;split<;>simp_all
  refine SO.value (v:=.pointer (some ⟨g,i.toNat*GT.size α,none⟩)) ?_<|h g xs[i.toNat] J (dW ef) ?_
  ·have hb:0≤i∧i<(xs.length:Int):=by omega
   simp[execOp,aJ ox,aJ oy,hx,hy,Instr.indexAt,asIntOf,gp hu,hb,F.iK,kn]
  ·obtain⟨c,yS,Ay⟩:=bz.at_ h2 i.toNat xs[i.toNat] (dW ef)
   refine⟨c,yS,fun j u hu=>?_⟩
   have rZ:=h1.cells (g:=g) J (i.toNat*GT.size α+j) u<|Ay j u hu
   rwa [←add_add,kn] at rZ
theorem bz.set {α:Type} [GT α] {M:bY} {w:aG} {y:α} {c:List Value} (hy:GT.rep M w c y):∀{xs:List α} {cs:List Value} (i:Nat),i<xs.length→bz M w cs xs→
  bz M w (cs.take (i*GT.size α)++c++cs.drop (i*GT.size α+c.length)) (xs.set i y)
 |x::xs,cs,0,_,⟨c1,c2,h1,h2,h3⟩=>by
  refine⟨c,c2,?_,hy,h3⟩
  rw[h1,aqA,ap5,List.nil_append,aoJ,GT.len hy,←GT.len h2,List.drop_left]
 |x::xs,cs,i+1,hi,⟨c1,c2,h1,h2,h3⟩=>by
  have:=bz.set hy i (by simpa using hi) h3
  refine⟨c1,_,?_,h2,this⟩
  have hl:=GT.len h2
  rw[h1,show (i+1)*GT.size α=c1.length+i*GT.size α from by rw[hl,aoT];omega,aqN]
  rw[aql,List.drop_append,an_ aj,apo aj]
  rw[show c1.length+i*GT.size α-c1.length=i*GT.size α from by omega,show c1.length+(i*GT.size α+c.length)-c1.length=i*GT.size α+c.length from by omega]
  simp[aoA]
theorem NO {β:Type} (cur cy:List β) (o n:Nat) (h:o+cy.length≤n) (hn:n≤cur.length):
  (cur.take o++cy++cur.drop (o+cy.length)).take n=(cur.take n).take o++cy++(cur.take n).drop (o+cy.length):=by
 rw[aql,aql,aq2,apz,apz,fJ,ic]
 rw[show min n o=o from by omega,show min o n=o from by omega,show min o cur.length=o from by omega,an_ (l:=cy) aj]
theorem qj {dd:Option Nat} {α:Type} [GT α] {xs:List α} {yv:α} {B:Nat} {j g:Nat} {u:Value} (H:HI M0 w0 w l) (i:Nat) (hi:l[i]? =some (own B e v xs)) (hg:v.ownBlock=some g) (hB:B=w0.heap.size) (hj:j<xs.length) (F:ep P T (GT.size α) agg bytes z) (ox:bD n x=true) (oy:bD n y=true)
  (hx:ev f x=.pointer (some ⟨g,j*GT.size α,none⟩)) (hy:ev f y=u) (hR:RV (MS M0 l) w u yv)
  (h:∀w',HI M0 w0 w' (l.set i (own B e v (xs.set j yv)))→K (cW f dd undef) w'):SO P n ops ⟨dd,.store T x y,ty,ps,af,none⟩ f w K:=by
 subst hB
 obtain⟨cs,h1,h2⟩:=H.at_ i hi
 rcases h1.2 with ⟨rfl,h3⟩|⟨g',cap,cur,rfl,h3,h4,h5,h6,h7,h8⟩
 ·cases hg
 ·have hgg:g'=g:=by simpa [Value.ownBlock] using hg
  subst hgg
  obtain⟨cy,Tb,rfl⟩:=hR
  have rO:=Uv (agg:=GT.agg α) (cs:=cy) (fun h=>by rw[GT.len Tb];exact GT.single h)<|GT.one Tb
  have YF:=GT.len Tb
  have Wz:j*GT.size α+cy.length≤cur.size:=by
   rw[h7,YF]
   have:(j+1)*GT.size α≤cap*GT.size α:=ao6 _ aj
   rw[aoT] at this
   omega
  have km:=Ct (P:=P) (w:=w) F (g:=g') (o:=j*GT.size α) (v:=sF (GT.agg α) cy) h4 (by rw[rO];simpa using YF) (by rw[rO];simpa using Wz)<|by rw[rO];simpa using GT.one Tb
  rw[rO] at km
  simp only[List.toList_toArray] at km
  refine SO.skip (w':=w.setRow g' (wr cur (j*GT.size α) cy)) ?_ (h _ ?_)
  ·simp[execOp,aJ ox,aJ oy,hx,hy,Instr.storeAt,Instr.sureAddr,km]
  ·have C5:∀c,c<w.heap.size→(own w0.heap.size e (Value.slice (some ⟨g',0,none⟩) xs.length cap) xs).jI≠some c→(w.setRow g' (wr cur (j*GT.size α) cy)).heap[c]? =w.heap[c]?:=
    fun c hc gB=>setRow_other w g' c _ (fun e=>gB (by rw[e];rfl))
   have hblk:∀b,(own w0.heap.size e (Value.slice (some ⟨g',0,none⟩) xs.length cap) (xs.set j yv)).jI=some b→b<(w.setRow g' (wr cur (j*GT.size α) cy)).heap.size∧((own w0.heap.size e (Value.slice (some ⟨g',0,none⟩) xs.length cap) xs).jI=some b∨w.heap.size≤b):=by
    intro b hb
    refine⟨?_,.inl hb⟩
    rw[size_setRow]
    exact(H.jl _ (dz hi) b hb).2
   refine H.uk i hi J J J (by simp) (an3 _) C5 hblk ?_
   refine⟨cs.take (j*GT.size α)++cy++cs.drop (j*GT.size α+cy.length),?_,?_⟩
   ·rw[an1]
    have hlen:(cs.take (j*GT.size α)++cy++cs.drop (j*GT.size α+cy.length)).length=xs.length*GT.size α:=by
     have rN:=h1.1
     have:(j+1)*GT.size α≤xs.length*GT.size α:=ao6 _ aj
     rw[aoT] at this
     simp only[fJ,ic,aog]
     omega
    refine⟨hlen,.inr ⟨g',cap,wr cur (j*GT.size α) cy,J,h3,setRow_heap w g' cur _ e _ h4,h5,h6,?_,?_⟩⟩
    ·simp only[wr,apC,fJ,ic,aog,aoM]
     omega
    ·have hle:(j+1)*GT.size α≤xs.length*GT.size α:=ao6 _ aj
     rw[aoT] at hle
     have rN:=h1.1
     have pI:xs.length*GT.size α≤cur.size:=by rw[h7];exact ao6 _ h5
     simp only[wr]
     rw[←h8]
     exact NO cur.toList cy (j*GT.size α) (xs.length*GT.size α) aj<|by simpa using pI
   ·
    have qN:Up (MS M0 l) w (MS M0 (l.set i (own w0.heap.size e (Value.slice (some ⟨g',0,none⟩) xs.length cap) (xs.set j yv)))) (w.setRow g' (wr cur (j*GT.size α) cy)):=by
     refine⟨by simp,fun b hb hM=>⟨setRow_other w g' b _ (fun e=>hM<|.inr ⟨_,dz hi,by rw[e];rfl⟩),?_⟩⟩
     rintro(Dd|⟨it,hit,ml⟩)
     ·exact hM<|.inl Dd
     ·rcases aoR hit with hit|rfl
      ·exact hM<|.inr ⟨it,hit,ml⟩
      ·exact hM<|.inr ⟨_,dz hi,ml⟩
    exact bz.lift qN<|bz.set Tb j hj h2
theorem dL (ox:bD n x=true) (hx:ev f x=.slice ao m cc) (hu:P.underlying T=some (.slice e)) (h:K (cg f d (.int .i64 (m:Int))) w):
  SO P n ops ⟨some d,.call {callee:=.builtin .len,args:=#[x],argTypes:=#[T]},ty,ps,af,none⟩ f w K:=
 SO.value (v:=.int .i64 (m:Int)) (by simp[execOp,resolve,invoke,builtin,Builtin.len_,aJ ox,hx,gp hu,goInt]) h
theorem vZ {s:bh} (ox:bD n x=true) (hx:ev f x=.string s) (hu:P.underlying T=some .string) (h:K (cg f d (.int .i64 (s.size:Int))) w):
  SO P n ops ⟨some d,.call {callee:=.builtin .len,args:=#[x],argTypes:=#[T]},ty,ps,af,none⟩ f w K:=
 SO.value (v:=.int .i64 (s.size:Int)) (by simp[execOp,resolve,invoke,builtin,Builtin.len_,aJ ox,hx,gp hu,goInt]) h
theorem Z3 (hu:P.underlying T=some (.slice e)):(binOp .eql T (.slice ao m cc) (.slice none 0 0)).run P w=.ok (.bool ao.isNone) w:=by
 show ((Op.equal T (.slice ao m cc) (.slice none 0 0) >>=fun b=>pure (Value.bool b)):Sem Value).run P w=_
 have h:(Op.equal T (.slice ao m cc) (.slice none 0 0)).run P w=.ok ao.isNone w:=by
  rw[show Op.equal T (.slice ao m cc) (.slice none 0 0)=Op.equalIn (9999+1) T (.slice ao m cc) (.slice none 0 0) from rfl]
  unfold Op.equalIn
  rw[Sem.run_bind,gp hu]
  cases ao<;>rfl
 rw[Sem.run_bind,h];rfl
theorem T' (ox:bD n x=true) (oy:bD n y=true) (hx:ev f x=.slice ao m cc) (hy:ev f y=.slice none 0 0) (hu:P.underlying T=some (.slice e)) (h:K (cg f d (.bool ao.isNone)) w):
  SO P n ops ⟨some d,.binOp .eql T x y T2,ty,ps,af,none⟩ f w K:=
 SO.value (v:=.bool ao.isNone) (by
  have hg:(eqGuard .eql T x y (.slice ao m cc) (.slice none 0 0)).run P w=.ok () w:=by unfold eqGuard;rfl
  have hr:=Z3 (P:=P) (w:=w) (ao:=ao) (m:=m) (cc:=cc) hu
  simp only[execOp,aJ ox,aJ oy,hx,hy,Sem.run_bind,hg,hr,Result.andThen_ok,Sem.run_pure]) h
end
end Go.Ew
namespace Go.Ew
open Go.RowKit Go.IntWalk
variable {B i:Nat} {v u:Value}
theorem Ext.grown {w w':aG} (h:w.grownBy w' none) (hd:w.drawn≤w'.drawn):Ext w w':=⟨⟨h.os,h.tape,h.output,h.size,fun k hk=>h.block k hk (by simp)⟩,hd⟩
def Src {α:Type} [GT α] (M:bY) (w:aG) (v:Value) (ys:List α):Prop:=
 ∃a c,v=.slice a ys.length c∧(ys.length=0∨∃ad,a=some ad∧∃cs,bz M w cs ys∧∀j u,cs[j]? =some u→w.cell? (ad.add j)=some u)
theorem U4.chunks {α:Type} [GT α] {M:bY} {w:aG}:∀{xs:List α} {ad:Addr},U4 M w ad xs→∃cs,bz M w cs xs∧∀j u,cs[j]? =some u→w.cell? (ad.add j)=some u
 |[],ad,_=>⟨[],rfl,fun j u h=>by simp at h⟩
 |x::xs,ad,h=>by
  obtain⟨c1,h1,_,h2⟩:=h 0 x rfl
  have QV:U4 M w (ad.add (GT.size α)) xs:=by
   intro i y hy
   have:=h (i+1) y<|by simpa using hy
   rw[add_add]
   rwa [show (i+1)*GT.size α=GT.size α+i*GT.size α from by rw[aoT];omega] at this
  obtain⟨c2,h3,h4⟩:=U4.chunks QV
  refine⟨c1++c2,⟨c1,c2,J,h1,h3⟩,fun j u hu=>?_⟩
  rw[List.getElem?_append] at hu
  have hl:=GT.len h1
  split at hu
  ·have:=h2 j u hu
   rwa [add_add,aqA,aoJ] at this
  ·have:=h4 _ u hu
   rw[add_add,hl] at this
   rwa [show GT.size α+(j-GT.size α)=j from by omega] at this
theorem RV.src {α:Type} [GT α] {M:bY} {w:aG} {v:Value} {ys:List α} (h:RV M w v ys):Src M w v ys:=by
 obtain⟨a,n,c,rfl,rfl,h3,h4,h5⟩:=RV.list.1 h
 refine⟨a,c,J,?_⟩
 rcases h5 with h5|⟨ad,h5,h6⟩
 ·exact .inl h5
 ·exact .inr ⟨ad,h5,h6.chunks⟩
theorem gX {α:Type} [GT α] {M:bY} {w:aG} {v:Value} {ys:List α} {B:Nat} {e:TypeId} (h:(own B e v ys).holds M w):Src M w v ys:=by
 obtain⟨cs,h1,h2⟩:=h
 rcases h1.2 with ⟨rfl,h3⟩|⟨g,cap,cur,rfl,h3,h4,h5,h6,h7,h8⟩
 ·exact⟨none,0,by rw[h3],.inl h3⟩
 ·exact⟨_,cap,J,.inr ⟨_,J,cs,h2,h1.cells (g:=g) rfl⟩⟩
theorem Ac {α:Type} [GT α] {M M':bY} {w:aG} {v:Value} {ys:List α} {B:Nat} {e:TypeId} (h:(own B e v ys).holds M w) (hM:∀b,b<w.heap.size→M' b→M b) (hv:∀b,v.ownBlock=some b→¬M' b):RV M' w v ys:=by
 obtain⟨cs,h1,h2⟩:=h
 refine RV.list.2 ?_
 rcases h1.2 with ⟨rfl,h3⟩|⟨g,cap,cur,rfl,h3,h4,h5,h6,h7,h8⟩
 ·exact⟨none,0,0,J,h3,an3 _,by simp[maxLen],.inl rfl⟩
 ·refine⟨_,_,cap,J,J,h5,h6,.inr ⟨_,J,fun i x hx=>?_⟩⟩
  obtain⟨c,yS,Ay⟩:=bz.at_ h2 i x hx
  refine⟨c,GT.lift yS (Up.less hM),by rw[vC];exact hv g rfl,fun j u hu=>?_⟩
  rw[add_add]
  exact h1.cells (g:=g) J _ u<|Ay j u hu
section
variable {M0:bY} {w0 w w':aG} {l:List Item} {α:Type} [GT α] {v:Value} {xs:List α} {e:TypeId}
theorem wA (H:HI M0 w0 w l) (hi:l[i]? =some (own B e v xs)):∀b,v.ownBlock=some b→w0.heap.size≤b∧b<w.heap.size:=H.jl _ (dz hi)
theorem HI.freeze (H:HI M0 w0 w l) (i:Nat) (hi:l[i]? =some (own B e v xs)):HI M0 w0 w (l.set i (tq v xs)):=by
 refine H.uk i hi J J J (an3 _) (an3 _) (fun _ _ _=>rfl) (fun b hb=>by cases hb) ?_
 have hO:=H.at_ i hi
 refine Ac hO (fun b hb hM=>?_)<|fun b hb hM=>?_
 ·rcases hM with hM|⟨it,hit,ml⟩
  ·exact .inl hM
  ·rcases aoR hit with hit|rfl
   ·exact .inr ⟨it,hit,ml⟩
   ·cases ml
 ·have B2:=wA H hi b hb
  rcases hM with hM|⟨it,hit,ml⟩
  ·have:=H.m0 b hM;omega
  ·obtain⟨m,hm,rfl⟩:=ap3.1 hit
   rw[aqP] at ml
   split at ml
   ·cases ml
   ·rename_i gB
    have tX:m<l.length:=by simpa using hm
    exact gB<|im (·.jI) l H.nodup i m _ l[m] hi (dW tX) (by show (v.ownBlock).isSome=true;rw[hb];rfl)<|by rw[ml];exact hb
theorem HI.qf (α:Type) [GT α] (H:HI M0 w0 w l) (e:TypeId):HI M0 w0 w (own w0.heap.size e (.slice none 0 0) ([]:List α)::l):=
 H.put rfl ⟨[],World.ownsRow_nil w _ e _,rfl⟩
theorem HI.agM (H:HI M0 w0 w l) (h:Zx (MS M0 l) w xs v w'):HI M0 w0 w' (tq v xs::l):=(H.ext h.1).put rfl h.2
theorem afo.agM {β:Type} [GT β] {y:β} {M:bY} (h:afo w y v w') (hM:∀b,M b→b<w.heap.size):Zx M w y v w':=⟨h.1,h.2.lift (Up.less fun b _ hb=>hM b hb)⟩
theorem HI.aae (H:HI M0 w0 w l) (i:Nat) (hi:l[i]? =some (own w0.heap.size e v xs)) (aln:∀it∈l,∀b,it.jI=some b→True):RV M0 w v xs:=by
 have hO:=H.at_ i hi
 refine Ac hO (fun b _ hb=>.inl hb)<|fun b hb hM=>?_
 have:=wA H hi b hb
 have:=H.m0 b hM
 omega
end
section
variable {P:Program} {n:Nat} {ops:Array Oper} {f:aO} {w:aG} {K:aO→aG→Prop} {x y c:Operand} {d:Nat} {ty T T2 e:TypeId} {ps:String} {af:Array Edge} {v v2 u:Value} {a b:Int} {M M0:bY} {w0:aG} {l:List Item} {kk:IntKind} {bytes:Nat} {z:Value} {ad:Addr} {size:Nat} {agg:Bool}
theorem vL {s m:Nat} {cs:List Value} (h:w.ownsRow B e s v m cs):∃a c,v=.slice a m c:=by
 rcases h.2 with ⟨rfl,rfl⟩|⟨g,cap,cur,rfl,_⟩
 ·exact⟨none,0,J⟩
 ·exact⟨_,cap,J⟩
theorem ap {α:Type} [GT α] {xs ys:List α} {B:Nat} (H:HI M0 w0 w l) (i:Nat) (hi:l[i]? =some (own B e v xs)) (hB:B=w0.heap.size) (ox:bD n x=true) (oy:bD n y=true) (hx:ev f x=v) (hy:ev f y=u)
  (hs:Src (MS M0 l) w u ys) (hu:P.underlying T=some (.slice e)) (F:ep P e (GT.size α) agg bytes z) (hz:z.cells.size=GT.size α) (hl:(xs.length+ys.length)*bytes≤140737488355328) (la:xs.length+ys.length≤9223372036854775807)
  (h:∀a c w',HI M0 w0 w' (l.set i (own B e (.slice a (xs++ys).length c) (xs++ys)))→K (cg f d (.slice a (xs++ys).length c)) w'):
  SO P n ops ⟨some d,.call {callee:=.builtin .append,args:=#[x,y],argTypes:=#[T,T]},ty,ps,af,none⟩ f w K:=by
 subst hB
 obtain⟨cs,h1,h2⟩:=H.at_ i hi
 obtain⟨a0,c0,rfl,FR⟩:=hs
 obtain⟨inf,sK,t',vh,C8⟩:=F.info
 have ef:∀b,v.ownBlock=some b→w0.heap.size≤b∧b<w.heap.size:=wA H hi
 
 obtain⟨v',w',km,zv,rr,B1⟩:∃v' w',(Builtin.append_ #[T,T] ty #[v,.slice a0 ys.length c0]).run P w=.ok v' w'∧
   (∃ds,w'.ownsRow w0.heap.size e (GT.size α) v' (xs.length+ys.length) (cs++ds)∧bz (MS M0 l) w ds ys)∧w.grownBy w' v.ownBlock∧(v'.ownBlock=v.ownBlock∨∀b,v'.ownBlock=some b→w.heap.size≤b∧b<w'.heap.size):=by
  rcases FR with h0|⟨ad,rfl,ds,ua,C9⟩
  ·have hys:ys=[]:=apu h0
   subst hys
   have hr:(Builtin.append_ #[T,T] ty #[v,.slice a0 0 c0]).run P w=.ok v w:=by
    rcases h1.2 with ⟨rfl,hn⟩|⟨g,cap,cur,rfl,hb,hg,hnc,_⟩
    ·cases a0<;>simp[Builtin.append_,gp hu,sizeOf,typeInfo,sK,Builtin.lenOf,Builtin.firstCells,loadCells,loadCellsFrom]
    ·have:xs.length≤cap:=hnc
     cases a0<;>simp[Builtin.append_,gp hu,sizeOf,typeInfo,sK,Builtin.lenOf,Builtin.firstCells,loadCells,loadCellsFrom,this,storeCells]
   exact⟨v,w,by simpa using hr,⟨[],by simpa using h1,J⟩,⟨J,J,J,an3 _,fun _ _ _=>rfl⟩,.inl rfl⟩
  ·obtain⟨v',w',r1,r2,r3,_,r4⟩:=run_append_own_at (P:=P) w w0.heap.size T ty e inf z (GT.size α) bytes hu sK t' vh C8 hz GT.pos v xs.length cs h1 ad ys.length c0 ds (bz.length ua) C9 (bz.Bd ua) (by simp only[maxLen];omega) hl H.below.size
   refine⟨v',w',r1,⟨ds,r2,ua⟩,r3,?_⟩
   rcases r4 with hb|hb
   ·exact .inl hb
   ·refine .inr fun b v8=>⟨?_,(r2.lt b v8).2⟩
    rw[hb] at v8
    cases v8
    exact an3 _
 obtain⟨ds,ho,TE⟩:=zv
 obtain⟨a',c',rfl⟩:=vL ho
 refine SO.value (v:=.slice a' (xs.length+ys.length) c') (w':=w') ?_ ?_
 ·simp[execOp,resolve,invoke,builtin,aJ ox,aJ oy,hx,hy,km]
 ·have:=h a' c' w'
  rw[fJ] at this
  refine this ?_
  have hblk:∀b,(own w0.heap.size e (.slice a' (xs.length+ys.length) c') (xs++ys)).jI=some b→b<w'.heap.size∧((own w0.heap.size e v xs).jI=some b∨w.heap.size≤b):=by
   intro b hb
   refine⟨(ho.lt b hb).2,?_⟩
   rcases B1 with B1|B1
   ·exact .inl (by rw[←hb];exact B1.symm)
   ·exact .inr (B1 b hb).1
  refine H.uk i hi rr.os rr.tape rr.output rr.size (sB _ km) (fun c hc gB=>rr.block c hc<|fun e=>gB e.symm) hblk ?_
  refine⟨cs++ds,by rw[fJ];exact ho,?_⟩
  refine bz.lift ?_<|bz.append h2 TE
  refine⟨rr.size,fun b hb hM=>⟨rr.block b hb (fun e=>hM<|.inr ⟨_,dz hi,e.symm⟩),?_⟩⟩
  rintro(Dd|⟨it,hit,ml⟩)
  ·exact hM<|.inl Dd
  ·rcases aoR hit with hit|rfl
   ·exact hM<|.inr ⟨it,hit,ml⟩
   ·rcases (hblk b ml).2 with h'|h'
    ·exact hM<|.inr ⟨_,dz hi,h'⟩
    ·omega
theorem lV {α:Type} [GT α] {xs ys:List α} {B:Nat} (H:HI M0 w0 w l) (i:Nat) (hi:l[i]? =some (own B e v xs)) (hB:B=w0.heap.size) (ox:bD n x=true) (oy:bD n y=true) (hx:ev f x=v) (hy:ev f y=u)
  (hs:Src (MS M0 l) w u ys) (hu:P.underlying T=some (.slice e)) (F:ep P e (GT.size α) agg bytes z) (hz:z.cells.size=GT.size α) (hl:(xs.length+ys.length)*bytes≤140737488355328) (pK:Nat.ble 1 bytes=true)
  (h:∀a c w',HI M0 w0 w' (l.set i (own B e (.slice a (xs++ys).length c) (xs++ys)))→K (cg f d (.slice a (xs++ys).length c)) w'):
  SO P n ops ⟨some d,.call {callee:=.builtin .append,args:=#[x,y],argTypes:=#[T,T]},ty,ps,af,none⟩ f w K:=
 ap H i hi hB ox oy hx hy hs hu F hz hl (Nat.le_trans (Nat.le_mul_of_pos_right _ (apb pK)) (Nat.le_trans hl au)) h
theorem aat {α:Type} [GT α] {M:bY} {xs:List α} {cells:Array Value} {B:Nat} {w w':aG} (hx:Ext w w') (hB:B≤w.heap.size) (hh:w'.heap[w.heap.size]? =some (.cells cells e (0,0))) (hc:bz M w cells.toList xs) (hl:xs.length≤maxLen) {M':bY} (hM:∀b,b<w.heap.size→M' b→M b):
  (own B e (.slice (some ⟨w.heap.size,0,none⟩) xs.length xs.length) xs).holds M' w':=by
 refine⟨cells.toList,⟨bz.length hc,.inr ⟨w.heap.size,xs.length,cells,J,hB,hh,an3 _,hl,?_,?_⟩⟩,bz.lift ⟨hx.size,fun b hb hn=>⟨hx.block b hb,fun h=>hn (hM b hb h)⟩⟩ hc⟩
 ·have:=bz.length hc;simpa using this
 ·rw[an_ (by rw[bz.length hc];exact an3 _)]
theorem afp {it:Item} {b:Nat} (hn:it.jI=some b):∀c,c<b→MS M0 (it::l) c→MS M0 l c:=by
 rintro c hc (h|⟨j,hj,xG⟩)
 ·exact .inl h
 ·rcases aoh.1 hj with rfl|hj
  ·rw[hn] at xG;cases xG;omega
  ·exact .inr ⟨j,hj,xG⟩
theorem ew:(([]:List (Nat×Operand)).map fun p=>(p.1,ev f p.2))=[]:=rfl
theorem ck {L:List (Nat×Operand)} {V:List (Nat×Value)} (h:ev f x=v) (t:(L.map fun p=>(p.1,ev f p.2))=V):(((i,x)::L).map fun p=>(p.1,ev f p.2))=(i,v)::V:=by
 rw[aoq,t,h]
theorem bs {α:Type} [GT α] {xs:List α} {len:Nat} {L:List (Nat×Operand)} {V:List (Nat×Value)} {cells:Array Value} (H:HI M0 w0 w l) (ol:GP n (L.map (·.2))=true) (hL:(L.map fun p=>(p.1,ev f p.2))=V)
  (hb:∀w,(Instr.buildSlice T len V.toArray).run P w=.ok (.slice (some ⟨w.heap.size,0,none⟩) len len) (w.alloc (.cells cells e)))
  (hc:bz (MS M0 l) w cells.toList xs) (hl:xs.length=len) (hm:len≤maxLen)
  (h:∀g w',Ext w w'→HI M0 w0 w' (own w0.heap.size e (.slice (some ⟨g,0,none⟩) len len) xs::l)→K (cg f d (.slice (some ⟨g,0,none⟩) len len)) w'):
  SO P n ops ⟨some d,.buildSlice T len L.toArray,ty,ps,af,none⟩ f w K:=by
 subst hl hL
 refine SO.value (v:=.slice (some ⟨w.heap.size,0,none⟩) xs.length xs.length) (w':=w.alloc (.cells cells e)) ?_<|h _ _ (Ext.alloc w _) ?_
 ·have he:(L.map fun p=>(p.1,(cj n f).eval p.2))=L.map fun p=>(p.1,ev f p.2):=by
   apply aoP
   intro p hp
   rw[aJ (an9.1 ol p.2 (aoE.2 ⟨p,hp,rfl⟩))]
  simp only[execOp,ap7]
  have:=hb w
  rw[←he] at this
  simp[this]
 ·refine H.new (Ext.alloc w _) w.heap.size J (an3 _) (by simp) ?_
  exact aat (Ext.alloc w _) H.below.size (heap_alloc_new w _) hc hm<|afp (b:=w.heap.size) J
theorem mk {α:Type} [GT α] {m:Nat} {zx:α} (H:HI M0 w0 w l) (ox:bD n x=true) (oy:bD n y=true) (hx:ev f x=.int .i64 (m:Int)) (hy:ev f y=.int .i64 (m:Int)) (hu:P.underlying T=some (.slice e)) (F:ep P e (GT.size α) (GT.agg α) bytes z)
  (hz:∀M w,GT.rep (α:=α) M w z.cells.toList zx) (hb:bytes*m≤281474976710656) (hm:m≤9223372036854775807)
  (h:∀g w',Ext w w'→HI M0 w0 w' (own w0.heap.size e (.slice (some ⟨g,0,none⟩) m m) (List.replicate m zx)::l)→K (cg f d (.slice (some ⟨g,0,none⟩) m m)) w'):
  SO P n ops ⟨some d,.makeSlice T x y,ty,ps,af,none⟩ f w K:=by
 obtain⟨inf,sK,t',vh,C8⟩:=F.info
 obtain⟨w',km,zv,rr⟩:=run_make_full (P:=P) w w0.heap.size T e inf z (GT.size α) hu sK t' vh .i64 .i64 m (by rw[C8];exact hb) (by simp only[maxLen];omega) H.below.size
 refine SO.value (v:=.slice (some ⟨w.heap.size,0,none⟩) m m) (w':=w') (by simp[execOp,aJ ox,aJ oy,hx,hy,km])<|h _ _ (Ext.grown rr<|sB _ km) ?_
 refine H.new (Ext.grown rr<|sB _ km) w.heap.size J (an3 _) ((zv.lt _ J).2) ?_
 refine⟨_,by rw[oz];exact zv,?_⟩
 
 have Yh:z.cells.toList.length=GT.size α:=GT.len<|hz (fun _=>False) w
 have key:∀k,(madeCells z.cells (k*GT.size α)).toList=(List.replicate k z.cells.toList).flatten:=by
  intro k
  apply apE
  ·simp[madeCells,Yh,aqB]
  ·intro i h1 h2
   have tz:i<k*GT.size α:=by simpa [madeCells] using h1
   simp only[madeCells]
   have hs:z.cells.size=GT.size α:=by simpa using Yh
   have C3:0<GT.size α:=GT.pos
   have ef:i%GT.size α<z.cells.size:=by rw[hs];exact aqS _ C3
   have e2:((List.replicate k z.cells.toList).flatten)[i]? =z.cells.toList[i%GT.size α]?:=by
    clear h1 h2 ef
    induction k generalizing i with
    |zero=>simp at tz
    |succ k ih=>
     rw[aoW,aqf,List.getElem?_append]
     split
     ·rename_i hl
      rw[Yh] at hl
      rw[apS hl]
     ·rename_i hl
      rw[Yh] at hl ⊢
      rw[ih (i-GT.size α) (by rw[aoT] at tz;omega)]
      rw[show i%GT.size α=(i-GT.size α)%GT.size α from by
       rw[Nat.mod_eq_sub_mod aj]]
   have e3:=dW h2
   rw[e2,dW (by simpa using ef)] at e3
   rw[←an5 e3]
   simp only[aqX,Array.getElem_map,Array.getElem_range,hs]
   rw[ara z.cells (i%GT.size α) ef]
 have hcs:∀k M w,bz (α:=α) M w ((List.replicate k z.cells.toList).flatten) (List.replicate k zx):=by
  intro k
  induction k with
  |zero=>intro M w;rfl
  |succ k ih=>intro M w;exact⟨_,_,by rw[aoW,aqf],hz M w,ih M w⟩
 rw[key]
 exact hcs _ _ _
theorem mk0 {α:Type} [GT α] {m:Nat} (H:HI M0 w0 w l) (ox:bD n x=true) (oy:bD n y=true) (hx:ev f x=.int .i64 0) (hy:ev f y=.int .i64 (m:Int)) (hu:P.underlying T=some (.slice e)) (F:ep P e (GT.size α) agg bytes z)
  (hb:bytes*m≤281474976710656) (hm:m≤9223372036854775807)
  (h:∀g w',Ext w w'→HI M0 w0 w' (own w0.heap.size e (.slice (some ⟨g,0,none⟩) 0 m) ([]:List α)::l)→K (cg f d (.slice (some ⟨g,0,none⟩) 0 m)) w'):
  SO P n ops ⟨some d,.makeSlice T x y,ty,ps,af,none⟩ f w K:=by
 obtain⟨inf,sK,t',vh,C8⟩:=F.info
 obtain⟨w',km,zv,rr⟩:=run_make_own (P:=P) w w0.heap.size T e inf z (GT.size α) hu sK t' vh .i64 .i64 m (by rw[C8];exact hb) (by simp only[maxLen];omega) H.below.size
 refine SO.value (v:=.slice (some ⟨w.heap.size,0,none⟩) 0 m) (w':=w') (by simp[execOp,aJ ox,aJ oy,hx,hy,km])<|h _ _ (Ext.grown rr<|sB _ km) ?_
 exact H.new (Ext.grown rr<|sB _ km) w.heap.size J (an3 _) ((zv.lt _ J).2) ⟨[],zv,J⟩
theorem RV.cut {α:Type} [GT α] {M:bY} {w:aG} {ao:Option Addr} {m cc:Nat} {xs:List α} (h:RV M w (.slice ao m cc) xs) (lo hi:Nat) (h1:lo≤hi) (h2:hi≤xs.length) (hc:cc=lo→xs.length=lo):
  RV M w (.slice (if cc=lo then ao else ao.map (·.add (lo*GT.size α))) (hi-lo) (cc-lo)) ((xs.drop lo).take (hi-lo)):=by
 obtain⟨a,n,c,he,h3,h4,h5,h6⟩:=RV.list.1 h
 simp only[Value.slice.injEq] at he
 obtain⟨rfl,rfl,rfl⟩:=he
 refine RV.list.2 ⟨_,_,_,J,by simp;omega,by omega,by omega,?_⟩
 by_cases h0:hi-lo=0
 ·exact .inl h0
 ·rcases h6 with h6|⟨ad,rfl,hs⟩
  ·omega
  ·have gB:cc≠lo:=fun e=>by have:=hc e;omega
   refine .inr ⟨ad.add (lo*GT.size α),by simp[gB],fun i x hx=>?_⟩
   rw[aov] at hx
   split at hx
   ·rw[aoG] at hx
    have:=hs (lo+i) x hx
    rw[add_add]
    rwa [←aoT]
   ·cases hx
theorem OB {α:Type} [GT α] {xs:List α} {ao:Option Addr} {cc:Nat} {lo:Int} {rl:Operand} (hR:RV M w (.slice ao xs.length cc) xs) (ox:bD n x=true) (ol:bD n rl=true) (hx:ev f x=.slice ao xs.length cc)
  (hl:ev f rl=.int kk lo) (hb:0≤lo∧lo≤xs.length) (hu:P.underlying T=some (.slice e)) (F:ep P e (GT.size α) agg bytes z)
  (h:∀a c,RV M w (.slice a (xs.drop lo.toNat).length c) (xs.drop lo.toNat)→K (cg f d (.slice a (xs.drop lo.toNat).length c)) w):
  SO P n ops ⟨some d,.slice T x (some rl) none none,ty,ps,af,none⟩ f w K:=by
 have hle:xs.length≤cc:=by obtain⟨a',n',c',he,_,h4,_⟩:=RV.list.1 hR;simp only[Value.slice.injEq] at he;omega
 have hc:=hR.cut lo.toNat xs.length aj aj<|fun e=>by omega
 rw[an_ (by simp)] at hc
 have hlen:(xs.drop lo.toNat).length=xs.length-lo.toNat:=by simp
 refine SO.value (v:=.slice (if cc=lo.toNat then ao else ao.map (·.add (lo.toNat*GT.size α))) (xs.length-lo.toNat) (cc-lo.toNat)) (w':=w) ?_<|by rw[hlen] at h;exact h _ _ hc
 have vj:P.underlying T=some (.slice (P.elem T)):=by rw[hu];simp[Program.elem,hu]
 have uE:P.elem T=e:=by simp[Program.elem,hu]
 simp[execOp,aJ ox,aJ ol,hx,hl,Instr.sliceAt,gp hu]
 have:=run_slice_l (P:=P) (w:=w) T ao xs.length cc vj kk lo hb.1 aj
 rw[uE,F.iK] at this
 simp[this,sliced]
theorem OC {α:Type} [GT α] {xs:List α} {ao:Option Addr} {cc:Nat} {hi:Int} {pd:Operand} (hR:RV M w (.slice ao xs.length cc) xs) (ox:bD n x=true) (oh:bD n pd=true) (hx:ev f x=.slice ao xs.length cc)
  (hh:ev f pd=.int kk hi) (hb:0≤hi∧hi≤xs.length) (hu:P.underlying T=some (.slice e)) (F:ep P e (GT.size α) agg bytes z)
  (h:∀a c,RV M w (.slice a (xs.take hi.toNat).length c) (xs.take hi.toNat)→K (cg f d (.slice a (xs.take hi.toNat).length c)) w):
  SO P n ops ⟨some d,.slice T x none (some pd) none,ty,ps,af,none⟩ f w K:=by
 have hle:xs.length≤cc:=by obtain⟨a',n',c',he,_,h4,_⟩:=RV.list.1 hR;simp only[Value.slice.injEq] at he;omega
 have hc:=hR.cut 0 hi.toNat aj aj<|fun e=>by omega
 simp only[aqG,aqR] at hc
 have hlen:(xs.take hi.toNat).length=hi.toNat:=by simp;omega
 refine SO.value (v:=.slice (if cc=0 then ao else ao.map (·.add (0*GT.size α))) hi.toNat cc) (w':=w) ?_<|by rw[hlen] at h;exact h _ _ hc
 have vj:P.underlying T=some (.slice (P.elem T)):=by rw[hu];simp[Program.elem,hu]
 have uE:P.elem T=e:=by simp[Program.elem,hu]
 simp[execOp,aJ ox,aJ oh,hx,hh,Instr.sliceAt,gp hu]
 have:=run_slice_h (P:=P) (w:=w) T ao xs.length cc vj kk hi hb.1 aj
 rw[uE,F.iK] at this
 simp[this,sliced]
theorem bd {L:List (Nat×Operand)} {V:List (Nat×Value)} (ol:GP n (L.map (·.2))=true) (hL:(L.map fun p=>(p.1,ev f p.2))=V) (hb:∀w,(Instr.build T V.toArray).run P w=.ok v w) (h:K (cg f d v) w):
  SO P n ops ⟨some d,.build T L.toArray,ty,ps,af,none⟩ f w K:=by
 subst hL
 refine SO.value (v:=v) (w':=w) ?_ h
 have he:(L.map fun p=>(p.1,(cj n f).eval p.2))=L.map fun p=>(p.1,ev f p.2):=by
  apply aoP
  intro p hp
  rw[aJ (an9.1 ol p.2 (aoE.2 ⟨p,hp,rfl⟩))]
 simp only[execOp,ap7]
 have:=hb w
 rw[←he] at this
 simp[this]
theorem fd (ox:bD n x=true) (hx:ev f x=u) (hr:∀w,(Instr.field T u i).run P w=.ok v w) (h:K (cg f d v) w):SO P n ops ⟨some d,.field T x i,ty,ps,af,none⟩ f w K:=
 SO.value (v:=v) (by simp[execOp,aJ ox,hx,hr w]) h
theorem ix (ox:bD n x=true) (oy:bD n y=true) (hx:ev f x=u) (hy:ev f y=v2) (hr:∀w,(Instr.index T u v2).run P w=.ok v w) (h:K (cg f d v) w):SO P n ops ⟨some d,.index T x y,ty,ps,af,none⟩ f w K:=
 SO.value (v:=v) (by simp[execOp,aJ ox,aJ oy,hx,hy,hr w]) h
theorem Yg {i:Int} {m:Nat} (ox:bD n x=true) (oy:bD n y=true) (hx:ev f x=.pointer (some ad)) (hy:ev f y=.int kk i) (hi:0≤i∧i<(m:Int)) (hu:P.underlying T=some (.array m e)) (F:ep P e size agg bytes z)
  (h:K (cg f d (.pointer (some (ad.add (i.toNat*size))))) w):SO P n ops ⟨some d,.indexAddr T x y,ty,ps,af,none⟩ f w K:=
 SO.value (v:=.pointer (some (ad.add (i.toNat*size)))) (by
  simp[execOp,aJ ox,aJ oy,hx,hy,Instr.indexAt,asIntOf,gp hu,Instr.sureAddr,hi.1,hi.2,F.iK]) h
theorem aiK {i m:Nat} (ox:bD n x=true) (oy:bD n y=true) (hx:ev f x=.pointer (some ad)) (hy:ev f y=.int kk ((i:Nat):Int)) (hi:i<m) (hu:P.underlying T=some (.array m e)) (F:ep P e size agg bytes z)
  (h:K (cg f d (.pointer (some (ad.add (i*size))))) w):SO P n ops ⟨some d,.indexAddr T x y,ty,ps,af,none⟩ f w K:=
 Yg ox oy hx hy aj hu F (by rw[dq];exact h)
theorem ixS {s:bh} {i:Int} (ox:bD n x=true) (oy:bD n y=true) (hx:ev f x=.string s) (hy:ev f y=.int kk i) (hi:0≤i∧i<s.size) (hu:P.underlying T=some .string)
  (h:∀c,s[i.toNat]? =some c→K (cg f d (.int .u8 (c.toNat:Int))) w):SO P n ops ⟨some d,.index T x y,ty,ps,af,none⟩ f w K:=by
 have ef:i.toNat<s.size:=by omega
 have hg:s[i.toNat]? =some s[i.toNat]:=getElem?_pos s i.toNat ef
 exact SO.value (v:=.int .u8 ((s[i.toNat]).toNat:Int)) (by
  simp[execOp,aJ ox,aJ oy,hx,hy,Instr.index,asIntOf,gp hu,hi.1,hg]) (h _ hg)
theorem Y' {s t:bh} (ox:bD n x=true) (oy:bD n y=true) (hx:ev f x=.string s) (hy:ev f y=.string t) (h:K (cg f d (.bool (decide (s=t)))) w):SO P n ops ⟨some d,.binOp .eql T x y T2,ty,ps,af,none⟩ f w K:=
 SO.value (v:=.bool (decide (s=t))) (by
  have e:(s.toList==t.toList)=decide (s=t):=by
   rw[←beq_toListBytes,aoj]
   rcases s with ⟨a⟩
   rcases t with ⟨b⟩
   show (a==b)=true↔_
   simp
  have hg:(eqGuard .eql T x y (.string s) (.string t)).run P w=.ok () w:=by unfold eqGuard;rfl
  simp only[execOp,aJ ox,aJ oy,hx,hy,Sem.run_bind,hg,Result.andThen_ok]
  simp[binOp,Op.stringOp,e]) h
theorem neS {s t:bh} (ox:bD n x=true) (oy:bD n y=true) (hx:ev f x=.string s) (hy:ev f y=.string t) (h:K (cg f d (.bool (!decide (s=t)))) w):SO P n ops ⟨some d,.binOp .neq T x y T2,ty,ps,af,none⟩ f w K:=
 SO.value (v:=.bool (!decide (s=t))) (by
  have e:(s.toList==t.toList)=decide (s=t):=by
   rw[←beq_toListBytes,aoj]
   rcases s with ⟨a⟩
   rcases t with ⟨b⟩
   show (a==b)=true↔_
   simp
  have hg:(eqGuard .neq T x y (.string s) (.string t)).run P w=.ok () w:=by unfold eqGuard;rfl
  simp only[execOp,aJ ox,aJ oy,hx,hy,Sem.run_bind,hg,Result.andThen_ok]
  simp[binOp,Op.stringOp,e]) h
theorem eqB {p q:Bool} (ox:bD n x=true) (oy:bD n y=true) (hx:ev f x=.bool p) (hy:ev f y=.bool q) (hu:P.underlying T=some .bool) (h:K (cg f d (.bool (p==q))) w):SO P n ops ⟨some d,.binOp .eql T x y T2,ty,ps,af,none⟩ f w K:=
 SO.value (v:=.bool (p==q)) (by
  have hg:(eqGuard .eql T x y (.bool p) (.bool q)).run P w=.ok () w:=by unfold eqGuard;rfl
  have hr:(binOp .eql T (.bool p) (.bool q)).run P w=.ok (.bool (p==q)) w:=by
   show ((Op.equal T (.bool p) (.bool q) >>=fun b=>pure (Value.bool b)):Sem Value).run P w=_
   have h:(Op.equal T (.bool p) (.bool q)).run P w=.ok (p==q) w:=by
    rw[show Op.equal T (.bool p) (.bool q)=Op.equalIn (9999+1) T (.bool p) (.bool q) from rfl]
    unfold Op.equalIn
    rw[Sem.run_bind,gp hu];rfl
   rw[Sem.run_bind,h];rfl
  simp only[execOp,aJ ox,aJ oy,hx,hy,Sem.run_bind,hg,hr,Result.andThen_ok,Sem.run_pure]) h
theorem gz {op:BinOp} (ox:bD n x=true) (oy:bD n y=true) (hx:ev f x=v) (hy:ev f y=v2) (hg:(eqGuard op T x y v v2).run P w=.ok () w) (hr:(binOp op T v v2).run P w=.ok u w) (h:K (cg f d u) w):
  SO P n ops ⟨some d,.binOp op T x y T2,ty,ps,af,none⟩ f w K:=
 SO.value (v:=u) (by simp only[execOp,aJ ox,aJ oy,hx,hy,Sem.run_bind,hg,hr,Result.andThen_ok,Sem.run_pure]) h
end
end Go.Ew
namespace Go.Ew
open Go.RowKit
variable {v:Value}
def PW (P:Program) (n:Nat) (ops:Array Oper) (w0:aG) (K:aO→Prop):dh→aO→Prop
 |[],f=>K f
 |o::r,f=>∃v,(∀w,Ext w0 w→SO P n ops o f w (fun f' w'=>f'=cW f o.dst v∧Ext w w'))∧PW P n ops w0 K r (cW f o.dst v)
def GM (l:dh):Nat→dh→Bool
 |_,[]=>true
 |i,o::r=>(o.looksAt l.toArray).all (fun t=>!(jn l.length l).contains t||(List.range i).any (fun j=>kZ o j&&Nat.beq (jb l j) t&&((l[j]?).bind (·.dst)).isSome))&&
   (match o.op with| .select _ _=>false|_=>true)&&GM l (i+1) r
def QK (n:Nat) (l:dh):Bool:=OW n l.length l&&GM l 0 l
section
variable {P:Program} {n:Nat} {ops:Array Oper} {w0:aG} {K:aO→Prop} {o:Oper} {f f2:aO} {w:aG} {v:Value}
theorem DC {x:Operand} (h:∀t,x=.tmp t→f2 t=f t):(cj n f2).eval x=(cj n f).eval x:=by
 cases x with
 |tmp t=>
  by_cases ht:t<n
  ·simp[Act.eval,cj,ht,h t rfl]
  ·simp[Act.eval,cj,ht]
 |_=>rfl
theorem ya (hg:∀j b,o.guard=some (j,b)→∀t,(ops[j]?).bind (·.dst)=some t→f2 t=f t):Region.wanted o (yielded ops (cj n f2).tmps)=Region.wanted o (yielded ops (cj n f).tmps):=by
 unfold Region.wanted
 cases hgd:o.guard with
 |none=>rfl
 |some gw=>
  obtain⟨j,b⟩:=gw
  simp only[]
  have:yielded ops (cj n f2).tmps j=yielded ops (cj n f).tmps j:=by
   unfold yielded
   cases ht:(ops[j]?).bind (·.dst) with
   |none=>rfl
   |some t=>
    have he:=hg j b hgd t ht
    by_cases hn:t<n
    ·simp[cj,hn,he]
    ·simp[cj,hn]
  rw[this]
theorem Gp {d:Nat} {u:Value} (hd:d<n) (h:cj n (cg f d u)=cj n (cg f d v)):u=v:=by
 have h1:(cj n (cg f d u)).tmps[d]? =(cj n (cg f d v)).tmps[d]?:=by rw[h]
 simpa [cj,hd,iY] using h1
theorem yB {l:dh}:∀(r:dh) (i:Nat),GM l i r=true→∀j o,r[j]? =some o→(∀t∈o.looksAt l.toArray,(jn l.length l).contains t=false∨∃q,q<i+j∧kZ o q=true∧jb l q=t∧((l[q]?).bind (·.dst)).isSome=true)∧∀cs b,o.op≠.select cs b
 |[],_,_,j,o,h=>by simp at h
 |x::r,i,h,j,o,hj=>by
  simp only[GM,ez] at h
  cases j with
  |zero=>
   simp only[aoe,aod] at hj
   subst hj
   refine⟨fun t ht=>?_,fun cs b e=>?_⟩
   ·have:=an9.1 h.1.1 t ht
    rcases aoX.1 this with h1|h1
    ·exact .inl (by simpa using h1)
    ·obtain⟨q,hq,nC⟩:=aoB.1 h1
     simp only[ez,Nat.beq_eq] at nC
     exact .inr ⟨q,by have:=an7.1 hq;omega,nC.1.1,by simpa using nC.1.2,nC.2⟩
   ·have:=h.1.2
    rw[e] at this;cases this
  |succ j=>
   simp only[aon] at hj
   have:=yB r (i+1) h.2 j o hj
   refine⟨fun t ht=>?_,this.2⟩
   rcases this.1 t ht with h1|⟨q,h1,h2⟩
   ·exact .inl h1
   ·exact .inr ⟨q,by omega,h2⟩
end
theorem gu {P:Program} {n:Nat} {ops:Array Oper} {f:aO} {w:aG} {K:aO→aG→Prop} {d:Option Nat} {op:Op} {ty:TypeId} {ps:String} {af:Array Edge} {j t:Nat} {want:Bool}
  (hj:xO ops j=some t) (ht:Nat.blt t n=true) (hv:f t=undef)
  (h:K (cW f d undef) w):SO P n ops ⟨d,op,ty,ps,af,some (j,want)⟩ f w K:=by
 intro Q rest hk
 have hy:yielded ops (cj n f).tmps j=none:=by
  simp only[aqa] at ht
  unfold xO at hj
  simp[yielded,hj,cj,ht,hv,undef]
 unfold wpList
 rw[an8 (by simp[Region.wanted,hy])]
 rw[qJ]
 exact hk _ _ h
section
variable {P:Program} {n:Nat} {ops:Array Oper} {w0:aG} {K:aO→Prop} {f:aO} {rest:dh}
theorem e1 {f:aO} {w:aG}:f=f∧Ext w w:=⟨rfl,Ext.refl w⟩
theorem e2 {f:aO} {d:Nat} {x:Value} {w w':aG} (h:v=x∧Ext w w'):cW f (some d) v=cW f (some d) x∧Ext w w':=⟨by rw[h.1],h.2⟩
theorem kq {o:Oper} (h:∀w,Ext w0 w→SO P n ops o f w (fun f' w'=>f'=cW f o.dst v∧Ext w w')) (r:PW P n ops w0 K rest (cW f o.dst v)):PW P n ops w0 K (o::rest) f:=⟨v,h,r⟩
theorem zq (h:K f):PW P n ops w0 K [] f:=h
variable {d:Option Nat} {op:Op} {ty:TypeId} {ps:String} {af:Array Edge} {j t:Nat} {want b:Bool}
theorem qy (hj:xO ops j=some t) (ht:Nat.blt t n=true) (hv:f t=.bool b) (hb:b=want)
  (h:PW P n ops w0 K (⟨d,op,ty,ps,af,none⟩::rest) f):PW P n ops w0 K (⟨d,op,ty,ps,af,some (j,want)⟩::rest) f:=by
 obtain⟨v,h1,h2⟩:=h
 exact⟨v,fun w hw=>gy hj ht hv hb (h1 w hw),h2⟩
theorem qn (hj:xO ops j=some t) (ht:Nat.blt t n=true) (hv:f t=.bool b) (hb:b=!want)
  (h:PW P n ops w0 K rest (cW f d undef)):PW P n ops w0 K (⟨d,op,ty,ps,af,some (j,want)⟩::rest) f:=
 ⟨undef,fun w hw=>gn hj ht hv hb ⟨rfl,Ext.refl w⟩,h⟩
theorem qu (hj:xO ops j=some t) (ht:Nat.blt t n=true) (hv:f t=undef)
  (h:PW P n ops w0 K rest (cW f d undef)):PW P n ops w0 K (⟨d,op,ty,ps,af,some (j,want)⟩::rest) f:=
 ⟨undef,fun w hw=>gu hj ht hv ⟨rfl,Ext.refl w⟩,h⟩
end
section
variable {P:Program} {n:Nat} {ops:Array Oper} {w0:aG} {K:aO→Prop} {f:aO} {rest:dh} {d:Nat} {ty:TypeId} {ps:String} {af:Array Edge} {M:bY} {x y:Operand} {T e:TypeId} {kk:IntKind} {agg:Bool} {bytes:Nat} {z v:Value} {ad:Addr}
theorem ux {α:Type} [GT α] {xs:List α} {i:Int} (hR:RV M w0 v xs) (ox:bD n x=true) (oy:bD n y=true) (hx:ev f x=v) (hy:ev f y=.int kk i) (hi:0≤i∧i<xs.length) (hu:P.underlying T=some (.slice e)) (F:ep P e (GT.size α) agg bytes z)
  (h:∀ad xv,xs[i.toNat]? =some xv→At M w0 ad xv→PW P n ops w0 K rest (cg f d (.pointer (some ad)))):PW P n ops w0 K (⟨some d,.indexAddr T x y,ty,ps,af,none⟩::rest) f:=by
 obtain⟨a,m,c,rfl,h1,h2,h3,h4⟩:=RV.list.1 hR
 rcases h4 with h4|⟨ad,rfl,hs⟩
 ·omega
 ·have ef:i.toNat<xs.length:=by omega
  refine⟨.pointer (some<|ad.add<|i.toNat*GT.size α),fun w hw=>SO.value (v:=.pointer (some<|ad.add<|i.toNat*GT.size α)) (w':=w) ?_ ⟨J,Ext.refl w⟩,h _ xs[i.toNat] (dW ef) (hs _ _<|dW ef)⟩
  have hb:0≤i∧i<(m:Int):=by omega
  simp[execOp,aJ ox,aJ oy,hx,hy,Instr.indexAt,asIntOf,gp hu,hb,F.iK]
theorem th {α:Type} [GT α] {xs:List α} {B:Nat} {i:Int} (hO:(own B e v xs).holds M w0) (ox:bD n x=true) (oy:bD n y=true) (hx:ev f x=v) (hy:ev f y=.int kk i) (hi:0≤i∧i<xs.length) (hu:P.underlying T=some (.slice e)) (F:ep P e (GT.size α) agg bytes z)
  (h:∀ad xv,xs[i.toNat]? =some xv→gP M w0 ad xv→PW P n ops w0 K rest (cg f d (.pointer (some ad)))):PW P n ops w0 K (⟨some d,.indexAddr T x y,ty,ps,af,none⟩::rest) f:=by
 obtain⟨cs,h1,h2⟩:=hO
 rcases h1.2 with ⟨_,h3⟩|⟨g,cap,cur,rfl,h3,h4,h5,h6,h7,h8⟩
 ·omega
 ·have ef:i.toNat<xs.length:=by omega
  have kn:(⟨g,0,none⟩:Addr).add (i.toNat*GT.size α)=⟨g,i.toNat*GT.size α,none⟩:=by unfold Addr.add;split<;>simp_all
  refine⟨.pointer (some ⟨g,i.toNat*GT.size α,none⟩),fun w hw=>SO.value (v:=.pointer (some ⟨g,i.toNat*GT.size α,none⟩)) (w':=w) ?_ ⟨J,Ext.refl w⟩,h _ xs[i.toNat] (dW ef) ?_⟩
  ·have hb:0≤i∧i<(xs.length:Int):=by omega
   simp[execOp,aJ ox,aJ oy,hx,hy,Instr.indexAt,asIntOf,gp hu,hb,F.iK,kn]
  ·obtain⟨c,yS,Ay⟩:=bz.at_ h2 i.toNat xs[i.toNat] (dW ef)
   refine⟨c,yS,fun j u hu=>?_⟩
   have rZ:=h1.cells (g:=g) J (i.toNat*GT.size α+j) u<|Ay j u hu
   rwa [←add_add,kn] at rZ
theorem yr {α:Type} [GT α] {xv:α} (hA:gP M w0 ad xv) (F:ep P T (GT.size α) (GT.agg α) bytes z) (ox:bD n x=true) (hx:ev f x=.pointer (some ad))
  (h:∀v,RV M w0 v xv→PW P n ops w0 K rest (cg f d v)):PW P n ops w0 K (⟨some d,.load T x,ty,ps,af,none⟩::rest) f:=by
 obtain⟨cs,h1,h2⟩:=hA
 refine⟨sF (GT.agg α) cs,fun w hw=>SO.value (v:=sF (GT.agg α) cs) (w':=w) ?_ ⟨J,Ext.refl w⟩,h _ ⟨cs,h1,J⟩⟩
 have h3:∀j v,cs[j]? =some v→w.cell? (ad.add j)=some v:=fun j v hv=>(World.cell?_of_block<|hw.block _<|pQ<|h2 j v hv).trans (h2 j v hv)
 simp[execOp,aJ ox,hx,Instr.loadAt,Instr.sureAddr,rI F GT.single (GT.len h1) h3]
theorem px {i:Int} (hA:gP M w0 ad i) (F:ep P T 1 false bytes z) (ox:bD n x=true) (hx:ev f x=.pointer (some ad)) (h:aK i→PW P n ops w0 K rest (cg f d (.int .i64 i))):
  PW P n ops w0 K (⟨some d,.load T x,ty,ps,af,none⟩::rest) f:=yr hA F ox hx fun v hv=>by obtain⟨rfl,hi⟩:=RV.int.1 hv;exact h hi
theorem afP {u:bp} (hA:gP M w0 ad u) (F:ep P T 1 false bytes z) (ox:bD n x=true) (hx:ev f x=.pointer (some ad)) (h:PW P n ops w0 K rest (cg f d (ag u))):
  PW P n ops w0 K (⟨some d,.load T x,ty,ps,af,none⟩::rest) f:=yr hA F ox hx fun v hv=>by rw[RV.bv.1 hv];exact h
theorem afQ {u:Bool} (hA:gP M w0 ad u) (F:ep P T 1 false bytes z) (ox:bD n x=true) (hx:ev f x=.pointer (some ad)) (h:PW P n ops w0 K rest (cg f d (.bool u))):
  PW P n ops w0 K (⟨some d,.load T x,ty,ps,af,none⟩::rest) f:=yr hA F ox hx fun v hv=>by rw[RV.bool.1 hv];exact h
theorem GD {α:Type} [GT α] {xs:List α} (hA:gP M w0 ad xs) (F:ep P T 1 false bytes z) (ox:bD n x=true) (hx:ev f x=.pointer (some ad))
  (h:∀a c,RV M w0 (.slice a xs.length c) xs→PW P n ops w0 K rest (cg f d (.slice a xs.length c))):PW P n ops w0 K (⟨some d,.load T x,ty,ps,af,none⟩::rest) f:=
 yr hA F ox hx fun v hv=>by obtain⟨a,c,rfl,hr⟩:=(RV.list.1 hv).explicit;exact h a c hr
end
end Go.Ew
namespace Go.Ew
open Go.RowKit
abbrev UT:=List (Nat×(Value→aG→Prop))
def Mh (ag:UT) (t:Nat):Bool:=ag.any (fun p=>Nat.beq p.1 t)
section
variable {P:Program} {n:Nat} {ops:Array Oper} {w0:aG} {o:Oper} {f f2:aO} {w:aG} {v:Value} {R:Value→aG→Prop}
theorem SO.rW (h:SO P n ops o f w (fun f' w'=>∃v,f'=cW f o.dst v∧Ext w w'∧R v w')) (hs:∀cs b,o.op≠.select cs b) (hu:∀t∈o.looksAt ops,f2 t=f t) (hd:∀d,o.dst=some d→d<n):
  SO P n ops o f2 w (fun f' w'=>∃v,f'=cW f2 o.dst v∧Ext w w'∧R v w'):=by
 intro Q rest hk
 have h1:=h (fun e a w'=>match e with| .normal=>∃v,a=cj n (cW f o.dst v)∧Ext w w'∧R v w'|_=>False) []<|fun f' w' hK=>wpList_nil<|by obtain⟨v,h1,h2⟩:=hK;exact⟨v,by rw[h1],h2⟩
 have he:execOp (cj n f2).eval o=execOp (cj n f).eval o:=execOp_congr o hs fun x hx=>DC fun t ht=>hu t (by
  subst ht
  exact apm _ (aou.2 ⟨.tmp t,by simpa using hx,rfl⟩))
 have hw:Region.wanted o (yielded ops (cj n f2).tmps)=Region.wanted o (yielded ops (cj n f).tmps):=ya fun j b hg t ht=>hu t (by
  unfold Oper.looksAt
  rw[hg]
  refine ape _ ?_
  simp[ht])
 have key:∀u w',(∃v,(cj n f).put o.dst u=cj n (cW f o.dst v)∧Ext w w'∧R v w')→wpList P ops Q rest ((cj n f2).put o.dst u) w':=by
  rintro u w' ⟨v,hq,h2,h3⟩
  rw[qJ] at hq ⊢
  cases tB:o.dst with
  |none=>exact hk _ _ ⟨v,by rw[tB];rfl,h2,h3⟩
  |some d=>
   rw[tB] at hq
   have Te:u=v:=Gp (hd d tB) hq
   subst Te
   exact hk _ _ ⟨u,by rw[tB],h2,h3⟩
 unfold wpList at h1 ⊢
 rw[hw]
 split at h1
 ·rename_i C0
  rw[an4 C0]
  refine .inl ?_
  rcases h1 with h2|⟨_,a0,w1,hq⟩
  ·unfold Oper.wp at h2 ⊢
   rw[he]
   generalize (execOp (cj n f).eval o).run P w=r at *
   cases r with
   |ok x w'=>
    cases x with
    |enter g args=>
     simp only[Oper.upon] at h2 ⊢
     refine Calls.mono h2 ?_
     intro e mK yQ
     cases e with
     |returned u=>exact key u mK yQ
     |panicked c=>exact yQ.elim
     |outgrown=>obtain⟨a0,w1,hq⟩:=yQ;exact hq.elim
    |row r args=>
     simp only[Oper.upon] at h2 ⊢
     exact Rows.mono h2 fun u mK yQ=>key u mK yQ
    |defer d=>
     simp only[Oper.upon] at h2 ⊢
     obtain⟨v,h3, -⟩:=(show ∃v,_∧_ from h2)
     exfalso
     have h4:=an0 (fun a=>a.defers.length) h3
     cases tB:o.dst<;>rw[tB] at h4<;>simp[Act.put,cj] at h4
    |value u=>
     simp only[Oper.upon] at h2 ⊢
     exact key u w' h2
    |skip=>
     simp only[Oper.upon] at h2 ⊢
     exact key undef w' h2
    |_=>exact(show False from h2).elim
   |halt x w'=>cases x<;>simp only[Oper.upon] at h2 ⊢<;>exact h2.elim
  ·exact hq.elim
 ·rename_i C0
  rw[an8 C0]
  exact key undef w h1
def Agr (L:List Nat) (ag:UT) (f g:aO) (w:aG):Prop:=
 ∀t∈L,(Mh ag t=false→g t=f t)∧(∀(j:Nat) (Φ:Value→aG→Prop),ag[j]? =some (t,Φ)→Φ (g t) w)
def GO (P:Program) (n:Nat) (ops:Array Oper) (w0:aG) (o:Oper) (ag:UT) (f:aO) (R:Value→aG→Prop):Prop:=
 ∀w g,Ext w0 w→Agr (o.looksAt ops) ag f g w→SO P n ops o g w (fun f' w'=>∃v,f'=cW g o.dst v∧Ext w w'∧R v w')
def PX (P:Program) (n:Nat) (ops:Array Oper) (w0:aG) (K:UT→aO→Prop):dh→UT→aO→Prop
 |[],ag,f=>K ag f
 |o::r,ag,f=>(∃X,GO P n ops w0 o ag f (eV X)∧PX P n ops w0 K r ag (cW f o.dst X))∨
   (∃d Φ,o.dst=some d∧(∀v w w',Ext w w'→Φ v w→Φ v w')∧GO P n ops w0 o ag f Φ∧PX P n ops w0 K r ((d,Φ)::ag) f)
abbrev EN:=Option Value×(Value→aG→Prop)
def Dl:List (Oper×EN)→aO→aO
 |[],f=>f
 |(o,(some X,_))::r,f=>Dl r (cW f o.dst X)
 |(_,(none,_))::r,f=>Dl r f
def xT:List (Oper×EN)→UT→UT
 |[],ag=>ag
 |(_,(some _,_))::r,ag=>xT r ag
 |(o,(none,Φ))::r,ag=>xT r ((o.dst.getD 0,Φ)::ag)
theorem PX.values {K:UT→aO→Prop}:∀(l:dh) (ag:UT) (f:aO),PX P n ops w0 K l ag f→∃es:List EN,es.length=l.length∧(∀e∈es,∀X,e.1=some X→e.2=eV X)∧(∀e∈es,∀v w w',Ext w w'→e.2 v w→e.2 v w')∧
  (∀i o e,l[i]? =some o→es[i]? =some e→GO P n ops w0 o (xT (List.zip (l.take i) es) ag) (Dl (List.zip (l.take i) es) f) e.2)∧K (xT (List.zip l es) ag) (Dl (List.zip l es) f)
 |[],ag,f,h=>⟨[],rfl,by simp,by simp,fun i o e hi=>by simp at hi,h⟩
 |o::r,ag,f,.inl ⟨X,h1,h2⟩=>by
  obtain⟨es,hl,hc,hm,hs,hK⟩:=PX.values r ag _ h2
  refine⟨(some X,eV X)::es,by simp[hl],?_,?_,fun i o' e hi he=>?_,hK⟩
  ·intro e he Y hY
   rcases aoh.1 he with rfl|he
   ·cases hY;rfl
   ·exact hc e he Y hY
  ·intro e he
   rcases aoh.1 he with rfl|he
   ·exact fun _ _ _ _ h=>h
   ·exact hm e he
  ·cases i with
   |zero=>
    simp only[aoe,aod] at hi he
    subst hi;subst he
    exact h1
   |succ i=>
    simp only[aon] at hi he
    exact hs i o' e hi he
 |o::r,ag,f,.inr ⟨d,Φ,hd,To,h1,h2⟩=>by
  obtain⟨es,hl,hc,hm,hs,hK⟩:=PX.values r _ f h2
  have e0:∀l',xT ((o,((none,Φ):EN))::l') ag=xT l' ((d,Φ)::ag):=fun l'=>by show xT l' ((o.dst.getD 0,Φ)::ag)=_;rw[hd];rfl
  refine⟨(none,Φ)::es,by simp[hl],?_,?_,fun i o' e hi he=>?_,?_⟩
  ·intro e he Y hY
   rcases aoh.1 he with rfl|he
   ·cases hY
   ·exact hc e he Y hY
  ·intro e he
   rcases aoh.1 he with rfl|he
   ·exact To
   ·exact hm e he
  ·cases i with
   |zero=>
    simp only[aoe,aod] at hi he
    subst hi;subst he
    exact h1
   |succ i=>
    simp only[aon] at hi he
    have:=hs i o' e hi he
    show GO P n ops w0 o' (xT ((o,((none,Φ):EN))::List.zip (r.take i) es) ag) (Dl (List.zip (r.take i) es) f) e.2
    rw[e0];exact this
  ·show K (xT ((o,((none,Φ):EN))::List.zip r es) ag) (Dl (List.zip r es) f)
   rw[e0];exact hK
theorem Ea:∀(l:dh) (es:List EN) (f:aO) (t:Nat),(∀o∈l,o.dst≠some t)→Dl (List.zip l es) f t=f t
 |[],es,f,t,h=>rfl
 |o::l,[],f,t,h=>rfl
 |o::l,(some X,Φ)::es,f,t,h=>by
  show Dl (List.zip l es) (cW f o.dst X) t=f t
  rw[Ea l es _ t (fun o' ho=>h o' (aow _ ho))]
  have:=h o aoO
  cases hd:o.dst with
  |none=>rfl
  |some d=>exact jD f X (fun e=>this (by rw[hd,e]))
 |o::l,(none,Φ)::es,f,t,h=>Ea l es f t (fun o' ho=>h o' (aow _ ho))
theorem MX:∀(l:dh) (es:List EN) (f:aO) (i:Nat) (o:Oper) (d:Nat) (X:Value) (Φ:Value→aG→Prop),(l.filterMap (·.dst)).Nodup→l[i]? =some o→es[i]? =some (some X,Φ)→o.dst=some d→Dl (List.zip l es) f d=X
 |[],es,f,i,o,d,X,Φ,hn,hi,he,hd=>by simp at hi
 |x::l,[],f,i,o,d,X,Φ,hn,hi,he,hd=>by simp at he
 |x::l,e::es,f,i,o,d,X,Φ,hn,hi,he,hd=>by
  cases i with
  |zero=>
   simp only[aoe,aod] at hi he
   subst hi;subst he
   show Dl (List.zip l es) (cW f x.dst X) d=X
   rw[Ea l es _ d (fun o' ho e=>by
    rw[aoQ,hd] at hn
    exact(ao8.1 hn).1 (aou.2 ⟨o',ho,e⟩)),hd]
   exact iY f d X
  |succ i=>
   simp only[aon] at hi he
   have Ms:(l.filterMap (·.dst)).Nodup:=by
    rw[aoQ] at hn
    split at hn
    ·exact hn
    ·exact(ao8.1 hn).2
   obtain⟨a,b⟩:=e
   cases a with
   |none=>exact MX l es f i o d X Φ Ms hi he hd
   |some Y=>exact MX l es _ i o d X Φ Ms hi he hd
theorem IJ:∀(l:dh) (es:List EN) (ag:UT) (p:Nat×(Value→aG→Prop)),p∈xT (List.zip l es) ag→p∈ag∨∃(i:Nat) (o:Oper),l[i]? =some o∧es[i]? =some (none,p.2)∧o.dst.getD 0=p.1
 |[],es,ag,p,h=>.inl h
 |o::l,[],ag,p,h=>.inl h
 |o::l,(some X,Φ)::es,ag,p,h=>by
  rcases IJ l es ag p h with h1|⟨i,o',h1,h2,h3⟩
  ·exact .inl h1
  ·exact .inr ⟨i+1,o',h1,h2,h3⟩
 |o::l,(none,Φ)::es,ag,p,h=>by
  rcases IJ l es _ p h with h1|⟨i,o',h1,h2,h3⟩
  ·rcases aoh.1 h1 with rfl|h1
   ·exact .inr ⟨0,o,J,J,J⟩
   ·exact .inl h1
  ·exact .inr ⟨i+1,o',h1,h2,h3⟩
theorem aaQ:∀(l:dh) (es:List EN) (ag:UT) (i:Nat) (o:Oper) (Φ:Value→aG→Prop),l[i]? =some o→es[i]? =some (none,Φ)→(o.dst.getD 0,Φ)∈xT (List.zip l es) ag∧Mh (xT (List.zip l es) ag) (o.dst.getD 0)=true:=by
 have sJ:∀(ag:UT) (t:Nat) (Φ:Value→aG→Prop),(t,Φ)∈ag→Mh ag t=true:=fun ag t Φ h=>aoB.2 ⟨_,h,by simp⟩
 have Md:∀(l:dh) (es:List EN) (ag:UT) (p:Nat×(Value→aG→Prop)),p∈ag→p∈xT (List.zip l es) ag:=by
  intro l
  induction l with
  |nil=>intro es ag p h;exact h
  |cons o l ih=>
   intro es ag p h
   cases es with
   |nil=>exact h
   |cons e es=>
    obtain⟨a,Φ⟩:=e
    cases a with
    |none=>exact ih es _ p (aow _ h)
    |some X=>exact ih es ag p h
 intro l
 induction l with
 |nil=>intro es ag i o Φ hi;simp at hi
 |cons x l ih=>
  intro es ag i o Φ hi he
  cases es with
  |nil=>simp at he
  |cons e es=>
   cases i with
   |zero=>
    simp only[aoe,aod] at hi he
    subst hi;subst he
    have:=Md l es ((x.dst.getD 0,Φ)::ag) (x.dst.getD 0,Φ) aoO
    exact⟨this,sJ _ _ _ this⟩
   |succ i=>
    simp only[aon] at hi he
    obtain⟨a,Ψ⟩:=e
    cases a with
    |none=>exact ih es _ i o Φ hi he
    |some X=>exact ih es ag i o Φ hi he
end
def KX (n:Nat) (Q:Exit→Act→aG→Prop) (w0:aG) (ag:UT) (f:aO):Prop:=
 ∀(w':aG) (g:aO),Ext w0 w'→(∀t,Mh ag t=false→g t=f t)→(∀(j t:Nat) (Φ:Value→aG→Prop),ag[j]? =some (t,Φ)→Φ (g t) w')→Q .normal (cj n g) w'
section
variable {P:Program} {n:Nat}
theorem Uj {id:Nat} {l:dh} {Q:Exit→Act→aG→Prop} {f:aO} {w:aG} (hm:P.follows .mixedOrders=true) (qq:QK n l=true)
  (h:PX P n l.toArray w (KX n Q w) l [] f):WC P n (.region id l.toArray true) Q f w:=by
 obtain⟨es,hl,hc,To,hs,hK⟩:=PX.values l [] f h
 simp only[QK,ez] at qq
 obtain⟨IB,Q2⟩:=qq
 have adn:=IB
 simp only[OW,ez] at IB
 obtain⟨⟨⟨⟨⟨hE,hD⟩,hN⟩,hn⟩,hT⟩,As⟩:=IB
 have lS:(l.filterMap (·.dst)).Nodup:=by
  have:=oN _ hN
  unfold jn at this
  rwa [ao1] at this
 have ef:∀(i:Nat) (o:Oper) (d:Nat),l[i]? =some o→o.dst=some d→d<n:=by
  intro i o d hi hd
  have:=an9.1 hn d<|qM hi (dJ.1 hi).1 hd
  simpa using this
 have tB:∀(i:Nat) (o:Oper),l[i]? =some o→∃d,o.dst=some d:=by
  intro i o hi
  rw[ao1] at hD
  exact aos.1<|an9.1 hD o<|dz hi
 have C3:∀(i:Nat) (o:Oper) (d:Nat),l[i]? =some o→o.dst=some d→jb l i=d:=by
  intro i o d hi hd
  unfold jb
  rw[hi];show (o.dst).getD 0=d
  rw[hd];rfl
 have B0:∀(i:Nat),i<l.length→∃e,es[i]? =some e:=fun i hi=>⟨_,dW aj⟩
 have Q1:∀(i:Nat) (e:EN) (v:Value) (w':aG),es[i]? =some e→(z8 (es.map (·.2)) i v w'↔e.2 v w'):=by
  intro i e v w' he
  unfold z8
  rw[il,aoa,he]
  exact Iff.rfl
 have Bs:∀(i j:Nat) (o o':Oper),l[i]? =some o→l[j]? =some o'→o.dst.getD 0=o'.dst.getD 0→i=j:=by
  intro i j o o' hi hj he
  obtain⟨d,hd⟩:=tB i o hi
  obtain⟨d',nE⟩:=tB j o' hj
  exact im (·.dst) l lS i j o o' hi hj (by show o.dst.isSome=true;rw[hd];rfl)<|by show o.dst=o'.dst;rw[hd,nE] at he ⊢;rw[show d=d' from he]
 
 have Yy:∀(m:Nat),m≤l.length→∀(g:aO) (w':aG) (t:Nat),
   ((jn l.length l).contains t=false→g t=f t)→(∀(q:Nat) (o:Oper) (e:EN),q<m→l[q]? =some o→es[q]? =some e→o.dst=some t→e.2 (g t) w')→
   (∀(q:Nat) (o:Oper),l[q]? =some o→o.dst=some t→q<m)→
   (Mh (xT (List.zip (l.take m) es) []) t=false→g t=Dl (List.zip (l.take m) es) f t)∧∀(j:Nat) (Φ:Value→aG→Prop),(xT (List.zip (l.take m) es) [])[j]? =some (t,Φ)→Φ (g t) w':=by
  intro m hm g w' t h1 h2 h3
  constructor
  ·intro hu
   by_cases ht:(jn l.length l).contains t=true
   ·have Tp:t∈l.filterMap (·.dst):=by
     have:=aoF.1 ht
     unfold jn at this
     rwa [ao1] at this
    obtain⟨o,ho,Ar⟩:=aou.1 Tp
    obtain⟨q,hq⟩:=aok.1 ho
    have je:=h3 q o hq Ar
    obtain⟨e,he⟩:=B0 q (dJ.1 hq).1
    have Yn:(l.take m)[q]? =some o:=by rw[aov,an4 je];exact hq
    obtain⟨a,Φ⟩:=e
    cases a with
    |none=>
     have:=(aaQ (l.take m) es [] q o Φ Yn he).2
     rw[Ar] at this
     rw[show (some t).getD 0=t from rfl] at this
     rw[hu] at this;cases this
    |some X=>
     have hv:=h2 q o _ je hq he Ar
     rw[hc _ (dz he) X rfl] at hv
     rw[MX (l.take m) es f q o t X Φ (lS.sublist ((List.take_sublist m l).filterMap _)) Yn he Ar]
     exact hv
   ·rw[h1 (by simpa using ht),Ea]
    intro o' jt he
    obtain⟨j,hj⟩:=aok.1 (apl jt)
    exact ht<|aoF.2<|qM hj (dJ.1 hj).1 he
  ·intro j Φ hj
   rcases IJ (l.take m) es [] (t,Φ) (dz hj) with h4|⟨q,o,hq,he,hd⟩
   ·cases h4
   ·have je:q<m:=by have:=(dJ.1 hq).1;rw[ic] at this;omega
    rw[aov,an4 je] at hq
    obtain⟨d,MB⟩:=tB q o hq
    have hdt:d=t:=by have h9:o.dst.getD 0=t:=hd;rw[MB] at h9;exact h9
    rw[hdt] at MB
    exact h2 q o _ je hq he MB
 have hof:∀(r:dh) (i:Nat),(∀j o,r[j]? =some o→DStep P n l l.length (es.map (·.2)) f w (i+j) o)→lW P n l l.length (es.map (·.2)) f w i r:=by
  intro r
  induction r with
  |nil=>intro i _;trivial
  |cons x r ih=>
   intro i hx
   refine⟨fun _=>hx 0 x rfl,ih (i+1) fun j o hj=>?_⟩
   have:=hx (j+1) o<|by simpa using hj
   rwa [show i+(j+1)=i+1+j from by omega] at this
 refine dr l.length (es.map (·.2)) hm adn (hof l 0 fun i o hi=>?_) fun g w' hg hx hp=>?_
 ·rw[aoJ]
  have jL:=(dJ.1 hi).1
  obtain⟨e,he⟩:=B0 i jL
  refine⟨fun g w' hg hx hp=>?_,fun v w1 w2 hx h=>by rw[Q1 i e v _ he] at h ⊢;exact To e (dz he) v w1 w2 hx h⟩
  refine(hs i o e hi he w' g hx fun t ht=>?_).mono ?_
  ·refine Yy i (Nat.le_of_lt jL) g w' t (hg t) (fun q o' e' hq tW heq Ar=>?_)<|fun q o' tW Ar=>?_
   ·rcases (yB l 0 Q2 i o hi).1 t ht with h1|⟨q',hq',vg,Yt,hqd⟩
    ·have:=qM tW (dJ.1 tW).1 Ar
     rw[aoF.2 this] at h1;cases h1
    ·have JB:q'<l.length:=by omega
     obtain⟨d',nE⟩:=tB q' l[q'] (dW JB)
     have:=C3 q' _ d' (dW JB) nE
     have hqq:q'=q:=Bs q' q _ _ (dW JB) tW<|by rw[nE,Ar];show d'=t;rw[←this,Yt]
     subst hqq
     have h5:=hp q' vg<|by simpa using JB
     rw[Yt] at h5
     exact(Q1 q' e' _ w' heq).1 h5
   ·rcases (yB l 0 Q2 i o hi).1 t ht with h1|⟨q',hq',vg,Yt,hqd⟩
    ·have:=qM tW (dJ.1 tW).1 Ar
     rw[aoF.2 this] at h1;cases h1
    ·have JB:q'<l.length:=by omega
     obtain⟨d',nE⟩:=tB q' l[q'] (dW JB)
     have:=C3 q' _ d' (dW JB) nE
     have hqq:q'=q:=Bs q' q _ _ (dW JB) tW<|by rw[nE,Ar];show d'=t;rw[←this,Yt]
     omega
  ·rintro ER mK ⟨v,rfl,gZ,hv⟩
   exact⟨v,J,gZ,(Q1 i e _ _ he).2 hv⟩
 ·rw[apo (an3 _)]
  refine z ?_
  have oR:∀t,_:=fun t=>Yy l.length (an3 _) g w' t (hg t) (fun q o e hq tW heq Ar=>by
   have h5:=hp q<|by simpa using hq
   rw[C3 q o t tW Ar] at h5
   exact(Q1 q e _ w' heq).1 h5) (fun q o tW Ar=>(dJ.1 tW).1)
  rw[ao1] at oR
  exact hK w' g hx (fun t ht=>(oR t).1 ht)<|fun j t Φ hj=>(oR t).2 j Φ hj
end
section
variable {P:Program} {n:Nat} {ops:Array Oper} {w0:aG} {K:UT→aO→Prop} {f:aO} {rest:dh} {ag:UT} {o:Oper} {v X:Value} {Φ Ψ:Value→aG→Prop} {d d2:Nat}
def KM (ops:Array Oper) (o:Oper) (ag:UT):Bool:=(o.looksAt ops).all (fun t=>!Mh ag t)
def Rl (ops:Array Oper) (o:Oper) (ag:UT) (d:Nat):Bool:=(o.looksAt ops).all (fun t=>Nat.beq t d||!Mh ag t)
def lu (n:Nat) (o:Oper):Bool:=(match o.op with| .select _ _=>false|_=>true)&&(match o.dst with|some d=>Nat.blt d n|none=>true)
theorem gx (h:lu n o=true):(∀cs b,o.op≠.select cs b)∧∀d,o.dst=some d→d<n:=by
 unfold lu at h
 rw[ez] at h
 refine⟨fun cs b e=>(by rw[e] at h;have h1:=h.1;cases h1),fun d hd=>?_⟩
 have:=h.2
 rw[hd] at this
 simpa using this
theorem MQ (h:KM ops o ag=true) {g:aO} {w:aG} (ha:Agr (o.looksAt ops) ag f g w):∀t∈o.looksAt ops,g t=f t:=by
 intro t ht
 have:=an9.1 h t ht
 exact(ha t ht).1 (by simpa using this)
theorem xk (hf:(lu n o&&KM ops o ag)=true) (h:∀w,Ext w0 w→SO P n ops o f w (fun f' w'=>f'=cW f o.dst X∧Ext w w')) (r:PX P n ops w0 K rest ag (cW f o.dst X)):PX P n ops w0 K (o::rest) ag f:=by
 rw[ez] at hf
 refine .inl ⟨X,fun w g hx ha=>?_,r⟩
 exact SO.rW ((h w hx).mono fun f' w' hq=>⟨X,hq.1,hq.2,J⟩) (gx hf.1).1 (MQ hf.2 ha) (gx hf.1).2
theorem xu (Φ:Value→aG→Prop) (hd:o.dst=some d) (hm:∀v w w',Ext w w'→Φ v w→Φ v w') (hf:(lu n o&&KM ops o ag)=true) (h:∀w,Ext w0 w→SO P n ops o f w (fun f' w'=>∃v,f'=cW f o.dst v∧Ext w w'∧Φ v w')) (r:PX P n ops w0 K rest ((d,Φ)::ag) f):PX P n ops w0 K (o::rest) ag f:=by
 rw[ez] at hf
 exact .inr ⟨d,Φ,hd,hm,fun w g hx ha=>SO.rW (h w hx) (gx hf.1).1 (MQ hf.2 ha) (gx hf.1).2,r⟩
theorem OU {j:Nat} (hU:ag[j]? =some (d,Ψ)) (h:Rl ops o ag d=true) {g:aO} {w:aG} (ha:Agr (o.looksAt ops) ag f g w) (hl:(o.looksAt ops).contains d=true):Ψ (g d) w∧∀t∈o.looksAt ops,g t=cg f d (g d) t:=by
 refine⟨(ha d<|aoF.1 hl).2 j Ψ hU,fun t ht=>?_⟩
 by_cases e:t=d
 ·subst e;exact(iY _ _ _).symm
 ·rw[jD _ _ e]
  have:=an9.1 h t ht
  rcases aoX.1 this with h1|h1
  ·exact absurd (apc h1) e
  ·exact(ha t ht).1 (by simpa using h1)
theorem xk1 (j:Nat) (hU:ag[j]? =some (d,Ψ)) (hf:(lu n o&&Rl ops o ag d&&(o.looksAt ops).contains d)=true) (h:∀w v,Ext w0 w→Ψ v w→SO P n ops o (cg f d v) w (fun f' w'=>f'=cW (cg f d v) o.dst X∧Ext w w')) (r:PX P n ops w0 K rest ag (cW f o.dst X)):PX P n ops w0 K (o::rest) ag f:=by
 rw[ez,ez] at hf
 refine .inl ⟨X,fun w g hx ha=>?_,r⟩
 obtain⟨h1,h2⟩:=OU hU hf.1.2 ha hf.2
 exact SO.rW ((h w (g d) hx h1).mono fun f' w' hq=>⟨X,hq.1,hq.2,J⟩) (gx hf.1.1).1 h2 (gx hf.1.1).2
theorem xu1 (Φ:Value→aG→Prop) (j:Nat) (hU:ag[j]? =some (d,Ψ)) (hd:o.dst=some d2) (hm:∀v w w',Ext w w'→Φ v w→Φ v w') (hf:(lu n o&&Rl ops o ag d&&(o.looksAt ops).contains d)=true) (h:∀w v,Ext w0 w→Ψ v w→SO P n ops o (cg f d v) w (fun f' w'=>∃u,f'=cW (cg f d v) o.dst u∧Ext w w'∧Φ u w')) (r:PX P n ops w0 K rest ((d2,Φ)::ag) f):PX P n ops w0 K (o::rest) ag f:=by
 rw[ez,ez] at hf
 refine .inr ⟨d2,Φ,hd,hm,fun w g hx ha=>?_,r⟩
 obtain⟨h1,h2⟩:=OU hU hf.1.2 ha hf.2
 exact SO.rW (h w (g d) hx h1) (gx hf.1.1).1 h2 (gx hf.1.1).2
theorem zx (h:K ag f):PX P n ops w0 K [] ag f:=h
theorem xq (hf:(lu n o&&KM ops o ag)=true) (h:PW P n ops w0 (fun f'=>PX P n ops w0 K rest ag f') [o] f):PX P n ops w0 K (o::rest) ag f:=by
 obtain⟨X,h1,h2⟩:=h
 exact xk hf h1 h2
end
section
variable {P:Program} {n:Nat} {ops:Array Oper} {w0:aG}
theorem PW.toX {K:aO→Prop}:∀(l:dh) (f:aO),(∀o∈l,(∀cs b,o.op≠.select cs b)∧∀d,o.dst=some d→d<n)→PW P n ops w0 K l f→PX P n ops w0 (fun ag f=>ag=[]∧K f) l [] f
 |[],f,_,h=>⟨rfl,h⟩
 |o::r,f,ho,⟨X,h1,h2⟩=>.inl ⟨X,fun w g hx ha=>SO.rW ((h1 w hx).mono fun f' w' hq=>⟨X,hq.1,hq.2,rfl⟩) (ho o aoO).1 (fun t ht=>(ha t ht).1 rfl) (ho o aoO).2,PW.toX r _ (fun o' jt=>ho o' (aow _ jt)) h2⟩
theorem PX.mono {K K':UT→aO→Prop} (hK:∀ag f,K ag f→K' ag f):∀(l:dh) (ag:UT) (f:aO),PX P n ops w0 K l ag f→PX P n ops w0 K' l ag f
 |[],ag,f,h=>hK ag f h
 |o::r,ag,f,.inl ⟨X,h1,h2⟩=>.inl ⟨X,h1,PX.mono hK r ag _ h2⟩
 |o::r,ag,f,.inr ⟨d,Φ,h0,hm,h1,h2⟩=>.inr ⟨d,Φ,h0,hm,h1,PX.mono hK r _ f h2⟩
theorem B9 {id:Nat} {l:dh} {Q:Exit→Act→aG→Prop} {f:aO} {w:aG} (hm:P.follows .mixedOrders=true) (qq:QK n l=true)
  (h:PW P n l.toArray w (fun f'=>∀w',Ext w w'→Q .normal (cj n f') w') l f):WC P n (.region id l.toArray true) Q f w:=by
 have ado:=qq
 simp only[QK,ez] at ado
 obtain⟨IB,Q2⟩:=ado
 simp only[OW,ez] at IB
 obtain⟨⟨⟨⟨⟨hE,hD⟩,hN⟩,hn⟩,hT⟩,As⟩:=IB
 refine Uj hm qq<|PX.mono ?_ l [] f<|PW.toX l f ?_ h
 ·rintro ag g ⟨rfl,hK⟩ w' g' hx hg _
  have e:g'=g:=by funext t;exact hg t rfl
  rw[e];exact hK w' hx
 ·intro o ho
  obtain⟨i,hi⟩:=aok.1 ho
  refine⟨(yB l 0 Q2 i o hi).2,fun d hd=>?_⟩
  have:=an9.1 hn d<|qM hi (dJ.1 hi).1 hd
  simpa using this
end
end Go.Ew
namespace Go.Ew
open Go.RowKit
section
variable {P:Program} {n:Nat} {l:dh}
theorem ZG {Q:Exit→Act→aG→Prop} (ab:(Nat→Bool)→aO→aG→Prop) (hE:ri 0 l=true)
  (D5:∀(L:Nat→Bool) (f:aO) (w:aG) (i:Nat) (o:Oper),l[i]? =some o→L i=false→(∀j,L j=true→j<l.length)→(∀j,kZ o j=true→L j=true)→ab L f w→SO P n l.toArray o f w (ab (fun k=>L k||decide (k=i))))
  (vR:∀(f:aO) (w:aG),ab (fun k=>decide (k<l.length)) f w→Q .normal (cj n f) w):
  ∀(d:Nat) (listed:Array Bool) (f:aO) (w:aG),listed.size=l.length→(listed.toList.filter (fun b=>!b)).length=d→ab (fun k=>listed.getD k false) f w→wpAny P .any l.toArray Q d listed (cj n f) w:=by
 intro d
 induction d with
 |zero=>
  intro listed f w pI hd hJ
  have oR:∀i,i<l.length→listed.getD i false=true:=by
   intro i hi
   have h0:=apu hd
   rw[ao'] at h0
   have oQ:i<listed.size:=by omega
   have:=h0 listed[i]<|by simp
   simp at this
   simp[Array.getD,oQ,this]
  refine⟨?_,?_⟩
  ·apply List.eq_nil_iff_forall_not_mem.2
   intro i hi
   obtain⟨h0,o,ho, -⟩:=mem_ready.1 hi
   have qp:l[i]? =some o:=by simpa using ho
   have jL:i<l.length:=(dJ.1 qp).1
   rw[show listed.getD i true=listed.getD i false from qV aj _ _,oR i jL] at h0
   cases h0
  ·refine vR f w ?_
   have:(fun k=>decide (k<l.length))=fun k=>listed.getD k false:=by
    funext k
    by_cases hk:k<l.length
    ·rw[oR k hk];exact an6 hk
    ·rw[an' hk];simp[Array.getD];omega
   rw[this];exact hJ
 |succ d ih=>
  intro listed f w pI hd hJ
  obtain⟨i0,JM⟩:∃i,i<l.length∧listed.getD i false=false:=by
   apply aoK
   intro Hf
   have:listed.toList.filter (fun b=>!b)=[]:=by
    rw[ao']
    intro b hb
    obtain⟨i,hi,rfl⟩:=ap3.1 hb
    simp only[aoM] at hi
    cases wb:listed.toList[i] with
    |true=>simp
    |false=>
     exfalso
     refine Hf ⟨i,by omega,?_⟩
     simp only[aqX] at wb
     simp[Array.getD,hi,wb]
   rw[this] at hd;cases hd
  obtain⟨m,Tq,Tp⟩:=exists_least (p:=fun i=>i<l.length∧listed.getD i false=false) ⟨i0,JM⟩
  have tX:m<l.length:=by omega
  have jk:l[m]? =some l[m]:=dW tX
  have BX:m∈Region.ready .any l.toArray listed:=by
   rw[mem_ready]
   refine⟨?_,l[m],by simp,fun e he hb=>?_⟩
   ·rw[show listed.getD m true=listed.getD m false from qV aj _ _];exact Tq.2
   ·have ef:=wB l 0 hE m l[m] jk e he hb
    cases wb:listed.getD e.on false with
    |true=>rfl
    |false=>
     have:=Tp e.on ⟨by omega,wb⟩
     omega
  refine⟨fun h0=>(by rw[h0] at BX;cases BX),fun i hi=>?_⟩
  obtain⟨h0,o,ho,Ax⟩:=mem_ready.1 hi
  have qp:l[i]? =some o:=by simpa using ho
  have jL:i<l.length:=(dJ.1 qp).1
  have MK:listed.getD i false=false:=by
   rw[show listed.getD i false=listed.getD i true from qV aj _ _];exact h0
  have af8:∀j,kZ o j=true→listed.getD j false=true:=by
   intro j hj
   obtain⟨e,he,hb,vg⟩:=wI.1 hj
   subst vg
   exact Ax e he hb
  have ef:∀j,listed.getD j false=true→j<l.length:=by
   intro j hj
   refine aoK fun hn=>?_
   rw[show listed.getD j false=false from by simp[Array.getD];omega] at hj
   cases hj
  have TF:((listed.setIfInBounds i true).toList.filter (fun b=>!b)).length=d:=by
   have Mw:i<listed.size:=by omega
   have uC:listed.toList[i]? =some false:=by
    rw[dW (by simpa using Mw)]
    simp only[Array.getD,Mw,dif_pos] at MK
    simpa [apT] using MK
   have key:∀(L:List Bool) (i:Nat),L[i]? =some false→((L.set i true).filter (fun b=>!b)).length+1=(L.filter (fun b=>!b)).length:=by
    intro L
    induction L with
    |nil=>intro i h;simp at h
    |cons b L ihL=>
     intro i h
     cases i with
     |zero=>simp at h;subst h;simp
     |succ i=>
      simp at h
      have:=ihL i h
      cases b<;>simp at this ⊢<;>omega
   have:=key listed.toList i uC
   rw[Array.toList_setIfInBounds]
   omega
  refine Gr ho (D5 (fun k=>listed.getD k false) f w i o qp MK ef af8 hJ) fun f' w' hK=>?_
  refine ih _ _ _ (by simp[pI]) TF ?_
  have:(fun k=>(listed.setIfInBounds i true).getD k false)=fun k=>listed.getD k false||decide (k=i):=by
   funext k
   by_cases hk:k=i
   ·subst hk
    have Mw:k<listed.size:=by omega
    simp[Array.getD,Mw]
   ·rw[an' hk,apy]
    exact getD_set_ne false fun e=>hk e.symm
  rw[this];exact hK
theorem drj {id:Nat} {Q:Exit→Act→aG→Prop} {f:aO} {w:aG} (ab:(Nat→Bool)→aO→aG→Prop) (hm:P.follows .mixedOrders=true) (hE:ri 0 l=true)
  (h0:ab (fun _=>false) f w.drew)
  (D5:∀(L:Nat→Bool) (f:aO) (w:aG) (i:Nat) (o:Oper),l[i]? =some o→L i=false→(∀j,L j=true→j<l.length)→(∀j,kZ o j=true→L j=true)→ab L f w→SO P n l.toArray o f w (ab (fun k=>L k||decide (k=i))))
  (vR:∀(f:aO) (w:aG),ab (fun k=>decide (k<l.length)) f w→Q .normal (cj n f) w):
  WC P n (.region id l.toArray true) Q f w:=by
 refine wp_region_any hm ?_
 have h3:(fun k=>(Array.replicate l.length false).getD k false)=fun _:Nat=>false:=by
  funext i
  simp only[Array.getD];split<;>simp
 have h:=ZG (P:=P) (Q:=Q) ab hE D5 vR l.length (Array.replicate l.length false) f w.drew (by simp) (by simp)<|by rw[h3];exact h0
 simpa using h
end
end Go.Ew
namespace Go.Ew
open Go.RowKit
inductive ZK|r|f|s|e|n
def zkE:ZK→Bool
 | .e=>true
 |_=>false
def zkR:ZK→Bool
 | .r=>true
 | .n=>true
 |_=>false
def zkN:ZK→Bool
 | .n=>true
 |_=>false
def zkS:ZK→Bool
 | .s=>true
 |_=>false
def vc (Ks:List ZK) (i:Nat):ZK:=Ks.getD i .r
def eK (Ks:List ZK) (i:Nat):Bool:=zkE (vc Ks i)
def xB (Ks:List ZK) (i:Nat):Bool:=zkR (vc Ks i)
def nK (Ks:List ZK) (i:Nat):Bool:=zkN (vc Ks i)
def Mf (Ks:List ZK) (i:Nat):Bool:=zkS (vc Ks i)
def te (o:Oper):Bool:=match o.op with
 | .move _=>true
 | .assign _=>true
 | .extract _ _=>true
 |_=>false
def jQ (l:dh) (i:Nat):Bool:=match l[i]? with
 |some o=>te o
 |none=>false
def tp (l:dh) (Ks:List ZK) (i:Nat):Bool:=eK Ks i&&jQ l i
def LZ (o:Oper):Bool:=match o.op with
 | .select _ _=>false
 |_=>true
def LV (n:Nat) (l:dh) (Ks:List ZK):Nat→dh→Bool
 |_,[]=>true
 |i,o::r=>
  (o.looksAt l.toArray).all (fun t=>Nat.blt t n&&(!(l.filterMap (·.dst)).contains t||(List.range i).any (fun j=>kZ o j&&(match (l[j]?).bind (·.dst) with|some d=>Nat.beq d t|none=>false)&&(eK Ks i||!eK Ks j))))&&
   (LZ o&&((eK Ks i||o.dst.isSome)&&((!Mf Ks i||te o)&&((!xB Ks i||(List.range l.length).all (fun e=>!eK Ks e||oJ l l.length e i))&&((!eK Ks i||(List.range i).all (fun e=>!eK Ks e||(jQ l e||oJ l l.length i e)))&&((!(eK Ks i&&te o)||(o.dst.isSome&&(List.range i).any (fun e=>eK Ks e&&!jQ l e)))&&LV n l Ks (i+1) r))))))
def okZ (n:Nat) (l:dh) (Ks:List ZK):Bool:=
 ri 0 l&&(nodupB (l.filterMap (·.dst))&&((l.filterMap (·.dst)).all (fun d=>Nat.blt d n)&&LV n l Ks 0 l))
section
variable {P:Program} {n:Nat} {l:dh} {Ks:List ZK} {ops:Array Oper}
structure Z1 (n:Nat) (l:dh) (Ks:List ZK) (i:Nat) (o:Oper):Prop where
 look:∀t∈o.looksAt l.toArray,t<n∧((∀(q:Nat) (o':Oper),l[q]? =some o'→o'.dst≠some t)∨∃(j:Nat) (o':Oper),j<i∧kZ o j=true∧l[j]? =some o'∧o'.dst=some t∧(eK Ks i=false→eK Ks j=false))
 sel:∀cs b,o.op≠.select cs b
 dst:eK Ks i=false→∃d,o.dst=some d
 slot:Mf Ks i=true→te o=true
 rd:xB Ks i=true→∀e,e<l.length→eK Ks e=true→oJ l l.length e i=true
 ord:eK Ks i=true→∀e,e<i→eK Ks e=true→jQ l e=false→oJ l l.length i e=true
 xd:eK Ks i=true→te o=true→(∃d,o.dst=some d)∧∃e,e<i∧eK Ks e=true∧jQ l e=false
theorem SZ {o:Oper} (h:LZ o=true):∀cs b,o.op≠.select cs b:=fun cs b e=>by unfold LZ at h;rw[e] at h;cases h
theorem OV:∀(r:dh) (i:Nat),LV n l Ks i r=true→∀j o,r[j]? =some o→Z1 n l Ks (i+j) o
 |[],_,_,j,o,h=>by simp at h
 |x::r,i,h,j+1,o,hj=>by
  simp only[LV,ez] at h
  have:=OV r (i+1) h.2.2.2.2.2.2.2 j o<|by simpa using hj
  rwa [show i+1+j=i+(j+1) from by omega] at this
 |x::r,i,h,0,o,hj=>by
  simp only[aoe,aod] at hj
  subst hj
  simp only[LV,ez] at h
  obtain⟨h1,h2,h3,h4,h5,h6,h7, -⟩:=h
  refine⟨fun t ht=>?_,SZ h2,fun hE=>?_,fun hS=>?_,fun hR e he nj=>?_,fun hE e he nj qO=>?_,fun hE hs=>?_⟩
  ·have:=an9.1 h1 t ht
   simp only[ez,aqa,aoc,ao4] at this
   refine⟨this.1,this.2.imp (fun h q o' hq hd=>?_) fun h=>?_⟩
   ·have hm:t∈l.filterMap (·.dst):=aou.2 ⟨o',dz hq,hd⟩
    rw[aoF.2 hm] at h;cases h
   ·obtain⟨j,hj,hq⟩:=aoB.1 h
    simp only[ez,aoc,ao4] at hq
    obtain⟨⟨q1,q2⟩,q3⟩:=hq
    cases hl:l[j]? with
    |none=>rw[hl] at q2;cases q2
    |some o'=>
     rw[hl] at q2
     cases hd:o'.dst with
     |none=>simp[hd] at q2
     |some d=>
      simp[hd] at q2
      refine⟨j,o',by have:=an7.1 hj;omega,q1,hl,by rw[hd,q2],fun hi=>?_⟩
      rcases q3 with q3|q3
      ·rw[aoH] at hi;rw[hi] at q3;cases q3
      ·exact q3
  ·rw[aoH] at hE
   rw[hE] at h3
   exact aos.1<|by simpa using h3
  ·rw[aoH] at hS
   rw[hS] at h4;simpa using h4
  ·rw[aoH] at hR ⊢
   rw[hR] at h5
   rw[aqr,apZ] at h5
   have:=an9.1 h5 e<|an7.2 he
   rw[nj] at this;simpa using this
  ·rw[aoH] at hE he ⊢
   rw[hE] at h6
   rw[aqr,apZ] at h6
   have:=an9.1 h6 e<|an7.2 he
   rw[nj,qO] at this;simpa using this
  ·rw[aoH] at hE ⊢
   rw[hE,hs] at h7
   simp only[Bool.and_self,aqr,apZ,ez] at h7
   obtain⟨e,he,hq⟩:=aoB.1 h7.2
   rw[ez,ao4] at hq
   exact⟨aos.1 h7.1,e,an7.1 he,hq.1,hq.2⟩
theorem Jd {o:Oper} {g:aO} {w:aG} {R:Value→aG→Prop} (hs:te o=true) (hd:∃d,o.dst=some d∧d<n)
  (h:SO P n ops o g w (fun f' w'=>∃v,f'=cW g o.dst v∧True∧R v w')):
  ∃v,R v w∧∀g2 w2,(∀t∈o.looksAt ops,g2 t=g t)→SO P n ops o g2 w2 (fun f' w'=>f'=cW g2 o.dst v∧w'=w2):=by
 obtain⟨d,hd,sM⟩:=hd
 have h1:=h (fun e a w'=>match e with| .normal=>∃v,a=cj n (cW g o.dst v)∧True∧R v w'|_=>False) []<|fun f' w' hK=>wpList_nil<|by obtain⟨v,h1,h2⟩:=hK;exact⟨v,by rw[h1],h2⟩
 have hw:∀g2:aO,(∀t∈o.looksAt ops,g2 t=g t)→Region.wanted o (yielded ops (cj n g2).tmps)=Region.wanted o (yielded ops (cj n g).tmps):=fun g2 hu=>ya fun j b hg t ht=>hu t (by
  unfold Oper.looksAt
  rw[hg]
  refine ape _ ?_
  simp[ht])
 have aiS:∀cs b,o.op≠.select cs b:=fun cs b e=>by unfold te at hs;rw[e] at hs;cases hs
 have he:∀g2:aO,(∀t∈o.looksAt ops,g2 t=g t)→execOp (cj n g2).eval o=execOp (cj n g).eval o:=fun g2 hu=>execOp_congr o aiS fun x hx=>DC fun t ht=>hu t (by
  subst ht
  exact apm _ (aou.2 ⟨.tmp t,by simpa using hx,rfl⟩))
 have Q0:∀(g2:aO) (u:Value),(cj n g2).put o.dst u=cj n (cW g2 o.dst u):=fun g2 u=>by rw[qJ]
 unfold wpList at h1
 split at h1
 ·rename_i C0
  
  have km:(∃u,∀w2,(execOp (cj n g).eval o).run P w2=.ok (.value u) w2)∨∀w2 x w3,(execOp (cj n g).eval o).run P w2≠.ok x w3:=by
   obtain⟨dst,op,ty,ps,af,gd⟩:=o
   unfold te at hs
   cases op<;>simp only at hs<;>try (cases hs;done)
   ·left;exact⟨_,fun w2=>rfl⟩
   ·left;exact⟨_,fun w2=>rfl⟩
   ·rename_i x i
    cases hx:(cj n g).eval x with
    |tuple vs=>
     cases hi:vs[i]? with
     |some v=>left;exact⟨v,fun w2=>by simp[execOp,Instr.extract,hx,hi]⟩
     |none=>right;intro w2 y w3 hh;simp[execOp,Instr.extract,hx,hi] at hh
    |_=>right;intro w2 y w3 hh;simp[execOp,Instr.extract,hx] at hh
  rcases h1 with h2|⟨_,a0,w1,hq⟩
  ·rcases km with ⟨u,hu⟩|Hf
   ·unfold Oper.wp at h2
    rw[hu w] at h2
    simp only[Oper.upon] at h2
    obtain⟨v,hv, -,hR⟩:=(show ∃v,_∧_∧_ from h2)
    rw[Q0,hd] at hv
    have Te:u=v:=Gp sM hv
    subst Te
    refine⟨u,hR,fun g2 w2 hl Q rest hk=>?_⟩
    unfold wpList
    rw[hw g2 hl,an4 C0]
    refine .inl ?_
    unfold Oper.wp
    rw[he g2 hl,hu w2]
    simp only[Oper.upon]
    rw[Q0]
    exact hk _ _ ⟨J,J⟩
   ·exfalso
    unfold Oper.wp at h2
    generalize hr:(execOp (cj n g).eval o).run P w=r at h2
    cases r with
    |ok x w'=>exact Hf w x w' hr
    |halt x w'=>cases x<;>simp only[Oper.upon] at h2<;>exact h2.elim
  ·exact hq.elim
 ·rename_i C0
  have h2:=h1
  obtain⟨v,hv, -,hR⟩:=(show ∃v,(cj n g).put o.dst undef=_∧_∧_ from h2)
  rw[Q0,hd] at hv
  have Te:undef=v:=Gp sM hv
  subst Te
  refine⟨undef,hR,fun g2 w2 hl Q rest hk=>?_⟩
  unfold wpList
  rw[hw g2 hl,an8 C0]
  rw[Q0]
  exact hk _ _ ⟨J,J⟩
theorem Vp {o:Oper} {g:aO} {w:aG} {R:Value→aG→Prop} (hs:te o=true) (hd:∃d,o.dst=some d∧d<n)
  (h:SO P n ops o g w (fun f' w'=>∃v,f'=cW g o.dst v∧Ext w w'∧R v w')):
  ∃v,R v w∧∀g2 w2,(∀t∈o.looksAt ops,g2 t=g t)→SO P n ops o g2 w2 (fun f' w'=>f'=cW g2 o.dst v∧w'=w2):=
 Jd hs hd (h.mono fun f' w' ⟨v,h1,_,h2⟩=>⟨v,h1,trivial,h2⟩)
theorem SO.XY {o:Oper} {f g:aO} {w:aG} {R:aO→aG→Prop} (h:SO P n ops o g w R) (hs:∀cs b,o.op≠.select cs b) (hu:∀t∈o.looksAt ops,f t=g t):
  SO P n ops o f w (fun f' w'=>∃v g',f'=cW f o.dst v∧cj n g'=cj n (cW g o.dst v)∧R g' w'):=by
 intro Q rest hk
 have h1:=h (fun e a w'=>match e with| .normal=>∃g',a=cj n g'∧R g' w'|_=>False) []<|fun f' w' hK=>wpList_nil ⟨f',J,hK⟩
 have he:execOp (cj n f).eval o=execOp (cj n g).eval o:=execOp_congr o hs fun x hx=>DC fun t ht=>hu t (by
  subst ht
  exact apm _ (aou.2 ⟨.tmp t,by simpa using hx,rfl⟩))
 have hw:Region.wanted o (yielded ops (cj n f).tmps)=Region.wanted o (yielded ops (cj n g).tmps):=ya fun j b hg t ht=>hu t (by
  unfold Oper.looksAt
  rw[hg]
  refine ape _ ?_
  simp[ht])
 have key:∀u w',(∃g',(cj n g).put o.dst u=cj n g'∧R g' w')→wpList P ops Q rest ((cj n f).put o.dst u) w':=by
  rintro u w' ⟨g',hq,h2⟩
  rw[qJ] at hq ⊢
  exact hk _ _ ⟨u,g',J,hq.symm,h2⟩
 unfold wpList at h1 ⊢
 rw[hw]
 split at h1
 ·rename_i C0
  rw[an4 C0]
  refine .inl ?_
  rcases h1 with h2|⟨_,a0,w1,hq⟩
  ·unfold Oper.wp at h2 ⊢
   rw[he]
   generalize (execOp (cj n g).eval o).run P w=r at *
   cases r with
   |ok x w'=>
    cases x with
    |enter c args=>
     simp only[Oper.upon] at h2 ⊢
     refine Calls.mono h2 ?_
     intro e mK yQ
     cases e with
     |returned u=>exact key u mK yQ
     |panicked c=>exact yQ.elim
     |outgrown=>obtain⟨a0,w1,hq⟩:=yQ;exact hq.elim
    |row r args=>
     simp only[Oper.upon] at h2 ⊢
     exact Rows.mono h2 fun u mK yQ=>key u mK yQ
    |defer dd=>
     simp only[Oper.upon] at h2 ⊢
     obtain⟨g',h3, -⟩:=(show ∃g',_∧_ from h2)
     exfalso
     have h4:=an0 (fun a=>a.defers.length) h3
     cases tB:o.dst<;>rw[tB] at h4<;>simp[Act.put,cj] at h4
    |value u=>
     simp only[Oper.upon] at h2 ⊢
     exact key u w' h2
    |skip=>
     simp only[Oper.upon] at h2 ⊢
     exact key undef w' h2
    |_=>exact(show False from h2).elim
   |halt x w'=>cases x<;>simp only[Oper.upon] at h2 ⊢<;>exact h2.elim
  ·exact hq.elim
 ·rename_i C0
  rw[an8 C0]
  exact key undef w h1
end
def WE (P:Program) (n:Nat) (ops:Array Oper) (ae:aG→Prop) (K:aO→aG→Prop):dh→aO→aG→Prop
 |[],f,w=>K f w
 |o::r,f,w=>SO P n ops o f w (fun f' w'=>ae w'∧WE P n ops ae K r f' w')
def F':List ZK→dh→dh
 |_,[]=>[]
 |ks,o::r=>match ks.headD .r with
  | .e=>o::F' ks.tail r
  |_=>F' ks.tail r
abbrev PR:=(Nat→Prop)→Value→aG→Prop
abbrev UN:=List (Nat×PR)
def xC (ag:UN) (t:Nat):Bool:=ag.any (fun p=>Nat.beq p.1 t)
def eN (X:Value):PR:=fun _ v _=>v=X
structure r5 (Φ:PR):Prop where
 ext:∀N v w w',Ext w w'→Φ N v w→Φ N v w'
 grow:∀(N N':bY) v (w:aG),(∀b,N b→N' b)→(∀b,N' b→N b∨w.heap.size≤b)→Φ N v w→Φ N' v w
theorem X8 (X:Value):r5 (eN X):=⟨fun _ _ _ _ _ h=>h,fun _ _ _ _ _ _ h=>h⟩
def Kh (w0:aG) (z:Array Value) (T:TypeId):PR:=fun N v w=>∃b,v=.pointer (some ⟨b,0,none⟩)∧w0.heap.size≤b∧w.heap[b]? =some (.cells z T (0,0))∧N b
theorem afV (w0:aG) (z:Array Value) (T:TypeId):r5 (Kh w0 z T):=
 ⟨fun N v w w' hx ⟨b,h1,h2,h3,h4⟩=>⟨b,h1,h2,(hx.block b (aor.1 h3).1).trans h3,h4⟩,fun N N' v w h _ ⟨b,h1,h2,h3,h4⟩=>⟨b,h1,h2,h3,h b h4⟩⟩
def E3 (w0:aG) (N:bY) (w:aG):Prop:=∀b,N b→w0.heap.size≤b∧b<w.heap.size
def Zy (L:List Nat) (ag:UN) (f g:aO) (N:bY) (w:aG):Prop:=
 ∀t∈L,(xC ag t=false→g t=f t)∧(∀(j:Nat) (Φ:PR),ag[j]? =some (t,Φ)→Φ N (g t) w)
def GN (P:Program) (n:Nat) (ops:Array Oper) (w0:aG) (o:Oper) (ag:UN) (f:aO) (R:PR):Prop:=
 ∀w g N,Ext w0 w→E3 w0 N w→Zy (o.looksAt ops) ag f g N w→SO P n ops o g w (fun f' w'=>∃v,f'=cW g o.dst v∧Ext w w'∧R N v w')
def NC (z:Array Value) (T:TypeId) (w:aG) (v:Value) (w':aG):Prop:=∃b,v=.pointer (some ⟨b,0,none⟩)∧w.heap.size≤b∧w'.heap[b]? =some (.cells z T (0,0))
def PZ (P:Program) (n:Nat) (ops:Array Oper) (w0:aG) (ae:aG→Prop) (K:UN→aO→Prop):dh→List ZK→UN→aO→Prop
 |[],_,ag,f=>K ag f
 |o::r,ks,ag,f=>match ks.headD .r with
  | .e=>PZ P n ops w0 ae K r ks.tail ag f
  | .f=>∃X,(∀w g,ae w→(∀t∈o.looksAt ops,xC ag t=false∧g t=f t)→SO P n ops o g w (fun f' w'=>f'=cW g o.dst X∧w'=w))∧((o.looksAt ops).all (fun t=>!xC ag t))=true∧PZ P n ops w0 ae K r ks.tail ag (cW f o.dst X)
  | .n=>∃d z T,o.dst=some d∧((o.looksAt ops).all (fun t=>!xC ag t))=true∧(∀w g,Ext w0 w→(∀t∈o.looksAt ops,g t=f t)→SO P n ops o g w (fun f' w'=>∃v,f'=cW g o.dst v∧Ext w w'∧NC z T w v w'))∧PZ P n ops w0 ae K r ks.tail ((d,Kh w0 z T)::ag) f
  |_=>(∃X,GN P n ops w0 o ag f (eN X)∧PZ P n ops w0 ae K r ks.tail ag (cW f o.dst X))∨
    (∃d Φ,o.dst=some d∧r5 Φ∧GN P n ops w0 o ag f Φ∧PZ P n ops w0 ae K r ks.tail ((d,Φ)::ag) f)
def KZ (P:Program) (n:Nat) (ops:Array Oper) (Q:Exit→Act→aG→Prop) (w0:aG) (ae:aG→Prop) (E:dh) (Nd:List Nat) (ag:UN) (f:aO):Prop:=
 ∀(w':aG) (g:aO) (N:bY),Ext w0 w'→E3 w0 N w'→(∀d d',d∈Nd→d'∈Nd→d≠d'→g d≠g d')→(∀t,xC ag t=false→g t=f t)→(∀(j t:Nat) (Φ:PR),ag[j]? =some (t,Φ)→Φ N (g t) w')→WE P n ops ae (fun f w=>Q .normal (cj n f) w) E g w'
def FG:List ZK→dh→List Nat
 |_,[]=>[]
 |ks,o::r=>match ks.headD .r with
  | .n=>o.dst.getD 0::FG ks.tail r
  |_=>FG ks.tail r
def np (E:List PR) (i:Nat):PR:=E.getD i (fun _ _ _=>True)
section
variable {P:Program} {n:Nat} {l:dh} {Ks:List ZK} {w0:aG} {ae:aG→Prop} {f0:aO}
structure Kn (l:dh) (Ks:List ZK) (f0:aO) (E:List PR) (m:Nat) (g:aO) (N:bY) (w:aG) (t:Nat):Prop where
 off:(∀(q:Nat) (o:Oper),l[q]? =some o→o.dst=some t→eK Ks q=true)→g t=f0 t
 AB:∀(q:Nat) (o:Oper),q<m→l[q]? =some o→o.dst=some t→eK Ks q=false→np E q N (g t) w
def Zq (l:dh) (Ks:List ZK) (m t:Nat):Prop:=∀(q:Nat) (o:Oper),l[q]? =some o→o.dst=some t→eK Ks q=false→q<m
structure RI (l:dh) (Ks:List ZK) (f0:aO) (E:List PR) (m:Nat) (ag:UN) (f:aO):Prop where
 is:∀(g:aO) (N:bY) (w:aG) (t:Nat),Zq l Ks m t→Kn l Ks f0 E m g N w t→(xC ag t=false→g t=f t)∧∀(j:Nat) (Φ:PR),ag[j]? =some (t,Φ)→Φ N (g t) w
 HH:∀(j t:Nat) (Φ:PR),ag[j]? =some (t,Φ)→∃(q:Nat) (o:Oper),q<m∧l[q]? =some o∧o.dst=some t
def ag4 (P:Program) (n:Nat) (l:dh) (Ks:List ZK) (w0:aG) (f0:aO) (E:List PR) (i:Nat) (o:Oper):Prop:=
 ∀(g:aO) (N:bY) (w:aG),Ext w0 w→E3 w0 N w→(∀t∈o.looksAt l.toArray,Kn l Ks f0 E i g N w t)→SO P n l.toArray o g w (fun f' w'=>∃v,f'=cW g o.dst v∧Ext w w'∧np E i N v w')
def ag5 (P:Program) (n:Nat) (l:dh) (Ks:List ZK) (w0:aG) (f0:aO) (E:List PR) (i:Nat) (o:Oper):Prop:=
 ∃z T,np E i=Kh w0 z T∧∀(g:aO) (N:bY) (w:aG),Ext w0 w→(∀t∈o.looksAt l.toArray,Kn l Ks f0 E i g N w t)→SO P n l.toArray o g w (fun f' w'=>∃v,f'=cW g o.dst v∧Ext w w'∧NC z T w v w')
def ag6 (P:Program) (n:Nat) (l:dh) (Ks:List ZK) (ae:aG→Prop) (f0:aO) (E:List PR) (i:Nat) (o:Oper):Prop:=
 ∃X,np E i=eN X∧∀(g:aO) (N:bY) (w w1:aG),ae w→(∀t∈o.looksAt l.toArray,Kn l Ks f0 E i g N w1 t)→SO P n l.toArray o g w (fun f' w'=>f'=cW g o.dst X∧w'=w)
structure Fact (P:Program) (n:Nat) (l:dh) (Ks:List ZK) (w0:aG) (ae:aG→Prop) (f0:aO) (E:List PR) (i:Nat) (o:Oper):Prop where
 mono:r5 (np E i)
 go:eK Ks i=false→(ag4 P n l Ks w0 f0 E i o∧nK Ks i=false∧(xB Ks i=true∨Mf Ks i=true))∨(ag6 P n l Ks ae f0 E i o∧nK Ks i=false)∨(ag5 P n l Ks w0 f0 E i o∧nK Ks i=true)
theorem Pv {E E0:List PR} {m:Nat} (h:E.take m=E0) (hl:E0.length=m) {q:Nat} (hq:q<m):np E q=np E0 q:=by
 unfold np
 rw[←h,il,il,aov,an4 hq]
theorem Kn.of {E E0:List PR} {m:Nat} {g:aO} {N:bY} {w:aG} {t:Nat} (h:E.take m=E0) (hl:E0.length=m) (k:Kn l Ks f0 E m g N w t):Kn l Ks f0 E0 m g N w t:=
 ⟨k.off,fun q o hq h1 h2 h3=>by rw[←Pv h hl hq];exact k.AB q o hq h1 h2 h3⟩
theorem wP {ag:UN} {t:Nat}:xC ag t=true↔∃(j:Nat) (Φ:PR),ag[j]? =some (t,Φ):=by
 unfold xC
 rw[aoB]
 constructor
 ·rintro⟨⟨a,b⟩,h1,h2⟩
  obtain⟨j,hj⟩:=aok.1 h1
  simp at h2
  exact⟨j,b,by rw[hj,h2]⟩
 ·rintro⟨j,Φ,h⟩
  exact⟨_,dz h,by simp⟩
theorem PZ.table (lS:(l.filterMap (·.dst)).Nodup) (hZ:∀(i:Nat) (o:Oper),l[i]? =some o→Z1 n l Ks i o) {K:UN→aO→Prop}:∀(r:dh) (ks:List ZK) (m:Nat) (ag:UN) (f:aO) (E0:List PR),
  l.drop m=r→Ks.drop m=ks→E0.length=m→m+r.length=l.length→RI l Ks f0 E0 m ag f→PZ P n l.toArray w0 ae K r ks ag f→
  ∃(E:List PR) (U':UN) (f':aO),E.length=l.length∧E.take m=E0∧(∀(i:Nat) (o:Oper),m≤i→l[i]? =some o→Fact P n l Ks w0 ae f0 E i o)∧RI l Ks f0 E l.length U' f'∧K U' f'
 |[],ks,m,ag,f,E0,hr,JJ,hl,tX,hL,h=>by
  simp only[gA,aoH] at tX
  subst tX
  refine⟨E0,ag,f,hl,by rw[←hl,ao1],fun i o hi ho=>?_,hL,h⟩
  have:=(dJ.1 ho).1
  omega
 |o::r,ks,m,ag,f,E0,hr,JJ,hl,tX,hL,h=>by
  have jk:l[m]? =some o:=by
   have:(l.drop m)[0]? =some o:=by rw[hr];rfl
   rwa [aoG,aoH] at this
  have hr':l.drop (m+1)=r:=by rw[←ao0,hr];rfl
  have Mu:Ks.drop (m+1)=ks.tail:=by rw[←ao0,JJ];cases ks<;>rfl
  have ai1:m+1+r.length=l.length:=by simp only[iS] at tX;omega
  have Tu:ks.headD .r=vc Ks m:=by
   unfold vc
   rw[←JJ,il]
   cases hq:Ks.drop m with
   |nil=>rw[aof (by have:=an0 List.length hq;simp at this;omega)];rfl
   |cons a b=>
    have:(Ks.drop m)[0]? =some a:=by rw[hq];rfl
    rw[aoG,aoH] at this
    rw[this];rfl
  have z:=hZ m o jk
  have Bs:∀(q:Nat) (o':Oper) (t:Nat),l[q]? =some o'→o'.dst=some t→o.dst=some t→q=m:=fun q o' t hq hd C9=>
   im (·.dst) l lS q m o' o hq jk (by show o'.dst.isSome=true;rw[hd];rfl) (by show o'.dst=o.dst;rw[hd,C9])
  have KI:∀t∈o.looksAt l.toArray,eK Ks m=false→Zq l Ks m t:=by
   intro t ht hE q o' hq hd B4
   rcases (z.look t ht).2 with h1|⟨j,tm,hj, -,qt,tZ, -⟩
   ·exact absurd hd<|h1 q o' hq
   ·have:q=j:=im (·.dst) l lS q j o' tm hq qt (by show o'.dst.isSome=true;rw[hd];rfl)<|by show o'.dst=tm.dst;rw[hd,tZ]
    omega
  have fin:∀(e:PR) (U2:UN) (f2:aO),RI l Ks f0 (E0++[e]) (m+1) U2 f2→PZ P n l.toArray w0 ae K r ks.tail U2 f2→
    (∀E:List PR,E.take (m+1)=E0++[e]→Fact P n l Ks w0 ae f0 E m o)→
    ∃(E:List PR) (U':UN) (f':aO),E.length=l.length∧E.take m=E0∧(∀(i:Nat) (o:Oper),m≤i→l[i]? =some o→Fact P n l Ks w0 ae f0 E i o)∧RI l Ks f0 E l.length U' f'∧K U' f':=by
   intro e U2 f2 hL2 hP hF
   obtain⟨E,U',f',h1,h2,h3,h4,h5⟩:=PZ.table lS hZ r ks.tail (m+1) U2 f2 (E0++[e]) hr' Mu (by simp[hl]) ai1 hL2 hP
   refine⟨E,U',f',h1,?_,fun i o' hi jt=>?_,h4,h5⟩
   ·have:=an0 (List.take m) h2
    rw[apz,ao7 aj,apt aj,←hl,ao1] at this
    rw[hl] at this;exact this
   ·by_cases t':i=m
    ·subst t'
     rw[jk] at jt;cases jt
     exact hF E h2
    ·exact h3 i o' aj jt
  have By:∀(E:List PR) (e:PR),E.take (m+1)=E0++[e]→np E m=e:=by
   intro E e h2
   rw[Pv h2 (by simp[hl]) (apv m)]
   unfold np
   rw[il,nH aj,hl,aoZ];rfl
  have akb:∀(e:PR) (q:Nat),q<m→np (E0++[e]) q=np E0 q:=by
   intro e q hq
   unfold np
   rw[il,oB aj,il]
  have KB:∀(E:List PR) (e:PR),E.take (m+1)=E0++[e]→E.take m=E0:=by
   intro E e h2
   have:=an0 (List.take m) h2
   rw[apz,ao7 aj,apt aj,←hl,ao1] at this
   rw[hl] at this;exact this
  
  have S8:∀(e:PR) (g:aO) (N:bY) (w:aG) (t:Nat),Kn l Ks f0 (E0++[e]) (m+1) g N w t→Kn l Ks f0 E0 m g N w t:=fun e g N w t k=>
   ⟨k.off,fun q o' hq h1 h2 h3=>by rw[←akb e q hq];exact k.AB q o' aj h1 h2 h3⟩
  unfold PZ at h
  rw[Tu] at h
  cases hk:vc Ks m with
  |e=>
   rw[hk] at h
   have hE:eK Ks m=true:=by unfold eK;rw[hk];rfl
   refine fin (fun _ _ _=>True) ag f ⟨fun g N w t hV qU=>?_,fun j t Φ hj=>?_⟩ h fun E h2=>⟨by rw[By E _ h2];exact⟨fun _ _ _ _ _ _=>trivial,fun _ _ _ _ _ _ _=>trivial⟩,fun ud=>by rw[hE] at ud;cases ud⟩
   ·exact hL.is g N w t (fun q o' hq hd B4=>by
     have:=hV q o' hq hd B4
     by_cases je:q=m
     ·subst je;rw[hE] at B4;cases B4
     ·omega) (S8 _ g N w t qU)
   ·obtain⟨q,o',h1,h2,h3⟩:=hL.HH j t Φ hj
    exact⟨q,o',by omega,h2,h3⟩
  |f=>
   rw[hk] at h
   obtain⟨X,h1,h1b,h2⟩:=h
   have hE:eK Ks m=false:=by unfold eK;rw[hk];rfl
   obtain⟨d,hd⟩:=z.dst hE
   have hN:nK Ks m=false:=by unfold nK;rw[hk];rfl
   refine fin (eN X) ag (cW f o.dst X) ⟨fun g N w t hV qU=>?_,fun j t Φ hj=>?_⟩ h2 fun E ud=>⟨by rw[By E _ ud];exact X8 X,fun _=>.inr (.inl ⟨⟨X,By E _ ud,fun g N w w1 hI qU=>?_⟩,hN⟩)⟩
   ·by_cases ht:o.dst=some t
    ·have hv:g t=X:=by
      have:=qU.AB m o (apv m) jk ht hE
      unfold np at this
      rw[il,nH aj,hl,aoZ] at this
      exact this
     refine⟨fun _=>by rw[ht];show g t=cg f t X t;rw[iY];exact hv,fun j Φ hj=>?_⟩
     obtain⟨q,o',h1,h2,h3⟩:=hL.HH j t Φ hj
     have:=Bs q o' t h2 h3 ht
     omega
    ·have:=hL.is g N w t (fun q o' hq nE B4=>by
      have:=hV q o' hq nE B4
      by_cases je:q=m
      ·subst je;rw[jk] at hq;cases hq;exact absurd nE ht
      ·omega) (S8 _ g N w t qU)
     refine⟨fun hu=>?_,this.2⟩
     rw[this.1 hu,hd]
     exact(jD f X<|fun e=>ht<|by rw[hd,e]).symm
   ·obtain⟨q,o',h1,h2,h3⟩:=hL.HH j t Φ hj
    exact⟨q,o',by omega,h2,h3⟩
   ·refine h1 w g hI fun t ht=>?_
    have hu:xC ag t=false:=by
     have:=an9.1 h1b t ht
     simpa using this
    exact⟨hu,(hL.is g N w1 t (KI t ht hE)<|(qU t ht).of (KB E _ ud) hl).1 hu⟩
  |n=>
   rw[hk] at h
   have hE:eK Ks m=false:=by unfold eK;rw[hk];rfl
   have hN:nK Ks m=true:=by unfold nK;rw[hk];rfl
   obtain⟨d,zz,T,hd,h1b,h1,h2⟩:=h
   refine fin (Kh w0 zz T) ((d,Kh w0 zz T)::ag) f ⟨fun g N w t hV qU=>?_,fun j t Ψ hj=>?_⟩ h2 fun E ud=>⟨by rw[By E _ ud];exact afV w0 zz T,fun _=>.inr (.inr ⟨⟨zz,T,By E _ ud,fun g N w hx qU=>?_⟩,hN⟩)⟩
   ·by_cases ht:d=t
    ·subst ht
     have hv:Kh w0 zz T N (g d) w:=by
      have:=qU.AB m o (apv m) jk hd hE
      unfold np at this
      rw[il,nH aj,hl,aoZ] at this
      exact this
     refine⟨fun hu=>?_,fun j Ψ hj=>?_⟩
     ·rw[wP.2 ⟨0,Kh w0 zz T,rfl⟩] at hu;cases hu
     ·cases j with
      |zero=>cases hj;exact hv
      |succ j=>
       obtain⟨q,o',h1,h2,h3⟩:=hL.HH j d Ψ hj
       have:=Bs q o' d h2 h3 hd
       omega
    ·have Av:=hL.is g N w t (fun q o' hq nE B4=>by
      have:=hV q o' hq nE B4
      by_cases je:q=m
      ·subst je;rw[jk] at hq;cases hq;rw[hd] at nE;cases nE;exact absurd rfl ht
      ·omega) (S8 _ g N w t qU)
     refine⟨fun hu=>Av.1 ?_,fun j Ψ hj=>?_⟩
     ·cases hb:xC ag t with
      |false=>rfl
      |true=>
       obtain⟨j,Ψ,hj⟩:=wP.1 hb
       rw[wP.2 ⟨j+1,Ψ,hj⟩] at hu;cases hu
     ·cases j with
      |zero=>cases hj;exact absurd rfl ht
      |succ j=>exact Av.2 j Ψ hj
   ·cases j with
    |zero=>cases hj;exact⟨m,o,apv m,jk,hd⟩
    |succ j=>
     obtain⟨q,o',h1,h2,h3⟩:=hL.HH j t Ψ hj
     exact⟨q,o',by omega,h2,h3⟩
   ·refine h1 w g hx fun t ht=>?_
    have hu:xC ag t=false:=by
     have:=an9.1 h1b t ht
     simpa using this
    exact(hL.is g N w t (KI t ht hE)<|(qU t ht).of (KB E _ ud) hl).1 hu
  |r|s=>
   all_goals
    rw[hk] at h
    have hE:eK Ks m=false:=by unfold eK;rw[hk];rfl
    have hN:nK Ks m=false:=by unfold nK;rw[hk];rfl
    have hRS:xB Ks m=true∨Mf Ks m=true:=by unfold xB Mf;rw[hk];first|exact .inl rfl|exact .inr rfl
    obtain⟨d0,MC⟩:=z.dst hE
    rcases h with ⟨X,h1,h2⟩|⟨d,Φ,hd,To,h1,h2⟩
    ·refine fin (eN X) ag (cW f o.dst X) ⟨fun g N w t hV qU=>?_,fun j t Φ hj=>?_⟩ h2 fun E ud=>⟨by rw[By E _ ud];exact X8 X,fun _=>.inl ⟨fun g N w hx hNI qU=>?_,hN,hRS⟩⟩
     ·by_cases ht:o.dst=some t
      ·have hv:g t=X:=by
        have:=qU.AB m o (apv m) jk ht hE
        unfold np at this
        rw[il,nH aj,hl,aoZ] at this
        exact this
       refine⟨fun _=>by rw[ht];show g t=cg f t X t;rw[iY];exact hv,fun j Φ hj=>?_⟩
       obtain⟨q,o',h1,h2,h3⟩:=hL.HH j t Φ hj
       have:=Bs q o' t h2 h3 ht
       omega
      ·have:=hL.is g N w t (fun q o' hq nE B4=>by
        have:=hV q o' hq nE B4
        by_cases je:q=m
        ·subst je;rw[jk] at hq;cases hq;exact absurd nE ht
        ·omega) (S8 _ g N w t qU)
       refine⟨fun hu=>?_,this.2⟩
       rw[this.1 hu,MC]
       exact(jD f X<|fun e=>ht<|by rw[MC,e]).symm
     ·obtain⟨q,o',h1,h2,h3⟩:=hL.HH j t Φ hj
      exact⟨q,o',by omega,h2,h3⟩
     ·rw[By E _ ud]
      exact h1 w g N hx hNI fun t ht=>hL.is g N w t (KI t ht hE) ((qU t ht).of (KB E _ ud) hl)
    ·refine fin Φ ((d,Φ)::ag) f ⟨fun g N w t hV qU=>?_,fun j t Ψ hj=>?_⟩ h2 fun E ud=>⟨by rw[By E _ ud];exact To,fun _=>.inl ⟨fun g N w hx hNI qU=>?_,hN,hRS⟩⟩
     ·by_cases ht:d=t
      ·subst ht
       have hv:Φ N (g d) w:=by
        have:=qU.AB m o (apv m) jk hd hE
        unfold np at this
        rw[il,nH aj,hl,aoZ] at this
        exact this
       refine⟨fun hu=>?_,fun j Ψ hj=>?_⟩
       ·rw[wP.2 ⟨0,Φ,rfl⟩] at hu;cases hu
       ·cases j with
        |zero=>cases hj;exact hv
        |succ j=>
         obtain⟨q,o',h1,h2,h3⟩:=hL.HH j d Ψ hj
         have:=Bs q o' d h2 h3 hd
         omega
      ·have Av:=hL.is g N w t (fun q o' hq nE B4=>by
        have:=hV q o' hq nE B4
        by_cases je:q=m
        ·subst je;rw[jk] at hq;cases hq;rw[hd] at nE;cases nE;exact absurd rfl ht
        ·omega) (S8 _ g N w t qU)
       refine⟨fun hu=>Av.1 ?_,fun j Ψ hj=>?_⟩
       ·cases hb:xC ag t with
        |false=>rfl
        |true=>
         obtain⟨j,Ψ,hj⟩:=wP.1 hb
         rw[wP.2 ⟨j+1,Ψ,hj⟩] at hu;cases hu
       ·cases j with
        |zero=>cases hj;exact absurd rfl ht
        |succ j=>exact Av.2 j Ψ hj
     ·cases j with
      |zero=>cases hj;exact⟨m,o,apv m,jk,hd⟩
      |succ j=>
       obtain⟨q,o',h1,h2,h3⟩:=hL.HH j t Ψ hj
       exact⟨q,o',by omega,h2,h3⟩
     ·rw[By E _ ud]
      exact h1 w g N hx hNI fun t ht=>hL.is g N w t (KI t ht hE) ((qU t ht).of (KB E _ ud) hl)
end
def qG (Ks:List ZK) (L:Nat→Bool):Nat→dh→dh
 |_,[]=>[]
 |i,o::r=>if eK Ks i&&!L i then o::qG Ks L (i+1) r else qG Ks L (i+1) r
section
variable {Ks:List ZK} {L L':Nat→Bool}
theorem Fz:∀(r:dh) (i:Nat) (ks:List ZK),Ks.drop i=ks→qG Ks (fun _=>false) i r=F' ks r
 |[],_,_,_=>rfl
 |o::r,i,ks,h=>by
  have Mu:Ks.drop (i+1)=ks.tail:=by rw[←ao0,h];cases ks<;>rfl
  have Tu:ks.headD .r=vc Ks i:=by
   unfold vc
   rw[←h,il]
   cases hq:Ks.drop i with
   |nil=>rw[aof (by have:=an0 List.length hq;simp at this;omega)];rfl
   |cons a b=>
    have:(Ks.drop i)[0]? =some a:=by rw[hq];rfl
    rw[aoG,aoH] at this
    rw[this];rfl
  unfold qG F'
  rw[Tu,Fz r (i+1) ks.tail Mu]
  unfold eK
  cases vc Ks i<;>simp[zkE]
theorem nW:∀(r:dh) (i:Nat),(∀k,i≤k→eK Ks k=true→L k=L' k)→qG Ks L i r=qG Ks L' i r
 |[],_,_=>rfl
 |o::r,i,h=>by
  unfold qG
  rw[nW r (i+1) fun k hk=>h k aj]
  cases hE:eK Ks i with
  |false=>simp
  |true=>rw[h i (an3 _) hE]
theorem Cz:∀(r:dh) (i j:Nat) (o:Oper),r[j]? =some o→eK Ks (i+j)=true→L (i+j)=false→(∀e,i≤e→e<i+j→eK Ks e=true→L e=true)→
  qG Ks L i r=o::qG Ks (fun k=>L k||decide (k=i+j)) i r
 |[],_,_,_,h,_,_,_=>by simp at h
 |x::r,i,0,o,h,hE,hL,_=>by
  simp only[aoe,aod] at h
  subst h
  rw[aoH] at hE hL
  unfold qG
  rw[hE,hL]
  simp only[aoH,Bool.not_false,aq_,decide_true,Bool.or_true,aqr,aq4,apG,aq8,aoU]
  congr 1
  refine nW r (i+1) fun k hk _=>?_
  rw[an' aj,apy]
 |x::r,i,j+1,o,h,hE,hL,hb=>by
  have ih:=Cz r (i+1) j o (by simpa using h) (by rw[show i+1+j=i+(j+1) from by omega];exact hE) (by rw[show i+1+j=i+(j+1) from by omega];exact hL) fun e h1 h2 h3=>hb e aj aj h3
  rw[show i+1+j=i+(j+1) from by omega] at ih
  have h0:(eK Ks i&&!L i)=false:=by
   cases xN:eK Ks i with
   |false=>rfl
   |true=>rw[hb i (an3 _) aj xN];rfl
  unfold qG
  rw[h0,an' (show ¬i=i+(j+1) by omega),apy,h0]
  simpa using ih
theorem Fy:∀(r:dh) (i:Nat),(∀k,i≤k→k<i+r.length→L k=true)→qG Ks L i r=[]
 |[],_,_=>rfl
 |o::r,i,h=>by
  unfold qG
  rw[h i (an3 _) (by simp),Fy r (i+1) fun k h1 h2=>h k aj (by simp only[iS];omega)]
  simp
end
theorem Iq {l:dh} {L:Nat→Bool} (hC:∀i o,L i=true→l[i]? =some o→∀j,kZ o j=true→L j=true):
  ∀(n i m:Nat) (o:Oper),l[i]? =some o→(∀j,kZ o j=true→L j=true)→oJ l n i m=true→L m=true
 |0,_,_,_,_,_,h=>by cases h
 |n+1,i,m,o,ho,hd,h=>by
  simp only[oJ,ho,aoc] at h
  rcases h with h|h
  ·exact hd m h
  ·obtain⟨j,_,hj⟩:=aoB.1 h
   simp only[ez] at hj
   have hlj:=hd j hj.1
   cases qP:l[j]? with
   |none=>
    have h2:=hj.2
    cases n with
    |zero=>cases h2
    |succ n=>simp[oJ,qP] at h2
   |some o'=>exact Iq hC n j m o' qP (hC j o' hlj qP) hj.2
section
variable {P:Program} {n:Nat} {l:dh} {Ks:List ZK} {w0:aG} {ae:aG→Prop} {f0:aO} {E:List PR} {K:aO→aG→Prop}
def VP (P:Program) (n:Nat) (l:dh) (ae:aG→Prop) (o:Oper) (g:aO) (d:Nat):Prop:=∀(w2:aG) (g2:aO),ae w2→(∀t∈o.looksAt l.toArray,g2 t=g t)→SO P n l.toArray o g2 w2 (fun f' w'=>f'=cW g2 o.dst (g d)∧w'=w2)
structure J1 (l:dh) (Ks:List ZK) (w0:aG) (f0:aO) (E:List PR) (L:Nat→Bool) (f:aO) (w:aG) (N:bY):Prop where
 ni:E3 w0 N w
 dis:∀(p q:Nat) (o o':Oper) (d d':Nat),L p=true→L q=true→p≠q→l[p]? =some o→l[q]? =some o'→nK Ks p=true→nK Ks q=true→o.dst=some d→o'.dst=some d'→f d≠f d'
 no:∀e,e<l.length→eK Ks e=true→L e=false
 ext:Ext w0 w
 off:∀t,(∀(q:Nat) (o:Oper),l[q]? =some o→o.dst=some t→eK Ks q=true)→f t=f0 t
 AB:∀(q:Nat) (o:Oper) (t:Nat),L q=true→l[q]? =some o→o.dst=some t→eK Ks q=false→np E q N (f t) w
structure J2 (P:Program) (n:Nat) (l:dh) (Ks:List ZK) (ae:aG→Prop) (K:aO→aG→Prop) (L:Nat→Bool) (f:aO) (w:aG) (g:aO) (V:Nat→Bool):Prop where
 rd:∀(q:Nat) (o:Oper),l[q]? =some o→xB Ks q=true→L q=true
 eq:∀t,t<n→(∀(q:Nat) (o:Oper),l[q]? =some o→o.dst=some t→(eK Ks q=false∨V q=true)→L q=true)→g t=f t
 vp:∀(q:Nat) (o:Oper) (d:Nat),l[q]? =some o→o.dst=some d→(eK Ks q=false∨V q=true)→L q=false→VP P n l ae o g d
 i:ae w
 we:WE P n l.toArray ae K (qG Ks (fun k=>L k||V k) 0 l) g w
 vx:∀q,V q=true→tp l Ks q=true
 vl:∀q,V q=true→∀e,e<q→eK Ks e=true→jQ l e=false→L e=true
 vd:∀q,V q=true→∀m,m<q→tp l Ks m=true→L m=false→V m=true
def NF (l:dh) (Ks:List ZK) (L V:Nat→Bool) (m:Nat):Prop:=∀q,q<m→tp l Ks q=true→L q=false→(∀e,e<q→eK Ks e=true→jQ l e=false→L e=true)→V q=true
theorem Y9 (lS:(l.filterMap (·.dst)).Nodup) (hZ:∀(i:Nat) (o:Oper),l[i]? =some o→Z1 n l Ks i o) (hF:∀(i:Nat) (o:Oper),l[i]? =some o→Fact P n l Ks w0 ae f0 E i o) {L:Nat→Bool} {f:aO} {w:aG} {N:bY}
  (h:J1 l Ks w0 f0 E L f w N) (hI:∀w',Ext w0 w'→ae w') (hR:∀(q:Nat) (o:Oper),l[q]? =some o→xB Ks q=true→L q=true) (ef:∀(i:Nat) (o:Oper) (d:Nat),l[i]? =some o→o.dst=some d→d<n):∀m,m≤l.length→
  ∃g:aO,(∀t,(∀(q:Nat) (o:Oper),q<m→l[q]? =some o→o.dst=some t→eK Ks q=false→L q=true)→g t=f t)∧
   (∀(q:Nat) (o:Oper) (d:Nat),q<m→l[q]? =some o→o.dst=some d→eK Ks q=false→L q=false→VP P n l ae o g d)∧
   (∀(q:Nat) (o:Oper) (t:Nat),q<m→l[q]? =some o→o.dst=some t→eK Ks q=false→np E q N (g t) w)
 |0,_=>⟨f,fun _ _=>rfl,fun q o d hq=>absurd hq (apW _),fun q o t hq=>absurd hq (apW _)⟩
 |m+1,hm=>by
  obtain⟨g,g1,g2,g3⟩:=Y9 lS hZ hF h hI hR ef m aj
  have jk:l[m]? =some l[m]:=dW aj
  generalize l[m]=o at jk
  have z:=hZ m o jk
  have uniq:∀(q q':Nat) (a b:Oper) (t:Nat),l[q]? =some a→l[q']? =some b→a.dst=some t→b.dst=some t→q=q':=fun q q' a b t h1 h2 h3 h4=>
   im (·.dst) l lS q q' a b h1 h2 (by show a.dst.isSome=true;rw[h3];rfl) (by show a.dst=b.dst;rw[h3,h4])
  cases hE:eK Ks m with
  |true=>
   refine⟨g,fun t ht=>g1 t fun q o' hq=>ht q o' aj,fun q o' d hq h1 h2 h3 h4=>?_,fun q o' t hq h1 h2 h3=>?_⟩
   ·by_cases je:q=m
    ·subst je;rw[hE] at h3;cases h3
    ·exact g2 q o' d aj h1 h2 h3 h4
   ·by_cases je:q=m
    ·subst je;rw[hE] at h3;cases h3
    ·exact g3 q o' t aj h1 h2 h3
  |false=>
   obtain⟨d,hd⟩:=z.dst hE
   have gd:g d=f d:=g1 d fun q o' hq h1 h2 h3=>by have:=uniq q m o' o d h1 jk h2 hd;omega
   cases TM:L m with
   |true=>
    refine⟨g,fun t ht=>g1 t fun q o' hq=>ht q o' aj,fun q o' d' hq h1 h2 h3 h4=>?_,fun q o' t hq h1 h2 h3=>?_⟩
    ·by_cases je:q=m
     ·subst je;rw[TM] at h4;cases h4
     ·exact g2 q o' d' aj h1 h2 h3 h4
    ·by_cases je:q=m
     ·subst je
      rw[jk] at h1;cases h1
      rw[hd] at h2;cases h2
      rw[gd];exact h.AB q o d TM jk hd hE
     ·exact g3 q o' t aj h1 h2 h3
   |false=>
    
    have Tt:∀t∈o.looksAt l.toArray,t≠d∧∀(q:Nat) (o':Oper),l[q]? =some o'→o'.dst=some t→eK Ks q=false→q<m:=by
     intro t ht
     rcases (z.look t ht).2 with h1|⟨j,tm,hj, -,qt,tZ, -⟩
     ·exact⟨fun e=>h1 m o jk (by rw[hd,e]),fun q o' hq nE _=>absurd nE (h1 q o' hq)⟩
     ·refine⟨fun e=>?_,fun q o' hq nE _=>?_⟩
      ·have:=uniq j m tm o d qt jk (by rw[tZ,e]) hd;omega
      ·have:=uniq q j o' tm t hq qt nE tZ;omega
    have yO:∀t∈o.looksAt l.toArray,Kn l Ks f0 E m g N w t:=fun t ht=>⟨fun FV=>by
      rw[g1 t fun q o' hq h1 h2 h3=>absurd h3 (by rw[FV q o' h1 h2];decide)]
      exact h.off t FV,fun q o' hq h1 h2 h3=>g3 q o' t hq h1 h2 h3⟩
    have key:∃v,np E m N v w∧∀(w2:aG) (g2:aO),ae w2→(∀t∈o.looksAt l.toArray,g2 t=g t)→SO P n l.toArray o g2 w2 (fun f' w'=>f'=cW g2 o.dst v∧w'=w2):=by
     rcases (hF m o jk).go hE with ⟨hFR, -,hk⟩|⟨⟨X,hX,hFF⟩, -⟩|⟨-,hk⟩
     ·rcases hk with hk|hk
      ·have:=hR m o jk hk;rw[TM] at this;cases this
      ·obtain⟨v,hv,BT⟩:=Vp (z.slot hk) ⟨d,hd,ef m o d jk hd⟩ (hFR g N w h.ext h.ni yO)
       exact⟨v,hv,fun w2 g2 _ hg=>BT g2 w2 hg⟩
     rotate_left
     ·have:=hR m o jk (by unfold nK at hk;unfold xB;cases hq:vc Ks m<;>rw[hq] at hk<;>first|rfl|cases hk);rw[TM] at this;cases this
     ·refine⟨X,by rw[hX];rfl,fun w2 g2 Hm hg=>hFF g2 N w2 w Hm fun t ht=>?_⟩
      have k:=yO t ht
      exact⟨fun FV=>by rw[hg t ht];exact k.off FV,fun q o' hq h1 h2 h3=>by rw[hg t ht];exact k.AB q o' hq h1 h2 h3⟩
    obtain⟨v,hv,hvp⟩:=key
    have gB:∀t,t≠d→cg g d v t=g t:=fun t ht=>jD g v ht
    refine⟨cg g d v,fun t ht=>?_,fun q o' d' hq h1 h2 h3 h4=>?_,fun q o' t hq h1 h2 h3=>?_⟩
    ·have C2:t≠d:=fun e=>by
      have:=ht m o (apv m) jk (by rw[hd,e]) hE
      rw[TM] at this;cases this
     rw[gB t C2]
     exact g1 t fun q o' hq=>ht q o' aj
    ·by_cases je:q=m
     ·subst je
      rw[jk] at h1;cases h1
      rw[hd] at h2;cases h2
      intro w2 gg Hm hg
      rw[iY]
      exact hvp w2 gg Hm fun t ht=>by rw[hg t ht,gB t (Tt t ht).1]
     ·have MB:d'≠d:=fun e=>je<|uniq q m o' o d h1 jk (by rw[h2,e]) hd
      have zq:=hZ q o' h1
      intro w2 gg Hm hg
      rw[gB d' MB]
      refine g2 q o' d' aj h1 h2 h3 h4 w2 gg Hm fun t ht=>?_
      rw[hg t ht]
      refine gB t fun e=>?_
      rcases (zq.look t ht).2 with h5|⟨j,tm,hj, -,qt,tZ, -⟩
      ·exact h5 m o jk<|by rw[hd,e]
      ·have:=uniq j m tm o d qt jk (by rw[tZ,e]) hd;omega
    ·by_cases je:q=m
     ·subst je
      rw[jk] at h1;cases h1
      rw[hd] at h2;cases h2
      rw[iY];exact hv
     ·rw[gB t fun e=>je (uniq q m o' o d h1 jk (by rw[h2,e]) hd)]
      exact g3 q o' t aj h1 h2 h3
theorem SN (a b:Bool) (c:Prop) [Decidable c]:((a||b)||decide c)=(a||(b||decide c)):=by cases a<;>cases b<;>rfl
theorem Y_ (lS:(l.filterMap (·.dst)).Nodup) (hZ:∀(i:Nat) (o:Oper),l[i]? =some o→Z1 n l Ks i o) (ef:∀(i:Nat) (o:Oper) (d:Nat),l[i]? =some o→o.dst=some d→d<n) {L:Nat→Bool} {f g0:aO} {w:aG} {V0:Nat→Bool} (h0:J2 P n l Ks ae K L f w g0 V0):∀m,m≤l.length→
  ∃g V,J2 P n l Ks ae K L f w g V∧NF l Ks L V m
 |0,_=>⟨g0,V0,h0,fun q hq=>absurd hq (apW _)⟩
 |m+1,hm=>by
  obtain⟨g,V,h,hN⟩:=Y_ lS hZ ef h0 m aj
  have uniq:∀(q q':Nat) (a b:Oper) (t:Nat),l[q]? =some a→l[q']? =some b→a.dst=some t→b.dst=some t→q=q':=fun q q' a b t h1 h2 h3 h4=>
   im (·.dst) l lS q q' a b h1 h2 (by show a.dst.isSome=true;rw[h3];rfl) (by show a.dst=b.dst;rw[h3,h4])
  by_cases hgo:tp l Ks m=true∧L m=false∧V m=false∧∀e,e<m→eK Ks e=true→jQ l e=false→L e=true
  rotate_left
  ·refine⟨g,V,h,fun q hq hx hL hr=>?_⟩
   by_cases je:q=m
   ·subst je
    cases hV:V q with
    |true=>rfl
    |false=>exact absurd ⟨hx,hL,hV,hr⟩ hgo
   ·exact hN q aj hx hL hr
  obtain⟨hx,hL,hV,hr⟩:=hgo
  have jk:l[m]? =some l[m]:=dW aj
  generalize l[m]=o at jk
  have z:=hZ m o jk
  have Mk:eK Ks m=true∧jQ l m=true:=by
   have:=hx;unfold tp at this;rwa [ez] at this
  have hso:te o=true:=by have:=Mk.2;unfold jQ at this;rwa [jk] at this
  obtain⟨⟨d,hd⟩, -⟩:=z.xd Mk.1 hso
  have sM:=ef m o d jk hd
  have hbV:∀e,e<m→eK Ks e=true→(L e||V e)=true:=by
   intro e he nj
   cases qO:jQ l e with
   |false=>rw[hr e he nj qO];rfl
   |true=>
    cases hLe:L e with
    |true=>rfl
    |false=>rw[hN e he (by unfold tp;rw[nj,qO];rfl) hLe fun e' h1 h2 h3=>hr e' aj h2 h3];rfl
  have xE:=h.we
  rw[Cz l 0 m o jk (by rw[aoJ];exact Mk.1) (by rw[aoJ,hL,hV];rfl) (fun e _ h2 h3=>hbV e aj h3)] at xE
  simp only[aoJ] at xE
  have hsr:=SO.XY (show SO P n l.toArray o g w _ from xE) z.sel<|fun t _=>rfl
  obtain⟨v,⟨g',hg',YR,yM⟩,km⟩:=Jd (P:=P) (n:=n) (ops:=l.toArray) (R:=fun v w'=>∃g',cj n g'=cj n (cW g o.dst v)∧ae w'∧WE P n l.toArray ae K (qG Ks (fun k=>(L k||V k)||decide (k=m)) 0 l) g' w') hso ⟨d,hd,sM⟩ (hsr.mono fun f' w' ⟨v,g',e1,e2,e3,e4⟩=>⟨v,e1,trivial,g',e2,e3,e4⟩)
  have JN:∀t,t<n→g' t=cg g d v t:=by
   intro t ht
   have:(cj n g').tmps[t]? =(cj n (cW g o.dst v)).tmps[t]?:=by rw[hg']
   rw[hd] at this
   simpa [cj,ht,cW] using this
  have YP:∀q,(V q||decide (q=m))=true→q≠m→V q=true:=fun q h4 je=>by
   rcases aoX.1 h4 with h4|h4
   ·exact h4
   ·exact absurd (by simpa using h4) je
  
  have af6:∀(q:Nat) (o':Oper),l[q]? =some o'→q≠m→(eK Ks q=false∨V q=true)→∀t∈o'.looksAt l.toArray,t≠d:=by
   intro q o' hq je C6 t ht e
   subst e
   rcases ((hZ q o' hq).look t ht).2 with h5|⟨j,tm,hj, -,qt,tZ,hj4⟩
   ·exact h5 m o jk hd
   ·have:=uniq j m tm o t qt jk tZ hd
    subst this
    rcases C6 with h6|h6
    ·rw[hj4 h6] at Mk;cases Mk.1
    ·have:=h.vd q h6 j hj hx hL
     rw[hV] at this;cases this
  refine⟨g',fun k=>V k||decide (k=m),⟨h.rd,fun t ht hq=>?_,fun q o' d' h1 h2 h3 h4=>?_,h.i,?_,fun q hq=>?_,fun q hq e he nj qO=>?_,fun q hq m' Ts qo EJ=>?_⟩,fun q hq qo EJ hr'=>?_⟩
  ·have C2:t≠d:=fun e=>by
    have:=hq m o jk (by rw[hd,e])<|.inr (by simp)
    rw[hL] at this;cases this
   rw[JN t ht,jD g v C2]
   exact h.eq t ht fun q o' h1 h2 h3=>hq q o' h1 h2 (h3.imp id fun h=>by rw[h];rfl)
  ·by_cases je:q=m
   ·subst je
    rw[jk] at h1;cases h1
    rw[hd] at h2;cases h2
    intro w2 gg _ hg
    rw[JN d sM,iY]
    refine km gg w2 fun t ht=>?_
    have hk:=z.look t ht
    rw[hg t ht,JN t hk.1]
    refine jD g v fun e=>?_
    rcases hk.2 with h5|⟨j,tm,hj, -,qt,tZ, -⟩
    ·exact h5 q o jk<|by rw[hd,e]
    ·have:=uniq j q tm o d qt jk (by rw[tZ,e]) hd;omega
   ·have C6:eK Ks q=false∨V q=true:=h3.imp id fun h=>YP q h je
    have hv:=h.vp q o' d' h1 h2 C6 h4
    have MB:d'≠d:=fun e=>je<|uniq q m o' o d h1 jk (by rw[h2,e]) hd
    intro w2 gg Hm hg
    rw[JN d' (ef q o' d' h1 h2),jD g v MB]
    refine hv w2 gg Hm fun t ht=>?_
    rw[hg t ht,JN t ((hZ q o' h1).look t ht).1]
    exact jD g v<|af6 q o' h1 je C6 t ht
  ·rw[nW (L':=fun k=>(L k||V k)||decide (k=m)) l 0 fun k _ _=>(SN _ _ _).symm]
   exact yM
  ·by_cases je:q=m
   ·subst je;exact hx
   ·exact h.vx q<|YP q hq je
  ·by_cases je:q=m
   ·subst je;exact hr e he nj qO
   ·exact h.vl q (YP q hq je) e he nj qO
  ·show (V m'||decide (m'=m))=true
   by_cases je:q=m
   ·subst je
    rw[hN m' Ts qo EJ fun e h1 h2 h3=>hr e aj h2 h3];rfl
   ·rw[h.vd q (YP q hq je) m' Ts qo EJ];rfl
  ·show (V q||decide (q=m))=true
   by_cases je:q=m
   ·subst je;simp
   ·rw[hN q aj qo EJ hr'];rfl
theorem R4 (lS:(l.filterMap (·.dst)).Nodup) (hZ:∀(i:Nat) (o:Oper),l[i]? =some o→Z1 n l Ks i o) (ef:∀(i:Nat) (o:Oper) (d:Nat),l[i]? =some o→o.dst=some d→d<n) {L:Nat→Bool} {f g:aO} {w:aG} {V:Nat→Bool} (h:J2 P n l Ks ae K L f w g V) (hN:NF l Ks L V l.length) {i:Nat} {o:Oper}
  (ho:l[i]? =some o) (hE:eK Ks i=true) (hS:jQ l i=false) (uc:L i=false) (hb:∀e,e<i→eK Ks e=true→jQ l e=false→L e=true) (sM:∀j,kZ o j=true→L j=true):
  SO P n l.toArray o f w (fun f' w'=>∃g' V',J2 P n l Ks ae K (fun k=>L k||decide (k=i)) f' w' g' V'∧NF l Ks (fun k=>L k||decide (k=i)) V' l.length):=by
 have z:=hZ i o ho
 have jL:=(dJ.1 ho).1
 have uniq:∀(q q':Nat) (a b:Oper) (t:Nat),l[q]? =some a→l[q']? =some b→a.dst=some t→b.dst=some t→q=q':=fun q q' a b t h1 h2 h3 h4=>
  im (·.dst) l lS q q' a b h1 h2 (by show a.dst.isSome=true;rw[h3];rfl) (by show a.dst=b.dst;rw[h3,h4])
 have hXi:tp l Ks i=false:=by unfold tp;rw[hS,aq4]
 have hVi:V i=false:=by
  cases hq:V i with
  |false=>rfl
  |true=>rw[h.vx i hq] at hXi;cases hXi
 have C6:∀q,(eK Ks q=false∨V q=true)→q≠i:=fun q h3 e=>by
  subst e
  rcases h3 with h3|h3
  ·rw[hE] at h3;cases h3
  ·rw[hVi] at h3;cases h3
 have hbV:∀e,e<i→eK Ks e=true→(L e||V e)=true:=by
  intro e he nj
  cases qO:jQ l e with
  |false=>rw[hb e he nj qO];rfl
  |true=>
   cases hLe:L e with
   |true=>rfl
   |false=>rw[hN e aj (by unfold tp;rw[nj,qO];rfl) hLe fun e' h1 h2 h3=>hb e' aj h2 h3];rfl
 have xE:=h.we
 rw[Cz l 0 i o ho (by rw[aoJ];exact hE) (by rw[aoJ,uc,hVi];rfl) (fun e _ h2 h3=>hbV e aj h3)] at xE
 simp only[aoJ] at xE
 have Tt:∀t∈o.looksAt l.toArray,f t=g t:=by
  intro t ht
  have q:=z.look t ht
  refine(h.eq t q.1 fun q' o' h1 h2 h3=>?_).symm
  rcases q.2 with h4|⟨j,tm,hj,Mv,qt,tZ, -⟩
  ·exact absurd h2<|h4 q' o' h1
  ·rw[uniq q' j o' tm t h1 qt h2 tZ];exact sM j Mv
 refine(SO.XY (show SO P n l.toArray o g w _ from xE) z.sel Tt).mono ?_
 rintro f' w' ⟨v,g',rfl,hg',YR,yM⟩
 have JN:∀t,t<n→g' t=cW g o.dst v t:=by
  intro t ht
  have:(cj n g').tmps[t]? =(cj n (cW g o.dst v)).tmps[t]?:=by rw[hg']
  simpa [cj,ht] using this
 refine Y_ (V0:=V) lS hZ ef (L:=fun k=>L k||decide (k=i)) (g0:=g') ⟨fun q o' h1 h2=>by rw[h.rd q o' h1 h2];rfl,fun t ht hq=>?_,fun q o' d h1 h2 h3 h4=>?_,YR,?_,h.vx,fun q hq e he nj qO=>by rw[h.vl q hq e he nj qO];rfl,fun q hq m hm hx hL=>h.vd q hq m hm hx ?_⟩ l.length<|an3 _
 ·rw[JN t ht]
  cases hd:o.dst with
  |none=>
   show g t=f t
   refine h.eq t ht fun q o' h1 h2 h3=>?_
   rcases aoX.1 (hq q o' h1 h2 h3) with h4|h4
   ·exact h4
   ·exact absurd (by simpa using h4)<|C6 q h3
  |some d=>
   show cg g d v t=cg f d v t
   by_cases C2:t=d
   ·subst C2;rw[iY,iY]
   ·rw[jD g v C2,jD f v C2]
    refine h.eq t ht fun q o' h1 h2 h3=>?_
    rcases aoX.1 (hq q o' h1 h2 h3) with h4|h4
    ·exact h4
    ·exact absurd (by simpa using h4)<|C6 q h3
 ·have h4':L q=false:=by
   cases hq:L q with
   |false=>rfl
   |true=>rw[hq] at h4;cases h4
  have hv:=h.vp q o' d h1 h2 h3 h4'
  have gB:∀t,t<n→o.dst≠some t→g' t=g t:=by
   intro t ht hd
   rw[JN t ht]
   cases nE:o.dst with
   |none=>rfl
   |some d'=>exact jD g v fun e=>hd (by rw[nE,e])
  intro w2 gg Hm hg
  rw[gB d (ef q o' d h1 h2) (fun e=>C6 q h3 (uniq q i o' o d h1 ho h2 e))]
  refine hv w2 gg Hm fun t ht=>?_
  rw[hg t ht]
  have zq:=(hZ q o' h1).look t ht
  refine gB t zq.1 fun e=>?_
  rcases zq.2 with h5|⟨j,tm,hj, -,qt,tZ,hj4⟩
  ·exact h5 i o ho e
  ·have:=uniq j i tm o t qt ho tZ e
   subst this
   rcases h3 with h3|h3
   ·rw[hj4 h3] at hE;cases hE
   ·rw[h.vl q h3 j hj hE hS] at uc;cases uc
 ·rw[nW (L':=fun k=>(L k||V k)||decide (k=i)) l 0 fun k _ _=>by cases L k<;>cases V k<;>cases decide (k=i)<;>rfl]
  exact yM
 ·cases hq:L m with
  |false=>rfl
  |true=>simp[hq] at hL
theorem L3 {Ks:List ZK} {d:Nat}:∀(r:dh) (i:Nat) (ks:List ZK),Ks.drop i=ks→d∈FG ks r→∃(j:Nat) (o:Oper),r[j]? =some o∧nK Ks (i+j)=true∧o.dst.getD 0=d
 |[],_,_,_,h=>by cases h
 |o::r,i,ks,h,hd=>by
  have Mu:Ks.drop (i+1)=ks.tail:=by rw[←ao0,h];cases ks<;>rfl
  have Tu:ks.headD .r=vc Ks i:=by
   unfold vc
   rw[←h,il]
   cases hq:Ks.drop i with
   |nil=>rw[aof (by have:=an0 List.length hq;simp at this;omega)];rfl
   |cons a b=>
    have:(Ks.drop i)[0]? =some a:=by rw[hq];rfl
    rw[aoG,aoH] at this
    rw[this];rfl
  have adg:d∈FG ks.tail r→∃(j:Nat) (o':Oper),(o::r)[j]? =some o'∧nK Ks (i+j)=true∧o'.dst.getD 0=d:=fun hd=>by
   obtain⟨j,o',h1,h2,h3⟩:=L3 r (i+1) ks.tail Mu hd
   exact⟨j+1,o',by simpa using h1,by rw[show i+(j+1)=i+1+j from by omega];exact h2,h3⟩
  unfold FG at hd
  rw[Tu] at hd
  cases hk:vc Ks i with
  |n=>
   rw[hk] at hd
   rcases aoh.1 hd with rfl|hd
   ·exact⟨0,o,J,by rw[aoH];unfold nK;rw[hk];rfl,J⟩
   ·exact adg hd
  |_=>rw[hk] at hd;exact adg hd
theorem my {id:Nat} {Q:Exit→Act→aG→Prop} {f:aO} {w:aG} (Ks:List ZK) (ae:aG→Prop) (hm:P.follows .mixedOrders=true) (qq:okZ n l Ks=true) (hI:∀w',Ext w w'→ae w')
  (h:PZ P n l.toArray w ae (KZ P n l.toArray Q w ae (F' Ks l) (FG Ks l)) l Ks [] f):WC P n (.region id l.toArray true) Q f w:=by
 simp only[okZ,ez] at qq
 obtain⟨hE,hN,hn,h1⟩:=qq
 have lS:(l.filterMap (·.dst)).Nodup:=oN _ hN
 have ef:∀(i:Nat) (o:Oper) (d:Nat),l[i]? =some o→o.dst=some d→d<n:=by
  intro i o d hi hd
  have:=an9.1 hn d<|aou.2 ⟨o,dz hi,hd⟩
  simpa using this
 have hZ:∀(i:Nat) (o:Oper),l[i]? =some o→Z1 n l Ks i o:=fun i o hi=>by
  have:=OV l 0 h1 i o hi
  rwa [aoJ] at this
 have uniq:∀(q q':Nat) (a b:Oper) (t:Nat),l[q]? =some a→l[q']? =some b→a.dst=some t→b.dst=some t→q=q':=fun q q' a b t h1 h2 h3 h4=>
  im (·.dst) l lS q q' a b h1 h2 (by show a.dst.isSome=true;rw[h3];rfl) (by show a.dst=b.dst;rw[h3,h4])
 obtain⟨E,U',f',hEl, -,hF0,hL,hK⟩:=PZ.table (f0:=f) lS hZ l Ks 0 [] f [] rfl rfl rfl (by simp)
  ⟨fun g N w t hV qU=>⟨fun _=>qU.off fun q o h1 h2=>by
   cases hq:eK Ks q with
   |true=>rfl
   |false=>exact absurd (hV q o h1 h2 hq) (apW _),fun j Φ hj=>by simp at hj⟩,fun j t Φ hj=>by simp at hj⟩ h
 have hF:∀(i:Nat) (o:Oper),l[i]? =some o→Fact P n l Ks w ae f E i o:=fun i o hi=>hF0 i o (apn _) hi
 have FW:∀d,d∈FG Ks l→∃(q:Nat) (o:Oper),l[q]? =some o∧nK Ks q=true∧o.dst=some d:=fun d hd=>by
  obtain⟨j,o,h2,h3,h4⟩:=L3 l 0 Ks rfl hd
  rw[aoJ] at h3
  have gB:eK Ks j=false:=by unfold nK at h3;unfold eK;cases hq:vc Ks j<;>rw[hq] at h3<;>first|rfl|exact Bool.noConfusion h3
  obtain⟨d',nE⟩:=(hZ j o h2).dst gB
  rw[nE] at h4
  exact⟨j,o,h2,h3,by rw[nE];exact an0 some h4⟩
 have YQ:∀q,nK Ks q=true→xB Ks q=true:=fun q h3=>by unfold nK at h3;unfold xB;cases hq:vc Ks q<;>rw[hq] at h3<;>first|rfl|exact Bool.noConfusion h3
 refine drj (P:=P) (Q:=Q) (fun L g w'=>(∀(i:Nat) (o:Oper),L i=true→l[i]? =some o→∀j,kZ o j=true→L j=true)∧((∃N,J1 l Ks w f E L g w' N)∨∃g2 V,J2 P n l Ks ae (fun f w=>Q .normal (cj n f) w) L g w' g2 V∧NF l Ks L V l.length)) hm hE ?_ ?_ ?_
 ·exact⟨fun i o hi=>Bool.noConfusion hi,.inl ⟨fun _=>False,fun b hb=>hb.elim,fun p q o o' d d' hp=>Bool.noConfusion hp,fun e _ _=>rfl,Ext.drew w,fun t _=>rfl,fun q o t hq=>Bool.noConfusion hq⟩⟩
 ·rintro L g w' i o ho uc hLl sM ⟨hC,hJ⟩
  have z:=hZ i o ho
  have jL:=(dJ.1 ho).1
  have MG:∀(q:Nat) (o':Oper),(L q||decide (q=i))=true→l[q]? =some o'→∀j,kZ o' j=true→(L j||decide (j=i))=true:=by
   intro q o' hq tW j hj
   rcases aoX.1 hq with h1|h1
   ·rw[hC q o' h1 tW j hj];rfl
   ·have:q=i:=by simpa using h1
    subst this
    rw[ho] at tW;cases tW
    rw[sM j hj];rfl
  have late:∀(g2:aO) (V:Nat→Bool),J2 P n l Ks ae (fun f w=>Q .normal (cj n f) w) L g w' g2 V→NF l Ks L V l.length→∀d,o.dst=some d→(eK Ks i=false∨V i=true)→(eK Ks i=true→tp l Ks i=true)→
    SO P n l.toArray o g w' (fun ER mK=>∃g2 V,J2 P n l Ks ae (fun f w=>Q .normal (cj n f) w) (fun k=>L k||decide (k=i)) ER mK g2 V∧NF l Ks (fun k=>L k||decide (k=i)) V l.length):=by
   intro g2 V hJ Hl d hd C6 af2
   have Tt:∀t∈o.looksAt l.toArray,g t=g2 t:=by
    intro t ht
    have q:=z.look t ht
    refine(hJ.eq t q.1 fun q' o' h1 h2 h3=>?_).symm
    rcases q.2 with h4|⟨j,tm,hj,Mv,qt,tZ, -⟩
    ·exact absurd h2<|h4 q' o' h1
    ·rw[uniq q' j o' tm t h1 qt h2 tZ];exact sM j Mv
   have YG:∀q,(L q||decide (q=i))=true→q≠i→L q=true:=fun q h4 tw=>by
    rcases aoX.1 h4 with h4|h4
    ·exact h4
    ·exact absurd (by simpa using h4) tw
   have hLf:∀q,(L q||decide (q=i))=false→L q=false:=fun q h4=>by
    cases hq:L q with
    |false=>rfl
    |true=>simp[hq] at h4
   refine(hJ.vp i o d ho hd C6 uc w' g hJ.i Tt).mono ?_
   rintro ER mK ⟨rfl,rfl⟩
   refine⟨g2,V,⟨fun q o' h1 h2=>by rw[hJ.rd q o' h1 h2];rfl,fun t ht hq=>?_,fun q o' d' h1 h2 h3 h4=>hJ.vp q o' d' h1 h2 h3 (hLf q h4),hJ.i,?_,hJ.vx,fun q hq e he nj qO=>by rw[hJ.vl q hq e he nj qO];rfl,fun q hq m hm hx EJ=>hJ.vd q hq m hm hx (hLf m EJ)⟩,fun q hq hx EJ hr=>Hl q hq hx (hLf q EJ) fun e he nj qO=>YG e (hr e he nj qO) fun e'=>?_⟩
   ·rw[hd]
    show g2 t=cg g d (g2 d) t
    by_cases C2:t=d
    ·subst C2;rw[iY]
    ·rw[jD g _ C2]
     refine hJ.eq t ht fun q o' h1 h2 h3=>YG q (hq q o' h1 h2 h3) fun e=>?_
     subst e
     rw[ho] at h1;cases h1
     rw[hd] at h2;cases h2
     exact C2 J
   ·rw[nW (L':=fun k=>L k||V k) l 0 fun k _ hk=>?_]
    ·exact hJ.we
    ·by_cases Au:k=i
     ·subst Au
      rcases C6 with h1|h1
      ·rw[h1] at hk;cases hk
      ·simp[h1]
     ·rw[an' Au,apy]
   ·subst e'
    have:=af2 nj
    unfold tp at this
    rw[qO,aq4] at this;cases this
  cases xN:eK Ks i with
  |true=>
   have hb:∀e,e<i→eK Ks e=true→jQ l e=false→L e=true:=fun e he nj qO=>Iq hC l.length i e o ho sM<|z.ord xN e he nj qO
   have hsl:te o=jQ l i:=by unfold jQ;rw[ho]
   have hR:∀(q:Nat) (o':Oper),l[q]? =some o'→xB Ks q=true→L q=true:=fun q o' hq hk=>by
    have:=(hZ q o' hq).rd hk i jL xN
    exact Iq hC l.length i q o ho sM this
   rcases hJ with ⟨N,hJ⟩|⟨g2,V,hJ,Hl⟩
   ·have JQ:jQ l i=false:=by
     cases JQ:jQ l i with
     |false=>rfl
     |true=>
      obtain⟨-,e,he,nj,qO⟩:=z.xd xN (by rw[hsl,JQ])
      have h1:=hb e he nj qO
      rw[hJ.no e aj nj] at h1;cases h1
    obtain⟨g2,q1,q2,q3⟩:=Y9 lS hZ hF hJ hI hR ef l.length (an3 _)
    have yO:∀t,Kn l Ks f E l.length g2 N w' t:=fun t=>⟨fun FV=>by
      rw[q1 t fun q o' _ h1 h2 h3=>absurd h3 (by rw[FV q o' h1 h2];decide)]
      exact hJ.off t FV,fun q o' hq h1 h2 h3=>q3 q o' t hq h1 h2 h3⟩
    have hV:∀t,Zq l Ks l.length t:=fun t q o' h1 _ _=>(dJ.1 h1).1
    have xE:=hK w' g2 N hJ.ext hJ.ni (fun d d' h1 h2 h3=>by
     obtain⟨p,o1,a1,a2,a3⟩:=FW d h1
     obtain⟨q,o2,b1,b2,b3⟩:=FW d' h2
     have e1:g2 d=g d:=q1 d fun q' o' _ c1 c2 _=>by rw[uniq q' p o' o1 d c1 a1 c2 a3];exact hR p o1 a1 (YQ p a2)
     have e2:g2 d'=g d':=q1 d' fun q' o' _ c1 c2 _=>by rw[uniq q' q o' o2 d' c1 b1 c2 b3];exact hR q o2 b1 (YQ q b2)
     rw[e1,e2]
     exact hJ.dis p q o1 o2 d d' (hR p o1 a1 (YQ p a2)) (hR q o2 b1 (YQ q b2)) (fun e=>h3 (by subst e;rw[a1] at b1;cases b1;rw[a3] at b3;exact an5 b3)) a1 b1 a2 b2 a3 b3) (fun t ht=>(hL.is g2 N w' t (hV t) (yO t)).1 ht) (fun j t Φ hj=>(hL.is g2 N w' t (hV t) (yO t)).2 j Φ hj)
    have hJ2:J2 P n l Ks ae (fun f w=>Q .normal (cj n f) w) L g w' g2 (fun _=>false):=by
     refine⟨hR,fun t _ ht=>q1 t fun q o' _ h1 h2 h3=>ht q o' h1 h2 (.inl h3),fun q o' d h1 h2 h3=>q2 q o' d (dJ.1 h1).1 h1 h2 (h3.resolve_right au),hI w' hJ.ext,?_,fun q hq=>(by cases hq),fun q hq=>(by cases hq),fun q hq=>(by cases hq)⟩
     rw[nW (L':=L) l 0 fun k _ _=>apy _]
     have:qG Ks L 0 l=F' Ks l:=by
      rw[←Fz l 0 Ks rfl]
      refine nW l 0 fun k _ hk=>?_
      by_cases As:k<l.length
      ·exact hJ.no k As hk
      ·cases hLk:L k with
       |false=>rfl
       |true=>exact absurd (hLl k hLk) As
     rw[this];exact xE
    have Hl:NF l Ks L (fun _=>false) l.length:=fun q hq hx _ hr=>by
     have qo:eK Ks q=true∧jQ l q=true:=by unfold tp at hx;rwa [ez] at hx
     have tW:l[q]? =some l[q]:=dW hq
     obtain⟨-,e,he,nj,qO⟩:=(hZ q _ tW).xd qo.1 (by have:=qo.2;unfold jQ at this;rwa [tW] at this)
     have h1:=hr e he nj qO
     rw[hJ.no e aj nj] at h1;cases h1
    exact(R4 lS hZ ef hJ2 Hl ho xN JQ uc hb sM).mono fun ER mK h=>⟨MG,.inr h⟩
   ·cases JQ:jQ l i with
    |false=>exact(R4 lS hZ ef hJ Hl ho xN JQ uc hb sM).mono fun ER mK h=>⟨MG,.inr h⟩
    |true=>
     obtain⟨⟨d,hd⟩, -⟩:=z.xd xN (by rw[hsl,JQ])
     exact(late g2 V hJ Hl d hd (.inr (Hl i jL (by unfold tp;rw[xN,JQ];rfl) uc hb))<|fun YS=>by unfold tp;rw[JQ,aq_];exact YS).mono fun ER mK h=>⟨MG,.inr h⟩
  |false=>
   obtain⟨d,hd⟩:=z.dst xN
   rcases hJ with ⟨N,hJ⟩|⟨g2,V,hJ,Hl⟩
   ·
    have yO:∀t∈o.looksAt l.toArray,Kn l Ks f E i g N w' t:=by
     intro t ht
     refine⟨hJ.off t,fun q o' hq h1 h2 h3=>?_⟩
     rcases (z.look t ht).2 with h4|⟨j,tm,hj,Mv,qt,tZ, -⟩
     ·exact absurd h2<|h4 q o' h1
     ·have hqj:=uniq q j o' tm t h1 qt h2 tZ
      subst hqj
      exact hJ.AB q o' t (sM q Mv) h1 h2 h3
    have fin:∀(v:Value) (w2:aG) (N':bY),Ext w' w2→E3 w N' w2→(∀b,N b→N' b)→(∀b,N' b→N b∨w'.heap.size≤b)→np E i N' v w2→
      (nK Ks i=true→∀(q:Nat) (o':Oper) (d':Nat),L q=true→l[q]? =some o'→nK Ks q=true→o'.dst=some d'→g d'≠v)→J1 l Ks w f E (fun k=>L k||decide (k=i)) (cW g o.dst v) w2 N':=by
     intro v w2 N' hx hni Tn hn2 hv MA
     have MF:∀q,(L q||decide (q=i))=true→q≠i→L q=true:=fun q h4 tw=>by
      rcases aoX.1 h4 with h4|h4
      ·exact h4
      ·exact absurd (by simpa using h4) tw
     rw[hd]
     have Mr:∀(q:Nat) (o':Oper) (t:Nat),l[q]? =some o'→o'.dst=some t→q≠i→cg g d v t=g t:=fun q o' t h1 h2 tw=>jD g v<|fun e=>tw<|uniq q i o' o d h1 ho (by rw[h2,e]) hd
     refine⟨hni,fun p q o1 o2 d1 d2 hp hq Hd a1 b1 a2 b2 a3 b3=>?_,fun e he nj=>?_,hJ.ext.trans hx,fun t ht=>?_,fun q o' t hq h1 h2 h3=>?_⟩
     ·show cg g d v d1≠cg g d v d2
      by_cases Tk:p=i
      ·subst Tk
       have tw:q≠p:=fun e=>Hd e.symm
       rw[ho] at a1;cases a1
       rw[hd] at a3;cases a3
       rw[iY,Mr q o2 d2 b1 b3 tw]
       exact fun e=>MA a2 q o2 d2 (MF q hq tw) b1 b2 b3 e.symm
      ·by_cases tw:q=i
       ·subst tw
        rw[ho] at b1;cases b1
        rw[hd] at b3;cases b3
        rw[iY,Mr p o1 d1 a1 a3 Tk]
        exact MA b2 p o1 d1 (MF p hp Tk) a1 a2 a3
       ·rw[Mr p o1 d1 a1 a3 Tk,Mr q o2 d2 b1 b3 tw]
        exact hJ.dis p q o1 o2 d1 d2 (MF p hp Tk) (MF q hq tw) Hd a1 b1 a2 b2 a3 b3
     ·rw[hJ.no e he nj,an' (fun e'=>by rw[e',xN] at nj;cases nj)];rfl
     ·show cg g d v t=f t
      rw[jD g v (fun e=>by have:=ht i o ho (by rw[hd,e]);rw[xN] at this;cases this)]
      exact hJ.off t ht
     ·by_cases tw:q=i
      ·subst tw
       rw[ho] at h1;cases h1
       rw[hd] at h2;cases h2
       show np E q N' (cg g d v d) w2
       rw[iY];exact hv
      ·show np E q N' (cg g d v t) w2
       rw[Mr q o' t h1 h2 tw]
       exact(hF q o' h1).mono.ext _ _ _ _ hx ((hF q o' h1).mono.grow _ _ _ _ Tn hn2 (hJ.AB q o' t (MF q hq tw) h1 h2 h3))
    have adq:∀w2,Ext w' w2→E3 w N w2:=fun w2 hx b hb=>⟨(hJ.ni b hb).1,aox (hJ.ni b hb).2 hx.size⟩
    rcases (hF i o ho).go xN with ⟨hFR,hN, -⟩|⟨⟨X,hX,hFF⟩,hN⟩|⟨⟨zz,T,hX,hFN⟩,hN⟩
    ·refine(hFR g N w' hJ.ext hJ.ni yO).mono ?_
     rintro ER mK ⟨v,rfl,hx,hv⟩
     exact⟨MG,.inl ⟨N,fin v mK N hx (adq mK hx) (fun _ h=>h) (fun _ h=>.inl h) hv fun h=>by rw[hN] at h;cases h⟩⟩
    ·refine(hFF g N w' w' (hI w' hJ.ext) yO).mono ?_
     rintro ER mK ⟨rfl,rfl⟩
     exact⟨MG,.inl ⟨N,fin X mK N (Ext.refl _) hJ.ni (fun _ h=>h) (fun _ h=>.inl h) (by rw[hX];rfl) fun h=>by rw[hN] at h;cases h⟩⟩
    ·refine(hFN g N w' hJ.ext yO).mono ?_
     rintro ER mK ⟨v,rfl,hx,b0,pK,wb,YH⟩
     have ai3:b0<mK.heap.size:=(aor.1 YH).1
     refine⟨MG,.inl ⟨fun b=>N b∨b=b0,fin v mK _ hx (fun b hb=>?_) (fun _ h=>.inl h) (fun b hb=>?_) (by rw[hX];exact⟨b0,pK,Nat.le_trans hJ.ext.size wb,YH,.inr rfl⟩) fun _ q o' d' MF h1 h2 h3 e=>?_⟩⟩
     ·rcases hb with hb|rfl
      ·exact adq mK hx b hb
      ·exact⟨Nat.le_trans hJ.ext.size wb,ai3⟩
     ·rcases hb with hb|rfl
      ·exact .inl hb
      ·exact .inr wb
     ·have hqE:eK Ks q=false:=by unfold nK at h2;unfold eK;cases hq:vc Ks q<;>rw[hq] at h2<;>first|rfl|exact Bool.noConfusion h2
      rcases (hF q o' h1).go hqE with ⟨-,h9, -⟩|⟨-,h9⟩|⟨⟨z2,T2,hX2, -⟩, -⟩
      ·rw[h2] at h9;cases h9
      ·rw[h2] at h9;cases h9
      ·have:=hJ.AB q o' d' MF h1 h3 hqE
       rw[hX2] at this
       obtain⟨b1,c1, -,c3, -⟩:=this
       rw[c1,pK] at e
       have:b1=b0:=by
        have:=an0 (fun v=>match v with|Value.pointer (some a)=>a.block|_=>0) e
        simpa using this
       have h7:=(aor.1 c3).1
       omega
   ·exact(late g2 V hJ Hl d hd (.inl xN)<|fun YS=>by rw[xN] at YS;cases YS).mono fun ER mK h=>⟨MG,.inr h⟩
 ·rintro g w' ⟨-,hJ⟩
  have hz:qG Ks (fun k=>decide (k<l.length)) 0 l=[]:=Fy l 0 fun k _ hk=>by rw[an6 aj]
  rcases hJ with ⟨N,hJ⟩|⟨g2,V,hJ, -⟩
  ·have yO:∀t,Kn l Ks f E l.length g N w' t:=fun t=>⟨hJ.off t,fun q o' hq h1 h2 h3=>hJ.AB q o' t (an6 hq) h1 h2 h3⟩
   have hV:∀t,Zq l Ks l.length t:=fun t q o' h1 _ _=>(dJ.1 h1).1
   have xE:=hK w' g N hJ.ext hJ.ni (fun d d' h1 h2 h3=>by
    obtain⟨p,o1,a1,a2,a3⟩:=FW d h1
    obtain⟨q,o2,b1,b2,b3⟩:=FW d' h2
    exact hJ.dis p q o1 o2 d d' (an6 (dJ.1 a1).1) (an6 (dJ.1 b1).1) (fun e=>h3 (by subst e;rw[a1] at b1;cases b1;rw[a3] at b3;exact an5 b3)) a1 b1 a2 b2 a3 b3) (fun t ht=>(hL.is g N w' t (hV t) (yO t)).1 ht) (fun j t Φ hj=>(hL.is g N w' t (hV t) (yO t)).2 j Φ hj)
   have:F' Ks l=[]:=by
    rw[←Fz l 0 Ks rfl,←hz]
    refine nW l 0 fun k _ hk=>?_
    by_cases As:k<l.length
    ·have:=hJ.no k As hk
     rw[an6 As] at this;cases this
    ·rw[an' As]
   rw[this] at xE
   exact xE
  ·have xE:=hJ.we
   rw[Fy l 0 fun k _ hk=>by rw[an6 aj];rfl] at xE
   have:cj n g2=cj n g:=by
    unfold cj
    congr 2
    funext t
    exact hJ.eq t t.2 fun q o h3 _ _=>an6 (dJ.1 h3).1
   have h9:Q .normal (cj n g2) w':=xE
   rwa [this] at h9
end
end Go.Ew
namespace Go.Ew
open Go.RowKit
variable {g:aO} {N:bY} {w:aG} {K:aO→aG→Prop} {b:Nat}
def KY:ZK→Bool
 | .r=>true
 | .s=>true
 |_=>false
def D8 (ops:Array Oper) (o:Oper) (ag:UN):Bool:=(o.looksAt ops).all (fun t=>!xC ag t)
def KN (ops:Array Oper) (o:Oper) (ag:UN) (d:Nat):Bool:=(o.looksAt ops).all (fun t=>Nat.beq t d||!xC ag t)&&(o.looksAt ops).contains d
def Rm (ops:Array Oper) (o:Oper) (ag:UN) (d d1:Nat):Bool:=(o.looksAt ops).all (fun t=>Nat.beq t d||(Nat.beq t d1||!xC ag t))&&((o.looksAt ops).contains d&&((o.looksAt ops).contains d1&&!Nat.beq d d1))
theorem mN {Φ:Value→aG→Prop} (h:∀v w w',Ext w w'→Φ v w→Φ v w'):r5 (fun _=>Φ):=⟨fun _ v w w'=>h v w w',fun _ _ _ _ _ _ h=>h⟩
theorem mE {Φ:Value→Prop}:r5 (fun _ v _=>Φ v):=⟨fun _ _ _ _ _ h=>h,fun _ _ _ _ _ _ h=>h⟩
section
variable {P:Program} {n:Nat} {ops:Array Oper} {w0:aG} {ae:aG→Prop} {K:UN→aO→Prop} {f:aO} {rest:dh} {zk:ZK} {ks:List ZK} {ag:UN} {o:Oper} {v X:Value} {Φ Ψ Ψ':PR} {d d1 d2:Nat}
theorem Pn (h:D8 ops o ag=true) (ha:Zy (o.looksAt ops) ag f g N w):∀t∈o.looksAt ops,g t=f t:=by
 intro t ht
 have:=an9.1 h t ht
 exact(ha t ht).1 (by simpa using this)
theorem ye (h:PZ P n ops w0 ae K rest ks ag f):PZ P n ops w0 ae K (o::rest) (.e::ks) ag f:=h
theorem PZ.of (hz:KY zk=true) (h:(∃X,GN P n ops w0 o ag f (eN X)∧PZ P n ops w0 ae K rest ks ag (cW f o.dst X))∨(∃d Φ,o.dst=some d∧r5 Φ∧GN P n ops w0 o ag f Φ∧PZ P n ops w0 ae K rest ks ((d,Φ)::ag) f)):PZ P n ops w0 ae K (o::rest) (zk::ks) ag f:=by
 cases zk with
 |r=>exact h
 |s=>exact h
 |f=>cases hz
 |e=>cases hz
 |n=>cases hz
theorem yz (h:K ag f):PZ P n ops w0 ae K [] ks ag f:=h
theorem yq (hz:KY zk=true) (hf:(lu n o&&D8 ops o ag)=true) (h:PW P n ops w0 (fun f'=>PZ P n ops w0 ae K rest ks ag f') [o] f):PZ P n ops w0 ae K (o::rest) (zk::ks) ag f:=by
 obtain⟨X,h1,h2⟩:=h
 rw[ez] at hf
 exact PZ.of hz<|.inl ⟨X,fun w g N hx _ ha=>SO.rW (R:=fun v w'=>v=X) ((h1 w hx).mono fun f' w' hq=>⟨X,hq.1,hq.2,J⟩) (gx hf.1).1 (Pn hf.2 ha) (gx hf.1).2,h2⟩
theorem yu (hz:KY zk=true) (Φ:PR) (hd:o.dst=some d) (hm:r5 Φ) (hf:(lu n o&&D8 ops o ag)=true) (h:∀w N,Ext w0 w→E3 w0 N w→SO P n ops o f w (fun f' w'=>∃v,f'=cW f o.dst v∧Ext w w'∧Φ N v w')) (r:PZ P n ops w0 ae K rest ks ((d,Φ)::ag) f):PZ P n ops w0 ae K (o::rest) (zk::ks) ag f:=by
 rw[ez] at hf
 exact PZ.of hz<|.inr ⟨d,Φ,hd,hm,fun w g N hx hn ha=>SO.rW (R:=fun v w'=>Φ N v w') (h w N hx hn) (gx hf.1).1 (Pn hf.2 ha) (gx hf.1).2,r⟩
theorem SU {j:Nat} (hU:ag[j]? =some (d,Ψ)) (h:KN ops o ag d=true) (ha:Zy (o.looksAt ops) ag f g N w):Ψ N (g d) w∧∀t∈o.looksAt ops,g t=cg f d (g d) t:=by
 unfold KN at h
 rw[ez] at h
 refine⟨(ha d<|aoF.1 h.2).2 j Ψ hU,fun t ht=>?_⟩
 by_cases e:t=d
 ·subst e;exact(iY _ _ _).symm
 ·rw[jD _ _ e]
  have:=an9.1 h.1 t ht
  rcases aoX.1 this with h1|h1
  ·exact absurd (apc h1) e
  ·exact(ha t ht).1 (by simpa using h1)
theorem RN (hz:KY zk=true) (j:Nat) (hU:ag[j]? =some (d,Ψ)) (hf:(lu n o&&KN ops o ag d)=true) (h:∀w N v,Ext w0 w→E3 w0 N w→Ψ N v w→SO P n ops o (cg f d v) w (fun f' w'=>f'=cW (cg f d v) o.dst X∧Ext w w')) (r:PZ P n ops w0 ae K rest ks ag (cW f o.dst X)):PZ P n ops w0 ae K (o::rest) (zk::ks) ag f:=by
 rw[ez] at hf
 refine PZ.of hz<|.inl ⟨X,fun w g N hx hn ha=>?_,r⟩
 obtain⟨h1,h2⟩:=SU hU hf.2 ha
 exact SO.rW (R:=fun v w'=>v=X) ((h w N (g d) hx hn h1).mono fun f' w' hq=>⟨X,hq.1,hq.2,J⟩) (gx hf.1).1 h2 (gx hf.1).2
theorem lJ (hz:KY zk=true) (Φ:PR) (j:Nat) (hU:ag[j]? =some (d,Ψ)) (hd:o.dst=some d2) (hm:r5 Φ) (hf:(lu n o&&KN ops o ag d)=true) (h:∀w N v,Ext w0 w→E3 w0 N w→Ψ N v w→SO P n ops o (cg f d v) w (fun f' w'=>∃u,f'=cW (cg f d v) o.dst u∧Ext w w'∧Φ N u w')) (r:PZ P n ops w0 ae K rest ks ((d2,Φ)::ag) f):PZ P n ops w0 ae K (o::rest) (zk::ks) ag f:=by
 rw[ez] at hf
 refine PZ.of hz<|.inr ⟨d2,Φ,hd,hm,fun w g N hx hn ha=>?_,r⟩
 obtain⟨h1,h2⟩:=SU hU hf.2 ha
 exact SO.rW (R:=fun v w'=>Φ N v w') (h w N (g d) hx hn h1) (gx hf.1).1 h2 (gx hf.1).2
theorem abx {j i:Nat} (hU:ag[j]? =some (d,Ψ)) (hU':ag[i]? =some (d1,Ψ')) (h:Rm ops o ag d d1=true) (ha:Zy (o.looksAt ops) ag f g N w):Ψ N (g d) w∧Ψ' N (g d1) w∧∀t∈o.looksAt ops,g t=cg (cg f d (g d)) d1 (g d1) t:=by
 unfold Rm at h
 simp only[ez,ao4] at h
 obtain⟨h0,h1,h2,h3⟩:=h
 refine⟨(ha d<|aoF.1 h1).2 j Ψ hU,(ha d1<|aoF.1 h2).2 i Ψ' hU',fun t ht=>?_⟩
 by_cases e1:t=d1
 ·subst e1;exact(iY _ _ _).symm
 ·rw[jD _ _ e1]
  by_cases e:t=d
  ·subst e;exact(iY _ _ _).symm
  ·rw[jD _ _ e]
   have:=an9.1 h0 t ht
   rcases aoX.1 this with h4|h4
   ·exact absurd (apc h4) e
   ·rcases aoX.1 h4 with h4|h4
    ·exact absurd (apc h4) e1
    ·exact(ha t ht).1 (by simpa using h4)
theorem yu2 (hz:KY zk=true) (Φ:PR) (j i:Nat) (hU:ag[j]? =some (d,Ψ)) (hU':ag[i]? =some (d1,Ψ')) (hd:o.dst=some d2) (hm:r5 Φ) (hf:(lu n o&&Rm ops o ag d d1)=true) (h:∀w N v v',Ext w0 w→E3 w0 N w→Ψ N v w→Ψ' N v' w→SO P n ops o (cg (cg f d v) d1 v') w (fun f' w'=>∃u,f'=cW (cg (cg f d v) d1 v') o.dst u∧Ext w w'∧Φ N u w')) (r:PZ P n ops w0 ae K rest ks ((d2,Φ)::ag) f):PZ P n ops w0 ae K (o::rest) (zk::ks) ag f:=by
 rw[ez] at hf
 refine PZ.of hz<|.inr ⟨d2,Φ,hd,hm,fun w g N hx hn ha=>?_,r⟩
 obtain⟨h1,h2,h3⟩:=abx hU hU' hf.2 ha
 exact SO.rW (R:=fun v w'=>Φ N v w') (h w N (g d) (g d1) hx hn h1 h2) (gx hf.1).1 h3 (gx hf.1).2
theorem yf (hf:(lu n o&&D8 ops o ag)=true) (h:∀w,ae w→SO P n ops o f w (fun f' w'=>f'=cW f o.dst X∧w'=w)) (r:PZ P n ops w0 ae K rest ks ag (cW f o.dst X)):PZ P n ops w0 ae K (o::rest) (.f::ks) ag f:=by
 rw[ez] at hf
 refine⟨X,fun w g hI ha=>?_,hf.2,r⟩
 refine(SO.rW (R:=fun v w'=>v=X∧w'=w) ((h w hI).mono fun f' w' hq=>⟨X,hq.1,by rw[hq.2];exact Ext.refl w,J,hq.2⟩) (gx hf.1).1 (fun t ht=>(ha t ht).2) (gx hf.1).2).mono ?_
 rintro f' w' ⟨v,rfl, -,rfl,rfl⟩
 exact⟨J,J⟩
theorem e3 {f:aO}:f=f∧w=w:=⟨rfl,rfl⟩
theorem yn {z:Array Value} {T:TypeId} (hd:o.dst=some d) (hf:(lu n o&&D8 ops o ag)=true) (h:∀w,SO P n ops o f w (fun f' w'=>∃v,f'=cW f o.dst v∧Ext w w'∧NC z T w v w')) (r:PZ P n ops w0 ae K rest ks ((d,Kh w0 z T)::ag) f):PZ P n ops w0 ae K (o::rest) (.n::ks) ag f:=by
 rw[ez] at hf
 exact⟨d,z,T,hd,hf.2,fun w g hx ha=>SO.rW (R:=fun v w'=>NC z T w v w') (h w) (gx hf.1).1 ha (gx hf.1).2,r⟩
end
section
variable {P:Program} {n:Nat} {ops:Array Oper} {w w0:aG} {ae:aG→Prop} {f:aO} {o:Oper} {rest:dh} {d:Nat} {T ty:TypeId} {ps:String} {af:Array Edge} {x:Operand} {v z:Value} {size bytes:Nat} {agg:Bool}
theorem PY (F:ep P T size agg bytes z):SO P n ops ⟨some d,.alloc T,ty,ps,af,none⟩ f w (fun f' w'=>∃v,f'=cW f (some d) v∧Ext w w'∧NC z.cells T w v w'):=
 SO.value (v:=.pointer (some ⟨w.heap.size,0,none⟩)) (w':=w.alloc (.cells z.cells T)) (by simp[execOp,Instr.alloc,F.um,Bf]) ⟨_,rfl,Ext.alloc w _,_,rfl,an3 _,heap_alloc_new w _⟩
theorem ke (h:SO P n ops o f w (fun f' w'=>ae w'∧WE P n ops ae K rest f' w')):WE P n ops ae K (o::rest) f w:=h
theorem kc (h:SO P n ops o f w (fun f' w'=>WE P n ops (fun _=>True) K rest f' w')):WE P n ops (fun _=>True) K (o::rest) f w:=h.mono fun _ _ h=>⟨trivial,h⟩
theorem kz (h:K f w):WE P n ops ae K [] f w:=h
end
section
variable {M0:bY} {zT w w':aG} {l:List Item}
theorem HI.lays (H:HI M0 zT w l) (x:Ext w w') (bs:List (Nat×Array Value×TypeId)) (hb:∀q∈bs,w.heap.size≤q.1∧w'.heap[q.1]? =some (.cells q.2.1 q.2.2 (0,0))) (hn:(bs.map (·.1)).Nodup):
  HI M0 zT w' (bs.map (fun q=>box q.1 q.2.1 q.2.2)++l):=by
 have pI:∀q∈bs,q.1<w'.heap.size:=fun q hq=>(aor.1 (hb q hq).2).1
 have YB:(bs.map (fun q=>box q.1 q.2.1 q.2.2)).filterMap (·.jI)=bs.map (·.1):=by
  clear hb hn pI
  induction bs with
  |nil=>rfl
  |cons q bs ih=>simp only[aoq,aoQ,ih];rfl
 refine⟨H.below.trans x,H.m0,?_,?_,?_⟩
 ·intro it hit b B2
  rcases aot.1 hit with h|h
  ·obtain⟨q,hq,rfl⟩:=aoE.1 h
   cases B2
   exact⟨Nat.le_trans H.below.size (hb q hq).1,pI q hq⟩
  ·exact⟨(H.jl it h b B2).1,aox (H.jl it h b B2).2 x.size⟩
 ·rw[aqi,YB,apL]
  refine⟨hn,H.nodup,?_⟩
  intro b pK c hc e
  subst e
  obtain⟨q,hq,rfl⟩:=aoE.1 pK
  obtain⟨it,hit,BZ⟩:=aou.1 hc
  have:=(H.jl it hit _ BZ).2
  have:=(hb q hq).1
  omega
 ·intro it hit
  rcases aot.1 hit with h|h
  ·obtain⟨q,hq,rfl⟩:=aoE.1 h
   exact(hb q hq).2
  ·refine it.lift (H.all it h) ⟨x.size,fun c hc hM=>⟨x.block c hc,?_⟩⟩ fun c hc=>x.block c (H.jl it h c hc).2
   rintro(MD|⟨j,hj,xG⟩)
   ·exact hM<|.inl MD
   ·rcases aot.1 hj with hj|hj
    ·obtain⟨q,hq,rfl⟩:=aoE.1 hj
     cases xG
     have:=(hb q hq).1
     omega
    ·exact hM<|.inr ⟨j,hj,xG⟩
end
def MN (M N:bY) (c:Nat):Prop:=M c∨N c
section
variable {α:Type} [GT α] {M N N':bY} {w0 w w':aG} {v:Value} {x:α}
theorem ku (h:RV M w0 v x) (e:Ext w0 w) (hN:∀c,N c→w0.heap.size≤c∧c<w.heap.size):RV (MN M N) w v x:=
 h.lift ⟨e.size,fun c hc hn=>⟨e.block c hc,by
  rintro(h1|h1)
  ·exact hn h1
  ·have:=(hN c h1).1;omega⟩⟩
theorem kO (hM:∀b,M b→b<w0.heap.size) (e:Ext w0 w) (hN:∀c,N c→w0.heap.size≤c∧c<w.heap.size):∀b,MN M N b→b<w.heap.size:=by
 rintro b (h|h)
 ·exact aox (hM b h) e.size
 ·exact(hN b h).2
theorem ij (h:RV (MN M N) w v x) (k:∀b,N' b→N b∨w.heap.size≤b):RV (MN M N') w v x:=
 h.lift ⟨an3 _,fun c hc hn=>⟨rfl,by
  rintro(h1|h1)
  ·exact hn<|.inl h1
  ·rcases k c h1 with h2|h2
   ·exact hn<|.inr h2
   ·omega⟩⟩
end
def U_ (w0 w:aG) (N:bY) (bs:List (Nat×Array Value×TypeId)):Prop:=∀q∈bs,w0.heap.size≤q.1∧w.heap[q.1]? =some (.cells q.2.1 q.2.2 (0,0))∧N q.1
theorem PK {w0:aG}:U_ w0 w N []:=fun _ h=>by cases h
theorem PJ {w0:aG} {bs:List (Nat×Array Value×TypeId)} {z:Array Value} {T:TypeId} (h1:w0.heap.size≤b) (h2:w.heap[b]? =some (.cells z T (0,0))) (h3:N b) (h:U_ w0 w N bs):U_ w0 w N ((b,z,T)::bs):=by
 intro q hq
 rcases aoh.1 hq with rfl|hq
 ·exact⟨h1,h2,h3⟩
 ·exact h q hq
theorem O1:b∉([]:List Nat):=by simp
theorem O3:([]:List Nat).Nodup:=aq0
theorem O2 {l:List Nat} (h:b∉l) (h1:l.Nodup):(b::l).Nodup:=ao8.2 ⟨h,h1⟩
theorem HI.D4 {M0:bY} {zT w':aG} {l:List Item} {bs:List (Nat×Array Value×TypeId)} (H:HI M0 zT w l) (x:Ext w w') (hb:U_ w w' N bs) (hn:(bs.map (·.1)).Nodup):HI M0 zT w' (bs.map (fun q=>box q.1 q.2.1 q.2.2)++l):=
 H.lays x bs (fun q hq=>⟨(hb q hq).1,(hb q hq).2.1⟩) hn
theorem Z0 {α:Type} [GT α] {M0 N:bY} {l:List Item} {w:aG} {v:Value} {x:α} (bs:List (Nat×Array Value×TypeId)) (h:RV (MN (MS M0 l) N) w v x) (hb:∀q∈bs,N q.1):RV (MS M0 (bs.map (fun q=>box q.1 q.2.1 q.2.2)++l)) w v x:=
 h.lift (Up.less fun c hc hn=>by
  rcases hn with h1|⟨it,hit,BZ⟩
  ·exact .inl (.inl h1)
  ·rcases aot.1 hit with h2|h2
   ·obtain⟨q,hq,rfl⟩:=aoE.1 h2
    cases BZ
    exact .inr (hb q hq)
   ·exact .inl (.inr ⟨it,h2,BZ⟩))
theorem se {α:Type} [GT α] {M0 N:bY} {l:List Item} {w0 w:aG} {v:Value} {x:α} {bs:List (Nat×Array Value×TypeId)} (h:RV (MN (MS M0 l) N) w v x) (hb:U_ w0 w N bs):RV (MS M0 (bs.map (fun q=>box q.1 q.2.1 q.2.2)++l)) w v x:=
 Z0 bs h fun q hq=>(hb q hq).2.2
theorem Z2 {α:Type} [GT α] {M0:bY} {l:List Item} {it:Item} {w:aG} {v:Value} {x:α} (h:it.jI=none) (r:RV (MS M0 l) w v x):RV (MS M0 (it::l)) w v x:=by rw[aH h];exact r
end Go.Ew
namespace Go.Ew
open Go.RowKit Go.IntWalk
theorem ieq {v:Value} {kk:IntKind} {a b:Int} (h:v=.int kk a) (e:a=b):v=.int kk b:=e▸h
theorem Ot {v:Value} {a b:bp} (h:v=ag a) (e:a=b):v=ag b:=e▸h
theorem fX {b:Bool} (h:(!b)=true):b=false:=by cases b<;>simp_all
theorem fw {b:Bool} (h:(!b)=false):b=true:=by cases b<;>simp_all
theorem gP.ext {α:Type} [GT α] {M:bY} {w w':aG} {ad:Addr} {x:α} (h:gP M w ad x) (e:Ext w w'):gP M w' ad x:=by
 obtain⟨cs,h1,h2⟩:=h
 refine⟨cs,GT.lift h1 (Up.ext e),fun j v hv=>?_⟩
 have hc:=h2 j v hv
 exact(World.cell?_of_block<|e.block _<|pQ hc).trans hc
theorem GC {α:Type} [GT α] (M:bY) (w:aG):RS M w (.slice none 0 0) ([]:List α):=⟨none,0,0,rfl,rfl,an3 _,by simp[maxLen],.inl rfl⟩
theorem eo {α:Type} [GT α] (M:bY) (w:aG):RV M w (.slice none 0 0) ([]:List α):=RV.list.2 (GC M w)
theorem bP {M0:bY}:MS M0 []=M0:=by funext b;simp[MS]
class Flat (α:Type) [GT α]:Prop where
 flat:∀{M w M' w' cs} {x:α},GT.rep M w cs x→GT.rep M' w' cs x
instance :Flat Int:=⟨fun h=>h⟩
instance :Flat bp:=⟨fun h=>h⟩
instance :Flat (BitVec 8):=⟨fun h=>h⟩
instance :Flat Bool:=⟨fun h=>h⟩
instance :Flat bh:=⟨fun h=>h⟩
instance {α β:Type} [GT α] [GT β] [Flat α] [Flat β]:Flat (α×β):=⟨fun h=>by
 obtain⟨c1,c2,h0,h1,h2⟩:=h
 exact⟨c1,c2,h0,Flat.flat h1,Flat.flat h2⟩⟩
theorem bz.flat {α:Type} [GT α] [Flat α] {M M':bY} {w w':aG}:∀{xs:List α} {cs:List Value},bz M w cs xs→bz M' w' cs xs
 |[],_,h=>h
 |x::xs,cs,⟨c1,c2,h1,h2,h3⟩=>⟨c1,c2,h1,Flat.flat h2,bz.flat h3⟩
section
variable {M0:bY} {w0 w w':aG} {l l':List Item} {α:Type} [GT α] {v:Value} {xs:List α} {x:α} {e:TypeId} {ad:Addr}
theorem HI.rv (H:HI M0 w0 w l) (i:Nat) (hi:l[i]? =some (tq v x)):RV (MS M0 l) w v x:=H.at_ i hi
theorem HI.UQ (H:HI M0 w0 w l) (i:Nat) (hi:l[i]? =some (pR ad x)):At (MS M0 l) w ad x:=H.at_ i hi
theorem HI.fl (H:HI M0 w0 w l) (i:Nat) (hi:l[i]? =some (tq v x)):RV M0 w v x:=(H.rv i hi).lift H.out
theorem HI.mD (H:HI M0 w0 w l) (i:Nat) (hi:l[i]? =some (own w0.heap.size e v xs)):RV M0 w v xs:=H.aae i hi (fun _ _ _ _=>trivial)
theorem yF {β γ:Type} (g:β→Option γ):∀(is:List β),is.Nodup→(∀i∈is,∀j∈is,∀b,g i=some b→g j=some b→i=j)→(is.filterMap g).Nodup
 |[],_,_=>aq0
 |i::is,hn,hg=>by
  have Ms:=ao8.1 hn
  have ih:=yF g is Ms.2<|fun a ha b hb=>hg a (aow _ ha) b<|aow _ hb
  rw[aoQ]
  cases hgi:g i with
  |none=>exact ih
  |some b=>
   refine ao8.2 ⟨fun hm=>?_,ih⟩
   obtain⟨j,hj,hgj⟩:=aou.1 hm
   have:=hg i (aoO) j (aow _ hj) b hgi hgj
   exact Ms.1<|this▸hj
theorem HI.bV (H:HI M0 w0 w l) (is:List Nat) (hn:is.Nodup) (he:is.filterMap (fun i=>l[i]?)=l'):HI M0 w0 w l':=by
 subst he
 refine H.pick _ (fun it hit=>?_) ?_
 ·obtain⟨i,_,hi⟩:=aou.1 hit
  exact dz hi
 ·rw[List.filterMap_filterMap]
  refine yF _ is hn fun i _ j _ b hi hj=>?_
  obtain⟨a,ha,JP⟩:=aqH.1 hi
  obtain⟨c,hc,hcb⟩:=aqH.1 hj
  exact im (·.jI) l H.nodup i j a c ha hc (by rw[JP];rfl)<|by rw[JP,hcb]
end
theorem lW.rest {P:Program} {n:Nat} {l:dh} {k:Nat} {Φ:List (Value→aG→Prop)} {f0:aO} {w0:aG} {i:Nat} (h:Nat.ble k i=true):∀r,lW P n l k Φ f0 w0 i r:=by
 intro r
 induction r generalizing i with
 |nil=>trivial
 |cons o r ih=>
  refine⟨fun hb=>?_,ih ?_⟩
  ·simp at h hb;omega
  ·simp at h ⊢;omega
theorem afn.rv {α:Type} [GT α] {e:TypeId} {w w':aG} {xs:List α} {v:Value} {M:bY} (h:afn e w xs v w') (hM:∀b,M b→b<w.heap.size):RV M w' v xs:=by
 obtain⟨_,hb,ho⟩:=h
 refine Ac ho (fun b _ vm=>.inl (hM b vm))<|fun b v8 hMb=>?_
 obtain⟨cs,h1,_⟩:=ho
 have:=(h1.lt b v8).1
 have:=hM b hMb
 omega
section
variable {P:Program} {n:Nat} {fn:Func} {R:Value→aG→Prop} {f:aO} {w w0:aG} {M0:bY} {l:List Item} {agg:Bool} {bytes:Nat} {z:Value} {k:Nat}
theorem pT {t:Nat} (h:Nat.blt t n=true):(cj n f).tmps.getD t undef=f t:=AY h
theorem uo {T:TypeId} {b:Nat} {cs:Array Value} {ty:TypeId} (H:HI M0 w0 w l) (i:Nat) (hi:l[i]? =some (box b cs ty)) (F:ep P T k agg bytes z) (hk:agg=false→k=1) (hl:((cs.toList.drop 0).take k).length=k):
  (loadVar T ⟨b,0,none⟩).run P w=.ok (sF agg ((cs.toList.drop 0).take k)) w:=by
 have hb:w.heap[b]? =some (.cells cs ty (0,0)):=H.at_ i hi
 refine rI F hk hl fun j u hu=>?_
 rw[show (⟨b,0,none⟩:Addr).add j=⟨b,j,none⟩ from by unfold Addr.add;split<;>simp_all,cell_of_row w b j cs ty (0,0) hb]
 have hj:j<k:=by
  have:=(dJ.1 hu).1
  omega
 rw[aov,an4 hj,aoG] at hu
 simpa using hu
theorem ph {T:TypeId} {b:Nat} {cs:Array Value} {ty:TypeId} {p:Nat} (H:HI M0 w0 w l) (i:Nat) (hi:l[i]? =some (box b cs ty)) (F:ep P T k agg bytes z) (hr:fn.results=#[.cell p T]) (hp:Nat.blt p n=true) (hx:f p=.pointer (some ⟨b,0,none⟩)) (hl:((cs.toList.drop 0).take k).length=k) (hk:agg=false→k=1)
  (h:R (sF agg ((cs.toList.drop 0).take k)) w):si P n fn R .ret (cj n f) w:=by
 refine⟨f,J,_,?_,h⟩
 have h:=uo (P:=P) H i hi F hk hl
 have h0:(cj n f).tmps.getD p undef=.pointer (some ⟨b,0,none⟩):=by rw[pT hp,hx]
 simp only[results,hr,aqK]
 simp only[aq1,aq9]
 simp[h,h0,asAddr]
theorem iy {T:TypeId} {b:Nat} {cs:Array Value} {ty:TypeId} {p t:Nat} (H:HI M0 w0 w l) (i:Nat) (hi:l[i]? =some (box b cs ty)) (F:ep P T k agg bytes z) (hr:fn.results=#[.cell p T,.tmp t]) (hp:Nat.blt p n=true) (ht:Nat.blt t n=true) (hx:f p=.pointer (some ⟨b,0,none⟩)) (hl:((cs.toList.drop 0).take k).length=k) (hk:agg=false→k=1)
  (h:R (.tuple #[sF agg ((cs.toList.drop 0).take k),f t]) w):si P n fn R .ret (cj n f) w:=by
 refine⟨f,J,_,?_,h⟩
 have h:=uo (P:=P) H i hi F hk hl
 have h0:(cj n f).tmps.getD p undef=.pointer (some ⟨b,0,none⟩):=by rw[pT hp,hx]
 have h2:=pT (f:=f) ht
 simp only[results,hr,aqK]
 simp only[aq1,aq9]
 simp[h,h0,asAddr,h2]
theorem rc4 {T:TypeId} {b:Nat} {cs:Array Value} {ty:TypeId} {p t t2 t3:Nat} (H:HI M0 w0 w l) (i:Nat) (hi:l[i]? =some (box b cs ty)) (F:ep P T k agg bytes z) (hr:fn.results=#[.cell p T,.tmp t,.tmp t2,.tmp t3]) (hp:Nat.blt p n=true) (ht:Nat.blt t n=true) (Tf:Nat.blt t2 n=true) (ht3:Nat.blt t3 n=true) (hx:f p=.pointer (some ⟨b,0,none⟩)) (hl:((cs.toList.drop 0).take k).length=k) (hk:agg=false→k=1)
  (h:R (.tuple #[sF agg ((cs.toList.drop 0).take k),f t,f t2,f t3]) w):si P n fn R .ret (cj n f) w:=by
 refine⟨f,J,_,?_,h⟩
 have h:=uo (P:=P) H i hi F hk hl
 have h0:(cj n f).tmps.getD p undef=.pointer (some ⟨b,0,none⟩):=by rw[pT hp,hx]
 have h2:=pT (f:=f) ht
 have h3:=pT (f:=f) Tf
 have h4:=pT (f:=f) ht3
 simp only[results,hr,aqK]
 simp only[aq1,aq9]
 simp[h,h0,asAddr,h2,h3,h4]
theorem r3 {t t2 t3:Nat} (hr:fn.results=#[.tmp t,.tmp t2,.tmp t3]) (ht:Nat.blt t n=true) (Tf:Nat.blt t2 n=true) (ht3:Nat.blt t3 n=true)
  (h:R (.tuple #[f t,f t2,f t3]) w):si P n fn R .ret (cj n f) w:=by
 refine⟨f,J,_,?_,h⟩
 have h2:=pT (f:=f) ht
 have h3:=pT (f:=f) Tf
 have h4:=pT (f:=f) ht3
 simp only[results,hr,aqK]
 simp only[aq1,aq9]
 simp[h2,h3,h4]
end
theorem Ip {α:Type} [GT α] {M:bY} {w:aG} {a:Option Addr} {n c:Nat} {xs:List α} (h:RV M w (.slice a n c) xs) (ha:a.isNone=true):xs=[]:=by
 cases a with
 |some _=>cases ha
 |none=>
  obtain⟨a,m,c',e,h2, -, -,h5⟩:=RV.list.1 h
  injection e with e1 e2 e3
  subst e1
  rcases h5 with h5|⟨ad,h5, -⟩
  ·exact ao5.1<|h2.trans h5
  ·cases h5
end Go.Ew
