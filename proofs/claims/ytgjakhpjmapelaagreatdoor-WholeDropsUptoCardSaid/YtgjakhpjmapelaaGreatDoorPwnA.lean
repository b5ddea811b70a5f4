/- Engine, part A: a frame's temporaries as a function; single operations in continuation form; regions, loops, cuts. Independent of any program. -/
import Derived.WalkKit
import Derived.Deep.LoopGhost
import Derived.Maps.AppendAt
set_option linter.unusedVariables false
set_option linter.unusedSimpArgs false
namespace Go.Ew
theorem J.{u}{α:Sort u}{a:α}:a=a:=rfl
abbrev ani:=@congrArg
abbrev anj:=@List.length_set
abbrev ank:=@decide_eq_true_eq
abbrev anl:=@Nat.le_refl
abbrev anm:=@Option.some.inj
abbrev ann:=@if_pos
abbrev ano:=@List.mem_range
abbrev anp:=@if_neg
abbrev anq:=@decide_eq_true
abbrev anr:=@List.all_eq_true
abbrev ans:=@decide_eq_false
abbrev ant:=@List.take_of_length_le
abbrev anu:=@List.getElem?_map
abbrev anv:=@Bool.or_eq_true
abbrev anw:=@decide_eq_false_iff_not
abbrev anx:=@Option.some.injEq
abbrev anz:=@List.getElem?_eq_none
abbrev anA:=@List.getElem?_cons_zero
abbrev anB:=@List.getElem?_set_self
abbrev anC:=@List.mem_cons
abbrev anD:=@List.mem_filter
abbrev anE:=@List.mem_iff_getElem?
abbrev anF:=@List.findIdx?_eq_some_iff_getElem
abbrev anG:=@List.getElem?_cons_succ
abbrev anH:=@Bool.eq_iff_iff
abbrev anI:=@List.length_drop
abbrev anJ:=@Option.isSome_iff_exists
abbrev anK:=@List.mem_append
abbrev anL:=@Option.map_eq_some_iff
abbrev anM:=@List.map_cons
abbrev anN:=@List.mem_filterMap
abbrev anO:=@List.getElem?_take
abbrev anP:=@List.mem_cons_of_mem
abbrev anQ:=@Array.getElem?_eq_some_iff
abbrev anR:=@Nat.lt_of_lt_of_le
abbrev anS:=@List.getElem?_set_ne
abbrev anT:=@List.ext_getElem?
abbrev anU:=@List.append_assoc
abbrev anV:=@List.any_eq_true
abbrev anW:=@List.length_map
abbrev anX:=@Int.toNat_of_nonneg
abbrev anY:=@List.contains_iff_mem
abbrev anZ:=@List.take_add_one
abbrev an0:=@Nat.add_zero
abbrev an1:=@Prod.mk.injEq
abbrev an2:=@List.getElem?_drop
abbrev an3:=@Classical.byContradiction
abbrev an4:=@Array.length_toList
abbrev an5:=@Nat.zero_add
abbrev an6:=@List.mem_map
abbrev an7:=@of_decide_eq_true
abbrev an8:=@List.mem_cons_self
abbrev an9:=@List.filterMap_cons
abbrev an_:=@List.mem_or_eq_of_mem_set
abbrev an':=@Nat.add_mul
abbrev aoa:=@if_false
abbrev aob:=@List.replicate_succ
abbrev aoc:=@Bool.or_eq_true_iff
abbrev aod:=@List.take_length
abbrev aoe:=@Bool.true_and
abbrev aof:=@List.drop_eq_getElem_cons
abbrev aog:=@List.drop_drop
abbrev aoh:=@List.getElem?_take_of_lt
abbrev aoi:=@List.getElem?_range
abbrev aoj:=@List.length_filter_le
abbrev aok:=@List.length_eq_zero_iff
abbrev aol:=@Nat.sub_self
abbrev aom:=@Nat.mul_le_mul_right
abbrev aon:=@Nat.min_eq_left
abbrev aoo:=@List.nodup_cons
abbrev aop:=@List.cons.injEq
abbrev aoq:=@List.filter_eq_nil_iff
abbrev aor:=@List.map_congr_left
abbrev aos:=@Bool.not_eq_true'
abbrev aot:=@Nat.le_of_ble_eq_true
abbrev aou:=@Nat.eq_of_beq_eq_true
abbrev aov:=@List.take_append_drop
abbrev aow:=@List.mem_append_right
abbrev aox:=@Array.getElem?_toList
abbrev aoy:=@Option.map_some
abbrev aoz:=@List.mem_singleton
abbrev aoA:=@decide_eq_decide
abbrev aoB:=@List.mem_of_mem_take
abbrev aoC:=@List.mem_append_left
abbrev aoD:=@Nat.zero_le
abbrev aoE:=@List.getElem?_set
abbrev aoF:=@List.flatten_cons
abbrev aoG:=@List.getElem!_eq_getElem?_getD
abbrev aoH:=@List.set_append_right
abbrev aoI:=@List.take_append_of_le_length
abbrev aoJ:=@List.eq_nil_of_length_eq_zero
abbrev aoK:=@Nat.lt_succ_self
abbrev aoL:=@List.find?_eq_none
abbrev aoM:=@List.filter_append
abbrev aoN:=@Bool.or_false
abbrev aoO:=@List.take_take
abbrev aoP:=@Bool.or_eq_false_iff
abbrev aoQ:=@List.size_toArray
abbrev aoR:=@List.flatMap_cons
abbrev aoS:=@List.range_succ
abbrev aoT:=@List.append_nil
abbrev aoU:=@List.drop_eq_nil_of_le
abbrev aoV:=@List.ext_getElem
abbrev aoW:=@of_decide_eq_false
abbrev aoX:=@if_true
abbrev aoY:=@BitVec.eq_of_toNat_eq
abbrev aoZ:=@List.findIdx?_eq_none_iff
abbrev ao0:=@Nat.lt_succ_iff_lt_or_eq
abbrev ao1:=@List.mem_of_mem_drop
abbrev ao2:=@List.map_append
abbrev ao3:=@Array.eq_empty_of_size_eq_zero
abbrev ao4:=@List.nodup_append
abbrev ao5:=@List.any_eq_false
abbrev ao6:=@List.getElem?_replicate
abbrev ao7:=@List.flatMap_append
abbrev ao8:=@Array.getInternal_eq_getElem
abbrev ao9:=@List.set_cons_zero
abbrev ao':=@BitVec.toNat_ofInt
abbrev apa:=@Nat.not_lt_zero
abbrev apb:=@List.length_singleton
abbrev apc:=@List.getElem?_zipWith
abbrev apd:=@Bool.false_or
abbrev ape:=@Array.getElem?_append_left
abbrev apf:=@List.length_range
abbrev apg:=@List.foldl_append
abbrev aph:=@Nat.shiftRight_eq_div_pow
abbrev api:=@List.mem_iff_getElem
abbrev apj:=@List.getElem?_of_mem
abbrev apk:=@List.take_zero
abbrev apl:=@not_true
abbrev apm:=@List.map_toArray
abbrev apn:=@BitVec.toNat_ushiftRight
abbrev apo:=@BitVec.eq_of_getLsbD_eq
abbrev apq:=@Nat.lt_irrefl
abbrev apr:=@Nat.blt_eq
abbrev aps:=@Bool.not_eq_false'
abbrev apt:=@BitVec.getLsbD_and
abbrev apu:=@Nat.mul_one
abbrev apv:=@List.find?_eq_some_iff_append
abbrev apw:=@List.filter_congr
abbrev apx:=@List.filterMap_append
abbrev apy:=@Option.getD_some
abbrev apz:=@Nat.mod_eq_of_lt
abbrev apA:=@Nat.div_eq_of_lt
abbrev apC:=@List.take_append
abbrev apD:=@List.nodup_range
abbrev apE:=@List.getElem_mem
abbrev apF:=@List.contains_eq_mem
abbrev apG:=@List.cons_append
abbrev apH:=@List.findSome?_eq_none_iff
abbrev apI:=@Bool.not_true
abbrev apJ:=@BitVec.toInt_eq_toNat_cond
abbrev apK:=@ne_eq
abbrev apL:=@List.take_left'
abbrev apM:=@List.mem_of_find?_eq_some
abbrev apN:=@List.foldl_cons
abbrev apO:=@or_false
abbrev apP:=@Nat.zero_mul
abbrev apR:=@Nat.mul_comm
abbrev apS:=@List.getElem_range
abbrev apT:=@List.Nodup.sublist
abbrev apU:=@Bool.false_ne_true
abbrev apV:=@BitVec.getLsbD_shiftLeft
abbrev apW:=@List.drop_zero
abbrev apX:=@Option.bind_eq_some_iff
abbrev apY:=@Option.isSome_map
abbrev apZ:=@Nat.lt_trichotomy
abbrev ap0:=@List.mapM_toArray
abbrev ap1:=@List.getElem_cons_drop
abbrev ap2:=@Nat.add_assoc
abbrev ap3:=@List.sum_cons
abbrev ap4:=@List.getElem_set
abbrev ap5:=@List.all_reverse
abbrev ap6:=@Bool.and_eq_false_iff
abbrev ap7:=@Nat.sub_zero
abbrev ap8:=@Nat.lt_or_ge
abbrev ap9:=@Nat.ble_eq
abbrev ap_:=@List.findIdx?_append
abbrev ap':=@Int.emod_nonneg
abbrev aqa:=@Array.getElem_toList
abbrev aqb:=@List.drop_append_of_le_length
abbrev aqc:=@List.flatten_append
abbrev aqd:=@List.filter_eq_self
abbrev aqe:=@List.nodup_nil
abbrev aqf:=@List.mapM_cons
abbrev aqg:=@List.drop_take
abbrev aqh:=@Bool.false_and
abbrev aqi:=@Bool.and_false
abbrev aqj:=@false_and
abbrev aqk:=@Nat.eq_zero_or_pos
abbrev aql:=@List.filterMap_map
abbrev aqm:=@Bool.false_eq_true
abbrev aqn:=@List.mapM_nil
abbrev aqo:=@Bool.and_true
abbrev aqp:=@Array.size_append
abbrev aqq:=@true_and
abbrev aqr:=@getElem!_pos
abbrev aqs:=@false_or
abbrev aqt:=@Nat.min_le_right
abbrev aqu:=@Nat.lt_trans
abbrev aqv:=@List.not_mem_nil
abbrev aqw:=@List.mem_flatMap
abbrev aqx:=@Nat.le_succ
abbrev aqy:=@Int.le_refl
theorem aq {p:Prop} (h:p:=by omega):p:=h
theorem aw {p:Prop} (h:p:=by decide):p:=h
theorem bh {p:Prop} (h:p:=by simp):p:=h
theorem bq {p:Prop} (h:p:=by assumption):p:=h
theorem eB {α:Type} {l:List α} {i:Nat} (h:i<l.length):l[i]? =some l[i]:=List.getElem?_eq_getElem h
theorem gZ {α:Type} {l:List α} {i:Nat} {a:α}:l.getD i a=(l[i]?).getD a:=List.getD_eq_getElem?_getD
theorem dC {α:Type} {l:List α} {i:Nat} {a:α}:l[i]? =some a↔∃h:i<l.length,l[i]=a:=List.getElem?_eq_some_iff
theorem dB {α:Type} {l:List α} {i:Nat} {a:α} (h:l[i]? =some a):a∈l:=List.mem_of_getElem? h
theorem eI (a b:Bool):((a&&b)=true)=(a=true∧b=true):=Bool.and_eq_true a b
theorem dv (n:Nat):(n:Int).toNat=n:=Int.toNat_natCast n
theorem fA {α:Type} {a b:List α}:(a++b).length=a.length+b.length:=List.length_append
theorem od {α:Type} {n:Nat} {a:α}:(List.replicate n a).length=n:=List.length_replicate
theorem gY {α:Type} {i:Nat} {l:List α}:(l.take i).length=min i l.length:=List.length_take
theorem og {α:Type} {a b:List α} {n:Nat} (h:a.length≤n):(a++b)[n]? =b[n-a.length]?:=List.getElem?_append_right h
theorem iM {α:Type} {a:α} {l:List α}:(a::l).length=l.length+1:=List.length_cons
theorem gr {α:Type}:([]:List α).length=0:=List.length_nil
theorem oT {α:Type} {a b:List α} {n:Nat} (h:n<a.length):(a++b)[n]? =a[n]?:=List.getElem?_append_left h
open Go.RowKit
abbrev aQ:=Nat→Value
def cb (f:aQ) (d:Nat) (v:Value):aQ:=fun t=>bif Nat.beq t d then v else f t
def cX (f:aQ):Option Nat→Value→aQ
 |some d,v=>cb f d v
 |none,_=>f
def b9 (n:Nat) (f:aQ):Act:=⟨Array.ofFn (fun i:Fin n=>f i),[]⟩
def ev (f:aQ):Operand→Value
 | .tmp t=>f t
 | .const v=>v
 | .global g=>.pointer (some ⟨g,0,none⟩)
 | .func k=>.func (.func k) #[] #[]
def bG (n:Nat):Operand→Bool
 | .tmp t=>Nat.blt t n
 |_=>true
theorem aN {n:Nat} {f:aQ} {x:Operand} (h:bG n x=true):(b9 n f).eval x=ev f x:=by
 cases x with
 |tmp t=>
  simp only[bG,apr] at h
  simp[Act.eval,b9,ev,h]
 |_=>rfl
theorem iR (f:aQ) (d:Nat) (v:Value):cb f d v d=v:=by simp[cb]
theorem jx (f:aQ) {d t:Nat} (v:Value) (h:t≠d):cb f d v t=f t:=by
 have:Nat.beq t d=false:=by
  cases hb:Nat.beq t d with
  |false=>rfl
  |true=>exact absurd (aou hb) h
 simp only[cb,this,cond_false]
theorem qw (n:Nat) (f:aQ) (d:Option Nat) (v:Value):(b9 n f).put d v=b9 n (cX f d v):=by
 cases d with
 |none=>rfl
 |some d=>
  simp only[Act.put,b9,cX,Act.mk.injEq,and_true]
  apply Array.ext
  ·simp
  ·intro i h1 h2
   simp only[Array.size_ofFn] at h2
   by_cases hi:i=d
   ·subst hi
    simp[cb]
   ·rw[Array.getElem_setIfInBounds_ne (by simpa using h2) aq]
    simp only[Array.getElem_ofFn]
    exact(jx f v hi).symm
theorem aaM (n:Nat) (tmps:Array Value) (h:tmps.size=n):(⟨tmps,[]⟩:Act)=b9 n (fun t=>tmps.getD t undef):=by
 simp only[b9,Act.mk.injEq,and_true]
 apply Array.ext
 ·simp[h]
 ·intro i h1 h2
  simp[h1]
def xE (ops:Array Oper) (j:Nat):Option Nat:=(ops[j]?).bind (·.dst)
theorem BY {n:Nat} {f:aQ} {ops:Array Oper} {j t:Nat} {b:Bool} (h:xE ops j=some t) (ht:Nat.blt t n=true) (hv:f t=.bool b):
  yielded ops (b9 n f).tmps j=some b:=by
 simp only[apr] at ht
 unfold xE at h
 simp[yielded,h,b9,ht,hv]
def SO (P:Program) (n:Nat) (ops:Array Oper) (o:Oper) (f:aQ) (w:World) (K:aQ→World→Prop):Prop:=
 ∀(Q:Exit→Act→World→Prop) (rest:List Oper),(∀f' w',K f' w'→wpList P ops Q rest (b9 n f') w')→wpList P ops Q (o::rest) (b9 n f) w
theorem SO.mono {P:Program} {n:Nat} {ops:Array Oper} {o:Oper} {f:aQ} {w:World} {K K':aQ→World→Prop} (h:SO P n ops o f w K) (hk:∀f' w',K f' w'→K' f' w'):SO P n ops o f w K':=
 fun Q rest hr=>h Q rest fun f' w' hK=>hr f' w' (hk f' w' hK)
section
variable {P:Program} {n:Nat} {ops:Array Oper} {f:aQ} {w:World} {K:aQ→World→Prop} {Q:Exit→Act→World→Prop} {rest:List Oper} {o:Oper}
theorem SO.value {d:Option Nat} {op:Op} {ty:TypeId} {ps:String} {af:Array Edge} {v:Value} {w':World}
  (hr:(execOp (b9 n f).eval ⟨d,op,ty,ps,af,none⟩).run P w=.ok (.value v) w') (h:K (cX f d v) w'):SO P n ops ⟨d,op,ty,ps,af,none⟩ f w K:=by
 intro Q rest hk
 refine wpList_plain J fun K' Tl=>?_
 simp only[Oper.wp,hr,Oper.upon]
 rw[qw]
 exact Tl _ _<|hk _ _ h
theorem SO.skip {d:Option Nat} {op:Op} {ty:TypeId} {ps:String} {af:Array Edge} {w':World}
  (hr:(execOp (b9 n f).eval ⟨d,op,ty,ps,af,none⟩).run P w=.ok .skip w') (h:K (cX f d undef) w'):SO P n ops ⟨d,op,ty,ps,af,none⟩ f w K:=by
 intro Q rest hk
 refine wpList_plain J fun K' Tl=>?_
 simp only[Oper.wp,hr,Oper.upon]
 rw[qw]
 exact Tl _ _<|hk _ _ h
theorem SO.enter {d:Option Nat} {op:Op} {ty:TypeId} {ps:String} {af:Array Edge} {g:FuncId} {args:Array Value} {w':World}
  (hr:(execOp (b9 n f).eval ⟨d,op,ty,ps,af,none⟩).run P w=.ok (.enter g args) w')
  (h:Calls P g args w' fun e mB=>∃v,e=.returned v∧K (cX f d v) mB):SO P n ops ⟨d,op,ty,ps,af,none⟩ f w K:=by
 intro Q rest hk
 refine wpList_plain J fun K' Tl=>?_
 simp only[Oper.wp,hr,Oper.upon]
 refine h.mono ?_
 rintro e mB ⟨v,rfl,hv⟩
 show K' ((b9 n f).put d v) mB
 rw[qw]
 exact Tl _ _<|hk _ _ hv
theorem gy {d:Option Nat} {op:Op} {ty:TypeId} {ps:String} {af:Array Edge} {j t:Nat} {want b:Bool}
  (hj:xE ops j=some t) (ht:Nat.blt t n=true) (hv:f t=.bool b) (hb:b=want)
  (h:SO P n ops ⟨d,op,ty,ps,af,none⟩ f w K):SO P n ops ⟨d,op,ty,ps,af,some (j,want)⟩ f w K:=by
 subst hb
 intro Q rest hk
 have h1:=h Q rest hk
 have hy:=BY (n:=n) hj ht hv
 unfold wpList at h1 ⊢
 rw[ann (by simp[Region.wanted])] at h1
 rw[ann (by simp[Region.wanted,hy])]
 exact h1
theorem gn {d:Option Nat} {op:Op} {ty:TypeId} {ps:String} {af:Array Edge} {j t:Nat} {want b:Bool}
  (hj:xE ops j=some t) (ht:Nat.blt t n=true) (hv:f t=.bool b) (hb:b=!want)
  (h:K (cX f d undef) w):SO P n ops ⟨d,op,ty,ps,af,some (j,want)⟩ f w K:=by
 subst hb
 intro Q rest hk
 have hy:=BY (n:=n) hj ht hv
 unfold wpList
 rw[anp (by simp[Region.wanted,hy])]
 rw[qw]
 exact hk _ _ h
def WL (P:Program) (n:Nat) (ops:Array Oper) (Q:Exit→Act→World→Prop):List Oper→aQ→World→Prop
 |l,f,w=>wpList P ops Q l (b9 n f) w
def WC (P:Program) (n:Nat) (c:Code) (Q:Exit→Act→World→Prop) (f:aQ) (w:World):Prop:=c.wp P Q (b9 n f) w
theorem k (h:SO P n ops o f w (WL P n ops Q rest)):WL P n ops Q (o::rest) f w:=h Q rest fun _ _ h=>h
theorem z (h:Q .normal (b9 n f) w):WL P n ops Q [] f w:=wpList_nil (P:=P) (ops:=ops) h
theorem rg {id:Nat} {l:List Oper} (h:WL P n l.toArray Q l f w):WC P n (.region id l.toArray false) Q f w:=wp_region_lit h
theorem sq {x y:Code} (h:WC P n x (Exit.then (fun a w=>y.wp P Q a w) Q) f w):WC P n (.seq x y) Q f w:=wp_seq h
theorem nx {y:Code} (h:WC P n y Q f w):Exit.then (fun a w=>y.wp P Q a w) Q .normal (b9 n f) w:=h
theorem sk (h:Q .normal (b9 n f) w):WC P n .skip Q f w:=wp_skip h
theorem rt (h:Q .ret (b9 n f) w):WC P n .ret Q f w:=wp_ret h
theorem ex {id:Nat} (h:Q (.exit id) (b9 n f) w):WC P n (.exit id) Q f w:=wp_exit h
theorem bk {id:Nat} {c:Code} (h:WC P n c (Exit.inBlock id Q) f w):WC P n (.block id c) Q f w:=wp_block h
theorem aJ {id:Nat} {a:Act} (h:Q .normal a w):Exit.inBlock id Q .normal a w:=h
theorem bQ {id:Nat} {a:Act} (h:Q .ret a w):Exit.inBlock id Q .ret a w:=h
theorem bg {id:Nat} {a:Act} (h:Q .normal a w):Exit.inBlock id Q (.exit id) a w:=by
 show (if id=id then _ else _);rw[ann rfl];exact h
theorem VR {id XR:Nat} {a:Act} (gH:XR≠id) (h:Q (.exit XR) a w):Exit.inBlock id Q (.exit XR) a w:=by
 show (if XR=id then _ else _);rw[anp gH];exact h
theorem aL {next:Act→World→Prop} {a:Act} (h:Q .ret a w):Exit.then next Q .ret a w:=h
theorem aW {next:Act→World→Prop} {id:Nat} {a:Act} (h:Q (.exit id) a w):Exit.then next Q (.exit id) a w:=h
theorem cd {c:Operand} {x y:Code} {b:Bool} (hc:bG n c=true) (hv:ev f c=.bool b) (ht:b=true→WC P n x Q f w) (hf:b=false→WC P n y Q f w):WC P n (.cond c x y) Q f w:=
 wp_cond_split (by rw[aN hc,hv]) ht hf
theorem nS {c:Operand} {x y:Code} {b:Bool} (hc:bG n c=true) (hv:ev f c=.bool b) (hb:b=true) (h:WC P n x Q f w):WC P n (.cond c x y) Q f w:=
 wp_cond_true (by rw[aN hc,hv,hb]) h
theorem oQ {c:Operand} {x y:Code} {b:Bool} (hc:bG n c=true) (hv:ev f c=.bool b) (hb:b=false) (h:WC P n y Q f w):WC P n (.cond c x y) Q f w:=
 wp_cond_false (by rw[aN hc,hv,hb]) h
def WB (n:Nat) (ai:aQ→World→Prop) (Q:Exit→Act→World→Prop):Exit→Act→World→Prop
 | .normal,a,w=>∃f,a=b9 n f∧ai f w
 |e,a,w=>Q e a w
theorem cut {x y:Code} (ai:aQ→World→Prop) (h:WC P n x (WB n ai Q) f w) (h2:∀f' w',ai f' w'→WC P n y Q f' w'):WC P n (.seq x y) Q f w:=by
 refine wp_seq<|wp_mono h ?_
 intro e a w' hq
 cases e with
 |normal=>obtain⟨f',rfl,hR⟩:=hq;exact h2 f' w' hR
 |_=>exact hq
theorem Bl {ai:aQ→World→Prop} (h:ai f w):WB n ai Q .normal (b9 n f) w:=⟨f,rfl,h⟩
theorem Ib {ai:aQ→World→Prop} {a:Act} (h:Q .ret a w):WB n ai Q .ret a w:=h
def JX (n:Nat) (ag:Nat→aQ→World→Prop) (m:Nat) (Q:Exit→Act→World→Prop):Exit→Act→World→Prop
 | .normal,a,w=>∃f m',a=b9 n f∧m'<m∧ag m' f w
 |e,a,w=>Q e a w
theorem lp {c:Code} (ag:Nat→aQ→World→Prop) (m0:Nat) (h0:ag m0 f w)
  (hr:∀m f w,ag m f w→WC P n c (JX n ag m Q) f w):WC P n (.loop c) Q f w:=by
 have key:∀m,∀f w,ag m f w→∀b k cs,
   ∃e a' w',Q e a' w'∧Arrives P (lone (b.at (b9 n f) (.code c::.inLoop c::k)) cs w) b k cs e a' w':=by
  intro m
  induction m using Nat.strongRecOn with
  |_ m ih=>
   intro f w hI b k cs
   obtain⟨e,a₁,w₁,hq,CU⟩:=hr m f w hI b (.inLoop c::k) cs
   cases e with
   |normal=>
    obtain⟨f',m',rfl,ep,Yr⟩:=hq
    obtain⟨e₂,a₂,w₂,afh,Z'⟩:=ih m' ep f' w₁ Yr b k cs
    exact⟨e₂,a₂,w₂,afh,.of_steps (Steps.trans CU (.one step_inLoop)) Z'⟩
   |exit id=>exact⟨_,a₁,w₁,hq,.pass (x:=.inLoop c) rfl (fun _ _=>.inl (by simp)) CU⟩
   |goto l=>exact⟨_,a₁,w₁,hq,.pass (x:=.inLoop c) rfl (fun _ _=>.inl (by simp)) CU⟩
   |ret=>exact⟨_,a₁,w₁,hq,.pass (x:=.inLoop c) rfl (fun _ _=>.inl (by simp)) CU⟩
   |panic ch=>exact⟨_,a₁,w₁,hq,.pass (x:=.inLoop c) rfl (fun _ _=>.inl (by simp)) CU⟩
   |outgrown=>exact⟨_,a₁,w₁,hq,.pass (x:=.inLoop c) rfl (fun _ _=>.inl (by simp)) CU⟩
 intro b k cs
 obtain⟨e,a',w',hq,CU⟩:=key m0 f w h0 b k cs
 exact⟨e,a',w',hq,.of_steps (.one step_loop) CU⟩
theorem bB {ag:Nat→aQ→World→Prop} {m:Nat} (m':Nat) (hm:m'<m) (h:ag m' f w):JX n ag m Q .normal (b9 n f) w:=⟨f,m',rfl,hm,h⟩
theorem dU {ag:Nat→aQ→World→Prop} {m:Nat} {a:Act} (h:Q .ret a w):JX n ag m Q .ret a w:=h
theorem bc {ag:Nat→aQ→World→Prop} {m:Nat} {a:Act} {id:Nat} (h:Q (.exit id) a w):JX n ag m Q (.exit id) a w:=h
end
def rY (P:Program) (n:Nat) (fn:Func) (ai:Value→World→Prop):Exit→Act→World→Prop
 | .normal,a,w| .ret,a,w=>∃f,a=b9 n f∧∃v,(results fn (b9 n f).tmps).run P w=.ok v w∧ai v w
 |_,_,_=>False
def cg (ai:Value→World→Prop):Ending→World→Prop:=fun e w=>∃v,e=.returned v∧ai v w
theorem enter {P:Program} {g:FuncId} {fn:Func} {c:Code} {args:Array Value} {w:World} {ai:Value→World→Prop} (n:Nat)
  (hf:P.funcs[g]? =some fn) (hb:fn.body=some c) (hn:fn.ntmps=n) (ha:Nat.ble args.size n=true)
  (h:∀f:aQ,(∀i,(_:i<args.size)→f i=args[i])→WC P n c (rY P n fn ai) f w):Calls P g args w (cg ai):=by
 refine calls_of_wp hf hb ?_
 subst hn
 simp only[ap9] at ha
 rw[aaM fn.ntmps (args++Array.replicate (fn.ntmps-args.size) undef) (by simp;omega)]
 have h1:=h (fun t=>(args++Array.replicate (fn.ntmps-args.size) undef).getD t undef) (fun i hi=>by
  simp[ape,hi])
 refine wp_mono h1 ?_
 intro e a w' hq
 cases e with
 |normal=>obtain⟨f',rfl,v,h1,h2⟩:=hq;exact⟨rfl,v,h1,v,rfl,h2⟩
 |ret=>obtain⟨f',rfl,v,h1,h2⟩:=hq;exact⟨rfl,v,h1,v,rfl,h2⟩
 |_=>exact hq.elim
section
variable {P:Program} {n:Nat} {fn:Func} {ai:Value→World→Prop} {f:aQ} {w:World}
theorem AH {t:Nat} (h:Nat.blt t n=true):(b9 n f).tmps.getD t undef=f t:=by
 simp only[apr] at h
 simp[b9,h]
theorem r1 {t:Nat} (hr:fn.results=#[.tmp t]) (ht:Nat.blt t n=true) (h:ai (f t) w):rY P n fn ai .ret (b9 n f) w:=
 ⟨f,rfl,f t,by rw[results_tmp hr,AH ht],h⟩
theorem r2 {t u:Nat} (hr:fn.results=#[.tmp t,.tmp u]) (ht:Nat.blt t n=true) (hu:Nat.blt u n=true) (h:ai (.tuple #[f t,f u]) w):rY P n fn ai .ret (b9 n f) w:=
 ⟨f,rfl,_,by rw[results_tmp2 hr,AH ht,AH hu],h⟩
theorem r0 (hr:fn.results=#[]) (h:ai (.tuple #[]) w):rY P n fn ai .ret (b9 n f) w:=
 ⟨f,rfl,_,results_none hr _ _ _,h⟩
theorem D_ (hr:fn.results=#[]) (h:ai (.tuple #[]) w):rY P n fn ai .normal (b9 n f) w:=
 ⟨f,rfl,_,results_none hr _ _ _,h⟩
end
end Go.Ew
namespace Go.Ew
open Go.RowKit
structure Ext (w w':World):Prop extends Below w.heap.size w w' where
 drawn:w.drawn≤w'.drawn
theorem Ext.refl (w:World):Ext w w:=⟨Below.refl _ _,anl _⟩
theorem Ext.trans {a b c:World} (h:Ext a b) (k:Ext b c):Ext a c:=⟨Below.trans h.toBelow (Below.mono k.toBelow h.size),Nat.le_trans h.drawn k.drawn⟩
theorem Ext.drew (w:World):Ext w w.drew:=⟨Below.drew (Below.refl _ _),aqx _⟩
theorem Ext.alloc (w:World) (o:Obj):Ext w (w.alloc o):=⟨Below.alloc (Below.refl _ _) (anl _) o,anl _⟩
theorem Uq {α:Type} (a:Ask α):∀w:World,w.drawn≤(w.ask a).2.drawn:=by
 induction a with
 |done a=>intro w;simp only[World.ask];exact anl _
 |ask al9 range k ih=>
  intro w
  simp only[World.ask]
  split
  ·exact ih _ w
  ·exact Nat.le_trans (aqx _)<|ih _ {w with drawn:=w.drawn+1}
theorem Rz (w:World) (c:Sys):w.drawn≤(w.sys c).2.drawn:=by
 have h:=Uq (Kernel.perform c w.os) w
 unfold World.sys
 split
 ·exact anl _
 ·rename_i e;rw[e] at h;exact h
theorem TH {P:Program} {w w':World} {a:Addr} {v:Value} {b:Bool} {l:List Addr} (h:w.farStore P a v b=.ok (w',l)):w'.drawn=w.drawn:=by
 unfold World.farStore at h
 split at h
 ·split at h
  ·rename_i e
   simp only[Except.ok.injEq] at h
   subst h
   unfold World.viewStore at e
   simp only[bind,Except.bind,pure,Except.pure] at e
   repeat' (first|cases e|split at e)
   all_goals rfl
  ·cases h
 ·cases h
theorem sf {α:Type} {P:Program} (m:Sem α):∀{w w':World} {v:α},m.run P w=.ok v w'→w.drawn≤w'.drawn:=by
 induction m with
 |pure a=>intro w w' v h;simp only[Sem.run,Result.ok.injEq] at h;rw[h.2];exact anl _
 |load m a k ih=>
  intro w w' v h
  simp only[Sem.run] at h
  split at h
  ·exact ih _ h
  ·split at h
   ·exact ih _ h
   ·cases h
 |store m a u k ih=>
  intro w w' v h
  cases u<;>simp only[Sem.run] at h<;>(try (cases h;done))<;>
  ·split at h
   ·split at h
    ·cases h
    ·have:=ih h;exact this
   ·split at h
    ·rename_i e
     have:=ih h
     rw[TH e] at this
     exact this
    ·cases h
 |new o k ih=>intro w w' v h;have:=ih w.heap.size (w:={w with heap:=w.heap.push o}) h;exact this
 |shape r k ih=>intro w w' v h;exact ih (w.shape? r) h
 |freeze a n k ih=>
  intro w w' v h
  have:=ih (w:=w.freeze a n) h
  simp only[World.freeze] at this
  split at this<;>exact this
 |frozen a k ih=>intro w w' v h;exact ih (w.frozen? a) h
 |getObj r k ih=>
  intro w w' v h
  simp only[Sem.run] at h
  split at h
  ·cases h
  ·exact ih _ h
  ·cases h
 |setObj r o k ih=>
  intro w w' v h
  simp only[Sem.run] at h
  split at h
  ·cases h
  ·have:=ih h;exact this
  ·cases h
 |choose q k ih=>
  intro w w' v h
  simp only[Sem.run] at h
  split at h
  ·exact ih _ h
  ·exact Nat.le_trans (aqx _)<|ih _ (w:={w with drawn:=w.drawn+1}) h
 |sys c k ih=>intro w w' v h;exact Nat.le_trans (Rz w c) (ih _ (w:=(w.sys c).2) h)
 |program k ih=>intro w w' v h;exact ih P h
 |mark m k ih=>intro w w' v h;exact ih (w:=w) h
 |halt x=>intro w w' v h;cases h
def kN (o:Oper) (j:Nat):Bool:=o.after.toList.any fun e=>Region.binds .any e&&e.on==j
def iW (l:List Oper) (i:Nat):Nat:=(((l[i]?).bind (·.dst)).getD 0)
def jg (k:Nat) (l:List Oper):List Nat:=(l.take k).filterMap (·.dst)
def nodupB:List Nat→Bool
 |[]=>true
 |x::xs=>!xs.contains x&&nodupB xs
def qU:Nat→List Oper→Bool
 |_,[]=>true
 |i,o::r=>o.after.all (fun e=>!Region.binds .any e||Nat.blt e.on i)&&qU (i+1) r
def oF (l:List Oper):Nat→Nat→Nat→Bool
 |0,_,_=>false
 |n+1,i,m=>match l[i]? with
  |none=>false
  |some o=>kN o m||(List.range i).any fun j=>kN o j&&oF l n j m
def wA (l:List Oper) (k:Nat):Bool:=
 (Nat.ble l.length k||(List.range k).all fun m=>oF l (k+1) k m)&&
  (List.range l.length).all fun i=>Nat.ble i k||match l[i]? with
   |some o=>kN o (i-1)
   |none=>true
def Om (n k:Nat) (l:List Oper):Bool:=
 qU 0 l&&(l.take k).all (fun o=>o.dst.isSome)&&nodupB (jg k l)&&(jg k l).all (fun d=>Nat.blt d n)&&wA l k&&Nat.ble k l.length
def zJ (Φ:List (Value→World→Prop)) (i:Nat):Value→World→Prop:=Φ.getD i (fun _ _=>True)
structure DStep (P:Program) (n:Nat) (l:List Oper) (k:Nat) (Φ:List (Value→World→Prop)) (f0:aQ) (w0:World) (i:Nat) (o:Oper):Prop where
 go:∀f w,(∀t,(jg k l).contains t=false→f t=f0 t)→Ext w0 w→(∀j,kN o j=true→Nat.blt j k=true→zJ Φ j (f (iW l j)) w)→
  SO P n l.toArray o f w (fun f' w'=>∃v,f'=cX f o.dst v∧Ext w w'∧zJ Φ i v w')
 mono:∀v w w',Ext w w'→zJ Φ i v w→zJ Φ i v w'
def mj (P:Program) (n:Nat) (l:List Oper) (k:Nat) (Φ:List (Value→World→Prop)) (f0:aQ) (w0:World):Nat→List Oper→Prop
 |_,[]=>True
 |i,o::r=>(Nat.blt i k=true→DStep P n l k Φ f0 w0 i o)∧mj P n l k Φ f0 w0 (i+1) r
section
variable {P:Program} {n:Nat} {l:List Oper} {k:Nat} {Φ:List (Value→World→Prop)} {f0:aQ} {w0:World}
theorem mj.at_:∀(r:List Oper) (i:Nat),mj P n l k Φ f0 w0 i r→∀j o,r[j]? =some o→Nat.blt (i+j) k=true→DStep P n l k Φ f0 w0 (i+j) o
 |[],_,_,j,o,h,_=>by simp at h
 |x::r,i,h,0,o,hj,hk=>by
  simp only[anA,anx] at hj
  subst hj
  exact h.1 hk
 |x::r,i,h,j+1,o,hj,hk=>by
  simp only[anG] at hj
  have:=mj.at_ r (i+1) h.2 j o hj<|by rw[show i+1+j=i+(j+1) from by omega];exact hk
  rwa [show i+1+j=i+(j+1) from by omega] at this
theorem wj:∀(r:List Oper) (i:Nat),qU i r=true→∀j o,r[j]? =some o→∀e∈o.after,Region.binds .any e=true→e.on<i+j
 |[],_,_,j,o,h,_,_,_=>by simp at h
 |x::r,i,h,j,o,hj,e,he,hb=>by
  simp only[qU,eI,Array.all_eq_true_iff_forall_mem,anv,aos,apr] at h
  cases j with
  |zero=>
   simp only[anA,anx] at hj
   subst hj
   rcases h.1 e he with h1|h1
   ·rw[hb] at h1;cases h1
   ·omega
  |succ j=>
   simp only[anG] at hj
   have:=wj r (i+1) h.2 j o hj e he hb
   omega
theorem wz {o:Oper} {j:Nat}:kN o j=true↔∃e∈o.after,Region.binds .any e=true∧e.on=j:=by
 simp only[kN,anV,Array.mem_toList_iff]
 constructor
 ·rintro⟨e,he,h⟩
  simp only[eI,beq_iff_eq] at h
  exact⟨e,he,h.1,h.2⟩
 ·rintro⟨e,he,h1,h2⟩
  exact⟨e,he,by simp[h1,h2]⟩
theorem zR {l:List Oper} {k:Nat} (h:wA l k=true) {i:Nat} {o:Oper} (hk:k<i) (ho:l[i]? =some o):kN o (i-1)=true:=by
 simp only[wA,eI] at h
 have:=anr.1 h.2 i<|by rw[ano];exact(dC.1 ho).1
 rw[ho] at this
 have hf:Nat.ble i k=false:=by
  cases hb:Nat.ble i k with
  |false=>rfl
  |true=>rw[ap9] at hb;omega
 rw[hf] at this
 simpa using this
theorem JL {l:List Oper} {k:Nat} (h:wA l k=true) (hk:k<l.length) {m:Nat} (hm:m<k):oF l (k+1) k m=true:=by
 simp only[wA,eI,anv] at h
 rcases h.1 with h1|h1
 ·rw[ap9] at h1;omega
 ·exact anr.1 h1 m<|by rw[ano];exact hm
theorem Ch {l:List Oper} {listed:Array Bool} (hC:∀i o,listed.getD i false=true→l[i]? =some o→∀j,kN o j=true→listed.getD j false=true):
  ∀(n i m:Nat) (o:Oper),l[i]? =some o→(∀j,kN o j=true→listed.getD j false=true)→oF l n i m=true→listed.getD m false=true
 |0,_,_,_,_,_,h=>by cases h
 |n+1,i,m,o,ho,hd,h=>by
  simp only[oF,ho,anv] at h
  rcases h with h|h
  ·exact hd m h
  ·obtain⟨j,_,hj⟩:=anV.1 h
   simp only[eI] at hj
   have hlj:=hd j hj.1
   cases qD:l[j]? with
   |none=>
    have h2:=hj.2
    cases n with
    |zero=>cases h2
    |succ n=>simp[oF,qD] at h2
   |some o'=>exact Ch hC n j m o' qD (hC j o' hlj qD) hj.2
theorem oI:∀(l:List Nat),nodupB l=true→l.Nodup
 |[],_=>aqe
 |x::xs,h=>by
  simp only[nodupB,eI,aos] at h
  refine aoo.2 ⟨?_,oI xs h.2⟩
  intro hx
  have:=anY.2 hx
  rw[h.1] at this
  cases this
theorem FU {ops:Array Oper} {i:Nat} {o:Oper} {f:aQ} {w:World} {K:aQ→World→Prop} {Q:Exit→Act→World→Prop} {K':Act→World→Prop}
  (hi:ops[i]? =some o) (h:SO P n ops o f w K) (hk:∀f' w',K f' w'→K' (b9 n f') w'):wpOp P ops Q i K' (b9 n f) w:=by
 have h1:=h (fun e a w=>match e with| .normal=>K' a w|e=>Q e a w) []<|fun f' w' hK=>hk f' w' hK
 unfold wpOp
 simp only[hi]
 unfold wpList at h1
 split at h1
 ·rename_i hw
  rw[ann hw]
  refine h1.imp (fun h2=>?_)<|fun h2=>?_
  ·unfold Oper.wp at h2 ⊢
   generalize (execOp (b9 n f).eval o).run P w=r at *
   cases r with
   |ok x w'=>
    cases x<;>simp only[Oper.upon] at h2 ⊢<;>first
     |exact h2
     |(refine Calls.mono h2 ?_;intro e mB he;cases e<;>first|exact he|(obtain⟨a0,w1,hq⟩:=he;exact⟨a0,w1,hq⟩))
   |halt x w'=>cases x<;>simp only[Oper.upon] at h2 ⊢<;>exact h2
  ·obtain⟨ha,a0,w1,hq⟩:=h2
   exact⟨ha,a0,w1,hq⟩
 ·rename_i hw
  rw[anp hw]
  exact h1
def Xc (N m:Nat) (listed:Array Bool):Prop:=listed.size=N∧∀i,i<N→listed.getD i false=decide (i<m)
theorem qJ {listed:Array Bool} {i:Nat} (h:i<listed.size) (a b:Bool):listed.getD i a=listed.getD i b:=by
 simp[Array.getD,h]
theorem FV {Q:Exit→Act→World→Prop} (hE:qU 0 l=true) (hT:wA l k=true):
  ∀(d m:Nat) (listed:Array Bool) (a:Act) (w:World),l.length-m=d→k≤m→m≤l.length→Xc l.length m listed→wpList P l.toArray Q (l.drop m) a w→wpAny P .any l.toArray Q d listed a w:=by
 intro d
 induction d with
 |zero=>
  intro m listed a w hd hk hm hl h
  have tI:m=l.length:=by omega
  subst tI
  rw[aoU (anl _)] at h
  refine⟨?_,h⟩
  unfold Region.ready
  rw[aoq]
  intro i hi
  simp only[aoQ,ano] at hi
  have:=hl.2 i hi
  rw[show listed.getD i true=listed.getD i false from qJ (by rw[hl.1];exact hi) _ _,this]
  simp[hi]
 |succ d ih=>
  intro m listed a w hd hk hm hl h
  have tI:m<l.length:=by omega
  have jf:l[m]? =some l[m]:=eB tI
  have SU:∀i,i∈Region.ready .any l.toArray listed↔i=m:=by
   intro i
   rw[mem_ready]
   constructor
   ·rintro⟨h0,o,ho,oM⟩
    have jF:i<l.length:=by
     have:=(anQ.1 ho).1
     simpa using this
    have hnm:¬i<m:=by
     intro him
     rw[show listed.getD i true=listed.getD i false from qJ (by rw[hl.1];exact jF) _ _,hl.2 i jF] at h0
     simp[him] at h0
    by_cases him:i=m
    ·exact him
    ·exfalso
     have hoi:l[i]? =some o:=by simpa using ho
     have hb:=zR hT (i:=i) aq hoi
     obtain⟨e,he,xw,uY⟩:=wz.1 hb
     have:=oM e he xw
     rw[uY,hl.2 (i-1) aq] at this
     simp at this
     omega
   ·rintro rfl
    refine⟨?_,l[i],by simp,?_⟩
    ·rw[show listed.getD i true=listed.getD i false from qJ (by rw[hl.1];exact tI) _ _,hl.2 i tI]
     simp
    ·intro e he xw
     have:=wj l 0 hE i l[i] jf e he xw
     rw[hl.2 e.on aq]
     simp;omega
  have afl:l.drop m=l[m]::l.drop (m+1):=aof tI
  refine⟨fun h0=>?_,fun i hi=>?_⟩
  ·have:=(SU m).2 rfl
   rw[h0] at this
   cases this
  ·obtain rfl:=(SU i).1 hi
   rw[afl] at h
   have qA:Xc l.length (i+1) (listed.setIfInBounds i true):=by
    refine⟨by simp[hl.1],fun j hj=>?_⟩
    by_cases ny:i=j
    ·subst ny
     simp[hl.1,tI]
    ·rw[getD_set_ne false ny,hl.2 j hj]
     simp;omega
   unfold wpOp
   rw[show (l.toArray)[i]? =some l[i] from by simp]
   simp only
   unfold wpList at h
   split at h
   ·rename_i hw
    rw[ann hw]
    refine h.imp (Oper.wp_mono fun a w h'=>ih (i+1) _ a w aq aq aq qA h') id
   ·rename_i hw
    rw[anp hw]
    exact ih (i+1) _ _ w aq aq aq qA h
theorem qz {i:Nat} {o:Oper} (hi:l[i]? =some o) (hk:i<k) {d:Nat} (hd:o.dst=some d):d∈jg k l:=by
 unfold jg
 rw[anN]
 refine⟨o,?_,hd⟩
 have:(l.take k)[i]? =some o:=by rw[anO,ann hk];exact hi
 exact dB this
theorem hQ {α β:Type} (g:α→Option β):∀(l:List α),(l.filterMap g).Nodup→∀(i j:Nat) (a b:α),l[i]? =some a→l[j]? =some b→(g a).isSome→g a=g b→i=j
 |[],_,i,_,_,_,hi,_,_,_=>by simp at hi
 |x::xs,h,i,j,a,b,hi,hj,hs,he=>by
  have Qo:(xs.filterMap g).Nodup:=by
   rw[an9] at h
   split at h
   ·exact h
   ·exact(aoo.1 h).2
  have Bb:∀(m:Nat) (c:α),xs[m]? =some c→g x=g c→(g x).isSome→False:=by
   intro m c hm hc hx
   obtain⟨y,hy⟩:=anJ.1 hx
   rw[an9,hy] at h
   exact(aoo.1 h).1 (anN.2 ⟨c,dB hm,by rw[←hc,hy]⟩)
  cases i with
  |zero=>
   cases j with
   |zero=>rfl
   |succ j=>
    simp only[anA,anx,anG] at hi hj
    subst hi
    exact(Bb j b hj he hs).elim
  |succ i=>
   cases j with
   |zero=>
    simp only[anA,anx,anG] at hi hj
    subst hj
    exact(Bb i a hi he.symm (he▸hs)).elim
   |succ j=>
    simp only[anG] at hi hj
    rw[hQ g xs Qo i j a b hi hj hs he]
def DJ (n:Nat) (l:List Oper) (k:Nat) (Φ:List (Value→World→Prop)) (f0:aQ) (w0:World) (listed:Array Bool) (a:Act) (w:World):Prop:=
 ∃f,a=b9 n f∧(∀t,(jg k l).contains t=false→f t=f0 t)∧Ext w0 w∧(∀i,i<k→listed.getD i false=true→zJ Φ i (f (iW l i)) w)∧
  ∀i o,listed.getD i false=true→l[i]? =some o→∀j,kN o j=true→listed.getD j false=true
theorem Nf {Q:Exit→Act→World→Prop} (qd:Om n k l=true) (hS:mj P n l k Φ f0 w0 0 l)
  (vJ:∀f w,(∀t,(jg k l).contains t=false→f t=f0 t)→Ext w0 w→(∀i,Nat.blt i k=true→zJ Φ i (f (iW l i)) w)→WL P n l.toArray Q (l.drop k) f w):
  ∀(d:Nat) (listed:Array Bool) (a:Act) (w:World),listed.size=l.length→(∀i,k≤i→listed.getD i false=false)→(listed.toList.filter (fun b=>!b)).length=d→
   DJ n l k Φ f0 w0 listed a w→wpAny P .any l.toArray Q d listed a w:=by
 have acF:=qd
 simp only[Om,eI] at qd
 obtain⟨⟨⟨⟨⟨hE,hD⟩,hN⟩,hn⟩,hT⟩,z7⟩:=qd
 simp only[ap9] at z7
 intro d
 induction d with
 |zero=>
  intro listed a w pA u0 hd hJ
  have oM:∀i,i<l.length→listed.getD i false=true:=by
   intro i hi
   have h0:=aoJ hd
   rw[aoq] at h0
   have oK:i<listed.size:=by omega
   have:=h0 listed[i]<|by simp
   simp at this
   simp[Array.getD,oK,this]
  have aim:k=l.length:=by
   rcases ap8 k l.length with h|h
   ·have h1:=oM k h
    rw[u0 k (anl _)] at h1
    cases h1
   ·omega
  obtain⟨f,rfl,hf,hx,hφ,hC⟩:=hJ
  have:=vJ f w hf hx<|fun i hi=>hφ i (by simpa using hi)<|oM i<|by have h9:i<k:=(by simpa using hi);omega
  refine FV hE hT 0 l.length listed _ w aq aq (anl _) ⟨pA,fun i hi=>by rw[oM i hi];simp[hi]⟩ ?_
  rw[aim] at this
  exact this
 |succ d ih=>
  intro listed a w pA u0 hd hJ
  by_cases oM:∀i,i<k→listed.getD i false=true
  ·obtain⟨f,rfl,hf,hx,hφ,hC⟩:=hJ
   have:=vJ f w hf hx<|fun i hi=>hφ i (by simpa using hi)<|oM i<|by simpa using hi
   have qA:Xc l.length k listed:=⟨pA,fun i hi=>by
    by_cases tj:i<k
    ·rw[oM i tj];simp[tj]
    ·rw[u0 i aq];simp;omega⟩
   have Tc:d+1=l.length-k:=by
    rw[←hd]
    have hl:listed.toList=List.replicate k true++List.replicate (l.length-k) false:=by
     apply aoV
     ·simp[pA];omega
     ·intro i h1 h2
      simp only[an4] at h1
      have:=qA.2 i aq
      simp only[Array.getD,h1,dif_pos] at this
      rw[aqa]
      by_cases tj:i<k
      ·rw[List.getElem_append_left (by simpa using tj)]
       simp[ao8,tj] at this ⊢
       exact this
      ·rw[List.getElem_append_right (by simpa using tj)]
       simp[ao8,tj] at this ⊢
       exact this
    rw[hl]
    simp
   exact FV hE hT (d+1) k listed _ w aq (anl _) z7 qA this
  ·obtain⟨i0,Jg⟩:∃i,i<k∧listed.getD i false=false:=by
    apply an3
    intro Gz
    refine oM fun i hi=>?_
    cases hb:listed.getD i false with
    |true=>rfl
    |false=>exact(Gz ⟨i,hi,hb⟩).elim
   
   obtain⟨m,S4,S3⟩:=exists_least (p:=fun i=>i<k∧listed.getD i false=false) ⟨i0,Jg⟩
   have tI:m<l.length:=by omega
   have jf:l[m]? =some l[m]:=eB tI
   have BI:m∈Region.ready .any l.toArray listed:=by
    rw[mem_ready]
    refine⟨?_,l[m],by simp,fun e he hb=>?_⟩
    ·rw[show listed.getD m true=listed.getD m false from qJ aq _ _];exact S4.2
    ·have ep:=wj l 0 hE m l[m] jf e he hb
     cases vV:listed.getD e.on false with
     |true=>rfl
     |false=>
      have:=S3 e.on ⟨by omega,vV⟩
      omega
   refine⟨fun h0=>(by rw[h0] at BI;cases BI),fun i hi=>?_⟩
   obtain⟨h0,o,ho,Ac⟩:=mem_ready.1 hi
   have qb:l[i]? =some o:=by simpa using ho
   have jF:i<l.length:=(dC.1 qb).1
   have Mg:listed.getD i false=false:=by
    rw[show listed.getD i false=listed.getD i true from qJ aq _ _];exact h0
   have tj:i<k:=by
    rcases ap8 i k with h|h
    ·exact h
    ·exfalso
     obtain⟨f,rfl,hf,hx,hφ,hC⟩:=hJ
     by_cases aio:i=k
     ·subst aio
      have:=Ch hC _ i m o qb (fun j hj=>by
       obtain⟨e,he,xw,uY⟩:=wz.1 hj
       rw[←uY];exact Ac e he xw) (JL hT jF S4.1)
      rw[S4.2] at this
      cases this
     ·have hb:=zR hT (i:=i) aq qb
      obtain⟨e,he,xw,uY⟩:=wz.1 hb
      have:=Ac e he xw
      rw[uY,u0 (i-1) aq] at this
      cases this
   obtain⟨f,rfl,hf,hx,hφ,hC⟩:=hJ
   have DL:=(mj.at_ l 0 hS i o qb<|by simpa using tj)
   simp only[an5] at DL
   have hSO:=DL.go f w hf hx (fun j hj Je=>by
    obtain⟨e,he,hb,uY⟩:=wz.1 hj
    subst uY
    exact hφ e.on (by simpa using Je) (Ac e he hb))
   obtain⟨di,u2⟩:∃di,o.dst=some di:=by
    rw[anr] at hD
    have:=hD o<|dB (i:=i)<|by rw[anO,ann tj];exact qb
    exact anJ.1 this
   refine FU ho hSO fun f' w' hK=>?_
   obtain⟨v,rfl,hxw,hv⟩:=hK
   refine ih (listed.setIfInBounds i true) _ w' (by simp[pA]) (fun j hj=>?_) ?_ ?_
   ·rw[getD_set_ne false aq];exact u0 j hj
   ·
    have L4:i<listed.size:=by omega
    have ug:listed.toList[i]? =some false:=by
     rw[eB (by simpa using L4)]
     simp only[Array.getD,L4,dif_pos] at Mg
     simpa [ao8] using Mg
    have key:∀(L:List Bool) (i:Nat),L[i]? =some false→((L.set i true).filter (fun b=>!b)).length+1=(L.filter (fun b=>!b)).length:=by
     intro L
     induction L with
     |nil=>intro i h;simp at h
     |cons b L ihL=>
      intro i h
      cases i with
      |zero=>simp at h;subst h;simp
      |succ i=>
       simp at h
       have:=ihL i h
       cases b<;>simp at this ⊢<;>omega
    have:=key listed.toList i ug
    rw[Array.toList_setIfInBounds]
    omega
   ·refine⟨cX f o.dst v,J,fun t ht=>?_,hx.trans hxw,fun j Je hj=>?_,fun j oj hj qD q hq=>?_⟩
    ·rw[u2]
     have gH:t≠di:=by
      rintro rfl
      have:=qz qb tj u2
      rw[←anY,ht] at this
      cases this
     rw[show cX f (some di) v=cb f di v from rfl,jx f v gH]
     exact hf t ht
    ·have xp:j<l.length:=by omega
     have qD:l[j]? =some l[j]:=eB xp
     by_cases ny:i=j
     ·subst ny
      have:iW l i=di:=by unfold iW;rw[qb];simp[u2]
      rw[this,u2,show cX f (some di) v=cb f di v from rfl,iR]
      exact hv
     ·rw[getD_set_ne false ny] at hj
      have acd:=hφ j Je hj
      have SQ:=(mj.at_ l 0 hS j l[j] qD<|by simpa using Je)
      simp only[an5] at SQ
      obtain⟨dj,Em⟩:∃dj,(l[j]).dst=some dj:=by
       rw[anr] at hD
       have:=hD l[j]<|dB (i:=j)<|by rw[anO,ann Je];exact qD
       exact anJ.1 this
      have hDj:iW l j=dj:=by unfold iW;rw[qD];simp[Em]
      have gH:dj≠di:=by
       rintro rfl
       have lO:=oI _ hN
       unfold jg at lO
       exact ny<|hQ (·.dst) (l.take k) lO i j o l[j] (by rw[anO,ann tj];exact qb) (by rw[anO,ann Je];exact qD) (by simp[u2])<|by simp[u2,Em]
      rw[hDj] at acd ⊢
      rw[u2,show cX f (some di) v=cb f di v from rfl,jx f v gH]
      exact SQ.mono _ _ _ hxw acd
    ·have nw:listed.getD q false=true:=by
      by_cases ny:i=j
      ·subst ny
       rw[qb] at qD
       cases qD
       obtain⟨e,he,xw,uY⟩:=wz.1 hq
       rw[←uY];exact Ac e he xw
      ·rw[getD_set_ne false ny] at hj
       exact hC j oj hj qD q hq
     by_cases ti:i=q
     ·subst ti;rw[Mg] at nw;cases nw
     ·rw[getD_set_ne false ti];exact nw
def TA (P:Program) (n:Nat) (l:List Oper) (Q:Exit→Act→World→Prop) (d:Nat) (S:List Bool) (f:aQ) (w:World):Prop:=wpAny P .any l.toArray Q d S.toArray (b9 n f) w
def Rb (P:Program) (n:Nat) (l:List Oper) (Q:Exit→Act→World→Prop) (d:Nat) (S:List Bool) (f:aQ) (w:World):List Nat→Prop
 |[]=>True
 |i::r=>(∃o,l[i]? =some o∧SO P n l.toArray o f w (fun f' w'=>TA P n l Q d (S.set i true) f' w'))∧Rb P n l Q d S f w r
theorem Rb.mem {Q:Exit→Act→World→Prop} {d:Nat} {S:List Bool} {f:aQ} {w:World}:∀{ai:List Nat},Rb P n l Q d S f w ai→∀i∈ai,∃o,l[i]? =some o∧SO P n l.toArray o f w (fun f' w'=>TA P n l Q d (S.set i true) f' w')
 |[],_,i,hi=>by cases hi
 |j::r,h,i,hi=>by
  rcases anC.1 hi with rfl|hi
  ·exact h.1
  ·exact Rb.mem h.2 i hi
theorem dr {id:Nat} {Q:Exit→Act→World→Prop} {f:aQ} {w:World} (k:Nat) (Φ:List (Value→World→Prop)) (hm:P.follows .mixedOrders=true) (qd:Om n k l=true)
  (hS:mj P n l k Φ f w 0 l)
  (vJ:∀f' w',(∀t,(jg k l).contains t=false→f' t=f t)→Ext w w'→(∀i,Nat.blt i k=true→zJ Φ i (f' (iW l i)) w')→WL P n l.toArray Q (l.drop k) f' w'):
  WC P n (.region id l.toArray true) Q f w:=by
 refine wp_region_any hm ?_
 have h:=Nf (P:=P) (w0:=w) (f0:=f) (Q:=Q) qd hS vJ l.length (Array.replicate l.length false) (b9 n f) w.drew (by simp) (fun i _=>by simp[Array.getD]) (by simp) ⟨f,rfl,fun _ _=>rfl,Ext.drew w,fun i hi h=>(by
  have h2:(Array.replicate l.length false).getD i false=false:=by
   simp only[Array.getD];split<;>simp
  rw[h2] at h;cases h),fun i o h _ _ _=>(by
  have h2:(Array.replicate l.length false).getD i false=false:=by
   simp only[Array.getD];split<;>simp
  rw[h2] at h;cases h)⟩
 simpa using h
end
abbrev eV (x:Value):Value→World→Prop:=fun v _=>v=x
theorem d0 {f' f:aQ} {d:Option Nat} {v:Value} {w:World} {ai:Value→World→Prop} (e:f'=cX f d v) (h:ai v w):∃v,f'=cX f d v∧Ext w w∧ai v w:=⟨v,e,Ext.refl w,h⟩
theorem dc {P:Program} {n:Nat} {l:List Oper} {k:Nat} {Φ:List (Value→World→Prop)} {f0:aQ} {w0:World} {i:Nat} {o:Oper} {r:List Oper}
  (go:∀f w,(∀t,(jg k l).contains t=false→f t=f0 t)→Ext w0 w→(∀j,kN o j=true→Nat.blt j k=true→zJ Φ j (f (iW l j)) w)→SO P n l.toArray o f w (fun f' w'=>∃v,f'=cX f o.dst v∧Ext w w'∧zJ Φ i v w'))
  (rest:mj P n l k Φ f0 w0 (i+1) r) (mono:∀v w w',Ext w w'→zJ Φ i v w→zJ Φ i v w':=by exact fun _ _ _ _ h=>h):mj P n l k Φ f0 w0 i (o::r):=⟨fun _=>⟨go,mono⟩,rest⟩
abbrev C (x:Int):Value:=.int .i64 x
abbrev pV (b o:Nat):Value:=.pointer (some ⟨b,o,none⟩)
theorem BL:(∀b,(b&&true)=b)∧(∀b,(true&&b)=b)∧(∀b,(b&&false)=false)∧(∀b,(false&&b)=false)∧(∀b,(b||true)=true)∧(∀b,(true||b)=true)∧(∀b,(b||false)=b)∧(∀b,(false||b)=b)∧((!true)=false)∧((!false)=true)∧
  (∀(α:Type) (x y:α),cond true x y=x)∧(∀(α:Type) (x y:α),cond false x y=y)∧(∀(α:Type) (x y:α),(some x).getD y=x)∧(∀(α β:Type) (x:α) (f:α→β),(some x).map f=some (f x))∧(∀(α:Type) (l:List α) (i:Nat) (y:α),l.getD i y=(l[i]?).getD y):=by
 refine⟨?_,?_,?_,?_,?_,?_,?_,?_,J,J,fun _ _ _=>rfl,fun _ _ _=>rfl,fun _ _ _=>rfl,fun _ _ _ _=>rfl,fun _ _ _ _=>gZ⟩<;>intro b<;>cases b<;>rfl
end Go.Ew
namespace Go.Ew
open Go.RowKit Go.IntWalk
abbrev aj (x:BitVec 64):Value:=.int .u64 (x.toNat:Int)
def aM (a:Int):Prop:= -9223372036854775808≤a∧a≤9223372036854775807
theorem Rr {a:Int} (h:aM a):IntKind.i64.wrap a=a:=i64_in a h
theorem yX (a:Int):IntKind.u64.wrap a=((BitVec.ofInt 64 a).toNat:Int):=by
 rw[IntKind.wrap_u64,ao']
 have h1:(0:Int)≤a%18446744073709551616:=ap' _ aw
 show a%18446744073709551616=(((a%((2^64:Nat):Int)).toNat:Nat):Int)
 rw[show ((2^64:Nat):Int)=18446744073709551616 from rfl,anX h1]
theorem n5 (x:BitVec 64):BitVec.ofInt 64 (x.toNat:Int)=x:=by
 apply aoY
 rw[ao']
 have:=x.isLt
 omega
section
variable {P:Program} {n:Nat} {ops:Array Oper} {f:aQ} {w:World} {K:aQ→World→Prop} {x y c:Operand} {d:Nat} {ty T T2:TypeId} {ps:String} {af:Array Edge} {v v2:Value} {a b:Int} {p q:Bool} {kk kk2:IntKind} {s t:BitVec 64}
theorem mv (ox:bG n x=true) (hx:ev f x=v) (h:K (cb f d v) w):SO P n ops ⟨some d,.move x,ty,ps,af,none⟩ f w K:=
 SO.value (v:=v) (by simp[execOp,aN ox,hx]) h
theorem jG (ox:bG n x=true) (hx:ev f x=v) (h:K (cb f d v) w):SO P n ops ⟨some d,.assign x,ty,ps,af,none⟩ f w K:=
 SO.value (v:=v) (by simp[execOp,aN ox,hx]) h
theorem aR (oc:bG n c=true) (ox:bG n x=true) (oy:bG n y=true) (hc:ev f c=.bool p) (hp:p=true) (hx:ev f x=v) (h:K (cb f d v) w):SO P n ops ⟨some d,.pick c x y,ty,ps,af,none⟩ f w K:=
 SO.value (v:=v) (by simp[execOp,asBool,aN oc,aN ox,aN oy,hc,hp,hx]) h
theorem cJ (oc:bG n c=true) (ox:bG n x=true) (oy:bG n y=true) (hc:ev f c=.bool p) (hp:p=false) (hy:ev f y=v) (h:K (cb f d v) w):SO P n ops ⟨some d,.pick c x y,ty,ps,af,none⟩ f w K:=
 SO.value (v:=v) (by simp[execOp,asBool,aN oc,aN ox,aN oy,hc,hp,hy]) h
theorem jI (ox:bG n x=true) (hx:ev f x=.bool p) (h:K (cb f d (.bool (!p))) w):SO P n ops ⟨some d,.unOp .not T x,ty,ps,af,none⟩ f w K:=
 SO.value (v:=.bool (!p)) (by simp[execOp,aN ox,hx,Op.unary]) h
theorem bin {op:BinOp} (ox:bG n x=true) (oy:bG n y=true) (hx:ev f x=.int kk a) (hy:ev f y=.int kk2 b) (hr:(binOp op T (.int kk a) (.int kk2 b)).run P w=.ok v w) (h:K (cb f d v) w):
  SO P n ops ⟨some d,.binOp op T x y T2,ty,ps,af,none⟩ f w K:=
 SO.value (v:=v) (by
  simp only[execOp,aN ox,aN oy,hx,hy]
  have hg:(eqGuard op T x y (.int kk a) (.int kk2 b)).run P w=.ok () w:=by unfold eqGuard;split<;>rfl
  simp[hg,hr,Result.andThen]) h
theorem add (ox:bG n x=true) (oy:bG n y=true) (hx:ev f x=.int .i64 a) (hy:ev f y=.int .i64 b) (hi:aM (a+b)) (h:K (cb f d (.int .i64 (a+b))) w):SO P n ops ⟨some d,.binOp .add T x y T2,ty,ps,af,none⟩ f w K:=
 bin ox oy hx hy (by simp[binOp,Op.intArith,Rr hi]) h
theorem sub (ox:bG n x=true) (oy:bG n y=true) (hx:ev f x=.int .i64 a) (hy:ev f y=.int .i64 b) (hi:aM (a-b)) (h:K (cb f d (.int .i64 (a-b))) w):SO P n ops ⟨some d,.binOp .sub T x y T2,ty,ps,af,none⟩ f w K:=
 bin ox oy hx hy (by simp[binOp,Op.intArith,Rr hi]) h
theorem mul (ox:bG n x=true) (oy:bG n y=true) (hx:ev f x=.int .i64 a) (hy:ev f y=.int .i64 b) (hi:aM (a*b)) (h:K (cb f d (.int .i64 (a*b))) w):SO P n ops ⟨some d,.binOp .mul T x y T2,ty,ps,af,none⟩ f w K:=
 bin ox oy hx hy (by simp[binOp,Op.intArith,Rr hi]) h
theorem quo (ox:bG n x=true) (oy:bG n y=true) (hx:ev f x=.int .i64 a) (hy:ev f y=.int .i64 b) (hi:0≤a∧a≤9223372036854775807∧1≤b) (h:K (cb f d (.int .i64 (a/b))) w):SO P n ops ⟨some d,.binOp .quo T x y T2,ty,ps,af,none⟩ f w K:=
 bin ox oy hx hy (by
  have hb:b≠0:=by omega
  simp[binOp,Op.intDiv,hb];exact i64_quo a b hi) h
theorem rem (ox:bG n x=true) (oy:bG n y=true) (hx:ev f x=.int kk a) (hy:ev f y=.int kk b) (hi:0≤a∧1≤b) (h:K (cb f d (.int kk (a%b))) w):SO P n ops ⟨some d,.binOp .rem T x y T2,ty,ps,af,none⟩ f w K:=
 bin ox oy hx hy (by
  have hb:b≠0:=by omega
  simp[binOp,Op.intDiv,hb,rem_in a b hi.1]) h
theorem lss (ox:bG n x=true) (oy:bG n y=true) (hx:ev f x=.int kk a) (hy:ev f y=.int kk b) (h:K (cb f d (.bool (decide (a<b)))) w):SO P n ops ⟨some d,.binOp .lss T x y T2,ty,ps,af,none⟩ f w K:=
 bin ox oy hx hy (by simp[binOp,Op.intCmp]) h
theorem leq (ox:bG n x=true) (oy:bG n y=true) (hx:ev f x=.int kk a) (hy:ev f y=.int kk b) (h:K (cb f d (.bool (decide (a≤b)))) w):SO P n ops ⟨some d,.binOp .leq T x y T2,ty,ps,af,none⟩ f w K:=
 bin ox oy hx hy (by simp[binOp,Op.intCmp]) h
theorem gtr (ox:bG n x=true) (oy:bG n y=true) (hx:ev f x=.int kk a) (hy:ev f y=.int kk b) (h:K (cb f d (.bool (decide (b<a)))) w):SO P n ops ⟨some d,.binOp .gtr T x y T2,ty,ps,af,none⟩ f w K:=
 bin ox oy hx hy (by simp[binOp,Op.intCmp]) h
theorem geq (ox:bG n x=true) (oy:bG n y=true) (hx:ev f x=.int kk a) (hy:ev f y=.int kk b) (h:K (cb f d (.bool (decide (b≤a)))) w):SO P n ops ⟨some d,.binOp .geq T x y T2,ty,ps,af,none⟩ f w K:=
 bin ox oy hx hy (by simp[binOp,Op.intCmp]) h
theorem eql (ox:bG n x=true) (oy:bG n y=true) (hx:ev f x=.int kk a) (hy:ev f y=.int kk b) (h:K (cb f d (.bool (decide (a=b)))) w):SO P n ops ⟨some d,.binOp .eql T x y T2,ty,ps,af,none⟩ f w K:=
 bin ox oy hx hy (by simp[binOp,Op.intCmp];rfl) h
theorem neq (ox:bG n x=true) (oy:bG n y=true) (hx:ev f x=.int kk a) (hy:ev f y=.int kk b) (h:K (cb f d (.bool (!decide (a=b)))) w):SO P n ops ⟨some d,.binOp .neq T x y T2,ty,ps,af,none⟩ f w K:=
 bin ox oy hx hy (by simp[binOp,Op.intCmp];rfl) h
theorem K3 (ox:bG n x=true) (oy:bG n y=true) (hx:ev f x=.int .i64 a) (hy:ev f y=.int .u64 6) (h:K (cb f d (.int .i64 (a/64))) w):SO P n ops ⟨some d,.binOp .shr T x y T2,ty,ps,af,none⟩ f w K:=
 bin ox oy hx hy (by
  simp[binOp,Op.shift]
  show a.fdiv (2^min 6 64)=_
  rw[show (2:Int)^min 6 64=64 from rfl,Int.fdiv_eq_ediv_of_nonneg _ aw]) h
theorem Km (ox:bG n x=true) (oy:bG n y=true) (hx:ev f x=.int .i64 a) (hy:ev f y=.int .i64 63) (h:K (cb f d (.int .i64 (a%64))) w):SO P n ops ⟨some d,.binOp .and T x y T2,ty,ps,af,none⟩ f w K:=
 bin ox oy hx hy (by
  simp only[binOp,Op.intBits,apK,apl,aoa,Sem.run_pure]
  have h1:((BitVec.ofInt IntKind.i64.bits a &&& BitVec.ofInt IntKind.i64.bits 63).toNat:Int)=a%64:=by
   show ((BitVec.ofInt 64 a &&& BitVec.ofInt 64 63).toNat:Int)=a%64
   rw[BitVec.toNat_and,ao',show (BitVec.ofInt 64 63).toNat=2^6-1 from rfl,Nat.and_two_pow_sub_one_eq_mod]
   have:(0:Int)≤a%((2^64:Nat):Int):=ap' _ aw
   omega
  rw[h1,Rr (by unfold aM;omega)]) h
theorem Hq (r:BitVec 64):IntKind.u64.wrap (r.toNat:Int)=(r.toNat:Int):=by rw[yX,n5]
theorem Df (s t:BitVec 64) (ox:bG n x=true) (oy:bG n y=true) (hx:ev f x=aj s) (hy:ev f y=aj t) (h:K (cb f d (aj (s &&& t))) w):SO P n ops ⟨some d,.binOp .and T x y T2,ty,ps,af,none⟩ f w K:=
 bin ox oy hx hy (by
  have e1:BitVec.ofInt IntKind.u64.bits (s.toNat:Int)=s:=n5 s
  have e2:BitVec.ofInt IntKind.u64.bits (t.toNat:Int)=t:=n5 t
  simp only[binOp,Op.intBits,apK,apl,aoa,Sem.run_pure,e1,e2];exact ani (fun z=>Result.ok (Value.int .u64 z) w) (Hq (s &&& t))) h
theorem Sl (s t:BitVec 64) (ox:bG n x=true) (oy:bG n y=true) (hx:ev f x=aj s) (hy:ev f y=aj t) (h:K (cb f d (aj (s ||| t))) w):SO P n ops ⟨some d,.binOp .or T x y T2,ty,ps,af,none⟩ f w K:=
 bin ox oy hx hy (by
  have e1:BitVec.ofInt IntKind.u64.bits (s.toNat:Int)=s:=n5 s
  have e2:BitVec.ofInt IntKind.u64.bits (t.toNat:Int)=t:=n5 t
  simp only[binOp,Op.intBits,apK,apl,aoa,Sem.run_pure,e1,e2];exact ani (fun z=>Result.ok (Value.int .u64 z) w) (Hq (s ||| t))) h
theorem aaI (s t:BitVec 64) (ox:bG n x=true) (oy:bG n y=true) (hx:ev f x=aj s) (hy:ev f y=aj t) (h:K (cb f d (aj (s &&& ~~~t))) w):SO P n ops ⟨some d,.binOp .andNot T x y T2,ty,ps,af,none⟩ f w K:=
 bin ox oy hx hy (by
  have e1:BitVec.ofInt IntKind.u64.bits (s.toNat:Int)=s:=n5 s
  have e2:BitVec.ofInt IntKind.u64.bits (t.toNat:Int)=t:=n5 t
  simp only[binOp,Op.intBits,apK,apl,aoa,Sem.run_pure,e1,e2];exact ani (fun z=>Result.ok (Value.int .u64 z) w) (Hq (s &&& ~~~t))) h
theorem Ip (s t:BitVec 64) (ox:bG n x=true) (oy:bG n y=true) (hx:ev f x=aj s) (hy:ev f y=aj t) (h:K (cb f d (aj (s+t))) w):SO P n ops ⟨some d,.binOp .add T x y T2,ty,ps,af,none⟩ f w K:=
 bin ox oy hx hy (by
  simp only[binOp,Op.intArith,apK,apl,aoa,Sem.run_pure]
  refine ani (fun z=>Result.ok (Value.int .u64 z) w) ?_
  rw[IntKind.wrap_u64,BitVec.toNat_add];omega) h
theorem aa9 (s t:BitVec 64) (ox:bG n x=true) (oy:bG n y=true) (hx:ev f x=aj s) (hy:ev f y=aj t) (h:K (cb f d (aj (s-t))) w):SO P n ops ⟨some d,.binOp .sub T x y T2,ty,ps,af,none⟩ f w K:=
 bin ox oy hx hy (by
  simp only[binOp,Op.intArith,apK,apl,aoa,Sem.run_pure]
  refine ani (fun z=>Result.ok (Value.int .u64 z) w) ?_
  have:=t.isLt
  rw[IntKind.wrap_u64,BitVec.toNat_sub];omega) h
theorem abI (s:BitVec 64) (ox:bG n x=true) (hx:ev f x=aj s) (h:K (cb f d (aj (-s))) w):SO P n ops ⟨some d,.unOp .neg T x,ty,ps,af,none⟩ f w K:=
 SO.value (v:=aj (-s)) (by
  simp only[execOp,aN ox,hx,Op.unary,Op.intArith,apK,apl,aoa]
  have e:IntKind.u64.wrap (0-(s.toNat:Int))=((-s).toNat:Int):=by
   have:=s.isLt
   rw[IntKind.wrap_u64,BitVec.toNat_neg];omega
  rw[e];simp) h
theorem Ff (s t:BitVec 64) (ox:bG n x=true) (oy:bG n y=true) (hx:ev f x=aj s) (hy:ev f y=aj t) (h:K (cb f d (aj (s*t))) w):SO P n ops ⟨some d,.binOp .mul T x y T2,ty,ps,af,none⟩ f w K:=
 bin ox oy hx hy (by
  simp only[binOp,Op.intArith,apK,apl,aoa,Sem.run_pure]
  refine ani (fun z=>Result.ok (Value.int .u64 z) w) ?_
  rw[IntKind.wrap_u64,BitVec.toNat_mul];exact(Int.natCast_emod _ _).symm) h
theorem ahO (s t:BitVec 64) (ht:t≠0#64) (ox:bG n x=true) (oy:bG n y=true) (hx:ev f x=aj s) (hy:ev f y=aj t) (h:K (cb f d (aj (s/t))) w):SO P n ops ⟨some d,.binOp .quo T x y T2,ty,ps,af,none⟩ f w K:=
 bin ox oy hx hy (by
  have h0:t.toNat≠0:=fun h=>ht (aoY h)
  have h1:(t.toNat:Int)≠0:=by omega
  have hs:=s.isLt
  simp only[binOp,Op.intDiv,apK,apl,aoa,h1,Sem.run_pure]
  refine ani (fun z=>Result.ok (Value.int .u64 z) w) ?_
  rw[u64_quo _ _ aq,BitVec.toNat_udiv];rfl) h
theorem abd (s:BitVec 64) (b:Int) (hb:0≤b) (ox:bG n x=true) (oy:bG n y=true) (hx:ev f x=aj s) (hy:ev f y=.int kk b) (h:K (cb f d (aj (s <<< b.toNat))) w):SO P n ops ⟨some d,.binOp .shl T x y T2,ty,ps,af,none⟩ f w K:=
 bin ox oy hx hy (by
  have h0:¬b<0:=by omega
  simp only[binOp,Op.shift,h0,aoa,Sem.run_pure]
  refine ani (fun z=>Result.ok (Value.int .u64 z) w) ?_
  show IntKind.u64.wrap ((s.toNat:Int)*2^min b.toNat 64)=_
  rw[IntKind.wrap_u64,BitVec.toNat_shiftLeft,Nat.shiftLeft_eq]
  rcases ap8 b.toNat 64 with ep|u0
  ·rw[aon aq]
   simp
  ·rw[Nat.min_eq_right u0]
   have e1:s.toNat*2^b.toNat%2^64=0:=by
    rw[show b.toNat=64+(b.toNat-64) from by omega,Nat.pow_add,←Nat.mul_assoc,apR (s.toNat) _,Nat.mul_assoc]
    exact Nat.mul_mod_right _ _
   rw[e1]
   show (s.toNat:Int)*18446744073709551616%18446744073709551616=0
   exact Int.mul_emod_left _ _) h
theorem ahI (s:BitVec 64) (b:Int) (hb:0≤b) (ox:bG n x=true) (oy:bG n y=true) (hx:ev f x=aj s) (hy:ev f y=.int kk b) (h:K (cb f d (aj (s >>> b.toNat))) w):SO P n ops ⟨some d,.binOp .shr T x y T2,ty,ps,af,none⟩ f w K:=
 bin ox oy hx hy (by
  have h0:¬b<0:=by omega
  simp only[binOp,Op.shift,h0,aoa,Sem.run_pure]
  refine ani (fun z=>Result.ok (Value.int .u64 z) w) ?_
  show (s.toNat:Int).fdiv (2^min b.toNat 64)=_
  rw[Int.fdiv_eq_ediv_of_nonneg _ (by have:(0:Int)<2^min b.toNat 64:=Int.pow_pos aw;omega),apn,aph]
  rcases ap8 b.toNat 64 with ep|u0
  ·rw[aon aq]
   simp
  ·rw[Nat.min_eq_right u0]
   have hs:=s.isLt
   have e1:s.toNat/2^b.toNat=0:=apA (anR hs (Nat.pow_le_pow_right aw u0))
   rw[e1]
   show (s.toNat:Int)/18446744073709551616=0
   omega) h
theorem DA (s:BitVec 64) (k:Nat) (ox:bG n x=true) (oy:bG n y=true) (hx:ev f x=aj s) (hy:ev f y=.int kk ((k:Nat):Int)) (h:K (cb f d (aj (s >>> k))) w):SO P n ops ⟨some d,.binOp .shr T x y T2,ty,ps,af,none⟩ f w K:=
 ahI s ((k:Nat):Int) aq ox oy hx hy (by rw[dv];exact h)
theorem eqU (s t:BitVec 64) (ox:bG n x=true) (oy:bG n y=true) (hx:ev f x=aj s) (hy:ev f y=aj t) (h:K (cb f d (.bool (decide (s=t)))) w):SO P n ops ⟨some d,.binOp .eql T x y T2,ty,ps,af,none⟩ f w K:=
 bin ox oy hx hy (by
  simp only[binOp,Op.intCmp,apK,apl,aoa,Sem.run_pure]
  refine ani (fun z=>Result.ok (Value.bool z) w) ?_
  by_cases e:s=t
  ·subst e;simp
  ·have:(s.toNat:Int)≠t.toNat:=fun h=>e (aoY aq)
   simp[e,this]) h
theorem neU (s t:BitVec 64) (ox:bG n x=true) (oy:bG n y=true) (hx:ev f x=aj s) (hy:ev f y=aj t) (h:K (cb f d (.bool (!decide (s=t)))) w):SO P n ops ⟨some d,.binOp .neq T x y T2,ty,ps,af,none⟩ f w K:=
 bin ox oy hx hy (by
  simp only[binOp,Op.intCmp,apK,apl,aoa,Sem.run_pure]
  refine ani (fun z=>Result.ok (Value.bool z) w) ?_
  by_cases e:s=t
  ·subst e;simp
  ·have:(s.toNat:Int)≠t.toNat:=fun h=>e (aoY aq)
   simp[e,this]) h
theorem Yu (s t:BitVec 64) (ox:bG n x=true) (oy:bG n y=true) (hx:ev f x=aj s) (hy:ev f y=aj t) (h:K (cb f d (.bool (decide (t.toNat<s.toNat)))) w):SO P n ops ⟨some d,.binOp .gtr T x y T2,ty,ps,af,none⟩ f w K:=
 bin ox oy hx hy (by
  simp only[binOp,Op.intCmp,apK,apl,aoa,Sem.run_pure]
  refine ani (fun z=>Result.ok (Value.bool z) w) ?_
  simp) h
theorem cv {e:TypeDesc} {k2:IntKind} (ox:bG n x=true) (hx:ev f x=.int kk a) (h1:P.underlying T=some e) (h2:P.underlying T2=some (.int k2)) (h:K (cb f d (.int k2 (k2.wrap a))) w):
  SO P n ops ⟨some d,.convert T T2 x,ty,ps,af,none⟩ f w K:=
 SO.value (v:=.int k2 (k2.wrap a)) (by simp[execOp,aN ox,hx,convert,underlying,h1,h2,Conv.intToInt]) h
theorem Pb {e:TypeDesc} (ox:bG n x=true) (hx:ev f x=.int kk a) (h1:P.underlying T=some e) (h2:P.underlying T2=some (.int .u64)) (h:K (cb f d (aj (BitVec.ofInt 64 a))) w):
  SO P n ops ⟨some d,.convert T T2 x,ty,ps,af,none⟩ f w K:=
 cv ox hx h1 h2 (by rw[yX];exact h)
theorem YN {e:TypeDesc} (ox:bG n x=true) (hx:ev f x=.int kk a) (hi:aM a) (h1:P.underlying T=some e) (h2:P.underlying T2=some (.int .i64)) (h:K (cb f d (.int .i64 a)) w):
  SO P n ops ⟨some d,.convert T T2 x,ty,ps,af,none⟩ f w K:=
 cv ox hx h1 h2 (by rw[Rr hi];exact h)
theorem max2 (ox:bG n x=true) (oy:bG n y=true) (hx:ev f x=.int kk a) (hy:ev f y=.int kk b) {MT:Array TypeId} (h:K (cb f d (.int kk (max a b))) w):
  SO P n ops ⟨some d,.call {callee:=.builtin .max,args:=#[x,y],argTypes:=MT},ty,ps,af,none⟩ f w K:=
 SO.value (v:=.int kk (max a b)) (by
  have:(if b>a then b else a)=max a b:=by split<;>omega
  simp[execOp,resolve,invoke,builtin,Builtin.max_,Builtin.max2,aN ox,aN oy,hx,hy,this]) h
theorem xt {i:Nat} {vs:Array Value} (ox:bG n x=true) (hx:ev f x=.tuple vs) (hi:vs[i]? =some v) (h:K (cb f d v) w):SO P n ops ⟨some d,.extract x i,ty,ps,af,none⟩ f w K:=
 SO.value (v:=v) (by simp[execOp,Instr.extract,aN ox,hx,hi]) h
def Gc (n:Nat) (L:List Operand):Bool:=L.all (bG n)
theorem yK {L:List Operand} (h:Gc n L=true):L.map (b9 n f).eval=L.map (ev f):=by
 apply aor
 intro x hx
 exact aN<|anr.1 h x hx
theorem mf {fn:Fn} {ae:List Operand} (oc:Gc n ae=true) (h:K (cb f d (.func fn #[] (ae.map (ev f)).toArray)) w):SO P n ops ⟨some d,.makeFunc fn #[] ae.toArray,ty,ps,af,none⟩ f w K:=
 SO.value (v:=.func fn #[] (ae.map (ev f)).toArray) (by simp[execOp,Instr.makeFunc,yK oc]) h
theorem xN {g:FuncId} {fn:Func} {c:Code} {args:Array Value} (hf:P.funcs[g]? =some fn) (hb:fn.body=some c) (hn:(fn.name== "runtime.NumGoroutine")=false):
  (callFunc g args).run P w=.ok (.enter g args) w:=by
 simp only[beq_eq_false_iff_ne,apK] at hn
 simp[callFunc,hf,hb,hn]
def cu (P:Program) (g:FuncId):Prop:=∃fn c,P.funcs[g]? =some fn∧fn.body=some c∧(fn.name== "runtime.NumGoroutine")=false
theorem e0:([]:List Operand).map (ev f)=[]:=rfl
theorem ec {L:List Operand} {vs:List Value} (h:ev f x=v) (t:L.map (ev f)=vs):(x::L).map (ev f)=v::vs:=by
 rw[anM,h,t]
theorem ca {g:FuncId} {L:List Operand} {vs:List Value} {MT:Array TypeId} {ai:Value→World→Prop} (G:cu P g) (ol:Gc n L=true) (hL:L.map (ev f)=vs)
  (hc:Calls P g vs.toArray w (cg ai)) (h:∀v w',ai v w'→K (cb f d v) w'):
  SO P n ops ⟨some d,.call {callee:=.value (.func g),args:=L.toArray,argTypes:=MT},ty,ps,af,none⟩ f w K:=by
 obtain⟨fn,c,hf,hb,hn⟩:=G
 subst hL
 exact SO.enter (g:=g) (args:=(L.map (ev f)).toArray) (w':=w) (by
  simp only[execOp,resolve,apm,yK ol]
  show ((Deferred.ofValue (.func (.func g) #[] #[]) (L.map (ev f)).toArray >>=fun d=>invoke d.target d.args).run P w)=_
  simp[Deferred.ofValue,invoke,xN hf hb hn]) (hc.mono fun e w' hr=>by
   obtain⟨v,rfl,hv⟩:=hr
   exact⟨v,rfl,h v w' hv⟩)
theorem cf {fx:Operand} {g:FuncId} {L:List Operand} {vs ae:List Value} {MT:Array TypeId} {ai:Value→World→Prop} (G:cu P g)
  (ofx:bG n fx=true) (ol:Gc n L=true) (hfx:ev f fx=.func (.func g) #[] ae.toArray) (hL:L.map (ev f)=vs)
  (hc:Calls P g (vs++ae).toArray w (cg ai)) (h:∀v w',ai v w'→K (cb f d v) w'):
  SO P n ops ⟨some d,.call {callee:=.value fx,args:=L.toArray,argTypes:=MT},ty,ps,af,none⟩ f w K:=by
 obtain⟨fn,c,hf,hb,hn⟩:=G
 subst hL
 exact SO.enter (g:=g) (args:=(L.map (ev f)++ae).toArray) (w':=w) (by
  simp only[execOp,resolve,apm,yK ol,aN ofx,hfx]
  simp[Deferred.ofValue,invoke,xN hf hb hn]) (hc.mono fun e w' hr=>by
   obtain⟨v,rfl,hv⟩:=hr
   exact⟨v,rfl,h v w' hv⟩)
end
end Go.Ew
namespace Go.Ew
open Go.RowKit
def Up (M:Nat→Prop) (w:World) (M':Nat→Prop) (w':World):Prop:=
 w.heap.size≤w'.heap.size∧∀b,b<w.heap.size→¬M b→w'.heap[b]? =w.heap[b]?∧¬M' b
theorem Up.refl (M:Nat→Prop) (w:World):Up M w M w:=⟨anl _,fun _ _ h=>⟨rfl,h⟩⟩
theorem Up.trans {M M' M'':Nat→Prop} {w w' mB:World} (h:Up M w M' w') (k:Up M' w' M'' mB):Up M w M'' mB:=
 ⟨Nat.le_trans h.1 k.1,fun b hb hM=>by
  have h1:=h.2 b hb hM
  have h2:=k.2 b (anR hb h.1) h1.2
  exact⟨h2.1.trans h1.1,h2.2⟩⟩
theorem Up.ext {M:Nat→Prop} {w w':World} (h:Ext w w'):Up M w M w':=⟨h.size,fun b hb hM=>⟨h.block b hb,hM⟩⟩
theorem Up.less {M M':Nat→Prop} {w:World} (h:∀b,b<w.heap.size→M' b→M b):Up M w M' w:=⟨anl _,fun b hb hM=>⟨rfl,fun h'=>hM (h b hb h')⟩⟩
theorem pJ {w:World} {ad:Addr} {v:Value} (h:w.cell? ad=some v):ad.block<w.heap.size:=World.block_lt_of_cell? w ad h
theorem Up.cell {M M':Nat→Prop} {w w':World} (h:Up M w M' w') {ad:Addr} {v:Value} (hM:¬M ad.block) (hc:w.cell? ad=some v):w'.cell? ad=some v:=
 (World.cell?_of_block (h.2 _ (pJ hc) hM).1).trans hc
theorem vk (a:Addr) (j:Nat):(a.add j).block=a.block:=by unfold Addr.add;split<;>rfl
theorem add_add (a:Addr) (i j:Nat):(a.add i).add j=a.add (i+j):=by
 unfold Addr.add
 by_cases hi:i=0
 ·subst hi;simp
 ·by_cases hj:j=0
  ·subst hj;simp
  ·simp[hi,hj,ap2]
class GT (α:Type) where
 size:Nat
 agg:Bool
 rep:(Nat→Prop)→World→List Value→α→Prop
 len:∀{M w cs x},rep M w cs x→cs.length=size
 one:∀{M w cs x},rep M w cs x→∀c∈cs,c.oneCell'=true
 single:agg=false→size=1
 pos:0<size
 lift:∀{M w M' w' cs x},rep M w cs x→Up M w M' w'→rep M' w' cs x
def sj (agg:Bool) (cs:List Value):Value:=bif agg then .agg cs.toArray else cs.headD undef
theorem T7 {agg:Bool} {cs:List Value} (h:agg=false→cs.length=1) (h1:∀c∈cs,c.oneCell'=true):(sj agg cs).cells=cs.toArray:=by
 cases agg with
 |true=>rfl
 |false=>
  match cs,h rfl with
  |[c],_=>
   have:=h1 c<|by simp
   cases c<;>first|rfl|cases this
def RV {α:Type} [GT α] (M:Nat→Prop) (w:World) (v:Value) (x:α):Prop:=∃cs,GT.rep M w cs x∧v=sj (GT.agg α) cs
def At {α:Type} [GT α] (M:Nat→Prop) (w:World) (ad:Addr) (x:α):Prop:=∃cs,GT.rep M w cs x∧¬M ad.block∧∀j v,cs[j]? =some v→w.cell? (ad.add j)=some v
theorem RV.lift {α:Type} [GT α] {M M':Nat→Prop} {w w':World} {v:Value} {x:α} (h:RV M w v x) (u:Up M w M' w'):RV M' w' v x:=
 let ⟨cs,h1,h2⟩:=h;⟨cs,GT.lift h1 u,h2⟩
theorem At.lift {α:Type} [GT α] {M M':Nat→Prop} {w w':World} {ad:Addr} {x:α} (h:At M w ad x) (u:Up M w M' w'):At M' w' ad x:=by
 obtain⟨cs,h1,h2,h3⟩:=h
 have gH:0<cs.length:=by rw[GT.len h1];exact GT.pos
 have ep:ad.block<w.heap.size:=by
  have:=h3 0 cs[0]<|eB gH
  have:=pJ this
  rwa [vk] at this
 exact⟨cs,GT.lift h1 u,(u.2 _ ep h2).2,fun j v hv=>u.cell (by rw[vk];exact h2) (h3 j v hv)⟩
instance amK:GT Int where
 size:=1
 agg:=false
 rep _ _ cs x:=cs=[.int .i64 x]∧aM x
 len h:=by rw[h.1];rfl
 one h:=by rw[h.1];simp[Value.oneCell']
 single _:=rfl
 pos:=by decide
 lift h _:=h
instance gBV:GT (BitVec 64) where
 size:=1
 agg:=false
 rep _ _ cs x:=cs=[aj x]
 len h:=by rw[h];rfl
 one h:=by rw[h];simp[Value.oneCell']
 single _:=rfl
 pos:=by decide
 lift h _:=h
abbrev U8 (x:BitVec 8):Value:=.int .u8 (x.toNat:Int)
instance gB8:GT (BitVec 8) where
 size:=1
 agg:=false
 rep _ _ cs x:=cs=[U8 x]
 len h:=by rw[h];rfl
 one h:=by rw[h];simp[Value.oneCell']
 single _:=rfl
 pos:=by decide
 lift h _:=h
instance al2:GT Bool where
 size:=1
 agg:=false
 rep _ _ cs x:=cs=[.bool x]
 len h:=by rw[h];rfl
 one h:=by rw[h];simp[Value.oneCell']
 single _:=rfl
 pos:=by decide
 lift h _:=h
instance amJ:GT ByteArray where
 size:=1
 agg:=false
 rep _ _ cs x:=cs=[.string x]∧x.size≤maxLen
 len h:=by rw[h.1];rfl
 one h:=by rw[h.1];simp[Value.oneCell']
 single _:=rfl
 pos:=by decide
 lift h _:=h
instance al0 {α β:Type} [GT α] [GT β]:GT (α×β) where
 size:=GT.size α+GT.size β
 agg:=true
 rep M w cs x:=∃c1 c2,cs=c1++c2∧GT.rep M w c1 x.1∧GT.rep M w c2 x.2
 len:=by
  rintro M w cs x ⟨c1,c2,rfl,h1,h2⟩
  rw[fA,GT.len h1,GT.len h2]
 one:=by
  rintro M w cs x ⟨c1,c2,rfl,h1,h2⟩ c hc
  rcases anK.1 hc with h|h
  ·exact GT.one h1 c h
  ·exact GT.one h2 c h
 single h:=by cases h
 pos:=by have:=GT.pos (α:=α);omega
 lift:=by
  rintro M w M' w' cs x ⟨c1,c2,rfl,h1,h2⟩ u
  exact⟨c1,c2,J,GT.lift h1 u,GT.lift h2 u⟩
def UA {α:Type} [GT α] (M:Nat→Prop) (w:World) (ad:Addr) (xs:List α):Prop:=
 ∀i x,xs[i]? =some x→At M w (ad.add (i*GT.size α)) x
def RS {α:Type} [GT α] (M:Nat→Prop) (w:World) (v:Value) (xs:List α):Prop:=
 ∃a n c,v=.slice a n c∧xs.length=n∧n≤c∧c≤maxLen∧(n=0∨∃ad,a=some ad∧UA M w ad xs)
theorem RS.lift {α:Type} [GT α] {M M':Nat→Prop} {w w':World} {v:Value} {xs:List α} (h:RS M w v xs) (u:Up M w M' w'):RS M' w' v xs:=by
 obtain⟨a,n,c,h1,h2,h3,h4,h5⟩:=h
 refine⟨a,n,c,h1,h2,h3,h4,?_⟩
 rcases h5 with h5|⟨ad,h5,h6⟩
 ·exact .inl h5
 ·exact .inr ⟨ad,h5,fun i x hx=>(h6 i x hx).lift u⟩
instance al1 {α:Type} [GT α]:GT (List α) where
 size:=1
 agg:=false
 rep M w cs xs:=∃v,cs=[v]∧RS M w v xs
 len:=by rintro M w cs x ⟨v,rfl,_⟩;rfl
 one:=by
  rintro M w cs x ⟨v,rfl,a,n,c,rfl,_⟩ c hc
  simp at hc;subst hc;rfl
 single _:=rfl
 pos:=by decide
 lift:=by
  rintro M w M' w' cs x ⟨v,rfl,h⟩ u
  exact⟨v,J,h.lift u⟩
theorem RV.int {M:Nat→Prop} {w:World} {v:Value} {x:Int}:RV M w v x↔v=.int .i64 x∧aM x:=by
 constructor
 ·rintro⟨cs,⟨rfl,h⟩,rfl⟩;exact⟨rfl,h⟩
 ·rintro⟨rfl,h⟩;exact⟨_,⟨rfl,h⟩,rfl⟩
theorem RV.bv {M:Nat→Prop} {w:World} {v:Value} {x:BitVec 64}:RV M w v x↔v=aj x:=by
 constructor
 ·rintro⟨cs,rfl,rfl⟩;rfl
 ·rintro rfl;exact⟨_,rfl,rfl⟩
theorem RV.b8 {M:Nat→Prop} {w:World} {v:Value} {x:BitVec 8}:RV M w v x↔v=U8 x:=by
 constructor
 ·rintro⟨cs,rfl,rfl⟩;rfl
 ·rintro rfl;exact⟨_,rfl,rfl⟩
theorem RV.bool {M:Nat→Prop} {w:World} {v:Value} {x:Bool}:RV M w v x↔v=.bool x:=by
 constructor
 ·rintro⟨cs,rfl,rfl⟩;rfl
 ·rintro rfl;exact⟨_,rfl,rfl⟩
theorem RV.str {M:Nat→Prop} {w:World} {v:Value} {x:ByteArray}:RV M w v x↔v=.string x∧x.size≤maxLen:=by
 constructor
 ·rintro⟨cs,⟨rfl,h⟩,rfl⟩;exact⟨rfl,h⟩
 ·rintro⟨rfl,h⟩;exact⟨_,⟨rfl,h⟩,rfl⟩
theorem RV.list {α:Type} [GT α] {M:Nat→Prop} {w:World} {v:Value} {xs:List α}:RV M w v xs↔RS M w v xs:=by
 constructor
 ·rintro⟨cs,⟨u,rfl,h⟩,rfl⟩;exact h
 ·intro h;exact⟨[v],⟨v,rfl,h⟩,rfl⟩
structure Item where
 jC:Option Nat
 holds:(Nat→Prop)→World→Prop
 lift:∀{M M' w w'},holds M w→Up M w M' w'→(∀b,jC=some b→w'.heap[b]? =w.heap[b]?)→holds M' w'
def tg {α:Type} [GT α] (v:Value) (x:α):Item:=⟨none,fun M w=>RV M w v x,fun h u _=>h.lift u⟩
def qP {α:Type} [GT α] (ad:Addr) (x:α):Item:=⟨none,fun M w=>At M w ad x,fun h u _=>h.lift u⟩
def box (b:Nat) (cs:Array Value) (t:TypeId):Item:=⟨some b,fun M w=>w.heap[b]? =some (.cells cs t (0,0)),fun h u hb=>(hb b rfl).trans h⟩
def bu {α:Type} [GT α] (M:Nat→Prop) (w:World):List Value→List α→Prop
 |cs,[]=>cs=[]
 |cs,x::xs=>∃c1 c2,cs=c1++c2∧GT.rep M w c1 x∧bu M w c2 xs
theorem bu.lift {α:Type} [GT α] {M M':Nat→Prop} {w w':World} (u:Up M w M' w'):∀{xs:List α} {cs:List Value},bu M w cs xs→bu M' w' cs xs
 |[],_,h=>h
 |x::xs,cs,⟨c1,c2,h1,h2,h3⟩=>⟨c1,c2,h1,GT.lift h2 u,bu.lift u h3⟩
theorem bu.length {α:Type} [GT α] {M:Nat→Prop} {w:World}:∀{xs:List α} {cs:List Value},bu M w cs xs→cs.length=xs.length*GT.size α
 |[],_,h=>by rw[show _=[] from h];simp
 |x::xs,cs,⟨c1,c2,h1,h2,h3⟩=>by rw[h1,fA,GT.len h2,bu.length h3,iM,an'];omega
theorem bu.append {α:Type} [GT α] {M:Nat→Prop} {w:World}:∀{xs ys:List α} {cs ds:List Value},bu M w cs xs→bu M w ds ys→bu M w (cs++ds) (xs++ys)
 |[],ys,cs,ds,h,k=>by rw[show cs=[] from h];exact k
 |x::xs,ys,cs,ds,⟨c1,c2,h1,h2,h3⟩,k=>⟨c1,c2++ds,by rw[h1,anU],h2,bu.append h3 k⟩
theorem bu.AY {α:Type} [GT α] {M:Nat→Prop} {w:World}:∀{xs:List α} {cs:List Value},bu M w cs xs→∀c∈cs,c.oneCell'=true
 |[],_,h,c,hc=>by rw[show _=[] from h] at hc;cases hc
 |x::xs,cs,⟨c1,c2,h1,h2,h3⟩,c,hc=>by
  rw[h1] at hc
  rcases anK.1 hc with h|h
  ·exact GT.one h2 c h
  ·exact bu.AY h3 c h
theorem bu.at_ {α:Type} [GT α] {M:Nat→Prop} {w:World}:∀{xs:List α} {cs:List Value},bu M w cs xs→∀i x,xs[i]? =some x→∃c,GT.rep M w c x∧∀j v,c[j]? =some v→cs[i*GT.size α+j]? =some v
 |[],_,_,i,x,hx=>by simp at hx
 |y::xs,cs,⟨c1,c2,h1,h2,h3⟩,i,x,hx=>by
  cases i with
  |zero=>
   simp at hx;subst hx
   refine⟨c1,h2,fun j v hv=>?_⟩
   have hj:j<c1.length:=(dC.1 hv).1
   rw[h1,apP,an5,oT hj];exact hv
  |succ i=>
   simp at hx
   obtain⟨c,yD,Ad⟩:=bu.at_ h3 i x hx
   refine⟨c,yD,fun j v hv=>?_⟩
   have hl:=GT.len h2
   rw[h1,og (by rw[hl,an'];omega),hl]
   have:=Ad j v hv
   rw[show (i+1)*GT.size α+j-GT.size α=i*GT.size α+j from by rw[an'];omega]
   exact this
def own {α:Type} [GT α] (B:Nat) (e:TypeId) (v:Value) (xs:List α):Item:=
 ⟨v.ownBlock,fun M w=>∃cs,w.ownsRow B e (GT.size α) v xs.length cs∧bu M w cs xs,fun {M M' w w'} h u hb=>by
  obtain⟨cs,h1,h2⟩:=h
  refine⟨cs,⟨h1.1,?_⟩,bu.lift u h2⟩
  rcases h1.2 with h3|⟨g,cap,cur,rfl,h4,h5,h6⟩
  ·exact .inl h3
  ·exact .inr ⟨g,cap,cur,rfl,h4,(hb g rfl).trans h5,h6⟩⟩
def MS (M0:Nat→Prop) (l:List Item) (b:Nat):Prop:=M0 b∨∃it∈l,it.jC=some b
structure HI (M0:Nat→Prop) (w0 w:World) (l:List Item):Prop where
 below:Ext w0 w
 m0:∀b,M0 b→b<w0.heap.size
 jq:∀it∈l,∀b,it.jC=some b→w0.heap.size≤b∧b<w.heap.size
 nodup:(l.filterMap (·.jC)).Nodup
 all:∀it∈l,it.holds (MS M0 l) w
abbrev HI.fV {M0:Nat→Prop} {w0 w:World} {l:List Item} (_:HI M0 w0 w l):Nat→Prop:=MS M0 l
section
variable {M0:Nat→Prop} {w0 w w':World} {l:List Item} {it nu:Item}
theorem HI.at_ (h:HI M0 w0 w l) (i:Nat) (hi:l[i]? =some it):it.holds (MS M0 l) w:=h.all it (dB hi)
theorem HI.mb (h:HI M0 w0 w l):∀b,MS M0 l b→b<w.heap.size:=by
 rintro b (hb|⟨it,hit,hb⟩)
 ·exact anR (h.m0 b hb) h.below.size
 ·exact(h.jq it hit b hb).2
theorem HI.start (hM:∀b,M0 b→b<w.heap.size):HI M0 w w []:=
 ⟨Ext.refl w,hM,fun _ h=>(by cases h),aqe,fun _ h=>(by cases h)⟩
theorem HI.ext (h:HI M0 w0 w l) (x:Ext w w'):HI M0 w0 w' l:=
 ⟨h.below.trans x,h.m0,fun it hit b hb=>⟨(h.jq it hit b hb).1,anR (h.jq it hit b hb).2 x.size⟩,h.nodup,
  fun it hit=>it.lift (h.all it hit) (Up.ext x) fun b hb=>x.block b (h.jq it hit b hb).2⟩
theorem aG (hn:it.jC=none):MS M0 (it::l)=MS M0 l:=by
 funext b
 simp only[MS,anC,eq_iff_iff]
 constructor
 ·rintro(h|⟨i,rfl|hi,hb⟩)
  ·exact .inl h
  ·rw[hn] at hb;cases hb
  ·exact .inr ⟨i,hi,hb⟩
 ·rintro(h|⟨i,hi,hb⟩)
  ·exact .inl h
  ·exact .inr ⟨i,.inr hi,hb⟩
theorem HI.put (h:HI M0 w0 w l) (hn:it.jC=none) (hh:it.holds (MS M0 l) w):HI M0 w0 w (it::l):=by
 refine⟨h.below,h.m0,?_,by simpa [an9,hn] using h.nodup,?_⟩
 ·intro i hi b hb
  rcases anC.1 hi with rfl|hi
  ·rw[hn] at hb;cases hb
  ·exact h.jq i hi b hb
 ·rw[aG hn]
  intro i hi
  rcases anC.1 hi with rfl|hi
  ·exact hh
  ·exact h.all i hi
theorem HI.new (h:HI M0 w0 w l) (x:Ext w w') (b:Nat) (hn:it.jC=some b) (hb:w.heap.size≤b) (u3:b<w'.heap.size) (hh:it.holds (MS M0 (it::l)) w'):HI M0 w0 w' (it::l):=by
 refine⟨h.below.trans x,h.m0,?_,?_,?_⟩
 ·intro i hi c hc
  rcases anC.1 hi with rfl|hi
  ·rw[hn] at hc;cases hc;exact⟨Nat.le_trans h.below.size hb,u3⟩
  ·exact⟨(h.jq i hi c hc).1,anR (h.jq i hi c hc).2 x.size⟩
 ·rw[an9,hn]
  refine aoo.2 ⟨?_,h.nodup⟩
  intro hm
  obtain⟨i,hi,BK⟩:=anN.1 hm
  have:=(h.jq i hi b BK).2
  omega
 ·intro i hi
  rcases anC.1 hi with rfl|hi
  ·exact hh
  ·refine i.lift (h.all i hi) ⟨x.size,fun c hc hM=>⟨x.block c hc,?_⟩⟩ fun c hc=>x.block c (h.jq i hi c hc).2
   rintro(Mb|⟨j,hj,xr⟩)
   ·exact hM<|.inl Mb
   ·rcases anC.1 hj with rfl|hj
    ·rw[hn] at xr;cases xr;omega
    ·exact hM<|.inr ⟨j,hj,xr⟩
theorem HI.vB (h:HI M0 w0 w l) (i:Nat) (hi:l[i]? =some it) (hos:w'.os=w.os) (hta:w'.tape=w.tape) (hou:w'.output=w.output) (hs:w.heap.size≤w'.heap.size) (hdr:w.drawn≤w'.drawn)
  (hk:∀c,c<w.heap.size→it.jC≠some c→w'.heap[c]? =w.heap[c]?)
  (hb:∀b,nu.jC=some b→b<w'.heap.size∧(it.jC=some b∨w.heap.size≤b))
  (hh:nu.holds (MS M0 (l.set i nu)) w'):HI M0 w0 w' (l.set i nu):=by
 have jF:i<l.length:=(dC.1 hi).1
 have hit:it∈l:=dB hi
 have Bb:∀j,j∈l.set i nu→j=nu∨∃m,m≠i∧l[m]? =some j:=by
  intro j hj
  obtain⟨m,hm,rfl⟩:=api.1 hj
  rw[ap4]
  split
  ·exact .inl rfl
  ·rename_i gH
   exact .inr ⟨m,fun e=>gH e.symm,eB (by simpa using hm)⟩
 
 have L9:∀m j b,m≠i→l[m]? =some j→j.jC=some b→it.jC≠some b:=by
  intro m j b hm hj vU BK
  exact hm<|hQ (·.jC) l h.nodup m i j it hj hi (by rw[vU];rfl)<|by rw[vU,BK]
 refine⟨⟨⟨hos.trans h.below.os,hta.trans h.below.tape,hou.trans h.below.output,Nat.le_trans h.below.size hs,fun c hc=>?_⟩,Nat.le_trans h.below.drawn hdr⟩,h.m0,?_,?_,?_⟩
 ·rw[hk c (anR hc h.below.size) (fun e=>by have:=(h.jq it hit c e).1;omega)]
  exact h.below.block c hc
 ·intro j hj b vU
  rcases Bb j hj with rfl|⟨m,hm,Ab⟩
  ·obtain⟨h1,h2⟩:=hb b vU
   refine⟨?_,h1⟩
   rcases h2 with h2|h2
   ·exact(h.jq it hit b h2).1
   ·exact Nat.le_trans h.below.size h2
  ·have:=h.jq j (dB Ab) b vU
   exact⟨this.1,anR this.2 hs⟩
 ·
  have acj:l=l.take i++it::l.drop (i+1):=by
   have h1:=aov i l
   rw[aof jF] at h1
   have h2:l[i]=it:=by
    have:=eB jF
    rw[hi] at this
    exact(anm this).symm
   rw[h2] at h1
   exact h1.symm
  have ah4:l.set i nu=l.take i++nu::l.drop (i+1):=by
   rw[List.set_eq_take_append_cons_drop,ann jF]
  have lO:=h.nodup
  rw[acj] at lO
  rw[ah4]
  simp only[apx,an9] at lO ⊢
  have LS:((l.take i).filterMap (·.jC)++(l.drop (i+1)).filterMap (·.jC)).Nodup:=by
   refine apT ?_ lO
   refine List.Sublist.append (List.Sublist.refl _) ?_
   cases it.jC with
   |none=>exact List.Sublist.refl _
   |some b=>exact List.sublist_cons_self _ _
  cases BO:nu.jC with
  |none=>simpa [BO] using LS
  |some b=>
   simp only[]
   have acH:∀j,(j∈l.take i∨j∈l.drop (i+1))→j.jC≠some b:=by
    intro j hj vU
    have Ab:∃m,m≠i∧l[m]? =some j:=by
     rcases hj with hj|hj
     ·obtain⟨m,hm,rfl⟩:=api.1 hj
      simp only[gY] at hm
      exact⟨m,by omega,by rw[List.getElem_take];exact eB aq⟩
     ·obtain⟨m,hm,rfl⟩:=api.1 hj
      simp only[anI] at hm
      exact⟨i+1+m,by omega,by rw[List.getElem_drop];exact eB aq⟩
    obtain⟨m,hm,Ab⟩:=Ab
    rcases (hb b BO).2 with h2|h2
    ·exact L9 m j b hm Ab vU h2
    ·have:=(h.jq j (dB Ab) b vU).2
     omega
   have:((l.take i).filterMap (·.jC)++b::(l.drop (i+1)).filterMap (·.jC)).Nodup:=by
    rw[ao4] at LS ⊢
    refine⟨LS.1,aoo.2 ⟨?_,LS.2.1⟩,?_⟩
    ·intro hm
     obtain⟨j,hj,vU⟩:=anN.1 hm
     exact acH j (.inr hj) vU
    ·intro c hc c' Mb he
     subst he
     rcases anC.1 Mb with rfl|Mb
     ·obtain⟨j,hj,vU⟩:=anN.1 hc
      exact acH j (.inl hj) vU
     ·exact LS.2.2 c hc c Mb J
   exact this
 ·intro j hj
  rcases Bb j hj with rfl|⟨m,hm,Ab⟩
  ·exact hh
  ·have xp:=dB Ab
   refine j.lift (h.all j xp) ⟨hs,fun c hc hM=>?_⟩ fun c hc=>hk c (h.jq j xp c hc).2 (L9 m j c hm Ab hc)
   refine⟨hk c hc fun e=>hM (.inr ⟨it,hit,e⟩),?_⟩
   rintro(h1|⟨q,hq,hqc⟩)
   ·exact hM<|.inl h1
   ·rcases Bb q hq with rfl|⟨m',hm',iY⟩
    ·rcases (hb c hqc).2 with h2|h2
     ·exact hM<|.inr ⟨it,hit,h2⟩
     ·omega
    ·exact hM<|.inr ⟨q,dB iY,hqc⟩
theorem HI.pick (h:HI M0 w0 w l) (l':List Item) (hs:∀it∈l',it∈l) (hn:(l'.filterMap (·.jC)).Nodup):HI M0 w0 w l':=
 ⟨h.below,h.m0,fun it hit=>h.jq it (hs it hit),hn,fun it hit=>it.lift (h.all it (hs it hit)) (Up.less fun b _ hb=>by
  rcases hb with hb|⟨j,hj,vU⟩
  ·exact .inl hb
  ·exact .inr ⟨j,hs j hj,vU⟩) fun _ _=>rfl⟩
theorem HI.drop (h:HI M0 w0 w l) (i:Nat):HI M0 w0 w (l.eraseIdx i):=
 h.pick _ (fun it hit=>List.mem_of_mem_eraseIdx hit) (h.nodup.sublist ((List.eraseIdx_sublist l i).filterMap _))
theorem HI.tail (h:HI M0 w0 w (it::l)):HI M0 w0 w l:=h.drop 0
theorem HI.out (h:HI M0 w0 w l):Up (MS M0 l) w M0 w:=Up.less fun b _ hb=>.inl hb
end
def Y5 {α:Type} [GT α] (M:Nat→Prop) (w0:World) (x:α) (v:Value) (w:World):Prop:=Ext w0 w∧RV M w v x
def aeD {α:Type} [GT α] (w0:World) (x:α) (v:Value) (w:World):Prop:=Ext w0 w∧RV (fun b=>b<w0.heap.size) w v x
def aeC {α:Type} [GT α] (e:TypeId) (w0:World) (xs:List α) (v:Value) (w:World):Prop:=
 Ext w0 w∧(∀b,v.ownBlock=some b→b<w.heap.size)∧(own w0.heap.size e v xs).holds (fun b=>b<w0.heap.size∨v.ownBlock=some b) w
theorem bE (b:Bool):b=true∨b=false:=Bool.eq_false_or_eq_true b
theorem dT {p:Prop} [Decidable p] (h:decide p=true):p:=an7 h
theorem dF {p:Prop} [Decidable p] (h:decide p=false):¬p:=aoW h
abbrev OA:=Option Addr
abbrev R {α:Type} (a:Option Addr) (xs:List α) (c:Nat):Value:=.slice a xs.length c
abbrev iL {α:Type} [GT α] (a:Option Addr) (xs:List α) (c:Nat):Item:=tg (.slice a xs.length c) xs
abbrev oL {α:Type} [GT α] (w:World) (e:TypeId) (a:Option Addr) (xs:List α) (c:Nat):Item:=own w.heap.size e (.slice a xs.length c) xs
end Go.Ew
namespace Go.Ew
open Go.RowKit Go.IntWalk
def aen (P:Program) (t:TypeId):Option Bool:=(P.underlying t).map fun| .struct _| .array _ _=>true|_=>false
structure ei (P:Program) (t:TypeId) (k:Nat) (agg:Bool) (bytes:Nat) (z:Value):Prop where
 i:(P.info? t).map (fun i=>(i.zero,i.size,i.bytes))=some (some z,k,bytes)
 a:aen P t=some agg
section
variable {P:Program} {t e:TypeId} {k bytes:Nat} {agg:Bool} {z:Value} {w:World}
theorem ei.info (F:ei P t k agg bytes z):∃i,P.info? t=some i∧i.zero=some z∧i.size=k∧i.bytes=bytes:=info_parts F.i
theorem ei.IK (F:ei P t k agg bytes z) (w:World):(isAgg t).run P w=.ok agg w:=by
 have h:=F.a
 unfold aen at h
 cases hu:P.underlying t with
 |none=>rw[hu] at h;cases h
 |some d=>
  rw[hu] at h
  simp only[aoy,anx] at h
  subst h
  cases d<;>simp[isAgg,underlying,hu]
theorem ei.jm (F:ei P t k agg bytes z) (w:World):(sizeOf t).run P w=.ok k w:=by
 obtain⟨i,h1,_,h2,_⟩:=F.info
 simp[sizeOf,typeInfo,h1,h2]
theorem ei.tU (F:ei P t k agg bytes z) (w:World):(zeroValue t).run P w=.ok z w:=by
 obtain⟨i,h1,h2,_⟩:=F.info
 simp[zeroValue,typeInfo,h1,h2]
theorem gG {d:TypeDesc} (h:P.underlying t=some d) (w:World):(underlying t).run P w=.ok d w:=by simp[underlying,h]
theorem ru (F:ei P t k agg bytes z) (hk:agg=false→k=1) {ad:Addr} {cs:List Value} (hl:cs.length=k) (hc:∀j v,cs[j]? =some v→w.cell? (ad.add j)=some v):
  (loadVar t ad).run P w=.ok (sj agg cs) w:=by
 cases agg with
 |true=>
  subst hl
  simp[loadVar,F.IK,F.jm,run_loadCells_list w ad cs hc,sj]
 |false=>
  match cs,hl,hc with
  |[c],_,hc=>
   have h0:w.cell? ad=some c:=by
    have:=hc 0 c J
    rwa [show ad.add 0=ad from by simp[Addr.add]] at this
   simp[loadVar,F.IK,h0,sj]
  |[],hl,_=>simp at hl;have:=hk rfl;omega
  |_::_::_,hl,_=>simp at hl;have:=hk rfl;omega
end
def hG {α:Type} [GT α] (M:Nat→Prop) (w:World) (ad:Addr) (x:α):Prop:=∃cs,GT.rep M w cs x∧∀j v,cs[j]? =some v→w.cell? (ad.add j)=some v
theorem At.w {α:Type} [GT α] {M:Nat→Prop} {w:World} {ad:Addr} {x:α} (h:At M w ad x):hG M w ad x:=let ⟨cs,h1,_,h3⟩:=h;⟨cs,h1,h3⟩
theorem At.fst {α β:Type} [GT α] [GT β] {M:Nat→Prop} {w:World} {ad:Addr} {x:α×β} (h:At M w ad x):At M w ad x.1:=by
 obtain⟨_,⟨c1,c2,rfl,h1,h2⟩,hM,hc⟩:=h
 exact⟨c1,h1,hM,fun j v hv=>hc j v (by rw[oT (dC.1 hv).1];exact hv)⟩
theorem At.snd {α β:Type} [GT α] [GT β] {M:Nat→Prop} {w:World} {ad:Addr} {x:α×β} (h:At M w ad x):At M w (ad.add (GT.size α)) x.2:=by
 obtain⟨_,⟨c1,c2,rfl,h1,h2⟩,hM,hc⟩:=h
 refine⟨c2,h2,by rw[vk];exact hM,fun j v hv=>?_⟩
 rw[add_add]
 refine hc _ v ?_
 rw[og (by rw[GT.len h1];omega),GT.len h1]
 rw[show GT.size α+j-GT.size α=j from by omega]
 exact hv
theorem hG.fst {α β:Type} [GT α] [GT β] {M:Nat→Prop} {w:World} {ad:Addr} {x:α×β} (h:hG M w ad x):hG M w ad x.1:=by
 obtain⟨_,⟨c1,c2,rfl,h1,h2⟩,hc⟩:=h
 exact⟨c1,h1,fun j v hv=>hc j v (by rw[oT (dC.1 hv).1];exact hv)⟩
theorem hG.snd {α β:Type} [GT α] [GT β] {M:Nat→Prop} {w:World} {ad:Addr} {x:α×β} (h:hG M w ad x):hG M w (ad.add (GT.size α)) x.2:=by
 obtain⟨_,⟨c1,c2,rfl,h1,h2⟩,hc⟩:=h
 refine⟨c2,h2,fun j v hv=>?_⟩
 rw[add_add]
 refine hc _ v ?_
 rw[og (by rw[GT.len h1];omega),GT.len h1]
 rw[show GT.size α+j-GT.size α=j from by omega]
 exact hv
section
variable {P:Program} {n:Nat} {ops:Array Oper} {f:aQ} {w:World} {K:aQ→World→Prop} {x y c:Operand} {d:Nat} {ty T T2 e:TypeId} {ps:String} {af:Array Edge} {v v2:Value} {a b:Int} {M M0:Nat→Prop} {w0:World} {l:List Item} {kk:IntKind} {bytes:Nat} {z:Value} {ad:Addr} {size:Nat} {agg:Bool}
theorem nt {α:Type} [GT α] {xv:α} (hA:hG M w ad xv) (F:ei P T (GT.size α) (GT.agg α) bytes z) (ox:bG n x=true) (hx:ev f x=.pointer (some ad))
  (h:∀v,RV M w v xv→K (cb f d v) w):SO P n ops ⟨some d,.load T x,ty,ps,af,none⟩ f w K:=by
 obtain⟨cs,h1,h2⟩:=hA
 exact SO.value (v:=sj (GT.agg α) cs) (by
  simp[execOp,aN ox,hx,Instr.loadAt,Instr.sureAddr,ru F GT.single (GT.len h1) h2]) (h _ ⟨cs,h1,rfl⟩)
theorem mV {i:Int} (hA:hG M w ad i) (F:ei P T 1 false bytes z) (ox:bG n x=true) (hx:ev f x=.pointer (some ad)) (h:aM i→K (cb f d (.int .i64 i)) w):
  SO P n ops ⟨some d,.load T x,ty,ps,af,none⟩ f w K:=nt hA F ox hx fun v hv=>by obtain⟨rfl,hi⟩:=RV.int.1 hv;exact h hi
theorem yo {u:BitVec 64} (hA:hG M w ad u) (F:ei P T 1 false bytes z) (ox:bG n x=true) (hx:ev f x=.pointer (some ad)) (h:K (cb f d (aj u)) w):
  SO P n ops ⟨some d,.load T x,ty,ps,af,none⟩ f w K:=nt hA F ox hx fun v hv=>by rw[RV.bv.1 hv];exact h
theorem ld8 {u:BitVec 8} (hA:hG M w ad u) (F:ei P T 1 false bytes z) (ox:bG n x=true) (hx:ev f x=.pointer (some ad)) (h:K (cb f d (U8 u)) w):
  SO P n ops ⟨some d,.load T x,ty,ps,af,none⟩ f w K:=nt hA F ox hx fun v hv=>by rw[RV.b8.1 hv];exact h
theorem ldB {u:Bool} (hA:hG M w ad u) (F:ei P T 1 false bytes z) (ox:bG n x=true) (hx:ev f x=.pointer (some ad)) (h:K (cb f d (.bool u)) w):
  SO P n ops ⟨some d,.load T x,ty,ps,af,none⟩ f w K:=nt hA F ox hx fun v hv=>by rw[RV.bool.1 hv];exact h
theorem ldS {u:ByteArray} (hA:hG M w ad u) (F:ei P T 1 false bytes z) (ox:bG n x=true) (hx:ev f x=.pointer (some ad)) (h:u.size≤maxLen→K (cb f d (.string u)) w):
  SO P n ops ⟨some d,.load T x,ty,ps,af,none⟩ f w K:=nt hA F ox hx fun v hv=>by obtain⟨rfl,hi⟩:=RV.str.1 hv;exact h hi
theorem RS.explicit {α:Type} [GT α] {xs:List α} (h:RS M w v xs):∃a c,v=.slice a xs.length c∧RV M w (.slice a xs.length c) xs:=by
 obtain⟨a,n,c,rfl,rfl,h3⟩:=h
 exact⟨a,c,J,RV.list.2 ⟨a,_,c,J,J,h3⟩⟩
theorem te {α:Type} [GT α] {xs:List α} (hA:hG M w ad xs) (F:ei P T 1 false bytes z) (ox:bG n x=true) (hx:ev f x=.pointer (some ad))
  (h:∀a c,RV M w (.slice a xs.length c) xs→K (cb f d (.slice a xs.length c)) w):SO P n ops ⟨some d,.load T x,ty,ps,af,none⟩ f w K:=
 nt hA F ox hx fun v hv=>by obtain⟨a,c,rfl,hr⟩:=(RV.list.1 hv).explicit;exact h a c hr
theorem cz {bb off:Nat} {cs:Array Value} {t:TypeId} {k:Nat} (H:HI M0 w0 w l) (i:Nat) (hi:l[i]? =some (box bb cs t)) (F:ei P T k agg bytes z) (ox:bG n x=true) (hx:ev f x=.pointer (some ⟨bb,off,none⟩))
  (hk:agg=false→k=1) (hl:((cs.toList.drop off).take k).length=k) (h:K (cb f d (sj agg ((cs.toList.drop off).take k))) w):SO P n ops ⟨some d,.load T x,ty,ps,af,none⟩ f w K:=by
 have hb:w.heap[bb]? =some (.cells cs t (0,0)):=H.at_ i hi
 refine SO.value (v:=sj agg ((cs.toList.drop off).take k)) ?_ h
 have hc:∀j u,((cs.toList.drop off).take k)[j]? =some u→w.cell? ((⟨bb,off,none⟩:Addr).add j)=some u:=by
  intro j u hu
  rw[show (⟨bb,off,none⟩:Addr).add j=⟨bb,off+j,none⟩ from by unfold Addr.add;split<;>simp_all,cell_of_row w bb (off+j) cs t (0,0) hb]
  have hj:j<k:=by
   have:=(dC.1 hu).1
   omega
  rw[anO,ann hj,an2] at hu
  simpa using hu
 simp[execOp,aN ox,hx,Instr.loadAt,Instr.sureAddr,ru F hk hl hc]
theorem lx {bb off:Nat} {cs:Array Value} {t:TypeId} (H:HI M0 w0 w l) (i:Nat) (hi:l[i]? =some (box bb cs t)) (F:ei P T 1 false bytes z) (ox:bG n x=true) (hx:ev f x=.pointer (some ⟨bb,off,none⟩))
  (hl:((cs.toList.drop off).take 1).length=1) (h:K (cb f d (sj false ((cs.toList.drop off).take 1))) w):SO P n ops ⟨some d,.load T x,ty,ps,af,none⟩ f w K:=cz H i hi F ox hx (fun _=>rfl) hl h
def wr (cs:Array Value) (off:Nat) (vs:List Value):Array Value:=(cs.toList.take off++vs++cs.toList.drop (off+vs.length)).toArray
theorem Cb (F:ei P T size agg bytes z) {g o:Nat} {cs:Array Value} {t:TypeId} (hg:w.heap[g]? =some (.cells cs t (0,0))) (hs:v.cells.size=size) (hf:o+v.cells.toList.length≤cs.size) (h1:∀u∈v.cells.toList,u.oneCell'=true):
  (storeVar T ⟨g,o,none⟩ v).run P w=.ok () (w.setRow g (wr cs o v.cells.toList)):=by
 have qB:=run_storeCells_at P g o t v.cells.toList 0 cs w hg (by simpa using hf) h1
 simp only[an0] at qB
 simp[storeVar,F.jm,hs,qB,wr]
theorem HI.wrote {g:Nat} {cs cs':Array Value} {t:TypeId} (H:HI M0 w0 w l) (i:Nat) (hi:l[i]? =some (box g cs t)):HI M0 w0 (w.setRow g cs') (l.set i (box g cs' t)):=by
 have hb:w.heap[g]? =some (.cells cs t (0,0)):=H.at_ i hi
 refine H.vB i hi J J J (by simp) (anl _) (fun c hc gH=>setRow_other w g c _<|fun e=>gH<|by rw[e];rfl) (fun b u3=>?_)<|setRow_heap w g cs _ t _ hb
 refine⟨?_,.inl u3⟩
 rw[size_setRow]
 exact(H.jq _ (dB hi) b u3).2
theorem bt {dd:Option Nat} {bb off:Nat} {cs:Array Value} {t:TypeId} (H:HI M0 w0 w l) (i:Nat) (hi:l[i]? =some (box bb cs t)) (F:ei P T size agg bytes z) (ox:bG n x=true) (oy:bG n y=true) (hx:ev f x=.pointer (some ⟨bb,off,none⟩)) (hy:ev f y=v)
  (hs:v.cells.size=size) (hf:Nat.ble (off+v.cells.toList.length) cs.size=true) (h1:v.cells.toList.all Value.oneCell'=true)
  (h:∀w',HI M0 w0 w' (l.set i (box bb (wr cs off v.cells.toList) t))→K (cX f dd undef) w'):SO P n ops ⟨dd,.store T x y,ty,ps,af,none⟩ f w K:=by
 have hb:w.heap[bb]? =some (.cells cs t (0,0)):=H.at_ i hi
 refine SO.skip ?_ (h _<|H.wrote i hi)
 simp[execOp,aN ox,aN oy,hx,hy,Instr.storeAt,Instr.sureAddr,Cb F hb hs (by simpa using hf) (fun u hu=>anr.1 h1 u hu)]
theorem A0 (t:TypeId) (v:Value) (w:World):(newVar t v).run P w=.ok ⟨w.heap.size,0,none⟩ (w.alloc (.cells v.cells t)):=by simp[newVar,newRow]
theorem HI.ad8 (H:HI M0 w0 w l) (cs:Array Value) (t:TypeId):HI M0 w0 (w.alloc (.cells cs t)) (box w.heap.size cs t::l):=
 H.new (Ext.alloc w _) w.heap.size rfl (anl _) (by simp) (heap_alloc_new w _)
theorem al (H:HI M0 w0 w l) (F:ei P T size agg bytes z) (h:∀b w',Ext w w'→HI M0 w0 w' (box b z.cells T::l)→K (cb f d (.pointer (some ⟨b,0,none⟩))) w'):
  SO P n ops ⟨some d,.alloc T,ty,ps,af,none⟩ f w K:=
 SO.value (v:=.pointer (some ⟨w.heap.size,0,none⟩)) (w':=w.alloc (.cells z.cells T)) (by simp[execOp,Instr.alloc,F.tU,A0]) (h _ _ (Ext.alloc w _) (H.ad8 z.cells T))
theorem bx (H:HI M0 w0 w l) (ox:bG n x=true) (hx:ev f x=v) (h:∀b w',Ext w w'→HI M0 w0 w' (box b v.cells T::l)→K (cb f d (.pointer (some ⟨b,0,none⟩))) w'):
  SO P n ops ⟨some d,.box T x,ty,ps,af,none⟩ f w K:=
 SO.value (v:=.pointer (some ⟨w.heap.size,0,none⟩)) (w':=w.alloc (.cells v.cells T)) (by simp[execOp,Instr.box,aN ox,hx,A0]) (h _ _ (Ext.alloc w _) (H.ad8 v.cells T))
structure gO (P:Program) (s:TypeId) (j:Nat) (off:Nat):Prop where
 h:∃fs fd,P.underlying s=some (.struct fs)∧fs[j]? =some fd∧fd.offset=off∧((P.info? fd.type).map fun i=>Nat.beq i.size 0)=some false
theorem fa {j off:Nat} (F:gO P T j off) (ox:bG n x=true) (hx:ev f x=.pointer (some ad)) (h:K (cb f d (.pointer (some (ad.add off)))) w):SO P n ops ⟨some d,.fieldAddr T x j,ty,ps,af,none⟩ f w K:=by
 obtain⟨fs,fd,h1,h2,rfl,h3⟩:=F.h
 obtain⟨i,h4,h6⟩:=anL.1 h3
 have h5:i.size≠0:=by
  intro e
  rw[e] at h6
  cases h6
 exact SO.value (v:=.pointer (some (ad.add fd.offset))) (by
  simp[execOp,aN ox,hx,Instr.fieldAt,gG h1,h2,Instr.sureAddr,fieldPlace,sizeOf,typeInfo,h4,h5]) h
theorem ia {α:Type} [GT α] {xs:List α} {i:Int} (hR:RV M w v xs) (ox:bG n x=true) (oy:bG n y=true) (hx:ev f x=v) (hy:ev f y=.int kk i) (hi:0≤i∧i<xs.length) (hu:P.underlying T=some (.slice e)) (F:ei P e (GT.size α) agg bytes z)
  (h:∀ad xv,xs[i.toNat]? =some xv→At M w ad xv→K (cb f d (.pointer (some ad))) w):SO P n ops ⟨some d,.indexAddr T x y,ty,ps,af,none⟩ f w K:=by
 obtain⟨a,m,c,rfl,h1,h2,h3,h4⟩:=RV.list.1 hR
 rcases h4 with h4|⟨ad,rfl,hs⟩
 ·omega
 ·have ep:i.toNat<xs.length:=by omega
  refine SO.value (v:=.pointer (some<|ad.add<|i.toNat*GT.size α)) ?_<|h _ xs[i.toNat] (eB ep)<|hs _ _<|eB ep
  have hb:0≤i∧i<(m:Int):=by omega
  simp[execOp,aN ox,aN oy,hx,hy,Instr.indexAt,asIntOf,gG hu,hb,F.jm]
theorem ij {α:Type} [GT α] {xs:List α} {B:Nat} {i:Int} (hO:(own B e v xs).holds M w) (ox:bG n x=true) (oy:bG n y=true) (hx:ev f x=v) (hy:ev f y=.int kk i) (hi:0≤i∧i<xs.length) (hu:P.underlying T=some (.slice e)) (F:ei P e (GT.size α) agg bytes z)
  (h:∀g xv,v.ownBlock=some g→xs[i.toNat]? =some xv→hG M w ⟨g,i.toNat*GT.size α,none⟩ xv→K (cb f d (.pointer (some ⟨g,i.toNat*GT.size α,none⟩))) w):SO P n ops ⟨some d,.indexAddr T x y,ty,ps,af,none⟩ f w K:=by
 obtain⟨cs,h1,h2⟩:=hO
 rcases h1.2 with ⟨_,h3⟩|⟨g,cap,cur,rfl,h3,h4,h5,h6,h7,h8⟩
 ·omega
 ·have ep:i.toNat<xs.length:=by omega
  have lj:(⟨g,0,none⟩:Addr).add (i.toNat*GT.size α)=⟨g,i.toNat*GT.size α,none⟩:=by unfold Addr.add;split<;>simp_all
  refine SO.value (v:=.pointer (some ⟨g,i.toNat*GT.size α,none⟩)) ?_<|h g xs[i.toNat] J (eB ep) ?_
  ·have hb:0≤i∧i<(xs.length:Int):=by omega
   simp[execOp,aN ox,aN oy,hx,hy,Instr.indexAt,asIntOf,gG hu,hb,F.jm,lj]
  ·obtain⟨c,yD,Ad⟩:=bu.at_ h2 i.toNat xs[i.toNat] (eB ep)
   refine⟨c,yD,fun j u hu=>?_⟩
   have uA:=h1.cells (g:=g) J (i.toNat*GT.size α+j) u<|Ad j u hu
   rwa [←add_add,lj] at uA
theorem bu.set {α:Type} [GT α] {M:Nat→Prop} {w:World} {y:α} {c:List Value} (hy:GT.rep M w c y):∀{xs:List α} {cs:List Value} (i:Nat),i<xs.length→bu M w cs xs→
  bu M w (cs.take (i*GT.size α)++c++cs.drop (i*GT.size α+c.length)) (xs.set i y)
 |x::xs,cs,0,_,⟨c1,c2,h1,h2,h3⟩=>by
  refine⟨c,c2,?_,hy,h3⟩
  rw[h1,apP,apk,List.nil_append,an5,GT.len hy,←GT.len h2,List.drop_left]
 |x::xs,cs,i+1,hi,⟨c1,c2,h1,h2,h3⟩=>by
  have:=bu.set hy i (by simpa using hi) h3
  refine⟨c1,_,?_,h2,this⟩
  have hl:=GT.len h2
  rw[h1,show (i+1)*GT.size α=c1.length+i*GT.size α from by rw[hl,an'];omega,ap2]
  rw[apC,List.drop_append,ant aq,aoU aq]
  rw[show c1.length+i*GT.size α-c1.length=i*GT.size α from by omega,show c1.length+(i*GT.size α+c.length)-c1.length=i*GT.size α+c.length from by omega]
  simp[anU]
theorem Nh {β:Type} (cur cy:List β) (o n:Nat) (h:o+cy.length≤n) (hn:n≤cur.length):
  (cur.take o++cy++cur.drop (o+cy.length)).take n=(cur.take n).take o++cy++(cur.take n).drop (o+cy.length):=by
 rw[apC,apC,aqg,aoO,aoO,fA,gY]
 rw[show min n o=o from by omega,show min o n=o from by omega,show min o cur.length=o from by omega,ant (l:=cy) aq]
theorem pt {dd:Option Nat} {α:Type} [GT α] {xs:List α} {yv:α} {B:Nat} {j g:Nat} {u:Value} (H:HI M0 w0 w l) (i:Nat) (hi:l[i]? =some (own B e v xs)) (hg:v.ownBlock=some g) (hB:B=w0.heap.size) (hj:j<xs.length) (F:ei P T (GT.size α) agg bytes z) (ox:bG n x=true) (oy:bG n y=true)
  (hx:ev f x=.pointer (some ⟨g,j*GT.size α,none⟩)) (hy:ev f y=u) (hR:RV (MS M0 l) w u yv)
  (h:∀w',HI M0 w0 w' (l.set i (own B e v (xs.set j yv)))→K (cX f dd undef) w'):SO P n ops ⟨dd,.store T x y,ty,ps,af,none⟩ f w K:=by
 subst hB
 obtain⟨cs,h1,h2⟩:=H.at_ i hi
 rcases h1.2 with ⟨rfl,h3⟩|⟨g',cap,cur,rfl,h3,h4,h5,h6,h7,h8⟩
 ·cases hg
 ·have hgg:g'=g:=by simpa [Value.ownBlock] using hg
  subst hgg
  obtain⟨cy,SJ,rfl⟩:=hR
  have rD:=T7 (agg:=GT.agg α) (cs:=cy) (fun h=>by rw[GT.len SJ];exact GT.single h)<|GT.one SJ
  have Yf:=GT.len SJ
  have V4:j*GT.size α+cy.length≤cur.size:=by
   rw[h7,Yf]
   have:(j+1)*GT.size α≤cap*GT.size α:=aom _ aq
   rw[an'] at this
   omega
  have kH:=Cb (P:=P) (w:=w) F (g:=g') (o:=j*GT.size α) (v:=sj (GT.agg α) cy) h4 (by rw[rD];simpa using Yf) (by rw[rD];simpa using V4)<|by rw[rD];simpa using GT.one SJ
  rw[rD] at kH
  simp only[List.toList_toArray] at kH
  refine SO.skip (w':=w.setRow g' (wr cur (j*GT.size α) cy)) ?_ (h _ ?_)
  ·simp[execOp,aN ox,aN oy,hx,hy,Instr.storeAt,Instr.sureAddr,kH]
  ·have CM:∀c,c<w.heap.size→(own w0.heap.size e (Value.slice (some ⟨g',0,none⟩) xs.length cap) xs).jC≠some c→(w.setRow g' (wr cur (j*GT.size α) cy)).heap[c]? =w.heap[c]?:=
    fun c hc gH=>setRow_other w g' c _ (fun e=>gH (by rw[e];rfl))
   have hblk:∀b,(own w0.heap.size e (Value.slice (some ⟨g',0,none⟩) xs.length cap) (xs.set j yv)).jC=some b→b<(w.setRow g' (wr cur (j*GT.size α) cy)).heap.size∧((own w0.heap.size e (Value.slice (some ⟨g',0,none⟩) xs.length cap) xs).jC=some b∨w.heap.size≤b):=by
    intro b hb
    refine⟨?_,.inl hb⟩
    rw[size_setRow]
    exact(H.jq _ (dB hi) b hb).2
   refine H.vB i hi J J J (by simp) (anl _) CM hblk ?_
   refine⟨cs.take (j*GT.size α)++cy++cs.drop (j*GT.size α+cy.length),?_,?_⟩
   ·rw[anj]
    have hlen:(cs.take (j*GT.size α)++cy++cs.drop (j*GT.size α+cy.length)).length=xs.length*GT.size α:=by
     have rC:=h1.1
     have:(j+1)*GT.size α≤xs.length*GT.size α:=aom _ aq
     rw[an'] at this
     simp only[fA,gY,anI]
     omega
    refine⟨hlen,.inr ⟨g',cap,wr cur (j*GT.size α) cy,J,h3,setRow_heap w g' cur _ e _ h4,h5,h6,?_,?_⟩⟩
    ·simp only[wr,aoQ,fA,gY,anI,an4]
     omega
    ·have hle:(j+1)*GT.size α≤xs.length*GT.size α:=aom _ aq
     rw[an'] at hle
     have rC:=h1.1
     have pA:xs.length*GT.size α≤cur.size:=by rw[h7];exact aom _ h5
     simp only[wr]
     rw[←h8]
     exact Nh cur.toList cy (j*GT.size α) (xs.length*GT.size α) aq<|by simpa using pA
   ·
    have qA:Up (MS M0 l) w (MS M0 (l.set i (own w0.heap.size e (Value.slice (some ⟨g',0,none⟩) xs.length cap) (xs.set j yv)))) (w.setRow g' (wr cur (j*GT.size α) cy)):=by
     refine⟨by simp,fun b hb hM=>⟨setRow_other w g' b _ (fun e=>hM<|.inr ⟨_,dB hi,by rw[e];rfl⟩),?_⟩⟩
     rintro(CW|⟨it,hit,l9⟩)
     ·exact hM<|.inl CW
     ·rcases an_ hit with hit|rfl
      ·exact hM<|.inr ⟨it,hit,l9⟩
      ·exact hM<|.inr ⟨_,dB hi,l9⟩
    exact bu.lift qA<|bu.set SJ j hj h2
theorem dP {ao:Option Addr} {m cc:Nat} (ox:bG n x=true) (hx:ev f x=.slice ao m cc) (hu:P.underlying T=some (.slice e)) (h:K (cb f d (.int .i64 (m:Int))) w):
  SO P n ops ⟨some d,.call {callee:=.builtin .len,args:=#[x],argTypes:=#[T]},ty,ps,af,none⟩ f w K:=
 SO.value (v:=.int .i64 (m:Int)) (by simp[execOp,resolve,invoke,builtin,Builtin.len_,aN ox,hx,gG hu,goInt]) h
theorem vR {s:ByteArray} (ox:bG n x=true) (hx:ev f x=.string s) (hu:P.underlying T=some .string) (h:K (cb f d (.int .i64 (s.size:Int))) w):
  SO P n ops ⟨some d,.call {callee:=.builtin .len,args:=#[x],argTypes:=#[T]},ty,ps,af,none⟩ f w K:=
 SO.value (v:=.int .i64 (s.size:Int)) (by simp[execOp,resolve,invoke,builtin,Builtin.len_,aN ox,hx,gG hu,goInt]) h
theorem Zu {ao:Option Addr} {m cc:Nat} (hu:P.underlying T=some (.slice e)):(binOp .eql T (.slice ao m cc) (.slice none 0 0)).run P w=.ok (.bool ao.isNone) w:=by
 show ((Op.equal T (.slice ao m cc) (.slice none 0 0) >>=fun b=>pure (Value.bool b)):Sem Value).run P w=_
 have h:(Op.equal T (.slice ao m cc) (.slice none 0 0)).run P w=.ok ao.isNone w:=by
  rw[show Op.equal T (.slice ao m cc) (.slice none 0 0)=Op.equalIn (9999+1) T (.slice ao m cc) (.slice none 0 0) from rfl]
  unfold Op.equalIn
  rw[Sem.run_bind,gG hu]
  cases ao<;>rfl
 rw[Sem.run_bind,h];rfl
theorem TL {ao:Option Addr} {m cc:Nat} (ox:bG n x=true) (oy:bG n y=true) (hx:ev f x=.slice ao m cc) (hy:ev f y=.slice none 0 0) (hu:P.underlying T=some (.slice e)) (h:K (cb f d (.bool ao.isNone)) w):
  SO P n ops ⟨some d,.binOp .eql T x y T2,ty,ps,af,none⟩ f w K:=
 SO.value (v:=.bool ao.isNone) (by
  have hg:(eqGuard .eql T x y (.slice ao m cc) (.slice none 0 0)).run P w=.ok () w:=by unfold eqGuard;rfl
  have hr:=Zu (P:=P) (w:=w) (ao:=ao) (m:=m) (cc:=cc) hu
  simp only[execOp,aN ox,aN oy,hx,hy,Sem.run_bind,hg,hr,Result.andThen_ok,Sem.run_pure]) h
end
end Go.Ew
namespace Go.Ew
open Go.RowKit Go.IntWalk
theorem Ext.grown {w w':World} (h:w.grownBy w' none) (hd:w.drawn≤w'.drawn):Ext w w':=⟨⟨h.os,h.tape,h.output,h.size,fun k hk=>h.block k hk (by simp)⟩,hd⟩
def Src {α:Type} [GT α] (M:Nat→Prop) (w:World) (v:Value) (ys:List α):Prop:=
 ∃a c,v=.slice a ys.length c∧(ys.length=0∨∃ad,a=some ad∧∃cs,bu M w cs ys∧∀j u,cs[j]? =some u→w.cell? (ad.add j)=some u)
theorem UA.chunks {α:Type} [GT α] {M:Nat→Prop} {w:World}:∀{xs:List α} {ad:Addr},UA M w ad xs→∃cs,bu M w cs xs∧∀j u,cs[j]? =some u→w.cell? (ad.add j)=some u
 |[],ad,_=>⟨[],rfl,fun j u h=>by simp at h⟩
 |x::xs,ad,h=>by
  obtain⟨c1,h1,_,h2⟩:=h 0 x rfl
  have Qo:UA M w (ad.add (GT.size α)) xs:=by
   intro i y hy
   have:=h (i+1) y<|by simpa using hy
   rw[add_add]
   rwa [show (i+1)*GT.size α=GT.size α+i*GT.size α from by rw[an'];omega] at this
  obtain⟨c2,h3,h4⟩:=UA.chunks Qo
  refine⟨c1++c2,⟨c1,c2,J,h1,h3⟩,fun j u hu=>?_⟩
  rw[List.getElem?_append] at hu
  have hl:=GT.len h1
  split at hu
  ·have:=h2 j u hu
   rwa [add_add,apP,an5] at this
  ·have:=h4 _ u hu
   rw[add_add,hl] at this
   rwa [show GT.size α+(j-GT.size α)=j from by omega] at this
theorem RV.src {α:Type} [GT α] {M:Nat→Prop} {w:World} {v:Value} {ys:List α} (h:RV M w v ys):Src M w v ys:=by
 obtain⟨a,n,c,rfl,rfl,h3,h4,h5⟩:=RV.list.1 h
 refine⟨a,c,J,?_⟩
 rcases h5 with h5|⟨ad,h5,h6⟩
 ·exact .inl h5
 ·exact .inr ⟨ad,h5,h6.chunks⟩
theorem gP {α:Type} [GT α] {M:Nat→Prop} {w:World} {v:Value} {ys:List α} {B:Nat} {e:TypeId} (h:(own B e v ys).holds M w):Src M w v ys:=by
 obtain⟨cs,h1,h2⟩:=h
 rcases h1.2 with ⟨rfl,h3⟩|⟨g,cap,cur,rfl,h3,h4,h5,h6,h7,h8⟩
 ·exact⟨none,0,by rw[h3],.inl h3⟩
 ·exact⟨_,cap,J,.inr ⟨_,J,cs,h2,h1.cells (g:=g) rfl⟩⟩
theorem zL {α:Type} [GT α] {M M':Nat→Prop} {w:World} {v:Value} {ys:List α} {B:Nat} {e:TypeId} (h:(own B e v ys).holds M w) (hM:∀b,b<w.heap.size→M' b→M b) (hv:∀b,v.ownBlock=some b→¬M' b):RV M' w v ys:=by
 obtain⟨cs,h1,h2⟩:=h
 refine RV.list.2 ?_
 rcases h1.2 with ⟨rfl,h3⟩|⟨g,cap,cur,rfl,h3,h4,h5,h6,h7,h8⟩
 ·exact⟨none,0,0,J,h3,anl _,by simp[maxLen],.inl rfl⟩
 ·refine⟨_,_,cap,J,J,h5,h6,.inr ⟨_,J,fun i x hx=>?_⟩⟩
  obtain⟨c,yD,Ad⟩:=bu.at_ h2 i x hx
  refine⟨c,GT.lift yD (Up.less hM),by rw[vk];exact hv g rfl,fun j u hu=>?_⟩
  rw[add_add]
  exact h1.cells (g:=g) J _ u<|Ad j u hu
section
variable {M0:Nat→Prop} {w0 w w':World} {l:List Item} {α:Type} [GT α] {v:Value} {xs:List α} {e:TypeId}
theorem wi {B:Nat} (H:HI M0 w0 w l) {i:Nat} (hi:l[i]? =some (own B e v xs)):∀b,v.ownBlock=some b→w0.heap.size≤b∧b<w.heap.size:=H.jq _ (dB hi)
theorem HI.freeze {B:Nat} (H:HI M0 w0 w l) (i:Nat) (hi:l[i]? =some (own B e v xs)):HI M0 w0 w (l.set i (tg v xs)):=by
 refine H.vB i hi J J J (anl _) (anl _) (fun _ _ _=>rfl) (fun b hb=>by cases hb) ?_
 have hO:=H.at_ i hi
 refine zL hO (fun b hb hM=>?_)<|fun b hb hM=>?_
 ·rcases hM with hM|⟨it,hit,l9⟩
  ·exact .inl hM
  ·rcases an_ hit with hit|rfl
   ·exact .inr ⟨it,hit,l9⟩
   ·cases l9
 ·have BO:=wi H hi b hb
  rcases hM with hM|⟨it,hit,l9⟩
  ·have:=H.m0 b hM;omega
  ·obtain⟨m,hm,rfl⟩:=api.1 hit
   rw[ap4] at l9
   split at l9
   ·cases l9
   ·rename_i gH
    have tI:m<l.length:=by simpa using hm
    exact gH<|hQ (·.jC) l H.nodup i m _ l[m] hi (eB tI) (by show (v.ownBlock).isSome=true;rw[hb];rfl)<|by rw[l9];exact hb
theorem HI.rl (α:Type) [GT α] (H:HI M0 w0 w l) (e:TypeId):HI M0 w0 w (own w0.heap.size e (.slice none 0 0) ([]:List α)::l):=
 H.put rfl ⟨[],World.ownsRow_nil w _ e _,rfl⟩
theorem HI.af1 (H:HI M0 w0 w l) (h:Y5 (MS M0 l) w xs v w'):HI M0 w0 w' (tg v xs::l):=(H.ext h.1).put rfl h.2
theorem aeD.af1 {β:Type} [GT β] {y:β} {M:Nat→Prop} (h:aeD w y v w') (hM:∀b,M b→b<w.heap.size):Y5 M w y v w':=⟨h.1,h.2.lift (Up.less fun b _ hb=>hM b hb)⟩
theorem HI.ZG (H:HI M0 w0 w l) (i:Nat) (hi:l[i]? =some (own w0.heap.size e v xs)) (akH:∀it∈l,∀b,it.jC=some b→True):RV M0 w v xs:=by
 have hO:=H.at_ i hi
 refine zL hO (fun b _ hb=>.inl hb)<|fun b hb hM=>?_
 have:=wi H hi b hb
 have:=H.m0 b hM
 omega
end
section
variable {P:Program} {n:Nat} {ops:Array Oper} {f:aQ} {w:World} {K:aQ→World→Prop} {x y c:Operand} {d:Nat} {ty T T2 e:TypeId} {ps:String} {af:Array Edge} {v v2 u:Value} {a b:Int} {M M0:Nat→Prop} {w0:World} {l:List Item} {kk:IntKind} {bytes:Nat} {z:Value} {ad:Addr} {size:Nat} {agg:Bool}
theorem vD {B:Nat} {s m:Nat} {cs:List Value} (h:w.ownsRow B e s v m cs):∃a c,v=.slice a m c:=by
 rcases h.2 with ⟨rfl,rfl⟩|⟨g,cap,cur,rfl,_⟩
 ·exact⟨none,0,J⟩
 ·exact⟨_,cap,J⟩
theorem ap {α:Type} [GT α] {xs ys:List α} {B:Nat} (H:HI M0 w0 w l) (i:Nat) (hi:l[i]? =some (own B e v xs)) (hB:B=w0.heap.size) (ox:bG n x=true) (oy:bG n y=true) (hx:ev f x=v) (hy:ev f y=u)
  (hs:Src (MS M0 l) w u ys) (hu:P.underlying T=some (.slice e)) (F:ei P e (GT.size α) agg bytes z) (hz:z.cells.size=GT.size α) (hl:(xs.length+ys.length)*bytes≤140737488355328) (kQ:xs.length+ys.length≤9223372036854775807)
  (h:∀a c w',HI M0 w0 w' (l.set i (own B e (.slice a (xs++ys).length c) (xs++ys)))→K (cb f d (.slice a (xs++ys).length c)) w'):
  SO P n ops ⟨some d,.call {callee:=.builtin .append,args:=#[x,y],argTypes:=#[T,T]},ty,ps,af,none⟩ f w K:=by
 subst hB
 obtain⟨cs,h1,h2⟩:=H.at_ i hi
 obtain⟨a0,c0,rfl,Fl⟩:=hs
 obtain⟨inf,su,tM,uZ,CP⟩:=F.info
 have ep:∀b,v.ownBlock=some b→w0.heap.size≤b∧b<w.heap.size:=wi H hi
 
 obtain⟨v',w',kH,zd,rb,BN⟩:∃v' w',(Builtin.append_ #[T,T] ty #[v,.slice a0 ys.length c0]).run P w=.ok v' w'∧
   (∃ds,w'.ownsRow w0.heap.size e (GT.size α) v' (xs.length+ys.length) (cs++ds)∧bu (MS M0 l) w ds ys)∧w.grownBy w' v.ownBlock∧(v'.ownBlock=v.ownBlock∨∀b,v'.ownBlock=some b→w.heap.size≤b∧b<w'.heap.size):=by
  rcases Fl with h0|⟨ad,rfl,ds,tN,CQ⟩
  ·have hys:ys=[]:=aoJ h0
   subst hys
   have hr:(Builtin.append_ #[T,T] ty #[v,.slice a0 0 c0]).run P w=.ok v w:=by
    rcases h1.2 with ⟨rfl,hn⟩|⟨g,cap,cur,rfl,hb,hg,hnc,_⟩
    ·cases a0<;>simp[Builtin.append_,gG hu,sizeOf,typeInfo,su,Builtin.lenOf,Builtin.firstCells,loadCells,loadCellsFrom]
    ·have:xs.length≤cap:=hnc
     cases a0<;>simp[Builtin.append_,gG hu,sizeOf,typeInfo,su,Builtin.lenOf,Builtin.firstCells,loadCells,loadCellsFrom,this,storeCells]
   exact⟨v,w,by simpa using hr,⟨[],by simpa using h1,J⟩,⟨J,J,J,anl _,fun _ _ _=>rfl⟩,.inl rfl⟩
  ·obtain⟨v',w',r1,r2,r3,_,r4⟩:=run_append_own_at (P:=P) w w0.heap.size T ty e inf z (GT.size α) bytes hu su tM uZ CP hz GT.pos v xs.length cs h1 ad ys.length c0 ds (bu.length tN) CQ (bu.AY tN) (by simp only[maxLen];omega) hl H.below.size
   refine⟨v',w',r1,⟨ds,r2,tN⟩,r3,?_⟩
   rcases r4 with hb|hb
   ·exact .inl hb
   ·refine .inr fun b vT=>⟨?_,(r2.lt b vT).2⟩
    rw[hb] at vT
    cases vT
    exact anl _
 obtain⟨ds,ho,Tb⟩:=zd
 obtain⟨a',c',rfl⟩:=vD ho
 refine SO.value (v:=.slice a' (xs.length+ys.length) c') (w':=w') ?_ ?_
 ·simp[execOp,resolve,invoke,builtin,aN ox,aN oy,hx,hy,kH]
 ·have:=h a' c' w'
  rw[fA] at this
  refine this ?_
  have hblk:∀b,(own w0.heap.size e (.slice a' (xs.length+ys.length) c') (xs++ys)).jC=some b→b<w'.heap.size∧((own w0.heap.size e v xs).jC=some b∨w.heap.size≤b):=by
   intro b hb
   refine⟨(ho.lt b hb).2,?_⟩
   rcases BN with BN|BN
   ·exact .inl (by rw[←hb];exact BN.symm)
   ·exact .inr (BN b hb).1
  refine H.vB i hi rb.os rb.tape rb.output rb.size (sf _ kH) (fun c hc gH=>rb.block c hc<|fun e=>gH e.symm) hblk ?_
  refine⟨cs++ds,by rw[fA];exact ho,?_⟩
  refine bu.lift ?_<|bu.append h2 Tb
  refine⟨rb.size,fun b hb hM=>⟨rb.block b hb (fun e=>hM<|.inr ⟨_,dB hi,e.symm⟩),?_⟩⟩
  rintro(CW|⟨it,hit,l9⟩)
  ·exact hM<|.inl CW
  ·rcases an_ hit with hit|rfl
   ·exact hM<|.inr ⟨it,hit,l9⟩
   ·rcases (hblk b l9).2 with h'|h'
    ·exact hM<|.inr ⟨_,dB hi,h'⟩
    ·omega
theorem lA {α:Type} [GT α] {xs ys:List α} {B:Nat} (H:HI M0 w0 w l) (i:Nat) (hi:l[i]? =some (own B e v xs)) (hB:B=w0.heap.size) (ox:bG n x=true) (oy:bG n y=true) (hx:ev f x=v) (hy:ev f y=u)
  (hs:Src (MS M0 l) w u ys) (hu:P.underlying T=some (.slice e)) (F:ei P e (GT.size α) agg bytes z) (hz:z.cells.size=GT.size α) (hl:(xs.length+ys.length)*bytes≤140737488355328) (pD:Nat.ble 1 bytes=true)
  (h:∀a c w',HI M0 w0 w' (l.set i (own B e (.slice a (xs++ys).length c) (xs++ys)))→K (cb f d (.slice a (xs++ys).length c)) w'):
  SO P n ops ⟨some d,.call {callee:=.builtin .append,args:=#[x,y],argTypes:=#[T,T]},ty,ps,af,none⟩ f w K:=
 ap H i hi hB ox oy hx hy hs hu F hz hl (Nat.le_trans (Nat.le_mul_of_pos_right _ (aot pD)) (Nat.le_trans hl aw)) h
theorem ZX {α:Type} [GT α] {M:Nat→Prop} {xs:List α} {cells:Array Value} {B:Nat} {w w':World} (hx:Ext w w') (hB:B≤w.heap.size) (hh:w'.heap[w.heap.size]? =some (.cells cells e (0,0))) (hc:bu M w cells.toList xs) (hl:xs.length≤maxLen) {M':Nat→Prop} (hM:∀b,b<w.heap.size→M' b→M b):
  (own B e (.slice (some ⟨w.heap.size,0,none⟩) xs.length xs.length) xs).holds M' w':=by
 refine⟨cells.toList,⟨bu.length hc,.inr ⟨w.heap.size,xs.length,cells,J,hB,hh,anl _,hl,?_,?_⟩⟩,bu.lift ⟨hx.size,fun b hb hn=>⟨hx.block b hb,fun h=>hn (hM b hb h)⟩⟩ hc⟩
 ·have:=bu.length hc;simpa using this
 ·rw[ant (by rw[bu.length hc];exact anl _)]
theorem aeE {it:Item} {b:Nat} (hn:it.jC=some b):∀c,c<b→MS M0 (it::l) c→MS M0 l c:=by
 rintro c hc (h|⟨j,hj,xr⟩)
 ·exact .inl h
 ·rcases anC.1 hj with rfl|hj
  ·rw[hn] at xr;cases xr;omega
  ·exact .inr ⟨j,hj,xr⟩
theorem eh:(([]:List (Nat×Operand)).map fun p=>(p.1,ev f p.2))=[]:=rfl
theorem cj {i:Nat} {L:List (Nat×Operand)} {V:List (Nat×Value)} (h:ev f x=v) (t:(L.map fun p=>(p.1,ev f p.2))=V):(((i,x)::L).map fun p=>(p.1,ev f p.2))=(i,v)::V:=by
 rw[anM,t,h]
theorem bs {α:Type} [GT α] {xs:List α} {len:Nat} {L:List (Nat×Operand)} {V:List (Nat×Value)} {cells:Array Value} (H:HI M0 w0 w l) (ol:Gc n (L.map (·.2))=true) (hL:(L.map fun p=>(p.1,ev f p.2))=V)
  (hb:∀w,(Instr.buildSlice T len V.toArray).run P w=.ok (.slice (some ⟨w.heap.size,0,none⟩) len len) (w.alloc (.cells cells e)))
  (hc:bu (MS M0 l) w cells.toList xs) (hl:xs.length=len) (hm:len≤maxLen)
  (h:∀g w',Ext w w'→HI M0 w0 w' (own w0.heap.size e (.slice (some ⟨g,0,none⟩) len len) xs::l)→K (cb f d (.slice (some ⟨g,0,none⟩) len len)) w'):
  SO P n ops ⟨some d,.buildSlice T len L.toArray,ty,ps,af,none⟩ f w K:=by
 subst hl hL
 refine SO.value (v:=.slice (some ⟨w.heap.size,0,none⟩) xs.length xs.length) (w':=w.alloc (.cells cells e)) ?_<|h _ _ (Ext.alloc w _) ?_
 ·have he:(L.map fun p=>(p.1,(b9 n f).eval p.2))=L.map fun p=>(p.1,ev f p.2):=by
   apply aor
   intro p hp
   rw[aN (anr.1 ol p.2 (an6.2 ⟨p,hp,rfl⟩))]
  simp only[execOp,apm]
  have:=hb w
  rw[←he] at this
  simp[this]
 ·refine H.new (Ext.alloc w _) w.heap.size J (anl _) (by simp) ?_
  exact ZX (Ext.alloc w _) H.below.size (heap_alloc_new w _) hc hm<|aeE (b:=w.heap.size) J
theorem mk {α:Type} [GT α] {m:Nat} {zx:α} (H:HI M0 w0 w l) (ox:bG n x=true) (oy:bG n y=true) (hx:ev f x=.int .i64 (m:Int)) (hy:ev f y=.int .i64 (m:Int)) (hu:P.underlying T=some (.slice e)) (F:ei P e (GT.size α) (GT.agg α) bytes z)
  (hz:∀M w,GT.rep (α:=α) M w z.cells.toList zx) (hb:bytes*m≤281474976710656) (hm:m≤9223372036854775807)
  (h:∀g w',Ext w w'→HI M0 w0 w' (own w0.heap.size e (.slice (some ⟨g,0,none⟩) m m) (List.replicate m zx)::l)→K (cb f d (.slice (some ⟨g,0,none⟩) m m)) w'):
  SO P n ops ⟨some d,.makeSlice T x y,ty,ps,af,none⟩ f w K:=by
 obtain⟨inf,su,tM,uZ,CP⟩:=F.info
 obtain⟨w',kH,zd,rb⟩:=run_make_full (P:=P) w w0.heap.size T e inf z (GT.size α) hu su tM uZ .i64 .i64 m (by rw[CP];exact hb) (by simp only[maxLen];omega) H.below.size
 refine SO.value (v:=.slice (some ⟨w.heap.size,0,none⟩) m m) (w':=w') (by simp[execOp,aN ox,aN oy,hx,hy,kH])<|h _ _ (Ext.grown rb<|sf _ kH) ?_
 refine H.new (Ext.grown rb<|sf _ kH) w.heap.size J (anl _) ((zd.lt _ J).2) ?_
 refine⟨_,by rw[od];exact zd,?_⟩
 
 have XT:z.cells.toList.length=GT.size α:=GT.len (hz (fun _=>False) w)
 have key:∀k,(madeCells z.cells (k*GT.size α)).toList=(List.replicate k z.cells.toList).flatten:=by
  intro k
  apply aoV
  ·simp[madeCells,XT,apR]
  ·intro i h1 h2
   have tj:i<k*GT.size α:=by simpa [madeCells] using h1
   simp only[madeCells]
   have hs:z.cells.size=GT.size α:=by simpa using XT
   have CK:0<GT.size α:=GT.pos
   have ep:i%GT.size α<z.cells.size:=by rw[hs];exact Nat.mod_lt _ CK
   have e2:((List.replicate k z.cells.toList).flatten)[i]? =z.cells.toList[i%GT.size α]?:=by
    clear h1 h2 ep
    induction k generalizing i with
    |zero=>simp at tj
    |succ k ih=>
     rw[aob,aoF,List.getElem?_append]
     split
     ·rename_i hl
      rw[XT] at hl
      rw[apz hl]
     ·rename_i hl
      rw[XT] at hl ⊢
      rw[ih (i-GT.size α) (by rw[an'] at tj;omega)]
      rw[show i%GT.size α=(i-GT.size α)%GT.size α from by
       rw[Nat.mod_eq_sub_mod aq]]
   have e3:=eB h2
   rw[e2,eB (by simpa using ep)] at e3
   rw[←anm e3]
   simp only[aqa,Array.getElem_map,Array.getElem_range,hs]
   rw[aqr z.cells (i%GT.size α) ep]
 have hcs:∀k M w,bu (α:=α) M w ((List.replicate k z.cells.toList).flatten) (List.replicate k zx):=by
  intro k
  induction k with
  |zero=>intro M w;rfl
  |succ k ih=>intro M w;exact⟨_,_,by rw[aob,aoF],hz M w,ih M w⟩
 rw[key]
 exact hcs _ _ _
theorem mk0 {α:Type} [GT α] {m:Nat} (H:HI M0 w0 w l) (ox:bG n x=true) (oy:bG n y=true) (hx:ev f x=.int .i64 0) (hy:ev f y=.int .i64 (m:Int)) (hu:P.underlying T=some (.slice e)) (F:ei P e (GT.size α) agg bytes z)
  (hb:bytes*m≤281474976710656) (hm:m≤9223372036854775807)
  (h:∀g w',Ext w w'→HI M0 w0 w' (own w0.heap.size e (.slice (some ⟨g,0,none⟩) 0 m) ([]:List α)::l)→K (cb f d (.slice (some ⟨g,0,none⟩) 0 m)) w'):
  SO P n ops ⟨some d,.makeSlice T x y,ty,ps,af,none⟩ f w K:=by
 obtain⟨inf,su,tM,uZ,CP⟩:=F.info
 obtain⟨w',kH,zd,rb⟩:=run_make_own (P:=P) w w0.heap.size T e inf z (GT.size α) hu su tM uZ .i64 .i64 m (by rw[CP];exact hb) (by simp only[maxLen];omega) H.below.size
 refine SO.value (v:=.slice (some ⟨w.heap.size,0,none⟩) 0 m) (w':=w') (by simp[execOp,aN ox,aN oy,hx,hy,kH])<|h _ _ (Ext.grown rb<|sf _ kH) ?_
 exact H.new (Ext.grown rb<|sf _ kH) w.heap.size J (anl _) ((zd.lt _ J).2) ⟨[],zd,J⟩
theorem RV.cut {α:Type} [GT α] {M:Nat→Prop} {w:World} {ao:Option Addr} {m cc:Nat} {xs:List α} (h:RV M w (.slice ao m cc) xs) (lo hi:Nat) (h1:lo≤hi) (h2:hi≤xs.length) (hc:cc=lo→xs.length=lo):
  RV M w (.slice (if cc=lo then ao else ao.map (·.add (lo*GT.size α))) (hi-lo) (cc-lo)) ((xs.drop lo).take (hi-lo)):=by
 obtain⟨a,n,c,he,h3,h4,h5,h6⟩:=RV.list.1 h
 simp only[Value.slice.injEq] at he
 obtain⟨rfl,rfl,rfl⟩:=he
 refine RV.list.2 ⟨_,_,_,J,by simp;omega,by omega,by omega,?_⟩
 by_cases h0:hi-lo=0
 ·exact .inl h0
 ·rcases h6 with h6|⟨ad,rfl,hs⟩
  ·omega
  ·have gH:cc≠lo:=fun e=>by have:=hc e;omega
   refine .inr ⟨ad.add (lo*GT.size α),by simp[gH],fun i x hx=>?_⟩
   rw[anO] at hx
   split at hx
   ·rw[an2] at hx
    have:=hs (lo+i) x hx
    rw[add_add]
    rwa [←an']
   ·cases hx
theorem N3 {α:Type} [GT α] {xs:List α} {ao:Option Addr} {cc:Nat} {lo:Int} {qY:Operand} (hR:RV M w (.slice ao xs.length cc) xs) (ox:bG n x=true) (ol:bG n qY=true) (hx:ev f x=.slice ao xs.length cc)
  (hl:ev f qY=.int kk lo) (hb:0≤lo∧lo≤xs.length) (hu:P.underlying T=some (.slice e)) (F:ei P e (GT.size α) agg bytes z)
  (h:∀a c,RV M w (.slice a (xs.drop lo.toNat).length c) (xs.drop lo.toNat)→K (cb f d (.slice a (xs.drop lo.toNat).length c)) w):
  SO P n ops ⟨some d,.slice T x (some qY) none none,ty,ps,af,none⟩ f w K:=by
 have hle:xs.length≤cc:=by obtain⟨a',n',c',he,_,h4,_⟩:=RV.list.1 hR;simp only[Value.slice.injEq] at he;omega
 have hc:=hR.cut lo.toNat xs.length aq aq<|fun e=>by omega
 rw[ant (by simp)] at hc
 have hlen:(xs.drop lo.toNat).length=xs.length-lo.toNat:=by simp
 refine SO.value (v:=.slice (if cc=lo.toNat then ao else ao.map (·.add (lo.toNat*GT.size α))) (xs.length-lo.toNat) (cc-lo.toNat)) (w':=w) ?_<|by rw[hlen] at h;exact h _ _ hc
 have u1:P.underlying T=some (.slice (P.elem T)):=by rw[hu];simp[Program.elem,hu]
 have uh:P.elem T=e:=by simp[Program.elem,hu]
 simp[execOp,aN ox,aN ol,hx,hl,Instr.sliceAt,gG hu]
 have:=run_slice_l (P:=P) (w:=w) T ao xs.length cc u1 kk lo hb.1 aq
 rw[uh,F.jm] at this
 simp[this,sliced]
theorem K1 {α:Type} [GT α] {xs:List α} {ao:Option Addr} {cc:Nat} {hi:Int} {oX:Operand} (hR:RV M w (.slice ao xs.length cc) xs) (ox:bG n x=true) (oh:bG n oX=true) (hx:ev f x=.slice ao xs.length cc)
  (hh:ev f oX=.int kk hi) (hb:0≤hi∧hi≤xs.length) (hu:P.underlying T=some (.slice e)) (F:ei P e (GT.size α) agg bytes z)
  (h:∀a c,RV M w (.slice a (xs.take hi.toNat).length c) (xs.take hi.toNat)→K (cb f d (.slice a (xs.take hi.toNat).length c)) w):
  SO P n ops ⟨some d,.slice T x none (some oX) none,ty,ps,af,none⟩ f w K:=by
 have hle:xs.length≤cc:=by obtain⟨a',n',c',he,_,h4,_⟩:=RV.list.1 hR;simp only[Value.slice.injEq] at he;omega
 have hc:=hR.cut 0 hi.toNat aq aq<|fun e=>by omega
 simp only[apW,ap7] at hc
 have hlen:(xs.take hi.toNat).length=hi.toNat:=by simp;omega
 refine SO.value (v:=.slice (if cc=0 then ao else ao.map (·.add (0*GT.size α))) hi.toNat cc) (w':=w) ?_<|by rw[hlen] at h;exact h _ _ hc
 have u1:P.underlying T=some (.slice (P.elem T)):=by rw[hu];simp[Program.elem,hu]
 have uh:P.elem T=e:=by simp[Program.elem,hu]
 simp[execOp,aN ox,aN oh,hx,hh,Instr.sliceAt,gG hu]
 have:=run_slice_h (P:=P) (w:=w) T ao xs.length cc u1 kk hi hb.1 aq
 rw[uh,F.jm] at this
 simp[this,sliced]
theorem bd {L:List (Nat×Operand)} {V:List (Nat×Value)} {v:Value} (ol:Gc n (L.map (·.2))=true) (hL:(L.map fun p=>(p.1,ev f p.2))=V) (hb:∀w,(Instr.build T V.toArray).run P w=.ok v w) (h:K (cb f d v) w):
  SO P n ops ⟨some d,.build T L.toArray,ty,ps,af,none⟩ f w K:=by
 subst hL
 refine SO.value (v:=v) (w':=w) ?_ h
 have he:(L.map fun p=>(p.1,(b9 n f).eval p.2))=L.map fun p=>(p.1,ev f p.2):=by
  apply aor
  intro p hp
  rw[aN (anr.1 ol p.2 (an6.2 ⟨p,hp,rfl⟩))]
 simp only[execOp,apm]
 have:=hb w
 rw[←he] at this
 simp[this]
theorem fd {i:Nat} {u v:Value} (ox:bG n x=true) (hx:ev f x=u) (hr:∀w,(Instr.field T u i).run P w=.ok v w) (h:K (cb f d v) w):SO P n ops ⟨some d,.field T x i,ty,ps,af,none⟩ f w K:=
 SO.value (v:=v) (by simp[execOp,aN ox,hx,hr w]) h
theorem ix {u v:Value} (ox:bG n x=true) (oy:bG n y=true) (hx:ev f x=u) (hy:ev f y=v2) (hr:∀w,(Instr.index T u v2).run P w=.ok v w) (h:K (cb f d v) w):SO P n ops ⟨some d,.index T x y,ty,ps,af,none⟩ f w K:=
 SO.value (v:=v) (by simp[execOp,aN ox,aN oy,hx,hy,hr w]) h
theorem XS {i:Int} {m:Nat} (ox:bG n x=true) (oy:bG n y=true) (hx:ev f x=.pointer (some ad)) (hy:ev f y=.int kk i) (hi:0≤i∧i<(m:Int)) (hu:P.underlying T=some (.array m e)) (F:ei P e size agg bytes z)
  (h:K (cb f d (.pointer (some (ad.add (i.toNat*size))))) w):SO P n ops ⟨some d,.indexAddr T x y,ty,ps,af,none⟩ f w K:=
 SO.value (v:=.pointer (some (ad.add (i.toNat*size)))) (by
  simp[execOp,aN ox,aN oy,hx,hy,Instr.indexAt,asIntOf,gG hu,Instr.sureAddr,hi.1,hi.2,F.jm]) h
theorem ahW {i m:Nat} (ox:bG n x=true) (oy:bG n y=true) (hx:ev f x=.pointer (some ad)) (hy:ev f y=.int kk ((i:Nat):Int)) (hi:i<m) (hu:P.underlying T=some (.array m e)) (F:ei P e size agg bytes z)
  (h:K (cb f d (.pointer (some (ad.add (i*size))))) w):SO P n ops ⟨some d,.indexAddr T x y,ty,ps,af,none⟩ f w K:=
 XS ox oy hx hy aq hu F (by rw[dv];exact h)
theorem ixS {s:ByteArray} {i:Int} (ox:bG n x=true) (oy:bG n y=true) (hx:ev f x=.string s) (hy:ev f y=.int kk i) (hi:0≤i∧i<s.size) (hu:P.underlying T=some .string)
  (h:∀c,s[i.toNat]? =some c→K (cb f d (.int .u8 (c.toNat:Int))) w):SO P n ops ⟨some d,.index T x y,ty,ps,af,none⟩ f w K:=by
 have ep:i.toNat<s.size:=by omega
 have hg:s[i.toNat]? =some s[i.toNat]:=getElem?_pos s i.toNat ep
 exact SO.value (v:=.int .u8 ((s[i.toNat]).toNat:Int)) (by
  simp[execOp,aN ox,aN oy,hx,hy,Instr.index,asIntOf,gG hu,hi.1,hg]) (h _ hg)
theorem YK {s t:ByteArray} (ox:bG n x=true) (oy:bG n y=true) (hx:ev f x=.string s) (hy:ev f y=.string t) (h:K (cb f d (.bool (decide (s=t)))) w):SO P n ops ⟨some d,.binOp .eql T x y T2,ty,ps,af,none⟩ f w K:=
 SO.value (v:=.bool (decide (s=t))) (by
  have e:(s.toList==t.toList)=decide (s=t):=by
   rw[←beq_toListBytes,anH]
   rcases s with ⟨a⟩
   rcases t with ⟨b⟩
   show (a==b)=true↔_
   simp
  have hg:(eqGuard .eql T x y (.string s) (.string t)).run P w=.ok () w:=by unfold eqGuard;rfl
  simp only[execOp,aN ox,aN oy,hx,hy,Sem.run_bind,hg,Result.andThen_ok]
  simp[binOp,Op.stringOp,e]) h
theorem neS {s t:ByteArray} (ox:bG n x=true) (oy:bG n y=true) (hx:ev f x=.string s) (hy:ev f y=.string t) (h:K (cb f d (.bool (!decide (s=t)))) w):SO P n ops ⟨some d,.binOp .neq T x y T2,ty,ps,af,none⟩ f w K:=
 SO.value (v:=.bool (!decide (s=t))) (by
  have e:(s.toList==t.toList)=decide (s=t):=by
   rw[←beq_toListBytes,anH]
   rcases s with ⟨a⟩
   rcases t with ⟨b⟩
   show (a==b)=true↔_
   simp
  have hg:(eqGuard .neq T x y (.string s) (.string t)).run P w=.ok () w:=by unfold eqGuard;rfl
  simp only[execOp,aN ox,aN oy,hx,hy,Sem.run_bind,hg,Result.andThen_ok]
  simp[binOp,Op.stringOp,e]) h
theorem neB {p q:Bool} (ox:bG n x=true) (oy:bG n y=true) (hx:ev f x=.bool p) (hy:ev f y=.bool q) (hu:P.underlying T=some .bool) (h:K (cb f d (.bool (!(p==q)))) w):SO P n ops ⟨some d,.binOp .neq T x y T2,ty,ps,af,none⟩ f w K:=
 SO.value (v:=.bool (!(p==q))) (by
  have hg:(eqGuard .neq T x y (.bool p) (.bool q)).run P w=.ok () w:=by unfold eqGuard;rfl
  have hr:(binOp .neq T (.bool p) (.bool q)).run P w=.ok (.bool (!(p==q))) w:=by
   show ((Op.equal T (.bool p) (.bool q) >>=fun b=>pure (Value.bool (!b))):Sem Value).run P w=_
   have h:(Op.equal T (.bool p) (.bool q)).run P w=.ok (p==q) w:=by
    rw[show Op.equal T (.bool p) (.bool q)=Op.equalIn (9999+1) T (.bool p) (.bool q) from rfl]
    unfold Op.equalIn
    rw[Sem.run_bind,gG hu];rfl
   rw[Sem.run_bind,h];rfl
  simp only[execOp,aN ox,aN oy,hx,hy,Sem.run_bind,hg,hr,Result.andThen_ok,Sem.run_pure]) h
theorem gq {op:BinOp} {u:Value} (ox:bG n x=true) (oy:bG n y=true) (hx:ev f x=v) (hy:ev f y=v2) (hg:(eqGuard op T x y v v2).run P w=.ok () w) (hr:(binOp op T v v2).run P w=.ok u w) (h:K (cb f d u) w):
  SO P n ops ⟨some d,.binOp op T x y T2,ty,ps,af,none⟩ f w K:=
 SO.value (v:=u) (by simp only[execOp,aN ox,aN oy,hx,hy,Sem.run_bind,hg,hr,Result.andThen_ok,Sem.run_pure]) h
end
end Go.Ew
namespace Go.Ew
open Go.RowKit
def PW (P:Program) (n:Nat) (ops:Array Oper) (w0:World) (K:aQ→Prop):List Oper→aQ→Prop
 |[],f=>K f
 |o::r,f=>∃v,(∀w,Ext w0 w→SO P n ops o f w (fun f' w'=>f'=cX f o.dst v∧Ext w w'))∧PW P n ops w0 K r (cX f o.dst v)
def Gb (l:List Oper):Nat→List Oper→Bool
 |_,[]=>true
 |i,o::r=>(o.looksAt l.toArray).all (fun t=>!(jg l.length l).contains t||(List.range i).any (fun j=>kN o j&&Nat.beq (iW l j) t&&((l[j]?).bind (·.dst)).isSome))&&
   (match o.op with| .select _ _=>false|_=>true)&&Gb l (i+1) r
def Qd (n:Nat) (l:List Oper):Bool:=Om n l.length l&&Gb l 0 l
section
variable {P:Program} {n:Nat} {ops:Array Oper} {w0:World} {K:aQ→Prop} {o:Oper} {f f2:aQ} {w:World} {v:Value}
theorem Dh {x:Operand} (h:∀t,x=.tmp t→f2 t=f t):(b9 n f2).eval x=(b9 n f).eval x:=by
 cases x with
 |tmp t=>
  by_cases ht:t<n
  ·simp[Act.eval,b9,ht,h t rfl]
  ·simp[Act.eval,b9,ht]
 |_=>rfl
theorem xQ (hg:∀j b,o.guard=some (j,b)→∀t,(ops[j]?).bind (·.dst)=some t→f2 t=f t):Region.wanted o (yielded ops (b9 n f2).tmps)=Region.wanted o (yielded ops (b9 n f).tmps):=by
 unfold Region.wanted
 cases hgd:o.guard with
 |none=>rfl
 |some gw=>
  obtain⟨j,b⟩:=gw
  simp only[]
  have:yielded ops (b9 n f2).tmps j=yielded ops (b9 n f).tmps j:=by
   unfold yielded
   cases ht:(ops[j]?).bind (·.dst) with
   |none=>rfl
   |some t=>
    have he:=hg j b hgd t ht
    by_cases hn:t<n
    ·simp[b9,hn,he]
    ·simp[b9,hn]
  rw[this]
theorem FR {d:Nat} {u v:Value} (hd:d<n) (h:b9 n (cb f d u)=b9 n (cb f d v)):u=v:=by
 have h1:(b9 n (cb f d u)).tmps[d]? =(b9 n (cb f d v)).tmps[d]?:=by rw[h]
 simpa [b9,hd,iR] using h1
theorem yg {l:List Oper}:∀(r:List Oper) (i:Nat),Gb l i r=true→∀j o,r[j]? =some o→(∀t∈o.looksAt l.toArray,(jg l.length l).contains t=false∨∃q,q<i+j∧kN o q=true∧iW l q=t∧((l[q]?).bind (·.dst)).isSome=true)∧∀cs b,o.op≠.select cs b
 |[],_,_,j,o,h=>by simp at h
 |x::r,i,h,j,o,hj=>by
  simp only[Gb,eI] at h
  cases j with
  |zero=>
   simp only[anA,anx] at hj
   subst hj
   refine⟨fun t ht=>?_,fun cs b e=>?_⟩
   ·have:=anr.1 h.1.1 t ht
    rcases aoc.1 this with h1|h1
    ·exact .inl (by simpa using h1)
    ·obtain⟨q,hq,nw⟩:=anV.1 h1
     simp only[eI,Nat.beq_eq] at nw
     exact .inr ⟨q,by have:=ano.1 hq;omega,nw.1.1,by simpa using nw.1.2,nw.2⟩
   ·have:=h.1.2
    rw[e] at this;cases this
  |succ j=>
   simp only[anG] at hj
   have:=yg r (i+1) h.2 j o hj
   refine⟨fun t ht=>?_,this.2⟩
   rcases this.1 t ht with h1|⟨q,h1,h2⟩
   ·exact .inl h1
   ·exact .inr ⟨q,by omega,h2⟩
end
theorem gu {P:Program} {n:Nat} {ops:Array Oper} {f:aQ} {w:World} {K:aQ→World→Prop} {d:Option Nat} {op:Op} {ty:TypeId} {ps:String} {af:Array Edge} {j t:Nat} {want:Bool}
  (hj:xE ops j=some t) (ht:Nat.blt t n=true) (hv:f t=undef)
  (h:K (cX f d undef) w):SO P n ops ⟨d,op,ty,ps,af,some (j,want)⟩ f w K:=by
 intro Q rest hk
 have hy:yielded ops (b9 n f).tmps j=none:=by
  simp only[apr] at ht
  unfold xE at hj
  simp[yielded,hj,b9,ht,hv,undef]
 unfold wpList
 rw[anp (by simp[Region.wanted,hy])]
 rw[qw]
 exact hk _ _ h
section
variable {P:Program} {n:Nat} {ops:Array Oper} {w0:World} {K:aQ→Prop} {f:aQ} {rest:List Oper}
theorem e1 {f:aQ} {w:World}:f=f∧Ext w w:=⟨rfl,Ext.refl w⟩
theorem e2 {f:aQ} {d:Nat} {v x:Value} {w w':World} (h:v=x∧Ext w w'):cX f (some d) v=cX f (some d) x∧Ext w w':=⟨by rw[h.1],h.2⟩
theorem kq {o:Oper} {v:Value} (h:∀w,Ext w0 w→SO P n ops o f w (fun f' w'=>f'=cX f o.dst v∧Ext w w')) (r:PW P n ops w0 K rest (cX f o.dst v)):PW P n ops w0 K (o::rest) f:=⟨v,h,r⟩
theorem zq (h:K f):PW P n ops w0 K [] f:=h
variable {d:Option Nat} {op:Op} {ty:TypeId} {ps:String} {af:Array Edge} {j t:Nat} {want b:Bool}
theorem qy (hj:xE ops j=some t) (ht:Nat.blt t n=true) (hv:f t=.bool b) (hb:b=want)
  (h:PW P n ops w0 K (⟨d,op,ty,ps,af,none⟩::rest) f):PW P n ops w0 K (⟨d,op,ty,ps,af,some (j,want)⟩::rest) f:=by
 obtain⟨v,h1,h2⟩:=h
 exact⟨v,fun w hw=>gy hj ht hv hb (h1 w hw),h2⟩
theorem qn (hj:xE ops j=some t) (ht:Nat.blt t n=true) (hv:f t=.bool b) (hb:b=!want)
  (h:PW P n ops w0 K rest (cX f d undef)):PW P n ops w0 K (⟨d,op,ty,ps,af,some (j,want)⟩::rest) f:=
 ⟨undef,fun w hw=>gn hj ht hv hb ⟨rfl,Ext.refl w⟩,h⟩
theorem qu (hj:xE ops j=some t) (ht:Nat.blt t n=true) (hv:f t=undef)
  (h:PW P n ops w0 K rest (cX f d undef)):PW P n ops w0 K (⟨d,op,ty,ps,af,some (j,want)⟩::rest) f:=
 ⟨undef,fun w hw=>gu hj ht hv ⟨rfl,Ext.refl w⟩,h⟩
end
section
variable {P:Program} {n:Nat} {ops:Array Oper} {w0:World} {K:aQ→Prop} {f:aQ} {rest:List Oper} {d:Nat} {ty:TypeId} {ps:String} {af:Array Edge} {M:Nat→Prop} {x y:Operand} {T e:TypeId} {kk:IntKind} {agg:Bool} {bytes:Nat} {z v:Value} {ad:Addr}
theorem ub {α:Type} [GT α] {xs:List α} {i:Int} (hR:RV M w0 v xs) (ox:bG n x=true) (oy:bG n y=true) (hx:ev f x=v) (hy:ev f y=.int kk i) (hi:0≤i∧i<xs.length) (hu:P.underlying T=some (.slice e)) (F:ei P e (GT.size α) agg bytes z)
  (h:∀ad xv,xs[i.toNat]? =some xv→At M w0 ad xv→PW P n ops w0 K rest (cb f d (.pointer (some ad)))):PW P n ops w0 K (⟨some d,.indexAddr T x y,ty,ps,af,none⟩::rest) f:=by
 obtain⟨a,m,c,rfl,h1,h2,h3,h4⟩:=RV.list.1 hR
 rcases h4 with h4|⟨ad,rfl,hs⟩
 ·omega
 ·have ep:i.toNat<xs.length:=by omega
  refine⟨.pointer (some<|ad.add<|i.toNat*GT.size α),fun w hw=>SO.value (v:=.pointer (some<|ad.add<|i.toNat*GT.size α)) (w':=w) ?_ ⟨J,Ext.refl w⟩,h _ xs[i.toNat] (eB ep) (hs _ _<|eB ep)⟩
  have hb:0≤i∧i<(m:Int):=by omega
  simp[execOp,aN ox,aN oy,hx,hy,Instr.indexAt,asIntOf,gG hu,hb,F.jm]
theorem sV {α:Type} [GT α] {xs:List α} {B:Nat} {i:Int} (hO:(own B e v xs).holds M w0) (ox:bG n x=true) (oy:bG n y=true) (hx:ev f x=v) (hy:ev f y=.int kk i) (hi:0≤i∧i<xs.length) (hu:P.underlying T=some (.slice e)) (F:ei P e (GT.size α) agg bytes z)
  (h:∀ad xv,xs[i.toNat]? =some xv→hG M w0 ad xv→PW P n ops w0 K rest (cb f d (.pointer (some ad)))):PW P n ops w0 K (⟨some d,.indexAddr T x y,ty,ps,af,none⟩::rest) f:=by
 obtain⟨cs,h1,h2⟩:=hO
 rcases h1.2 with ⟨_,h3⟩|⟨g,cap,cur,rfl,h3,h4,h5,h6,h7,h8⟩
 ·omega
 ·have ep:i.toNat<xs.length:=by omega
  have lj:(⟨g,0,none⟩:Addr).add (i.toNat*GT.size α)=⟨g,i.toNat*GT.size α,none⟩:=by unfold Addr.add;split<;>simp_all
  refine⟨.pointer (some ⟨g,i.toNat*GT.size α,none⟩),fun w hw=>SO.value (v:=.pointer (some ⟨g,i.toNat*GT.size α,none⟩)) (w':=w) ?_ ⟨J,Ext.refl w⟩,h _ xs[i.toNat] (eB ep) ?_⟩
  ·have hb:0≤i∧i<(xs.length:Int):=by omega
   simp[execOp,aN ox,aN oy,hx,hy,Instr.indexAt,asIntOf,gG hu,hb,F.jm,lj]
  ·obtain⟨c,yD,Ad⟩:=bu.at_ h2 i.toNat xs[i.toNat] (eB ep)
   refine⟨c,yD,fun j u hu=>?_⟩
   have uA:=h1.cells (g:=g) J (i.toNat*GT.size α+j) u<|Ad j u hu
   rwa [←add_add,lj] at uA
theorem xZ {α:Type} [GT α] {xv:α} (hA:hG M w0 ad xv) (F:ei P T (GT.size α) (GT.agg α) bytes z) (ox:bG n x=true) (hx:ev f x=.pointer (some ad))
  (h:∀v,RV M w0 v xv→PW P n ops w0 K rest (cb f d v)):PW P n ops w0 K (⟨some d,.load T x,ty,ps,af,none⟩::rest) f:=by
 obtain⟨cs,h1,h2⟩:=hA
 refine⟨sj (GT.agg α) cs,fun w hw=>SO.value (v:=sj (GT.agg α) cs) (w':=w) ?_ ⟨J,Ext.refl w⟩,h _ ⟨cs,h1,J⟩⟩
 have h3:∀j v,cs[j]? =some v→w.cell? (ad.add j)=some v:=fun j v hv=>(World.cell?_of_block (hw.block _ (pJ (h2 j v hv)))).trans (h2 j v hv)
 simp[execOp,aN ox,hx,Instr.loadAt,Instr.sureAddr,ru F GT.single (GT.len h1) h3]
theorem pc {i:Int} (hA:hG M w0 ad i) (F:ei P T 1 false bytes z) (ox:bG n x=true) (hx:ev f x=.pointer (some ad)) (h:aM i→PW P n ops w0 K rest (cb f d (.int .i64 i))):
  PW P n ops w0 K (⟨some d,.load T x,ty,ps,af,none⟩::rest) f:=xZ hA F ox hx fun v hv=>by obtain⟨rfl,hi⟩:=RV.int.1 hv;exact h hi
theorem ae5 {u:BitVec 64} (hA:hG M w0 ad u) (F:ei P T 1 false bytes z) (ox:bG n x=true) (hx:ev f x=.pointer (some ad)) (h:PW P n ops w0 K rest (cb f d (aj u))):
  PW P n ops w0 K (⟨some d,.load T x,ty,ps,af,none⟩::rest) f:=xZ hA F ox hx fun v hv=>by rw[RV.bv.1 hv];exact h
theorem ae6 {u:Bool} (hA:hG M w0 ad u) (F:ei P T 1 false bytes z) (ox:bG n x=true) (hx:ev f x=.pointer (some ad)) (h:PW P n ops w0 K rest (cb f d (.bool u))):
  PW P n ops w0 K (⟨some d,.load T x,ty,ps,af,none⟩::rest) f:=xZ hA F ox hx fun v hv=>by rw[RV.bool.1 hv];exact h
theorem F5 {α:Type} [GT α] {xs:List α} (hA:hG M w0 ad xs) (F:ei P T 1 false bytes z) (ox:bG n x=true) (hx:ev f x=.pointer (some ad))
  (h:∀a c,RV M w0 (.slice a xs.length c) xs→PW P n ops w0 K rest (cb f d (.slice a xs.length c))):PW P n ops w0 K (⟨some d,.load T x,ty,ps,af,none⟩::rest) f:=
 xZ hA F ox hx fun v hv=>by obtain⟨a,c,rfl,hr⟩:=(RV.list.1 hv).explicit;exact h a c hr
end
end Go.Ew
namespace Go.Ew
open Go.RowKit
abbrev UT:=List (Nat×(Value→World→Prop))
def LN (aj:UT) (t:Nat):Bool:=aj.any (fun p=>Nat.beq p.1 t)
section
variable {P:Program} {n:Nat} {ops:Array Oper} {w0:World} {o:Oper} {f f2:aQ} {w:World} {v:Value} {ai:Value→World→Prop}
theorem SO.rL (h:SO P n ops o f w (fun f' w'=>∃v,f'=cX f o.dst v∧Ext w w'∧ai v w')) (hs:∀cs b,o.op≠.select cs b) (hu:∀t∈o.looksAt ops,f2 t=f t) (hd:∀d,o.dst=some d→d<n):
  SO P n ops o f2 w (fun f' w'=>∃v,f'=cX f2 o.dst v∧Ext w w'∧ai v w'):=by
 intro Q rest hk
 have h1:=h (fun e a w'=>match e with| .normal=>∃v,a=b9 n (cX f o.dst v)∧Ext w w'∧ai v w'|_=>False) []<|fun f' w' hK=>wpList_nil<|by obtain⟨v,h1,h2⟩:=hK;exact⟨v,by rw[h1],h2⟩
 have he:execOp (b9 n f2).eval o=execOp (b9 n f).eval o:=execOp_congr o hs fun x hx=>Dh fun t ht=>hu t (by
  subst ht
  exact aoC _ (anN.2 ⟨.tmp t,by simpa using hx,rfl⟩))
 have hw:Region.wanted o (yielded ops (b9 n f2).tmps)=Region.wanted o (yielded ops (b9 n f).tmps):=xQ fun j b hg t ht=>hu t (by
  unfold Oper.looksAt
  rw[hg]
  refine aow _ ?_
  simp[ht])
 have key:∀u w',(∃v,(b9 n f).put o.dst u=b9 n (cX f o.dst v)∧Ext w w'∧ai v w')→wpList P ops Q rest ((b9 n f2).put o.dst u) w':=by
  rintro u w' ⟨v,hq,h2,h3⟩
  rw[qw] at hq ⊢
  cases tl:o.dst with
  |none=>exact hk _ _ ⟨v,by rw[tl];rfl,h2,h3⟩
  |some d=>
   rw[tl] at hq
   have SN:u=v:=FR (hd d tl) hq
   subst SN
   exact hk _ _ ⟨u,by rw[tl],h2,h3⟩
 unfold wpList at h1 ⊢
 rw[hw]
 split at h1
 ·rename_i CH
  rw[ann CH]
  refine .inl ?_
  rcases h1 with h2|⟨_,a0,w1,hq⟩
  ·unfold Oper.wp at h2 ⊢
   rw[he]
   generalize (execOp (b9 n f).eval o).run P w=r at *
   cases r with
   |ok x w'=>
    cases x with
    |enter g args=>
     simp only[Oper.upon] at h2 ⊢
     refine Calls.mono h2 ?_
     intro e mB yB
     cases e with
     |returned u=>exact key u mB yB
     |panicked c=>exact yB.elim
     |outgrown=>obtain⟨a0,w1,hq⟩:=yB;exact hq.elim
    |row r args=>
     simp only[Oper.upon] at h2 ⊢
     exact Rows.mono h2 fun u mB yB=>key u mB yB
    |defer d=>
     simp only[Oper.upon] at h2 ⊢
     obtain⟨v,h3, -⟩:=(show ∃v,_∧_ from h2)
     exfalso
     have h4:=ani (fun a=>a.defers.length) h3
     cases tl:o.dst<;>rw[tl] at h4<;>simp[Act.put,b9] at h4
    |value u=>
     simp only[Oper.upon] at h2 ⊢
     exact key u w' h2
    |skip=>
     simp only[Oper.upon] at h2 ⊢
     exact key undef w' h2
    |_=>exact(show False from h2).elim
   |halt x w'=>cases x<;>simp only[Oper.upon] at h2 ⊢<;>exact h2.elim
  ·exact hq.elim
 ·rename_i CH
  rw[anp CH]
  exact key undef w h1
def Agr (L:List Nat) (aj:UT) (f g:aQ) (w:World):Prop:=
 ∀t∈L,(LN aj t=false→g t=f t)∧(∀(j:Nat) (Φ:Value→World→Prop),aj[j]? =some (t,Φ)→Φ (g t) w)
def GO (P:Program) (n:Nat) (ops:Array Oper) (w0:World) (o:Oper) (aj:UT) (f:aQ) (ai:Value→World→Prop):Prop:=
 ∀w g,Ext w0 w→Agr (o.looksAt ops) aj f g w→SO P n ops o g w (fun f' w'=>∃v,f'=cX g o.dst v∧Ext w w'∧ai v w')
def PX (P:Program) (n:Nat) (ops:Array Oper) (w0:World) (K:UT→aQ→Prop):List Oper→UT→aQ→Prop
 |[],aj,f=>K aj f
 |o::r,aj,f=>(∃X,GO P n ops w0 o aj f (eV X)∧PX P n ops w0 K r aj (cX f o.dst X))∨
   (∃d Φ,o.dst=some d∧(∀v w w',Ext w w'→Φ v w→Φ v w')∧GO P n ops w0 o aj f Φ∧PX P n ops w0 K r ((d,Φ)::aj) f)
abbrev EN:=Option Value×(Value→World→Prop)
def C5:List (Oper×EN)→aQ→aQ
 |[],f=>f
 |(o,(some X,_))::r,f=>C5 r (cX f o.dst X)
 |(_,(none,_))::r,f=>C5 r f
def xJ:List (Oper×EN)→UT→UT
 |[],aj=>aj
 |(_,(some _,_))::r,aj=>xJ r aj
 |(o,(none,Φ))::r,aj=>xJ r ((o.dst.getD 0,Φ)::aj)
theorem PX.values {K:UT→aQ→Prop}:∀(l:List Oper) (aj:UT) (f:aQ),PX P n ops w0 K l aj f→∃es:List EN,es.length=l.length∧(∀e∈es,∀X,e.1=some X→e.2=eV X)∧(∀e∈es,∀v w w',Ext w w'→e.2 v w→e.2 v w')∧
  (∀i o e,l[i]? =some o→es[i]? =some e→GO P n ops w0 o (xJ (List.zip (l.take i) es) aj) (C5 (List.zip (l.take i) es) f) e.2)∧K (xJ (List.zip l es) aj) (C5 (List.zip l es) f)
 |[],aj,f,h=>⟨[],rfl,by simp,by simp,fun i o e hi=>by simp at hi,h⟩
 |o::r,aj,f,.inl ⟨X,h1,h2⟩=>by
  obtain⟨es,hl,hc,hm,hs,hK⟩:=PX.values r aj _ h2
  refine⟨(some X,eV X)::es,by simp[hl],?_,?_,fun i o' e hi he=>?_,hK⟩
  ·intro e he Y hY
   rcases anC.1 he with rfl|he
   ·cases hY;rfl
   ·exact hc e he Y hY
  ·intro e he
   rcases anC.1 he with rfl|he
   ·exact fun _ _ _ _ h=>h
   ·exact hm e he
  ·cases i with
   |zero=>
    simp only[anA,anx] at hi he
    subst hi;subst he
    exact h1
   |succ i=>
    simp only[anG] at hi he
    exact hs i o' e hi he
 |o::r,aj,f,.inr ⟨d,Φ,hd,S2,h1,h2⟩=>by
  obtain⟨es,hl,hc,hm,hs,hK⟩:=PX.values r _ f h2
  have e0:∀l',xJ ((o,((none,Φ):EN))::l') aj=xJ l' ((d,Φ)::aj):=fun l'=>by show xJ l' ((o.dst.getD 0,Φ)::aj)=_;rw[hd];rfl
  refine⟨(none,Φ)::es,by simp[hl],?_,?_,fun i o' e hi he=>?_,?_⟩
  ·intro e he Y hY
   rcases anC.1 he with rfl|he
   ·cases hY
   ·exact hc e he Y hY
  ·intro e he
   rcases anC.1 he with rfl|he
   ·exact S2
   ·exact hm e he
  ·cases i with
   |zero=>
    simp only[anA,anx] at hi he
    subst hi;subst he
    exact h1
   |succ i=>
    simp only[anG] at hi he
    have:=hs i o' e hi he
    show GO P n ops w0 o' (xJ ((o,((none,Φ):EN))::List.zip (r.take i) es) aj) (C5 (List.zip (r.take i) es) f) e.2
    rw[e0];exact this
  ·show K (xJ ((o,((none,Φ):EN))::List.zip r es) aj) (C5 (List.zip r es) f)
   rw[e0];exact hK
theorem DT:∀(l:List Oper) (es:List EN) (f:aQ) (t:Nat),(∀o∈l,o.dst≠some t)→C5 (List.zip l es) f t=f t
 |[],es,f,t,h=>rfl
 |o::l,[],f,t,h=>rfl
 |o::l,(some X,Φ)::es,f,t,h=>by
  show C5 (List.zip l es) (cX f o.dst X) t=f t
  rw[DT l es _ t (fun o' ho=>h o' (anP _ ho))]
  have:=h o an8
  cases hd:o.dst with
  |none=>rfl
  |some d=>exact jx f X (fun e=>this (by rw[hd,e]))
 |o::l,(none,Φ)::es,f,t,h=>DT l es f t (fun o' ho=>h o' (anP _ ho))
theorem Mr:∀(l:List Oper) (es:List EN) (f:aQ) (i:Nat) (o:Oper) (d:Nat) (X:Value) (Φ:Value→World→Prop),(l.filterMap (·.dst)).Nodup→l[i]? =some o→es[i]? =some (some X,Φ)→o.dst=some d→C5 (List.zip l es) f d=X
 |[],es,f,i,o,d,X,Φ,hn,hi,he,hd=>by simp at hi
 |x::l,[],f,i,o,d,X,Φ,hn,hi,he,hd=>by simp at he
 |x::l,e::es,f,i,o,d,X,Φ,hn,hi,he,hd=>by
  cases i with
  |zero=>
   simp only[anA,anx] at hi he
   subst hi;subst he
   show C5 (List.zip l es) (cX f x.dst X) d=X
   rw[DT l es _ d (fun o' ho e=>by
    rw[an9,hd] at hn
    exact(aoo.1 hn).1 (anN.2 ⟨o',ho,e⟩)),hd]
   exact iR f d X
  |succ i=>
   simp only[anG] at hi he
   have LY:(l.filterMap (·.dst)).Nodup:=by
    rw[an9] at hn
    split at hn
    ·exact hn
    ·exact(aoo.1 hn).2
   obtain⟨a,b⟩:=e
   cases a with
   |none=>exact Mr l es f i o d X Φ LY hi he hd
   |some Y=>exact Mr l es _ i o d X Φ LY hi he hd
theorem HY:∀(l:List Oper) (es:List EN) (aj:UT) (p:Nat×(Value→World→Prop)),p∈xJ (List.zip l es) aj→p∈aj∨∃(i:Nat) (o:Oper),l[i]? =some o∧es[i]? =some (none,p.2)∧o.dst.getD 0=p.1
 |[],es,aj,p,h=>.inl h
 |o::l,[],aj,p,h=>.inl h
 |o::l,(some X,Φ)::es,aj,p,h=>by
  rcases HY l es aj p h with h1|⟨i,o',h1,h2,h3⟩
  ·exact .inl h1
  ·exact .inr ⟨i+1,o',h1,h2,h3⟩
 |o::l,(none,Φ)::es,aj,p,h=>by
  rcases HY l es _ p h with h1|⟨i,o',h1,h2,h3⟩
  ·rcases anC.1 h1 with rfl|h1
   ·exact .inr ⟨0,o,J,J,J⟩
   ·exact .inl h1
  ·exact .inr ⟨i+1,o',h1,h2,h3⟩
theorem aaj:∀(l:List Oper) (es:List EN) (aj:UT) (i:Nat) (o:Oper) (Φ:Value→World→Prop),l[i]? =some o→es[i]? =some (none,Φ)→(o.dst.getD 0,Φ)∈xJ (List.zip l es) aj∧LN (xJ (List.zip l es) aj) (o.dst.getD 0)=true:=by
 have sr:∀(aj:UT) (t:Nat) (Φ:Value→World→Prop),(t,Φ)∈aj→LN aj t=true:=fun aj t Φ h=>anV.2 ⟨_,h,by simp⟩
 have LJ:∀(l:List Oper) (es:List EN) (aj:UT) (p:Nat×(Value→World→Prop)),p∈aj→p∈xJ (List.zip l es) aj:=by
  intro l
  induction l with
  |nil=>intro es aj p h;exact h
  |cons o l ih=>
   intro es aj p h
   cases es with
   |nil=>exact h
   |cons e es=>
    obtain⟨a,Φ⟩:=e
    cases a with
    |none=>exact ih es _ p (anP _ h)
    |some X=>exact ih es aj p h
 intro l
 induction l with
 |nil=>intro es aj i o Φ hi;simp at hi
 |cons x l ih=>
  intro es aj i o Φ hi he
  cases es with
  |nil=>simp at he
  |cons e es=>
   cases i with
   |zero=>
    simp only[anA,anx] at hi he
    subst hi;subst he
    have:=LJ l es ((x.dst.getD 0,Φ)::aj) (x.dst.getD 0,Φ) an8
    exact⟨this,sr _ _ _ this⟩
   |succ i=>
    simp only[anG] at hi he
    obtain⟨a,Ψ⟩:=e
    cases a with
    |none=>exact ih es _ i o Φ hi he
    |some X=>exact ih es aj i o Φ hi he
end
def KX (n:Nat) (Q:Exit→Act→World→Prop) (w0:World) (aj:UT) (f:aQ):Prop:=
 ∀(w':World) (g:aQ),Ext w0 w'→(∀t,LN aj t=false→g t=f t)→(∀(j t:Nat) (Φ:Value→World→Prop),aj[j]? =some (t,Φ)→Φ (g t) w')→Q .normal (b9 n g) w'
section
variable {P:Program} {n:Nat}
theorem TU {id:Nat} {l:List Oper} {Q:Exit→Act→World→Prop} {f:aQ} {w:World} (hm:P.follows .mixedOrders=true) (qd:Qd n l=true)
  (h:PX P n l.toArray w (KX n Q w) l [] f):WC P n (.region id l.toArray true) Q f w:=by
 obtain⟨es,hl,hc,S2,hs,hK⟩:=PX.values l [] f h
 simp only[Qd,eI] at qd
 obtain⟨HR,Qx⟩:=qd
 have acF:=HR
 simp only[Om,eI] at HR
 obtain⟨⟨⟨⟨⟨hE,hD⟩,hN⟩,hn⟩,hT⟩,z7⟩:=HR
 have lO:(l.filterMap (·.dst)).Nodup:=by
  have:=oI _ hN
  unfold jg at this
  rwa [aod] at this
 have ep:∀(i:Nat) (o:Oper) (d:Nat),l[i]? =some o→o.dst=some d→d<n:=by
  intro i o d hi hd
  have:=anr.1 hn d<|qz hi (dC.1 hi).1 hd
  simpa using this
 have tl:∀(i:Nat) (o:Oper),l[i]? =some o→∃d,o.dst=some d:=by
  intro i o hi
  rw[aod] at hD
  exact anJ.1<|anr.1 hD o<|dB hi
 have CK:∀(i:Nat) (o:Oper) (d:Nat),l[i]? =some o→o.dst=some d→iW l i=d:=by
  intro i o d hi hd
  unfold iW
  rw[hi];show (o.dst).getD 0=d
  rw[hd];rfl
 have BM:∀(i:Nat),i<l.length→∃e,es[i]? =some e:=fun i hi=>⟨_,eB aq⟩
 have Qu:∀(i:Nat) (e:EN) (v:Value) (w':World),es[i]? =some e→(zJ (es.map (·.2)) i v w'↔e.2 v w'):=by
  intro i e v w' he
  unfold zJ
  rw[gZ,anu,he]
  exact Iff.rfl
 have A':∀(i j:Nat) (o o':Oper),l[i]? =some o→l[j]? =some o'→o.dst.getD 0=o'.dst.getD 0→i=j:=by
  intro i j o o' hi hj he
  obtain⟨d,hd⟩:=tl i o hi
  obtain⟨d',nz⟩:=tl j o' hj
  exact hQ (·.dst) l lO i j o o' hi hj (by show o.dst.isSome=true;rw[hd];rfl)<|by show o.dst=o'.dst;rw[hd,nz] at he ⊢;rw[show d=d' from he]
 
 have X_:∀(m:Nat),m≤l.length→∀(g:aQ) (w':World) (t:Nat),
   ((jg l.length l).contains t=false→g t=f t)→(∀(q:Nat) (o:Oper) (e:EN),q<m→l[q]? =some o→es[q]? =some e→o.dst=some t→e.2 (g t) w')→
   (∀(q:Nat) (o:Oper),l[q]? =some o→o.dst=some t→q<m)→
   (LN (xJ (List.zip (l.take m) es) []) t=false→g t=C5 (List.zip (l.take m) es) f t)∧∀(j:Nat) (Φ:Value→World→Prop),(xJ (List.zip (l.take m) es) [])[j]? =some (t,Φ)→Φ (g t) w':=by
  intro m hm g w' t h1 h2 h3
  constructor
  ·intro hu
   by_cases ht:(jg l.length l).contains t=true
   ·have S3:t∈l.filterMap (·.dst):=by
     have:=anY.1 ht
     unfold jg at this
     rwa [aod] at this
    obtain⟨o,ho,z6⟩:=anN.1 S3
    obtain⟨q,hq⟩:=anE.1 ho
    have iY:=h3 q o hq z6
    obtain⟨e,he⟩:=BM q (dC.1 hq).1
    have XZ:(l.take m)[q]? =some o:=by rw[anO,ann iY];exact hq
    obtain⟨a,Φ⟩:=e
    cases a with
    |none=>
     have:=(aaj (l.take m) es [] q o Φ XZ he).2
     rw[z6] at this
     rw[show (some t).getD 0=t from rfl] at this
     rw[hu] at this;cases this
    |some X=>
     have hv:=h2 q o _ iY hq he z6
     rw[hc _ (dB he) X rfl] at hv
     rw[Mr (l.take m) es f q o t X Φ (lO.sublist ((List.take_sublist m l).filterMap _)) XZ he z6]
     exact hv
   ·rw[h1 (by simpa using ht),DT]
    intro o' jl he
    obtain⟨j,hj⟩:=anE.1 (aoB jl)
    exact ht<|anY.2<|qz hj (dC.1 hj).1 he
  ·intro j Φ hj
   rcases HY (l.take m) es [] (t,Φ) (dB hj) with h4|⟨q,o,hq,he,hd⟩
   ·cases h4
   ·have iY:q<m:=by have:=(dC.1 hq).1;rw[gY] at this;omega
    rw[anO,ann iY] at hq
    obtain⟨d,L_⟩:=tl q o hq
    have hdt:d=t:=by have h9:o.dst.getD 0=t:=hd;rw[L_] at h9;exact h9
    rw[hdt] at L_
    exact h2 q o _ iY hq he L_
 have hof:∀(r:List Oper) (i:Nat),(∀j o,r[j]? =some o→DStep P n l l.length (es.map (·.2)) f w (i+j) o)→mj P n l l.length (es.map (·.2)) f w i r:=by
  intro r
  induction r with
  |nil=>intro i _;trivial
  |cons x r ih=>
   intro i hx
   refine⟨fun _=>hx 0 x rfl,ih (i+1) fun j o hj=>?_⟩
   have:=hx (j+1) o<|by simpa using hj
   rwa [show i+(j+1)=i+1+j from by omega] at this
 refine dr l.length (es.map (·.2)) hm acF (hof l 0 fun i o hi=>?_) fun g w' hg hx hp=>?_
 ·rw[an5]
  have jF:=(dC.1 hi).1
  obtain⟨e,he⟩:=BM i jF
  refine⟨fun g w' hg hx hp=>?_,fun v w1 w2 hx h=>by rw[Qu i e v _ he] at h ⊢;exact S2 e (dB he) v w1 w2 hx h⟩
  refine(hs i o e hi he w' g hx fun t ht=>?_).mono ?_
  ·refine X_ i (Nat.le_of_lt jF) g w' t (hg t) (fun q o' e' hq tH heq z6=>?_)<|fun q o' tH z6=>?_
   ·rcases (yg l 0 Qx i o hi).1 t ht with h1|⟨q',hq',uY,X5,hqd⟩
    ·have:=qz tH (dC.1 tH).1 z6
     rw[anY.2 this] at h1;cases h1
    ·have I8:q'<l.length:=by omega
     obtain⟨d',nz⟩:=tl q' l[q'] (eB I8)
     have:=CK q' _ d' (eB I8) nz
     have hqq:q'=q:=A' q' q _ _ (eB I8) tH (by rw[nz,z6];show d'=t;rw[←this,X5])
     subst hqq
     have h5:=hp q' uY<|by simpa using I8
     rw[X5] at h5
     exact(Qu q' e' _ w' heq).1 h5
   ·rcases (yg l 0 Qx i o hi).1 t ht with h1|⟨q',hq',uY,X5,hqd⟩
    ·have:=qz tH (dC.1 tH).1 z6
     rw[anY.2 this] at h1;cases h1
    ·have I8:q'<l.length:=by omega
     obtain⟨d',nz⟩:=tl q' l[q'] (eB I8)
     have:=CK q' _ d' (eB I8) nz
     have hqq:q'=q:=A' q' q _ _ (eB I8) tH (by rw[nz,z6];show d'=t;rw[←this,X5])
     omega
  ·rintro Eu mB ⟨v,rfl,iA,hv⟩
   exact⟨v,J,iA,(Qu i e _ _ he).2 hv⟩
 ·rw[aoU (anl _)]
  refine z ?_
  have oM:∀t,_:=fun t=>X_ l.length (anl _) g w' t (hg t) (fun q o e hq tH heq z6=>by
   have h5:=hp q<|by simpa using hq
   rw[CK q o t tH z6] at h5
   exact(Qu q e _ w' heq).1 h5) (fun q o tH z6=>(dC.1 tH).1)
  rw[aod] at oM
  exact hK w' g hx (fun t ht=>(oM t).1 ht)<|fun j t Φ hj=>(oM t).2 j Φ hj
end
section
variable {P:Program} {n:Nat} {ops:Array Oper} {w0:World} {K:UT→aQ→Prop} {f:aQ} {rest:List Oper} {aj:UT} {o:Oper} {v X:Value} {Φ Ψ:Value→World→Prop} {d d2:Nat}
def Kc (ops:Array Oper) (o:Oper) (aj:UT):Bool:=(o.looksAt ops).all (fun t=>!LN aj t)
def QS (ops:Array Oper) (o:Oper) (aj:UT) (d:Nat):Bool:=(o.looksAt ops).all (fun t=>Nat.beq t d||!LN aj t)
def lg (n:Nat) (o:Oper):Bool:=(match o.op with| .select _ _=>false|_=>true)&&(match o.dst with|some d=>Nat.blt d n|none=>true)
theorem gp (h:lg n o=true):(∀cs b,o.op≠.select cs b)∧∀d,o.dst=some d→d<n:=by
 unfold lg at h
 rw[eI] at h
 refine⟨fun cs b e=>(by rw[e] at h;have h1:=h.1;cases h1),fun d hd=>?_⟩
 have:=h.2
 rw[hd] at this
 simpa using this
theorem Ml (h:Kc ops o aj=true) {g:aQ} {w:World} (ha:Agr (o.looksAt ops) aj f g w):∀t∈o.looksAt ops,g t=f t:=by
 intro t ht
 have:=anr.1 h t ht
 exact(ha t ht).1 (by simpa using this)
theorem xk (hf:(lg n o&&Kc ops o aj)=true) (h:∀w,Ext w0 w→SO P n ops o f w (fun f' w'=>f'=cX f o.dst X∧Ext w w')) (r:PX P n ops w0 K rest aj (cX f o.dst X)):PX P n ops w0 K (o::rest) aj f:=by
 rw[eI] at hf
 refine .inl ⟨X,fun w g hx ha=>?_,r⟩
 exact SO.rL ((h w hx).mono fun f' w' hq=>⟨X,hq.1,hq.2,J⟩) (gp hf.1).1 (Ml hf.2 ha) (gp hf.1).2
theorem xu (Φ:Value→World→Prop) (hd:o.dst=some d) (hm:∀v w w',Ext w w'→Φ v w→Φ v w') (hf:(lg n o&&Kc ops o aj)=true) (h:∀w,Ext w0 w→SO P n ops o f w (fun f' w'=>∃v,f'=cX f o.dst v∧Ext w w'∧Φ v w')) (r:PX P n ops w0 K rest ((d,Φ)::aj) f):PX P n ops w0 K (o::rest) aj f:=by
 rw[eI] at hf
 exact .inr ⟨d,Φ,hd,hm,fun w g hx ha=>SO.rL (h w hx) (gp hf.1).1 (Ml hf.2 ha) (gp hf.1).2,r⟩
theorem Oj {j:Nat} (hU:aj[j]? =some (d,Ψ)) (h:QS ops o aj d=true) {g:aQ} {w:World} (ha:Agr (o.looksAt ops) aj f g w) (hl:(o.looksAt ops).contains d=true):Ψ (g d) w∧∀t∈o.looksAt ops,g t=cb f d (g d) t:=by
 refine⟨(ha d<|anY.1 hl).2 j Ψ hU,fun t ht=>?_⟩
 by_cases e:t=d
 ·subst e;exact(iR _ _ _).symm
 ·rw[jx _ _ e]
  have:=anr.1 h t ht
  rcases aoc.1 this with h1|h1
  ·exact absurd (aou h1) e
  ·exact(ha t ht).1 (by simpa using h1)
theorem xk1 (j:Nat) (hU:aj[j]? =some (d,Ψ)) (hf:(lg n o&&QS ops o aj d&&(o.looksAt ops).contains d)=true) (h:∀w v,Ext w0 w→Ψ v w→SO P n ops o (cb f d v) w (fun f' w'=>f'=cX (cb f d v) o.dst X∧Ext w w')) (r:PX P n ops w0 K rest aj (cX f o.dst X)):PX P n ops w0 K (o::rest) aj f:=by
 rw[eI,eI] at hf
 refine .inl ⟨X,fun w g hx ha=>?_,r⟩
 obtain⟨h1,h2⟩:=Oj hU hf.1.2 ha hf.2
 exact SO.rL ((h w (g d) hx h1).mono fun f' w' hq=>⟨X,hq.1,hq.2,J⟩) (gp hf.1.1).1 h2 (gp hf.1.1).2
theorem xu1 (Φ:Value→World→Prop) (j:Nat) (hU:aj[j]? =some (d,Ψ)) (hd:o.dst=some d2) (hm:∀v w w',Ext w w'→Φ v w→Φ v w') (hf:(lg n o&&QS ops o aj d&&(o.looksAt ops).contains d)=true) (h:∀w v,Ext w0 w→Ψ v w→SO P n ops o (cb f d v) w (fun f' w'=>∃u,f'=cX (cb f d v) o.dst u∧Ext w w'∧Φ u w')) (r:PX P n ops w0 K rest ((d2,Φ)::aj) f):PX P n ops w0 K (o::rest) aj f:=by
 rw[eI,eI] at hf
 refine .inr ⟨d2,Φ,hd,hm,fun w g hx ha=>?_,r⟩
 obtain⟨h1,h2⟩:=Oj hU hf.1.2 ha hf.2
 exact SO.rL (h w (g d) hx h1) (gp hf.1.1).1 h2 (gp hf.1.1).2
theorem zx (h:K aj f):PX P n ops w0 K [] aj f:=h
theorem xq (hf:(lg n o&&Kc ops o aj)=true) (h:PW P n ops w0 (fun f'=>PX P n ops w0 K rest aj f') [o] f):PX P n ops w0 K (o::rest) aj f:=by
 obtain⟨X,h1,h2⟩:=h
 exact xk hf h1 h2
end
section
variable {P:Program} {n:Nat} {ops:Array Oper} {w0:World}
theorem PW.toX {K:aQ→Prop}:∀(l:List Oper) (f:aQ),(∀o∈l,(∀cs b,o.op≠.select cs b)∧∀d,o.dst=some d→d<n)→PW P n ops w0 K l f→PX P n ops w0 (fun aj f=>aj=[]∧K f) l [] f
 |[],f,_,h=>⟨rfl,h⟩
 |o::r,f,ho,⟨X,h1,h2⟩=>.inl ⟨X,fun w g hx ha=>SO.rL ((h1 w hx).mono fun f' w' hq=>⟨X,hq.1,hq.2,rfl⟩) (ho o an8).1 (fun t ht=>(ha t ht).1 rfl) (ho o an8).2,PW.toX r _ (fun o' jl=>ho o' (anP _ jl)) h2⟩
theorem PX.mono {K K':UT→aQ→Prop} (hK:∀aj f,K aj f→K' aj f):∀(l:List Oper) (aj:UT) (f:aQ),PX P n ops w0 K l aj f→PX P n ops w0 K' l aj f
 |[],aj,f,h=>hK aj f h
 |o::r,aj,f,.inl ⟨X,h1,h2⟩=>.inl ⟨X,h1,PX.mono hK r aj _ h2⟩
 |o::r,aj,f,.inr ⟨d,Φ,h0,hm,h1,h2⟩=>.inr ⟨d,Φ,h0,hm,h1,PX.mono hK r _ f h2⟩
theorem BT {id:Nat} {l:List Oper} {Q:Exit→Act→World→Prop} {f:aQ} {w:World} (hm:P.follows .mixedOrders=true) (qd:Qd n l=true)
  (h:PW P n l.toArray w (fun f'=>∀w',Ext w w'→Q .normal (b9 n f') w') l f):WC P n (.region id l.toArray true) Q f w:=by
 have acG:=qd
 simp only[Qd,eI] at acG
 obtain⟨HR,Qx⟩:=acG
 simp only[Om,eI] at HR
 obtain⟨⟨⟨⟨⟨hE,hD⟩,hN⟩,hn⟩,hT⟩,z7⟩:=HR
 refine TU hm qd<|PX.mono ?_ l [] f<|PW.toX l f ?_ h
 ·rintro aj g ⟨rfl,hK⟩ w' g' hx hg _
  have e:g'=g:=by funext t;exact hg t rfl
  rw[e];exact hK w' hx
 ·intro o ho
  obtain⟨i,hi⟩:=anE.1 ho
  refine⟨(yg l 0 Qx i o hi).2,fun d hd=>?_⟩
  have:=anr.1 hn d<|qz hi (dC.1 hi).1 hd
  simpa using this
end
end Go.Ew
namespace Go.Ew
open Go.RowKit
section
variable {P:Program} {n:Nat} {l:List Oper}
theorem Zc {Q:Exit→Act→World→Prop} (ab:(Nat→Bool)→aQ→World→Prop) (hE:qU 0 l=true)
  (DL:∀(L:Nat→Bool) (f:aQ) (w:World) (i:Nat) (o:Oper),l[i]? =some o→L i=false→(∀j,L j=true→j<l.length)→(∀j,kN o j=true→L j=true)→ab L f w→SO P n l.toArray o f w (ab (fun k=>L k||decide (k=i))))
  (vJ:∀(f:aQ) (w:World),ab (fun k=>decide (k<l.length)) f w→Q .normal (b9 n f) w):
  ∀(d:Nat) (listed:Array Bool) (f:aQ) (w:World),listed.size=l.length→(listed.toList.filter (fun b=>!b)).length=d→ab (fun k=>listed.getD k false) f w→wpAny P .any l.toArray Q d listed (b9 n f) w:=by
 intro d
 induction d with
 |zero=>
  intro listed f w pA hd hJ
  have oM:∀i,i<l.length→listed.getD i false=true:=by
   intro i hi
   have h0:=aoJ hd
   rw[aoq] at h0
   have oK:i<listed.size:=by omega
   have:=h0 listed[i]<|by simp
   simp at this
   simp[Array.getD,oK,this]
  refine⟨?_,?_⟩
  ·apply List.eq_nil_iff_forall_not_mem.2
   intro i hi
   obtain⟨h0,o,ho, -⟩:=mem_ready.1 hi
   have qb:l[i]? =some o:=by simpa using ho
   have jF:i<l.length:=(dC.1 qb).1
   rw[show listed.getD i true=listed.getD i false from qJ aq _ _,oM i jF] at h0
   cases h0
  ·refine vJ f w ?_
   have:(fun k=>decide (k<l.length))=fun k=>listed.getD k false:=by
    funext k
    by_cases hk:k<l.length
    ·rw[oM k hk];exact anq hk
    ·rw[ans hk];simp[Array.getD];omega
   rw[this];exact hJ
 |succ d ih=>
  intro listed f w pA hd hJ
  obtain⟨i0,Jg⟩:∃i,i<l.length∧listed.getD i false=false:=by
   apply an3
   intro Gz
   have:listed.toList.filter (fun b=>!b)=[]:=by
    rw[aoq]
    intro b hb
    obtain⟨i,hi,rfl⟩:=api.1 hb
    simp only[an4] at hi
    cases vV:listed.toList[i] with
    |true=>simp
    |false=>
     exfalso
     refine Gz ⟨i,by omega,?_⟩
     simp only[aqa] at vV
     simp[Array.getD,hi,vV]
   rw[this] at hd;cases hd
  obtain⟨m,S4,S3⟩:=exists_least (p:=fun i=>i<l.length∧listed.getD i false=false) ⟨i0,Jg⟩
  have tI:m<l.length:=by omega
  have jf:l[m]? =some l[m]:=eB tI
  have BI:m∈Region.ready .any l.toArray listed:=by
   rw[mem_ready]
   refine⟨?_,l[m],by simp,fun e he hb=>?_⟩
   ·rw[show listed.getD m true=listed.getD m false from qJ aq _ _];exact S4.2
   ·have ep:=wj l 0 hE m l[m] jf e he hb
    cases vV:listed.getD e.on false with
    |true=>rfl
    |false=>
     have:=S3 e.on ⟨by omega,vV⟩
     omega
  refine⟨fun h0=>(by rw[h0] at BI;cases BI),fun i hi=>?_⟩
  obtain⟨h0,o,ho,Ac⟩:=mem_ready.1 hi
  have qb:l[i]? =some o:=by simpa using ho
  have jF:i<l.length:=(dC.1 qb).1
  have Mg:listed.getD i false=false:=by
   rw[show listed.getD i false=listed.getD i true from qJ aq _ _];exact h0
  have afm:∀j,kN o j=true→listed.getD j false=true:=by
   intro j hj
   obtain⟨e,he,hb,uY⟩:=wz.1 hj
   subst uY
   exact Ac e he hb
  have ep:∀j,listed.getD j false=true→j<l.length:=by
   intro j hj
   refine an3 fun hn=>?_
   rw[show listed.getD j false=false from by simp[Array.getD];omega] at hj
   cases hj
  have Tc:((listed.setIfInBounds i true).toList.filter (fun b=>!b)).length=d:=by
   have L4:i<listed.size:=by omega
   have ug:listed.toList[i]? =some false:=by
    rw[eB (by simpa using L4)]
    simp only[Array.getD,L4,dif_pos] at Mg
    simpa [ao8] using Mg
   have key:∀(L:List Bool) (i:Nat),L[i]? =some false→((L.set i true).filter (fun b=>!b)).length+1=(L.filter (fun b=>!b)).length:=by
    intro L
    induction L with
    |nil=>intro i h;simp at h
    |cons b L ihL=>
     intro i h
     cases i with
     |zero=>simp at h;subst h;simp
     |succ i=>
      simp at h
      have:=ihL i h
      cases b<;>simp at this ⊢<;>omega
   have:=key listed.toList i ug
   rw[Array.toList_setIfInBounds]
   omega
  refine FU ho (DL (fun k=>listed.getD k false) f w i o qb Mg ep afm hJ) fun f' w' hK=>?_
  refine ih _ _ _ (by simp[pA]) Tc ?_
  have:(fun k=>(listed.setIfInBounds i true).getD k false)=fun k=>listed.getD k false||decide (k=i):=by
   funext k
   by_cases hk:k=i
   ·subst hk
    have L4:k<listed.size:=by omega
    simp[Array.getD,L4]
   ·rw[ans hk,aoN]
    exact getD_set_ne false fun e=>hk e.symm
  rw[this];exact hK
theorem drj {id:Nat} {Q:Exit→Act→World→Prop} {f:aQ} {w:World} (ab:(Nat→Bool)→aQ→World→Prop) (hm:P.follows .mixedOrders=true) (hE:qU 0 l=true)
  (h0:ab (fun _=>false) f w.drew)
  (DL:∀(L:Nat→Bool) (f:aQ) (w:World) (i:Nat) (o:Oper),l[i]? =some o→L i=false→(∀j,L j=true→j<l.length)→(∀j,kN o j=true→L j=true)→ab L f w→SO P n l.toArray o f w (ab (fun k=>L k||decide (k=i))))
  (vJ:∀(f:aQ) (w:World),ab (fun k=>decide (k<l.length)) f w→Q .normal (b9 n f) w):
  WC P n (.region id l.toArray true) Q f w:=by
 refine wp_region_any hm ?_
 have h3:(fun k=>(Array.replicate l.length false).getD k false)=fun _:Nat=>false:=by
  funext i
  simp only[Array.getD];split<;>simp
 have h:=Zc (P:=P) (Q:=Q) ab hE DL vJ l.length (Array.replicate l.length false) f w.drew (by simp) (by simp)<|by rw[h3];exact h0
 simpa using h
end
end Go.Ew
namespace Go.Ew
open Go.RowKit
inductive ZK|r|f|s|e|n
def zkE:ZK→Bool
 | .e=>true
 |_=>false
def zkR:ZK→Bool
 | .r=>true
 | .n=>true
 |_=>false
def zkN:ZK→Bool
 | .n=>true
 |_=>false
def zkS:ZK→Bool
 | .s=>true
 |_=>false
def uW (Ks:List ZK) (i:Nat):ZK:=Ks.getD i .r
def eH (Ks:List ZK) (i:Nat):Bool:=zkE (uW Ks i)
def xl (Ks:List ZK) (i:Nat):Bool:=zkR (uW Ks i)
def nD (Ks:List ZK) (i:Nat):Bool:=zkN (uW Ks i)
def LL (Ks:List ZK) (i:Nat):Bool:=zkS (uW Ks i)
def sS (o:Oper):Bool:=match o.op with
 | .move _=>true
 | .assign _=>true
 | .extract _ _=>true
 |_=>false
def jK (l:List Oper) (i:Nat):Bool:=match l[i]? with
 |some o=>sS o
 |none=>false
def tf (l:List Oper) (Ks:List ZK) (i:Nat):Bool:=eH Ks i&&jK l i
def Lt (o:Oper):Bool:=match o.op with
 | .select _ _=>false
 |_=>true
def Lp (n:Nat) (l:List Oper) (Ks:List ZK):Nat→List Oper→Bool
 |_,[]=>true
 |i,o::r=>
  (o.looksAt l.toArray).all (fun t=>Nat.blt t n&&(!(l.filterMap (·.dst)).contains t||(List.range i).any (fun j=>kN o j&&(match (l[j]?).bind (·.dst) with|some d=>Nat.beq d t|none=>false)&&(eH Ks i||!eH Ks j))))&&
   (Lt o&&((eH Ks i||o.dst.isSome)&&((!LL Ks i||sS o)&&((!xl Ks i||(List.range l.length).all (fun e=>!eH Ks e||oF l l.length e i))&&((!eH Ks i||(List.range i).all (fun e=>!eH Ks e||(jK l e||oF l l.length i e)))&&((!(eH Ks i&&sS o)||(o.dst.isSome&&(List.range i).any (fun e=>eH Ks e&&!jK l e)))&&Lp n l Ks (i+1) r))))))
def okZ (n:Nat) (l:List Oper) (Ks:List ZK):Bool:=
 qU 0 l&&(nodupB (l.filterMap (·.dst))&&((l.filterMap (·.dst)).all (fun d=>Nat.blt d n)&&Lp n l Ks 0 l))
section
variable {P:Program} {n:Nat} {l:List Oper} {Ks:List ZK} {ops:Array Oper}
structure Z1 (n:Nat) (l:List Oper) (Ks:List ZK) (i:Nat) (o:Oper):Prop where
 look:∀t∈o.looksAt l.toArray,t<n∧((∀(q:Nat) (o':Oper),l[q]? =some o'→o'.dst≠some t)∨∃(j:Nat) (o':Oper),j<i∧kN o j=true∧l[j]? =some o'∧o'.dst=some t∧(eH Ks i=false→eH Ks j=false))
 sel:∀cs b,o.op≠.select cs b
 dst:eH Ks i=false→∃d,o.dst=some d
 slot:LL Ks i=true→sS o=true
 rd:xl Ks i=true→∀e,e<l.length→eH Ks e=true→oF l l.length e i=true
 ord:eH Ks i=true→∀e,e<i→eH Ks e=true→jK l e=false→oF l l.length i e=true
 xd:eH Ks i=true→sS o=true→(∃d,o.dst=some d)∧∃e,e<i∧eH Ks e=true∧jK l e=false
theorem Sv {o:Oper} (h:Lt o=true):∀cs b,o.op≠.select cs b:=fun cs b e=>by unfold Lt at h;rw[e] at h;cases h
theorem Ol:∀(r:List Oper) (i:Nat),Lp n l Ks i r=true→∀j o,r[j]? =some o→Z1 n l Ks (i+j) o
 |[],_,_,j,o,h=>by simp at h
 |x::r,i,h,j+1,o,hj=>by
  simp only[Lp,eI] at h
  have:=Ol r (i+1) h.2.2.2.2.2.2.2 j o<|by simpa using hj
  rwa [show i+1+j=i+(j+1) from by omega] at this
 |x::r,i,h,0,o,hj=>by
  simp only[anA,anx] at hj
  subst hj
  simp only[Lp,eI] at h
  obtain⟨h1,h2,h3,h4,h5,h6,h7, -⟩:=h
  refine⟨fun t ht=>?_,Sv h2,fun hE=>?_,fun hS=>?_,fun hR e he mY=>?_,fun hE e he mY qC=>?_,fun hE hs=>?_⟩
  ·have:=anr.1 h1 t ht
   simp only[eI,apr,anv,aos] at this
   refine⟨this.1,this.2.imp (fun h q o' hq hd=>?_) fun h=>?_⟩
   ·have hm:t∈l.filterMap (·.dst):=anN.2 ⟨o',dB hq,hd⟩
    rw[anY.2 hm] at h;cases h
   ·obtain⟨j,hj,hq⟩:=anV.1 h
    simp only[eI,anv,aos] at hq
    obtain⟨⟨q1,q2⟩,q3⟩:=hq
    cases hl:l[j]? with
    |none=>rw[hl] at q2;cases q2
    |some o'=>
     rw[hl] at q2
     cases hd:o'.dst with
     |none=>simp[hd] at q2
     |some d=>
      simp[hd] at q2
      refine⟨j,o',by have:=ano.1 hj;omega,q1,hl,by rw[hd,q2],fun hi=>?_⟩
      rcases q3 with q3|q3
      ·rw[an0] at hi;rw[hi] at q3;cases q3
      ·exact q3
  ·rw[an0] at hE
   rw[hE] at h3
   exact anJ.1<|by simpa using h3
  ·rw[an0] at hS
   rw[hS] at h4;simpa using h4
  ·rw[an0] at hR ⊢
   rw[hR] at h5
   rw[apI,apd] at h5
   have:=anr.1 h5 e<|ano.2 he
   rw[mY] at this;simpa using this
  ·rw[an0] at hE he ⊢
   rw[hE] at h6
   rw[apI,apd] at h6
   have:=anr.1 h6 e<|ano.2 he
   rw[mY,qC] at this;simpa using this
  ·rw[an0] at hE ⊢
   rw[hE,hs] at h7
   simp only[Bool.and_self,apI,apd,eI] at h7
   obtain⟨e,he,hq⟩:=anV.1 h7.2
   rw[eI,aos] at hq
   exact⟨anJ.1 h7.1,e,ano.1 he,hq.1,hq.2⟩
theorem IH {o:Oper} {g:aQ} {w:World} {ai:Value→World→Prop} (hs:sS o=true) (hd:∃d,o.dst=some d∧d<n)
  (h:SO P n ops o g w (fun f' w'=>∃v,f'=cX g o.dst v∧True∧ai v w')):
  ∃v,ai v w∧∀g2 w2,(∀t∈o.looksAt ops,g2 t=g t)→SO P n ops o g2 w2 (fun f' w'=>f'=cX g2 o.dst v∧w'=w2):=by
 obtain⟨d,hd,sx⟩:=hd
 have h1:=h (fun e a w'=>match e with| .normal=>∃v,a=b9 n (cX g o.dst v)∧True∧ai v w'|_=>False) []<|fun f' w' hK=>wpList_nil<|by obtain⟨v,h1,h2⟩:=hK;exact⟨v,by rw[h1],h2⟩
 have hw:∀g2:aQ,(∀t∈o.looksAt ops,g2 t=g t)→Region.wanted o (yielded ops (b9 n g2).tmps)=Region.wanted o (yielded ops (b9 n g).tmps):=fun g2 hu=>xQ fun j b hg t ht=>hu t (by
  unfold Oper.looksAt
  rw[hg]
  refine aow _ ?_
  simp[ht])
 have ah5:∀cs b,o.op≠.select cs b:=fun cs b e=>by unfold sS at hs;rw[e] at hs;cases hs
 have he:∀g2:aQ,(∀t∈o.looksAt ops,g2 t=g t)→execOp (b9 n g2).eval o=execOp (b9 n g).eval o:=fun g2 hu=>execOp_congr o ah5 fun x hx=>Dh fun t ht=>hu t (by
  subst ht
  exact aoC _ (anN.2 ⟨.tmp t,by simpa using hx,rfl⟩))
 have Qt:∀(g2:aQ) (u:Value),(b9 n g2).put o.dst u=b9 n (cX g2 o.dst u):=fun g2 u=>by rw[qw]
 unfold wpList at h1
 split at h1
 ·rename_i CH
  
  have kH:(∃u,∀w2,(execOp (b9 n g).eval o).run P w2=.ok (.value u) w2)∨∀w2 x w3,(execOp (b9 n g).eval o).run P w2≠.ok x w3:=by
   obtain⟨dst,op,ty,ps,af,gd⟩:=o
   unfold sS at hs
   cases op<;>simp only at hs<;>try (cases hs;done)
   ·left;exact⟨_,fun w2=>rfl⟩
   ·left;exact⟨_,fun w2=>rfl⟩
   ·rename_i x i
    cases hx:(b9 n g).eval x with
    |tuple vs=>
     cases hi:vs[i]? with
     |some v=>left;exact⟨v,fun w2=>by simp[execOp,Instr.extract,hx,hi]⟩
     |none=>right;intro w2 y w3 hh;simp[execOp,Instr.extract,hx,hi] at hh
    |_=>right;intro w2 y w3 hh;simp[execOp,Instr.extract,hx] at hh
  rcases h1 with h2|⟨_,a0,w1,hq⟩
  ·rcases kH with ⟨u,hu⟩|Gz
   ·unfold Oper.wp at h2
    rw[hu w] at h2
    simp only[Oper.upon] at h2
    obtain⟨v,hv, -,hR⟩:=(show ∃v,_∧_∧_ from h2)
    rw[Qt,hd] at hv
    have SN:u=v:=FR sx hv
    subst SN
    refine⟨u,hR,fun g2 w2 hl Q rest hk=>?_⟩
    unfold wpList
    rw[hw g2 hl,ann CH]
    refine .inl ?_
    unfold Oper.wp
    rw[he g2 hl,hu w2]
    simp only[Oper.upon]
    rw[Qt]
    exact hk _ _ ⟨J,J⟩
   ·exfalso
    unfold Oper.wp at h2
    generalize hr:(execOp (b9 n g).eval o).run P w=r at h2
    cases r with
    |ok x w'=>exact Gz w x w' hr
    |halt x w'=>cases x<;>simp only[Oper.upon] at h2<;>exact h2.elim
  ·exact hq.elim
 ·rename_i CH
  have h2:=h1
  obtain⟨v,hv, -,hR⟩:=(show ∃v,(b9 n g).put o.dst undef=_∧_∧_ from h2)
  rw[Qt,hd] at hv
  have SN:undef=v:=FR sx hv
  subst SN
  refine⟨undef,hR,fun g2 w2 hl Q rest hk=>?_⟩
  unfold wpList
  rw[hw g2 hl,anp CH]
  rw[Qt]
  exact hk _ _ ⟨J,J⟩
theorem UW {o:Oper} {g:aQ} {w:World} {ai:Value→World→Prop} (hs:sS o=true) (hd:∃d,o.dst=some d∧d<n)
  (h:SO P n ops o g w (fun f' w'=>∃v,f'=cX g o.dst v∧Ext w w'∧ai v w')):
  ∃v,ai v w∧∀g2 w2,(∀t∈o.looksAt ops,g2 t=g t)→SO P n ops o g2 w2 (fun f' w'=>f'=cX g2 o.dst v∧w'=w2):=
 IH hs hd (h.mono fun f' w' ⟨v,h1,_,h2⟩=>⟨v,h1,trivial,h2⟩)
theorem SO.Xz {o:Oper} {f g:aQ} {w:World} {ai:aQ→World→Prop} (h:SO P n ops o g w ai) (hs:∀cs b,o.op≠.select cs b) (hu:∀t∈o.looksAt ops,f t=g t):
  SO P n ops o f w (fun f' w'=>∃v g',f'=cX f o.dst v∧b9 n g'=b9 n (cX g o.dst v)∧ai g' w'):=by
 intro Q rest hk
 have h1:=h (fun e a w'=>match e with| .normal=>∃g',a=b9 n g'∧ai g' w'|_=>False) []<|fun f' w' hK=>wpList_nil ⟨f',J,hK⟩
 have he:execOp (b9 n f).eval o=execOp (b9 n g).eval o:=execOp_congr o hs fun x hx=>Dh fun t ht=>hu t (by
  subst ht
  exact aoC _ (anN.2 ⟨.tmp t,by simpa using hx,rfl⟩))
 have hw:Region.wanted o (yielded ops (b9 n f).tmps)=Region.wanted o (yielded ops (b9 n g).tmps):=xQ fun j b hg t ht=>hu t (by
  unfold Oper.looksAt
  rw[hg]
  refine aow _ ?_
  simp[ht])
 have key:∀u w',(∃g',(b9 n g).put o.dst u=b9 n g'∧ai g' w')→wpList P ops Q rest ((b9 n f).put o.dst u) w':=by
  rintro u w' ⟨g',hq,h2⟩
  rw[qw] at hq ⊢
  exact hk _ _ ⟨u,g',J,hq.symm,h2⟩
 unfold wpList at h1 ⊢
 rw[hw]
 split at h1
 ·rename_i CH
  rw[ann CH]
  refine .inl ?_
  rcases h1 with h2|⟨_,a0,w1,hq⟩
  ·unfold Oper.wp at h2 ⊢
   rw[he]
   generalize (execOp (b9 n g).eval o).run P w=r at *
   cases r with
   |ok x w'=>
    cases x with
    |enter c args=>
     simp only[Oper.upon] at h2 ⊢
     refine Calls.mono h2 ?_
     intro e mB yB
     cases e with
     |returned u=>exact key u mB yB
     |panicked c=>exact yB.elim
     |outgrown=>obtain⟨a0,w1,hq⟩:=yB;exact hq.elim
    |row r args=>
     simp only[Oper.upon] at h2 ⊢
     exact Rows.mono h2 fun u mB yB=>key u mB yB
    |defer dd=>
     simp only[Oper.upon] at h2 ⊢
     obtain⟨g',h3, -⟩:=(show ∃g',_∧_ from h2)
     exfalso
     have h4:=ani (fun a=>a.defers.length) h3
     cases tl:o.dst<;>rw[tl] at h4<;>simp[Act.put,b9] at h4
    |value u=>
     simp only[Oper.upon] at h2 ⊢
     exact key u w' h2
    |skip=>
     simp only[Oper.upon] at h2 ⊢
     exact key undef w' h2
    |_=>exact(show False from h2).elim
   |halt x w'=>cases x<;>simp only[Oper.upon] at h2 ⊢<;>exact h2.elim
  ·exact hq.elim
 ·rename_i CH
  rw[anp CH]
  exact key undef w h1
end
def WE (P:Program) (n:Nat) (ops:Array Oper) (ag:World→Prop) (K:aQ→World→Prop):List Oper→aQ→World→Prop
 |[],f,w=>K f w
 |o::r,f,w=>SO P n ops o f w (fun f' w'=>ag w'∧WE P n ops ag K r f' w')
def FC:List ZK→List Oper→List Oper
 |_,[]=>[]
 |ks,o::r=>match ks.headD .r with
  | .e=>o::FC ks.tail r
  |_=>FC ks.tail r
abbrev PR:=(Nat→Prop)→Value→World→Prop
abbrev UN:=List (Nat×PR)
def xm (aj:UN) (t:Nat):Bool:=aj.any (fun p=>Nat.beq p.1 t)
def eN (X:Value):PR:=fun _ v _=>v=X
structure rQ (Φ:PR):Prop where
 ext:∀N v w w',Ext w w'→Φ N v w→Φ N v w'
 grow:∀(N N':Nat→Prop) v (w:World),(∀b,N b→N' b)→(∀b,N' b→N b∨w.heap.size≤b)→Φ N v w→Φ N' v w
theorem XJ (X:Value):rQ (eN X):=⟨fun _ _ _ _ _ h=>h,fun _ _ _ _ _ _ h=>h⟩
def JB (w0:World) (z:Array Value) (T:TypeId):PR:=fun N v w=>∃b,v=.pointer (some ⟨b,0,none⟩)∧w0.heap.size≤b∧w.heap[b]? =some (.cells z T (0,0))∧N b
theorem ae' (w0:World) (z:Array Value) (T:TypeId):rQ (JB w0 z T):=
 ⟨fun N v w w' hx ⟨b,h1,h2,h3,h4⟩=>⟨b,h1,h2,(hx.block b (anQ.1 h3).1).trans h3,h4⟩,fun N N' v w h _ ⟨b,h1,h2,h3,h4⟩=>⟨b,h1,h2,h3,h b h4⟩⟩
def EF (w0:World) (N:Nat→Prop) (w:World):Prop:=∀b,N b→w0.heap.size≤b∧b<w.heap.size
def Y6 (L:List Nat) (aj:UN) (f g:aQ) (N:Nat→Prop) (w:World):Prop:=
 ∀t∈L,(xm aj t=false→g t=f t)∧(∀(j:Nat) (Φ:PR),aj[j]? =some (t,Φ)→Φ N (g t) w)
def GN (P:Program) (n:Nat) (ops:Array Oper) (w0:World) (o:Oper) (aj:UN) (f:aQ) (ai:PR):Prop:=
 ∀w g N,Ext w0 w→EF w0 N w→Y6 (o.looksAt ops) aj f g N w→SO P n ops o g w (fun f' w'=>∃v,f'=cX g o.dst v∧Ext w w'∧ai N v w')
def M7 (z:Array Value) (T:TypeId) (w:World) (v:Value) (w':World):Prop:=∃b,v=.pointer (some ⟨b,0,none⟩)∧w.heap.size≤b∧w'.heap[b]? =some (.cells z T (0,0))
def PZ (P:Program) (n:Nat) (ops:Array Oper) (w0:World) (ag:World→Prop) (K:UN→aQ→Prop):List Oper→List ZK→UN→aQ→Prop
 |[],_,aj,f=>K aj f
 |o::r,ks,aj,f=>match ks.headD .r with
  | .e=>PZ P n ops w0 ag K r ks.tail aj f
  | .f=>∃X,(∀w g,ag w→(∀t∈o.looksAt ops,xm aj t=false∧g t=f t)→SO P n ops o g w (fun f' w'=>f'=cX g o.dst X∧w'=w))∧((o.looksAt ops).all (fun t=>!xm aj t))=true∧PZ P n ops w0 ag K r ks.tail aj (cX f o.dst X)
  | .n=>∃d z T,o.dst=some d∧((o.looksAt ops).all (fun t=>!xm aj t))=true∧(∀w g,Ext w0 w→(∀t∈o.looksAt ops,g t=f t)→SO P n ops o g w (fun f' w'=>∃v,f'=cX g o.dst v∧Ext w w'∧M7 z T w v w'))∧PZ P n ops w0 ag K r ks.tail ((d,JB w0 z T)::aj) f
  |_=>(∃X,GN P n ops w0 o aj f (eN X)∧PZ P n ops w0 ag K r ks.tail aj (cX f o.dst X))∨
    (∃d Φ,o.dst=some d∧rQ Φ∧GN P n ops w0 o aj f Φ∧PZ P n ops w0 ag K r ks.tail ((d,Φ)::aj) f)
def KZ (P:Program) (n:Nat) (ops:Array Oper) (Q:Exit→Act→World→Prop) (w0:World) (ag:World→Prop) (E:List Oper) (Nd:List Nat) (aj:UN) (f:aQ):Prop:=
 ∀(w':World) (g:aQ) (N:Nat→Prop),Ext w0 w'→EF w0 N w'→(∀d d',d∈Nd→d'∈Nd→d≠d'→g d≠g d')→(∀t,xm aj t=false→g t=f t)→(∀(j t:Nat) (Φ:PR),aj[j]? =some (t,Φ)→Φ N (g t) w')→WE P n ops ag (fun f w=>Q .normal (b9 n f) w) E g w'
def Fc:List ZK→List Oper→List Nat
 |_,[]=>[]
 |ks,o::r=>match ks.headD .r with
  | .n=>o.dst.getD 0::Fc ks.tail r
  |_=>Fc ks.tail r
def nh (E:List PR) (i:Nat):PR:=E.getD i (fun _ _ _=>True)
section
variable {P:Program} {n:Nat} {l:List Oper} {Ks:List ZK} {w0:World} {ag:World→Prop} {f0:aQ}
structure Kn (l:List Oper) (Ks:List ZK) (f0:aQ) (E:List PR) (m:Nat) (g:aQ) (N:Nat→Prop) (w:World) (t:Nat):Prop where
 off:(∀(q:Nat) (o:Oper),l[q]? =some o→o.dst=some t→eH Ks q=true)→g t=f0 t
 Ai:∀(q:Nat) (o:Oper),q<m→l[q]? =some o→o.dst=some t→eH Ks q=false→nh E q N (g t) w
def YY (l:List Oper) (Ks:List ZK) (m t:Nat):Prop:=∀(q:Nat) (o:Oper),l[q]? =some o→o.dst=some t→eH Ks q=false→q<m
structure Rf (l:List Oper) (Ks:List ZK) (f0:aQ) (E:List PR) (m:Nat) (aj:UN) (f:aQ):Prop where
 is:∀(g:aQ) (N:Nat→Prop) (w:World) (t:Nat),YY l Ks m t→Kn l Ks f0 E m g N w t→(xm aj t=false→g t=f t)∧∀(j:Nat) (Φ:PR),aj[j]? =some (t,Φ)→Φ N (g t) w
 G4:∀(j t:Nat) (Φ:PR),aj[j]? =some (t,Φ)→∃(q:Nat) (o:Oper),q<m∧l[q]? =some o∧o.dst=some t
def agh (P:Program) (n:Nat) (l:List Oper) (Ks:List ZK) (w0:World) (f0:aQ) (E:List PR) (i:Nat) (o:Oper):Prop:=
 ∀(g:aQ) (N:Nat→Prop) (w:World),Ext w0 w→EF w0 N w→(∀t∈o.looksAt l.toArray,Kn l Ks f0 E i g N w t)→SO P n l.toArray o g w (fun f' w'=>∃v,f'=cX g o.dst v∧Ext w w'∧nh E i N v w')
def agi (P:Program) (n:Nat) (l:List Oper) (Ks:List ZK) (w0:World) (f0:aQ) (E:List PR) (i:Nat) (o:Oper):Prop:=
 ∃z T,nh E i=JB w0 z T∧∀(g:aQ) (N:Nat→Prop) (w:World),Ext w0 w→(∀t∈o.looksAt l.toArray,Kn l Ks f0 E i g N w t)→SO P n l.toArray o g w (fun f' w'=>∃v,f'=cX g o.dst v∧Ext w w'∧M7 z T w v w')
def agj (P:Program) (n:Nat) (l:List Oper) (Ks:List ZK) (ag:World→Prop) (f0:aQ) (E:List PR) (i:Nat) (o:Oper):Prop:=
 ∃X,nh E i=eN X∧∀(g:aQ) (N:Nat→Prop) (w w1:World),ag w→(∀t∈o.looksAt l.toArray,Kn l Ks f0 E i g N w1 t)→SO P n l.toArray o g w (fun f' w'=>f'=cX g o.dst X∧w'=w)
structure Fact (P:Program) (n:Nat) (l:List Oper) (Ks:List ZK) (w0:World) (ag:World→Prop) (f0:aQ) (E:List PR) (i:Nat) (o:Oper):Prop where
 mono:rQ (nh E i)
 go:eH Ks i=false→(agh P n l Ks w0 f0 E i o∧nD Ks i=false∧(xl Ks i=true∨LL Ks i=true))∨(agj P n l Ks ag f0 E i o∧nD Ks i=false)∨(agi P n l Ks w0 f0 E i o∧nD Ks i=true)
theorem O3 {E E0:List PR} {m:Nat} (h:E.take m=E0) (hl:E0.length=m) {q:Nat} (hq:q<m):nh E q=nh E0 q:=by
 unfold nh
 rw[←h,gZ,gZ,anO,ann hq]
theorem Kn.of {E E0:List PR} {m:Nat} {g:aQ} {N:Nat→Prop} {w:World} {t:Nat} (h:E.take m=E0) (hl:E0.length=m) (k:Kn l Ks f0 E m g N w t):Kn l Ks f0 E0 m g N w t:=
 ⟨k.off,fun q o hq h1 h2 h3=>by rw[←O3 h hl hq];exact k.Ai q o hq h1 h2 h3⟩
theorem wF {aj:UN} {t:Nat}:xm aj t=true↔∃(j:Nat) (Φ:PR),aj[j]? =some (t,Φ):=by
 unfold xm
 rw[anV]
 constructor
 ·rintro⟨⟨a,b⟩,h1,h2⟩
  obtain⟨j,hj⟩:=anE.1 h1
  simp at h2
  exact⟨j,b,by rw[hj,h2]⟩
 ·rintro⟨j,Φ,h⟩
  exact⟨_,dB h,by simp⟩
theorem PZ.table (lO:(l.filterMap (·.dst)).Nodup) (hZ:∀(i:Nat) (o:Oper),l[i]? =some o→Z1 n l Ks i o) {K:UN→aQ→Prop}:∀(r:List Oper) (ks:List ZK) (m:Nat) (aj:UN) (f:aQ) (E0:List PR),
  l.drop m=r→Ks.drop m=ks→E0.length=m→m+r.length=l.length→Rf l Ks f0 E0 m aj f→PZ P n l.toArray w0 ag K r ks aj f→
  ∃(E:List PR) (U':UN) (f':aQ),E.length=l.length∧E.take m=E0∧(∀(i:Nat) (o:Oper),m≤i→l[i]? =some o→Fact P n l Ks w0 ag f0 E i o)∧Rf l Ks f0 E l.length U' f'∧K U' f'
 |[],ks,m,aj,f,E0,hr,Jd,hl,tI,hL,h=>by
  simp only[gr,an0] at tI
  subst tI
  refine⟨E0,aj,f,hl,by rw[←hl,aod],fun i o hi ho=>?_,hL,h⟩
  have:=(dC.1 ho).1
  omega
 |o::r,ks,m,aj,f,E0,hr,Jd,hl,tI,hL,h=>by
  have jf:l[m]? =some o:=by
   have:(l.drop m)[0]? =some o:=by rw[hr];rfl
   rwa [an2,an0] at this
  have hr':l.drop (m+1)=r:=by rw[←aog,hr];rfl
  have L1:Ks.drop (m+1)=ks.tail:=by rw[←aog,Jd];cases ks<;>rfl
  have aie:m+1+r.length=l.length:=by simp only[iM] at tI;omega
  have S7:ks.headD .r=uW Ks m:=by
   unfold uW
   rw[←Jd,gZ]
   cases hq:Ks.drop m with
   |nil=>rw[anz (by have:=ani List.length hq;simp at this;omega)];rfl
   |cons a b=>
    have:(Ks.drop m)[0]? =some a:=by rw[hq];rfl
    rw[an2,an0] at this
    rw[this];rfl
  have z:=hZ m o jf
  have A':∀(q:Nat) (o':Oper) (t:Nat),l[q]? =some o'→o'.dst=some t→o.dst=some t→q=m:=fun q o' t hq hd CQ=>
   hQ (·.dst) l lO q m o' o hq jf (by show o'.dst.isSome=true;rw[hd];rfl) (by show o'.dst=o.dst;rw[hd,CQ])
  have J_:∀t∈o.looksAt l.toArray,eH Ks m=false→YY l Ks m t:=by
   intro t ht hE q o' hq hd BQ
   rcases (z.look t ht).2 with h1|⟨j,ta,hj, -,qe,tL, -⟩
   ·exact absurd hd<|h1 q o' hq
   ·have:q=j:=hQ (·.dst) l lO q j o' ta hq qe (by show o'.dst.isSome=true;rw[hd];rfl) (by show o'.dst=ta.dst;rw[hd,tL])
    omega
  have fin:∀(e:PR) (U2:UN) (f2:aQ),Rf l Ks f0 (E0++[e]) (m+1) U2 f2→PZ P n l.toArray w0 ag K r ks.tail U2 f2→
    (∀E:List PR,E.take (m+1)=E0++[e]→Fact P n l Ks w0 ag f0 E m o)→
    ∃(E:List PR) (U':UN) (f':aQ),E.length=l.length∧E.take m=E0∧(∀(i:Nat) (o:Oper),m≤i→l[i]? =some o→Fact P n l Ks w0 ag f0 E i o)∧Rf l Ks f0 E l.length U' f'∧K U' f':=by
   intro e U2 f2 hL2 hP hF
   obtain⟨E,U',f',h1,h2,h3,h4,h5⟩:=PZ.table lO hZ r ks.tail (m+1) U2 f2 (E0++[e]) hr' L1 (by simp[hl]) aie hL2 hP
   refine⟨E,U',f',h1,?_,fun i o' hi jl=>?_,h4,h5⟩
   ·have:=ani (List.take m) h2
    rw[aoO,aon aq,aoI aq,←hl,aod] at this
    rw[hl] at this;exact this
   ·by_cases tM:i=m
    ·subst tM
     rw[jf] at jl;cases jl
     exact hF E h2
    ·exact h3 i o' aq jl
  have Bh:∀(E:List PR) (e:PR),E.take (m+1)=E0++[e]→nh E m=e:=by
   intro E e h2
   rw[O3 h2 (by simp[hl]) (aoK m)]
   unfold nh
   rw[gZ,og aq,hl,aol];rfl
  have ajq:∀(e:PR) (q:Nat),q<m→nh (E0++[e]) q=nh E0 q:=by
   intro e q hq
   unfold nh
   rw[gZ,oT aq,gZ]
  have JS:∀(E:List PR) (e:PR),E.take (m+1)=E0++[e]→E.take m=E0:=by
   intro E e h2
   have:=ani (List.take m) h2
   rw[aoO,aon aq,aoI aq,←hl,aod] at this
   rw[hl] at this;exact this
  
  have SE:∀(e:PR) (g:aQ) (N:Nat→Prop) (w:World) (t:Nat),Kn l Ks f0 (E0++[e]) (m+1) g N w t→Kn l Ks f0 E0 m g N w t:=fun e g N w t k=>
   ⟨k.off,fun q o' hq h1 h2 h3=>by rw[←ajq e q hq];exact k.Ai q o' aq h1 h2 h3⟩
  unfold PZ at h
  rw[S7] at h
  cases hk:uW Ks m with
  |e=>
   rw[hk] at h
   have hE:eH Ks m=true:=by unfold eH;rw[hk];rfl
   refine fin (fun _ _ _=>True) aj f ⟨fun g N w t hV qI=>?_,fun j t Φ hj=>?_⟩ h fun E h2=>⟨by rw[Bh E _ h2];exact⟨fun _ _ _ _ _ _=>trivial,fun _ _ _ _ _ _ _=>trivial⟩,fun tQ=>by rw[hE] at tQ;cases tQ⟩
   ·exact hL.is g N w t (fun q o' hq hd BQ=>by
     have:=hV q o' hq hd BQ
     by_cases iY:q=m
     ·subst iY;rw[hE] at BQ;cases BQ
     ·omega) (SE _ g N w t qI)
   ·obtain⟨q,o',h1,h2,h3⟩:=hL.G4 j t Φ hj
    exact⟨q,o',by omega,h2,h3⟩
  |f=>
   rw[hk] at h
   obtain⟨X,h1,h1b,h2⟩:=h
   have hE:eH Ks m=false:=by unfold eH;rw[hk];rfl
   obtain⟨d,hd⟩:=z.dst hE
   have hN:nD Ks m=false:=by unfold nD;rw[hk];rfl
   refine fin (eN X) aj (cX f o.dst X) ⟨fun g N w t hV qI=>?_,fun j t Φ hj=>?_⟩ h2 fun E tQ=>⟨by rw[Bh E _ tQ];exact XJ X,fun _=>.inr (.inl ⟨⟨X,Bh E _ tQ,fun g N w w1 hI qI=>?_⟩,hN⟩)⟩
   ·by_cases ht:o.dst=some t
    ·have hv:g t=X:=by
      have:=qI.Ai m o (aoK m) jf ht hE
      unfold nh at this
      rw[gZ,og aq,hl,aol] at this
      exact this
     refine⟨fun _=>by rw[ht];show g t=cb f t X t;rw[iR];exact hv,fun j Φ hj=>?_⟩
     obtain⟨q,o',h1,h2,h3⟩:=hL.G4 j t Φ hj
     have:=A' q o' t h2 h3 ht
     omega
    ·have:=hL.is g N w t (fun q o' hq nz BQ=>by
      have:=hV q o' hq nz BQ
      by_cases iY:q=m
      ·subst iY;rw[jf] at hq;cases hq;exact absurd nz ht
      ·omega) (SE _ g N w t qI)
     refine⟨fun hu=>?_,this.2⟩
     rw[this.1 hu,hd]
     exact(jx f X<|fun e=>ht<|by rw[hd,e]).symm
   ·obtain⟨q,o',h1,h2,h3⟩:=hL.G4 j t Φ hj
    exact⟨q,o',by omega,h2,h3⟩
   ·refine h1 w g hI fun t ht=>?_
    have hu:xm aj t=false:=by
     have:=anr.1 h1b t ht
     simpa using this
    exact⟨hu,(hL.is g N w1 t (J_ t ht hE)<|(qI t ht).of (JS E _ tQ) hl).1 hu⟩
  |n=>
   rw[hk] at h
   have hE:eH Ks m=false:=by unfold eH;rw[hk];rfl
   have hN:nD Ks m=true:=by unfold nD;rw[hk];rfl
   obtain⟨d,zz,T,hd,h1b,h1,h2⟩:=h
   refine fin (JB w0 zz T) ((d,JB w0 zz T)::aj) f ⟨fun g N w t hV qI=>?_,fun j t Ψ hj=>?_⟩ h2 fun E tQ=>⟨by rw[Bh E _ tQ];exact ae' w0 zz T,fun _=>.inr (.inr ⟨⟨zz,T,Bh E _ tQ,fun g N w hx qI=>?_⟩,hN⟩)⟩
   ·by_cases ht:d=t
    ·subst ht
     have hv:JB w0 zz T N (g d) w:=by
      have:=qI.Ai m o (aoK m) jf hd hE
      unfold nh at this
      rw[gZ,og aq,hl,aol] at this
      exact this
     refine⟨fun hu=>?_,fun j Ψ hj=>?_⟩
     ·rw[wF.2 ⟨0,JB w0 zz T,rfl⟩] at hu;cases hu
     ·cases j with
      |zero=>cases hj;exact hv
      |succ j=>
       obtain⟨q,o',h1,h2,h3⟩:=hL.G4 j d Ψ hj
       have:=A' q o' d h2 h3 hd
       omega
    ·have Aa:=hL.is g N w t (fun q o' hq nz BQ=>by
      have:=hV q o' hq nz BQ
      by_cases iY:q=m
      ·subst iY;rw[jf] at hq;cases hq;rw[hd] at nz;cases nz;exact absurd rfl ht
      ·omega) (SE _ g N w t qI)
     refine⟨fun hu=>Aa.1 ?_,fun j Ψ hj=>?_⟩
     ·cases hb:xm aj t with
      |false=>rfl
      |true=>
       obtain⟨j,Ψ,hj⟩:=wF.1 hb
       rw[wF.2 ⟨j+1,Ψ,hj⟩] at hu;cases hu
     ·cases j with
      |zero=>cases hj;exact absurd rfl ht
      |succ j=>exact Aa.2 j Ψ hj
   ·cases j with
    |zero=>cases hj;exact⟨m,o,aoK m,jf,hd⟩
    |succ j=>
     obtain⟨q,o',h1,h2,h3⟩:=hL.G4 j t Ψ hj
     exact⟨q,o',by omega,h2,h3⟩
   ·refine h1 w g hx fun t ht=>?_
    have hu:xm aj t=false:=by
     have:=anr.1 h1b t ht
     simpa using this
    exact(hL.is g N w t (J_ t ht hE)<|(qI t ht).of (JS E _ tQ) hl).1 hu
  |r|s=>
   all_goals
    rw[hk] at h
    have hE:eH Ks m=false:=by unfold eH;rw[hk];rfl
    have hN:nD Ks m=false:=by unfold nD;rw[hk];rfl
    have hRS:xl Ks m=true∨LL Ks m=true:=by unfold xl LL;rw[hk];first|exact .inl rfl|exact .inr rfl
    obtain⟨d0,Ma⟩:=z.dst hE
    rcases h with ⟨X,h1,h2⟩|⟨d,Φ,hd,S2,h1,h2⟩
    ·refine fin (eN X) aj (cX f o.dst X) ⟨fun g N w t hV qI=>?_,fun j t Φ hj=>?_⟩ h2 fun E tQ=>⟨by rw[Bh E _ tQ];exact XJ X,fun _=>.inl ⟨fun g N w hx hNI qI=>?_,hN,hRS⟩⟩
     ·by_cases ht:o.dst=some t
      ·have hv:g t=X:=by
        have:=qI.Ai m o (aoK m) jf ht hE
        unfold nh at this
        rw[gZ,og aq,hl,aol] at this
        exact this
       refine⟨fun _=>by rw[ht];show g t=cb f t X t;rw[iR];exact hv,fun j Φ hj=>?_⟩
       obtain⟨q,o',h1,h2,h3⟩:=hL.G4 j t Φ hj
       have:=A' q o' t h2 h3 ht
       omega
      ·have:=hL.is g N w t (fun q o' hq nz BQ=>by
        have:=hV q o' hq nz BQ
        by_cases iY:q=m
        ·subst iY;rw[jf] at hq;cases hq;exact absurd nz ht
        ·omega) (SE _ g N w t qI)
       refine⟨fun hu=>?_,this.2⟩
       rw[this.1 hu,Ma]
       exact(jx f X<|fun e=>ht<|by rw[Ma,e]).symm
     ·obtain⟨q,o',h1,h2,h3⟩:=hL.G4 j t Φ hj
      exact⟨q,o',by omega,h2,h3⟩
     ·rw[Bh E _ tQ]
      exact h1 w g N hx hNI fun t ht=>hL.is g N w t (J_ t ht hE) ((qI t ht).of (JS E _ tQ) hl)
    ·refine fin Φ ((d,Φ)::aj) f ⟨fun g N w t hV qI=>?_,fun j t Ψ hj=>?_⟩ h2 fun E tQ=>⟨by rw[Bh E _ tQ];exact S2,fun _=>.inl ⟨fun g N w hx hNI qI=>?_,hN,hRS⟩⟩
     ·by_cases ht:d=t
      ·subst ht
       have hv:Φ N (g d) w:=by
        have:=qI.Ai m o (aoK m) jf hd hE
        unfold nh at this
        rw[gZ,og aq,hl,aol] at this
        exact this
       refine⟨fun hu=>?_,fun j Ψ hj=>?_⟩
       ·rw[wF.2 ⟨0,Φ,rfl⟩] at hu;cases hu
       ·cases j with
        |zero=>cases hj;exact hv
        |succ j=>
         obtain⟨q,o',h1,h2,h3⟩:=hL.G4 j d Ψ hj
         have:=A' q o' d h2 h3 hd
         omega
      ·have Aa:=hL.is g N w t (fun q o' hq nz BQ=>by
        have:=hV q o' hq nz BQ
        by_cases iY:q=m
        ·subst iY;rw[jf] at hq;cases hq;rw[hd] at nz;cases nz;exact absurd rfl ht
        ·omega) (SE _ g N w t qI)
       refine⟨fun hu=>Aa.1 ?_,fun j Ψ hj=>?_⟩
       ·cases hb:xm aj t with
        |false=>rfl
        |true=>
         obtain⟨j,Ψ,hj⟩:=wF.1 hb
         rw[wF.2 ⟨j+1,Ψ,hj⟩] at hu;cases hu
       ·cases j with
        |zero=>cases hj;exact absurd rfl ht
        |succ j=>exact Aa.2 j Ψ hj
     ·cases j with
      |zero=>cases hj;exact⟨m,o,aoK m,jf,hd⟩
      |succ j=>
       obtain⟨q,o',h1,h2,h3⟩:=hL.G4 j t Ψ hj
       exact⟨q,o',by omega,h2,h3⟩
     ·rw[Bh E _ tQ]
      exact h1 w g N hx hNI fun t ht=>hL.is g N w t (J_ t ht hE) ((qI t ht).of (JS E _ tQ) hl)
end
def qq (Ks:List ZK) (L:Nat→Bool):Nat→List Oper→List Oper
 |_,[]=>[]
 |i,o::r=>if eH Ks i&&!L i then o::qq Ks L (i+1) r else qq Ks L (i+1) r
section
variable {Ks:List ZK} {L L':Nat→Bool}
theorem E7:∀(r:List Oper) (i:Nat) (ks:List ZK),Ks.drop i=ks→qq Ks (fun _=>false) i r=FC ks r
 |[],_,_,_=>rfl
 |o::r,i,ks,h=>by
  have L1:Ks.drop (i+1)=ks.tail:=by rw[←aog,h];cases ks<;>rfl
  have S7:ks.headD .r=uW Ks i:=by
   unfold uW
   rw[←h,gZ]
   cases hq:Ks.drop i with
   |nil=>rw[anz (by have:=ani List.length hq;simp at this;omega)];rfl
   |cons a b=>
    have:(Ks.drop i)[0]? =some a:=by rw[hq];rfl
    rw[an2,an0] at this
    rw[this];rfl
  unfold qq FC
  rw[S7,E7 r (i+1) ks.tail L1]
  unfold eH
  cases uW Ks i<;>simp[zkE]
theorem nN:∀(r:List Oper) (i:Nat),(∀k,i≤k→eH Ks k=true→L k=L' k)→qq Ks L i r=qq Ks L' i r
 |[],_,_=>rfl
 |o::r,i,h=>by
  unfold qq
  rw[nN r (i+1) fun k hk=>h k aq]
  cases hE:eH Ks i with
  |false=>simp
  |true=>rw[h i (anl _) hE]
theorem Cf:∀(r:List Oper) (i j:Nat) (o:Oper),r[j]? =some o→eH Ks (i+j)=true→L (i+j)=false→(∀e,i≤e→e<i+j→eH Ks e=true→L e=true)→
  qq Ks L i r=o::qq Ks (fun k=>L k||decide (k=i+j)) i r
 |[],_,_,_,h,_,_,_=>by simp at h
 |x::r,i,0,o,h,hE,hL,_=>by
  simp only[anA,anx] at h
  subst h
  rw[an0] at hE hL
  unfold qq
  rw[hE,hL]
  simp only[an0,Bool.not_false,aqo,decide_true,Bool.or_true,apI,aqi,aoX,aqm,aoa]
  congr 1
  refine nN r (i+1) fun k hk _=>?_
  rw[ans aq,aoN]
 |x::r,i,j+1,o,h,hE,hL,hb=>by
  have ih:=Cf r (i+1) j o (by simpa using h) (by rw[show i+1+j=i+(j+1) from by omega];exact hE) (by rw[show i+1+j=i+(j+1) from by omega];exact hL) fun e h1 h2 h3=>hb e aq aq h3
  rw[show i+1+j=i+(j+1) from by omega] at ih
  have h0:(eH Ks i&&!L i)=false:=by
   cases xC:eH Ks i with
   |false=>rfl
   |true=>rw[hb i (anl _) aq xC];rfl
  unfold qq
  rw[h0,ans (show ¬i=i+(j+1) by omega),aoN,h0]
  simpa using ih
theorem E6:∀(r:List Oper) (i:Nat),(∀k,i≤k→k<i+r.length→L k=true)→qq Ks L i r=[]
 |[],_,_=>rfl
 |o::r,i,h=>by
  unfold qq
  rw[h i (anl _) (by simp),E6 r (i+1) fun k h1 h2=>h k aq (by simp only[iM];omega)]
  simp
end
theorem HE {l:List Oper} {L:Nat→Bool} (hC:∀i o,L i=true→l[i]? =some o→∀j,kN o j=true→L j=true):
  ∀(n i m:Nat) (o:Oper),l[i]? =some o→(∀j,kN o j=true→L j=true)→oF l n i m=true→L m=true
 |0,_,_,_,_,_,h=>by cases h
 |n+1,i,m,o,ho,hd,h=>by
  simp only[oF,ho,anv] at h
  rcases h with h|h
  ·exact hd m h
  ·obtain⟨j,_,hj⟩:=anV.1 h
   simp only[eI] at hj
   have hlj:=hd j hj.1
   cases qD:l[j]? with
   |none=>
    have h2:=hj.2
    cases n with
    |zero=>cases h2
    |succ n=>simp[oF,qD] at h2
   |some o'=>exact HE hC n j m o' qD (hC j o' hlj qD) hj.2
section
variable {P:Program} {n:Nat} {l:List Oper} {Ks:List ZK} {w0:World} {ag:World→Prop} {f0:aQ} {E:List PR} {K:aQ→World→Prop}
def VP (P:Program) (n:Nat) (l:List Oper) (ag:World→Prop) (o:Oper) (g:aQ) (d:Nat):Prop:=∀(w2:World) (g2:aQ),ag w2→(∀t∈o.looksAt l.toArray,g2 t=g t)→SO P n l.toArray o g2 w2 (fun f' w'=>f'=cX g2 o.dst (g d)∧w'=w2)
structure J1 (l:List Oper) (Ks:List ZK) (w0:World) (f0:aQ) (E:List PR) (L:Nat→Bool) (f:aQ) (w:World) (N:Nat→Prop):Prop where
 ni:EF w0 N w
 dis:∀(p q:Nat) (o o':Oper) (d d':Nat),L p=true→L q=true→p≠q→l[p]? =some o→l[q]? =some o'→nD Ks p=true→nD Ks q=true→o.dst=some d→o'.dst=some d'→f d≠f d'
 no:∀e,e<l.length→eH Ks e=true→L e=false
 ext:Ext w0 w
 off:∀t,(∀(q:Nat) (o:Oper),l[q]? =some o→o.dst=some t→eH Ks q=true)→f t=f0 t
 Ai:∀(q:Nat) (o:Oper) (t:Nat),L q=true→l[q]? =some o→o.dst=some t→eH Ks q=false→nh E q N (f t) w
structure J2 (P:Program) (n:Nat) (l:List Oper) (Ks:List ZK) (ag:World→Prop) (K:aQ→World→Prop) (L:Nat→Bool) (f:aQ) (w:World) (g:aQ) (V:Nat→Bool):Prop where
 rd:∀(q:Nat) (o:Oper),l[q]? =some o→xl Ks q=true→L q=true
 eq:∀t,t<n→(∀(q:Nat) (o:Oper),l[q]? =some o→o.dst=some t→(eH Ks q=false∨V q=true)→L q=true)→g t=f t
 vp:∀(q:Nat) (o:Oper) (d:Nat),l[q]? =some o→o.dst=some d→(eH Ks q=false∨V q=true)→L q=false→VP P n l ag o g d
 i:ag w
 we:WE P n l.toArray ag K (qq Ks (fun k=>L k||V k) 0 l) g w
 vx:∀q,V q=true→tf l Ks q=true
 vl:∀q,V q=true→∀e,e<q→eH Ks e=true→jK l e=false→L e=true
 vd:∀q,V q=true→∀m,m<q→tf l Ks m=true→L m=false→V m=true
def NF (l:List Oper) (Ks:List ZK) (L V:Nat→Bool) (m:Nat):Prop:=∀q,q<m→tf l Ks q=true→L q=false→(∀e,e<q→eH Ks e=true→jK l e=false→L e=true)→V q=true
theorem YI (lO:(l.filterMap (·.dst)).Nodup) (hZ:∀(i:Nat) (o:Oper),l[i]? =some o→Z1 n l Ks i o) (hF:∀(i:Nat) (o:Oper),l[i]? =some o→Fact P n l Ks w0 ag f0 E i o) {L:Nat→Bool} {f:aQ} {w:World} {N:Nat→Prop}
  (h:J1 l Ks w0 f0 E L f w N) (hI:∀w',Ext w0 w'→ag w') (hR:∀(q:Nat) (o:Oper),l[q]? =some o→xl Ks q=true→L q=true) (ep:∀(i:Nat) (o:Oper) (d:Nat),l[i]? =some o→o.dst=some d→d<n):∀m,m≤l.length→
  ∃g:aQ,(∀t,(∀(q:Nat) (o:Oper),q<m→l[q]? =some o→o.dst=some t→eH Ks q=false→L q=true)→g t=f t)∧
   (∀(q:Nat) (o:Oper) (d:Nat),q<m→l[q]? =some o→o.dst=some d→eH Ks q=false→L q=false→VP P n l ag o g d)∧
   (∀(q:Nat) (o:Oper) (t:Nat),q<m→l[q]? =some o→o.dst=some t→eH Ks q=false→nh E q N (g t) w)
 |0,_=>⟨f,fun _ _=>rfl,fun q o d hq=>absurd hq (apa _),fun q o t hq=>absurd hq (apa _)⟩
 |m+1,hm=>by
  obtain⟨g,g1,g2,g3⟩:=YI lO hZ hF h hI hR ep m aq
  have jf:l[m]? =some l[m]:=eB aq
  generalize l[m]=o at jf
  have z:=hZ m o jf
  have uniq:∀(q q':Nat) (a b:Oper) (t:Nat),l[q]? =some a→l[q']? =some b→a.dst=some t→b.dst=some t→q=q':=fun q q' a b t h1 h2 h3 h4=>
   hQ (·.dst) l lO q q' a b h1 h2 (by show a.dst.isSome=true;rw[h3];rfl) (by show a.dst=b.dst;rw[h3,h4])
  cases hE:eH Ks m with
  |true=>
   refine⟨g,fun t ht=>g1 t fun q o' hq=>ht q o' aq,fun q o' d hq h1 h2 h3 h4=>?_,fun q o' t hq h1 h2 h3=>?_⟩
   ·by_cases iY:q=m
    ·subst iY;rw[hE] at h3;cases h3
    ·exact g2 q o' d aq h1 h2 h3 h4
   ·by_cases iY:q=m
    ·subst iY;rw[hE] at h3;cases h3
    ·exact g3 q o' t aq h1 h2 h3
  |false=>
   obtain⟨d,hd⟩:=z.dst hE
   have gd:g d=f d:=g1 d fun q o' hq h1 h2 h3=>by have:=uniq q m o' o d h1 jf h2 hd;omega
   cases Tj:L m with
   |true=>
    refine⟨g,fun t ht=>g1 t fun q o' hq=>ht q o' aq,fun q o' d' hq h1 h2 h3 h4=>?_,fun q o' t hq h1 h2 h3=>?_⟩
    ·by_cases iY:q=m
     ·subst iY;rw[Tj] at h4;cases h4
     ·exact g2 q o' d' aq h1 h2 h3 h4
    ·by_cases iY:q=m
     ·subst iY
      rw[jf] at h1;cases h1
      rw[hd] at h2;cases h2
      rw[gd];exact h.Ai q o d Tj jf hd hE
     ·exact g3 q o' t aq h1 h2 h3
   |false=>
    
    have S5:∀t∈o.looksAt l.toArray,t≠d∧∀(q:Nat) (o':Oper),l[q]? =some o'→o'.dst=some t→eH Ks q=false→q<m:=by
     intro t ht
     rcases (z.look t ht).2 with h1|⟨j,ta,hj, -,qe,tL, -⟩
     ·exact⟨fun e=>h1 m o jf (by rw[hd,e]),fun q o' hq nz _=>absurd nz (h1 q o' hq)⟩
     ·refine⟨fun e=>?_,fun q o' hq nz _=>?_⟩
      ·have:=uniq j m ta o d qe jf (by rw[tL,e]) hd;omega
      ·have:=uniq q j o' ta t hq qe nz tL;omega
    have yy:∀t∈o.looksAt l.toArray,Kn l Ks f0 E m g N w t:=fun t ht=>⟨fun Fm=>by
      rw[g1 t fun q o' hq h1 h2 h3=>absurd h3 (by rw[Fm q o' h1 h2];decide)]
      exact h.off t Fm,fun q o' hq h1 h2 h3=>g3 q o' t hq h1 h2 h3⟩
    have key:∃v,nh E m N v w∧∀(w2:World) (g2:aQ),ag w2→(∀t∈o.looksAt l.toArray,g2 t=g t)→SO P n l.toArray o g2 w2 (fun f' w'=>f'=cX g2 o.dst v∧w'=w2):=by
     rcases (hF m o jf).go hE with ⟨hFR, -,hk⟩|⟨⟨X,hX,hFF⟩, -⟩|⟨-,hk⟩
     ·rcases hk with hk|hk
      ·have:=hR m o jf hk;rw[Tj] at this;cases this
      ·obtain⟨v,hv,BF⟩:=UW (z.slot hk) ⟨d,hd,ep m o d jf hd⟩ (hFR g N w h.ext h.ni yy)
       exact⟨v,hv,fun w2 g2 _ hg=>BF g2 w2 hg⟩
     rotate_left
     ·have:=hR m o jf (by unfold nD at hk;unfold xl;cases hq:uW Ks m<;>rw[hq] at hk<;>first|rfl|cases hk);rw[Tj] at this;cases this
     ·refine⟨X,by rw[hX];rfl,fun w2 g2 GG hg=>hFF g2 N w2 w GG fun t ht=>?_⟩
      have k:=yy t ht
      exact⟨fun Fm=>by rw[hg t ht];exact k.off Fm,fun q o' hq h1 h2 h3=>by rw[hg t ht];exact k.Ai q o' hq h1 h2 h3⟩
    obtain⟨v,hv,hvp⟩:=key
    have gH:∀t,t≠d→cb g d v t=g t:=fun t ht=>jx g v ht
    refine⟨cb g d v,fun t ht=>?_,fun q o' d' hq h1 h2 h3 h4=>?_,fun q o' t hq h1 h2 h3=>?_⟩
    ·have CJ:t≠d:=fun e=>by
      have:=ht m o (aoK m) jf (by rw[hd,e]) hE
      rw[Tj] at this;cases this
     rw[gH t CJ]
     exact g1 t fun q o' hq=>ht q o' aq
    ·by_cases iY:q=m
     ·subst iY
      rw[jf] at h1;cases h1
      rw[hd] at h2;cases h2
      intro w2 gg GG hg
      rw[iR]
      exact hvp w2 gg GG fun t ht=>by rw[hg t ht,gH t (S5 t ht).1]
     ·have L_:d'≠d:=fun e=>iY (uniq q m o' o d h1 jf (by rw[h2,e]) hd)
      have zq:=hZ q o' h1
      intro w2 gg GG hg
      rw[gH d' L_]
      refine g2 q o' d' aq h1 h2 h3 h4 w2 gg GG fun t ht=>?_
      rw[hg t ht]
      refine gH t fun e=>?_
      rcases (zq.look t ht).2 with h5|⟨j,ta,hj, -,qe,tL, -⟩
      ·exact h5 m o jf<|by rw[hd,e]
      ·have:=uniq j m ta o d qe jf (by rw[tL,e]) hd;omega
    ·by_cases iY:q=m
     ·subst iY
      rw[jf] at h1;cases h1
      rw[hd] at h2;cases h2
      rw[iR];exact hv
     ·rw[gH t fun e=>iY (uniq q m o' o d h1 jf (by rw[h2,e]) hd)]
      exact g3 q o' t aq h1 h2 h3
theorem Sk (a b:Bool) (c:Prop) [Decidable c]:((a||b)||decide c)=(a||(b||decide c)):=by cases a<;>cases b<;>rfl
theorem YJ (lO:(l.filterMap (·.dst)).Nodup) (hZ:∀(i:Nat) (o:Oper),l[i]? =some o→Z1 n l Ks i o) (ep:∀(i:Nat) (o:Oper) (d:Nat),l[i]? =some o→o.dst=some d→d<n) {L:Nat→Bool} {f g0:aQ} {w:World} {V0:Nat→Bool} (h0:J2 P n l Ks ag K L f w g0 V0):∀m,m≤l.length→
  ∃g V,J2 P n l Ks ag K L f w g V∧NF l Ks L V m
 |0,_=>⟨g0,V0,h0,fun q hq=>absurd hq (apa _)⟩
 |m+1,hm=>by
  obtain⟨g,V,h,hN⟩:=YJ lO hZ ep h0 m aq
  have uniq:∀(q q':Nat) (a b:Oper) (t:Nat),l[q]? =some a→l[q']? =some b→a.dst=some t→b.dst=some t→q=q':=fun q q' a b t h1 h2 h3 h4=>
   hQ (·.dst) l lO q q' a b h1 h2 (by show a.dst.isSome=true;rw[h3];rfl) (by show a.dst=b.dst;rw[h3,h4])
  by_cases hgo:tf l Ks m=true∧L m=false∧V m=false∧∀e,e<m→eH Ks e=true→jK l e=false→L e=true
  rotate_left
  ·refine⟨g,V,h,fun q hq hx hL hr=>?_⟩
   by_cases iY:q=m
   ·subst iY
    cases hV:V q with
    |true=>rfl
    |false=>exact absurd ⟨hx,hL,hV,hr⟩ hgo
   ·exact hN q aq hx hL hr
  obtain⟨hx,hL,hV,hr⟩:=hgo
  have jf:l[m]? =some l[m]:=eB aq
  generalize l[m]=o at jf
  have z:=hZ m o jf
  have LQ:eH Ks m=true∧jK l m=true:=by
   have:=hx;unfold tf at this;rwa [eI] at this
  have hso:sS o=true:=by have:=LQ.2;unfold jK at this;rwa [jf] at this
  obtain⟨⟨d,hd⟩, -⟩:=z.xd LQ.1 hso
  have sx:=ep m o d jf hd
  have hbV:∀e,e<m→eH Ks e=true→(L e||V e)=true:=by
   intro e he mY
   cases qC:jK l e with
   |false=>rw[hr e he mY qC];rfl
   |true=>
    cases hLe:L e with
    |true=>rfl
    |false=>rw[hN e he (by unfold tf;rw[mY,qC];rfl) hLe fun e' h1 h2 h3=>hr e' aq h2 h3];rfl
  have xn:=h.we
  rw[Cf l 0 m o jf (by rw[an5];exact LQ.1) (by rw[an5,hL,hV];rfl) (fun e _ h2 h3=>hbV e aq h3)] at xn
  simp only[an5] at xn
  have hsr:=SO.Xz (show SO P n l.toArray o g w _ from xn) z.sel<|fun t _=>rfl
  obtain⟨v,⟨g',hg',Yr,yt⟩,kH⟩:=IH (P:=P) (n:=n) (ops:=l.toArray) (ai:=fun v w'=>∃g',b9 n g'=b9 n (cX g o.dst v)∧ag w'∧WE P n l.toArray ag K (qq Ks (fun k=>(L k||V k)||decide (k=m)) 0 l) g' w') hso ⟨d,hd,sx⟩ (hsr.mono fun f' w' ⟨v,g',e1,e2,e3,e4⟩=>⟨v,e1,trivial,g',e2,e3,e4⟩)
  have Jh:∀t,t<n→g' t=cb g d v t:=by
   intro t ht
   have:(b9 n g').tmps[t]? =(b9 n (cX g o.dst v)).tmps[t]?:=by rw[hg']
   rw[hd] at this
   simpa [b9,ht,cX] using this
  have Yp:∀q,(V q||decide (q=m))=true→q≠m→V q=true:=fun q h4 iY=>by
   rcases aoc.1 h4 with h4|h4
   ·exact h4
   ·exact absurd (by simpa using h4) iY
  
  have afk:∀(q:Nat) (o':Oper),l[q]? =some o'→q≠m→(eH Ks q=false∨V q=true)→∀t∈o'.looksAt l.toArray,t≠d:=by
   intro q o' hq iY CN t ht e
   subst e
   rcases ((hZ q o' hq).look t ht).2 with h5|⟨j,ta,hj, -,qe,tL,hj4⟩
   ·exact h5 m o jf hd
   ·have:=uniq j m ta o t qe jf tL hd
    subst this
    rcases CN with h6|h6
    ·rw[hj4 h6] at LQ;cases LQ.1
    ·have:=h.vd q h6 j hj hx hL
     rw[hV] at this;cases this
  refine⟨g',fun k=>V k||decide (k=m),⟨h.rd,fun t ht hq=>?_,fun q o' d' h1 h2 h3 h4=>?_,h.i,?_,fun q hq=>?_,fun q hq e he mY qC=>?_,fun q hq m' hm' qa Eo=>?_⟩,fun q hq qa Eo hr'=>?_⟩
  ·have CJ:t≠d:=fun e=>by
    have:=hq m o jf (by rw[hd,e])<|.inr (by simp)
    rw[hL] at this;cases this
   rw[Jh t ht,jx g v CJ]
   exact h.eq t ht fun q o' h1 h2 h3=>hq q o' h1 h2 (h3.imp id fun h=>by rw[h];rfl)
  ·by_cases iY:q=m
   ·subst iY
    rw[jf] at h1;cases h1
    rw[hd] at h2;cases h2
    intro w2 gg _ hg
    rw[Jh d sx,iR]
    refine kH gg w2 fun t ht=>?_
    have hk:=z.look t ht
    rw[hg t ht,Jh t hk.1]
    refine jx g v fun e=>?_
    rcases hk.2 with h5|⟨j,ta,hj, -,qe,tL, -⟩
    ·exact h5 q o jf<|by rw[hd,e]
    ·have:=uniq j q ta o d qe jf (by rw[tL,e]) hd;omega
   ·have CN:eH Ks q=false∨V q=true:=h3.imp id fun h=>Yp q h iY
    have hv:=h.vp q o' d' h1 h2 CN h4
    have L_:d'≠d:=fun e=>iY (uniq q m o' o d h1 jf (by rw[h2,e]) hd)
    intro w2 gg GG hg
    rw[Jh d' (ep q o' d' h1 h2),jx g v L_]
    refine hv w2 gg GG fun t ht=>?_
    rw[hg t ht,Jh t ((hZ q o' h1).look t ht).1]
    exact jx g v<|afk q o' h1 iY CN t ht
  ·rw[nN (L':=fun k=>(L k||V k)||decide (k=m)) l 0 fun k _ _=>(Sk _ _ _).symm]
   exact yt
  ·by_cases iY:q=m
   ·subst iY;exact hx
   ·exact h.vx q<|Yp q hq iY
  ·by_cases iY:q=m
   ·subst iY;exact hr e he mY qC
   ·exact h.vl q (Yp q hq iY) e he mY qC
  ·show (V m'||decide (m'=m))=true
   by_cases iY:q=m
   ·subst iY
    rw[hN m' hm' qa Eo fun e h1 h2 h3=>hr e aq h2 h3];rfl
   ·rw[h.vd q (Yp q hq iY) m' hm' qa Eo];rfl
  ·show (V q||decide (q=m))=true
   by_cases iY:q=m
   ·subst iY;simp
   ·rw[hN q aq qa Eo hr'];rfl
theorem RA (lO:(l.filterMap (·.dst)).Nodup) (hZ:∀(i:Nat) (o:Oper),l[i]? =some o→Z1 n l Ks i o) (ep:∀(i:Nat) (o:Oper) (d:Nat),l[i]? =some o→o.dst=some d→d<n) {L:Nat→Bool} {f g:aQ} {w:World} {V:Nat→Bool} (h:J2 P n l Ks ag K L f w g V) (hN:NF l Ks L V l.length) {i:Nat} {o:Oper}
  (ho:l[i]? =some o) (hE:eH Ks i=true) (hS:jK l i=false) (tP:L i=false) (hb:∀e,e<i→eH Ks e=true→jK l e=false→L e=true) (sx:∀j,kN o j=true→L j=true):
  SO P n l.toArray o f w (fun f' w'=>∃g' V',J2 P n l Ks ag K (fun k=>L k||decide (k=i)) f' w' g' V'∧NF l Ks (fun k=>L k||decide (k=i)) V' l.length):=by
 have z:=hZ i o ho
 have jF:=(dC.1 ho).1
 have uniq:∀(q q':Nat) (a b:Oper) (t:Nat),l[q]? =some a→l[q']? =some b→a.dst=some t→b.dst=some t→q=q':=fun q q' a b t h1 h2 h3 h4=>
  hQ (·.dst) l lO q q' a b h1 h2 (by show a.dst.isSome=true;rw[h3];rfl) (by show a.dst=b.dst;rw[h3,h4])
 have hXi:tf l Ks i=false:=by unfold tf;rw[hS,aqi]
 have hVi:V i=false:=by
  cases hq:V i with
  |false=>rfl
  |true=>rw[h.vx i hq] at hXi;cases hXi
 have CN:∀q,(eH Ks q=false∨V q=true)→q≠i:=fun q h3 e=>by
  subst e
  rcases h3 with h3|h3
  ·rw[hE] at h3;cases h3
  ·rw[hVi] at h3;cases h3
 have hbV:∀e,e<i→eH Ks e=true→(L e||V e)=true:=by
  intro e he mY
  cases qC:jK l e with
  |false=>rw[hb e he mY qC];rfl
  |true=>
   cases hLe:L e with
   |true=>rfl
   |false=>rw[hN e aq (by unfold tf;rw[mY,qC];rfl) hLe fun e' h1 h2 h3=>hb e' aq h2 h3];rfl
 have xn:=h.we
 rw[Cf l 0 i o ho (by rw[an5];exact hE) (by rw[an5,tP,hVi];rfl) (fun e _ h2 h3=>hbV e aq h3)] at xn
 simp only[an5] at xn
 have S5:∀t∈o.looksAt l.toArray,f t=g t:=by
  intro t ht
  have q:=z.look t ht
  refine(h.eq t q.1 fun q' o' h1 h2 h3=>?_).symm
  rcases q.2 with h4|⟨j,ta,hj,L3,qe,tL, -⟩
  ·exact absurd h2<|h4 q' o' h1
  ·rw[uniq q' j o' ta t h1 qe h2 tL];exact sx j L3
 refine(SO.Xz (show SO P n l.toArray o g w _ from xn) z.sel S5).mono ?_
 rintro f' w' ⟨v,g',rfl,hg',Yr,yt⟩
 have Jh:∀t,t<n→g' t=cX g o.dst v t:=by
  intro t ht
  have:(b9 n g').tmps[t]? =(b9 n (cX g o.dst v)).tmps[t]?:=by rw[hg']
  simpa [b9,ht] using this
 refine YJ (V0:=V) lO hZ ep (L:=fun k=>L k||decide (k=i)) (g0:=g') ⟨fun q o' h1 h2=>by rw[h.rd q o' h1 h2];rfl,fun t ht hq=>?_,fun q o' d h1 h2 h3 h4=>?_,Yr,?_,h.vx,fun q hq e he mY qC=>by rw[h.vl q hq e he mY qC];rfl,fun q hq m hm hx hL=>h.vd q hq m hm hx ?_⟩ l.length<|anl _
 ·rw[Jh t ht]
  cases hd:o.dst with
  |none=>
   show g t=f t
   refine h.eq t ht fun q o' h1 h2 h3=>?_
   rcases aoc.1 (hq q o' h1 h2 h3) with h4|h4
   ·exact h4
   ·exact absurd (by simpa using h4)<|CN q h3
  |some d=>
   show cb g d v t=cb f d v t
   by_cases CJ:t=d
   ·subst CJ;rw[iR,iR]
   ·rw[jx g v CJ,jx f v CJ]
    refine h.eq t ht fun q o' h1 h2 h3=>?_
    rcases aoc.1 (hq q o' h1 h2 h3) with h4|h4
    ·exact h4
    ·exact absurd (by simpa using h4)<|CN q h3
 ·have h4':L q=false:=by
   cases hq:L q with
   |false=>rfl
   |true=>rw[hq] at h4;cases h4
  have hv:=h.vp q o' d h1 h2 h3 h4'
  have gH:∀t,t<n→o.dst≠some t→g' t=g t:=by
   intro t ht hd
   rw[Jh t ht]
   cases nz:o.dst with
   |none=>rfl
   |some d'=>exact jx g v fun e=>hd (by rw[nz,e])
  intro w2 gg GG hg
  rw[gH d (ep q o' d h1 h2) (fun e=>CN q h3 (uniq q i o' o d h1 ho h2 e))]
  refine hv w2 gg GG fun t ht=>?_
  rw[hg t ht]
  have zq:=(hZ q o' h1).look t ht
  refine gH t zq.1 fun e=>?_
  rcases zq.2 with h5|⟨j,ta,hj, -,qe,tL,hj4⟩
  ·exact h5 i o ho e
  ·have:=uniq j i ta o t qe ho tL e
   subst this
   rcases h3 with h3|h3
   ·rw[hj4 h3] at hE;cases hE
   ·rw[h.vl q h3 j hj hE hS] at tP;cases tP
 ·rw[nN (L':=fun k=>(L k||V k)||decide (k=i)) l 0 fun k _ _=>by cases L k<;>cases V k<;>cases decide (k=i)<;>rfl]
  exact yt
 ·cases hq:L m with
  |false=>rfl
  |true=>simp[hq] at hL
theorem Lw {Ks:List ZK} {d:Nat}:∀(r:List Oper) (i:Nat) (ks:List ZK),Ks.drop i=ks→d∈Fc ks r→∃(j:Nat) (o:Oper),r[j]? =some o∧nD Ks (i+j)=true∧o.dst.getD 0=d
 |[],_,_,_,h=>by cases h
 |o::r,i,ks,h,hd=>by
  have L1:Ks.drop (i+1)=ks.tail:=by rw[←aog,h];cases ks<;>rfl
  have S7:ks.headD .r=uW Ks i:=by
   unfold uW
   rw[←h,gZ]
   cases hq:Ks.drop i with
   |nil=>rw[anz (by have:=ani List.length hq;simp at this;omega)];rfl
   |cons a b=>
    have:(Ks.drop i)[0]? =some a:=by rw[hq];rfl
    rw[an2,an0] at this
    rw[this];rfl
  have acy:d∈Fc ks.tail r→∃(j:Nat) (o':Oper),(o::r)[j]? =some o'∧nD Ks (i+j)=true∧o'.dst.getD 0=d:=fun hd=>by
   obtain⟨j,o',h1,h2,h3⟩:=Lw r (i+1) ks.tail L1 hd
   exact⟨j+1,o',by simpa using h1,by rw[show i+(j+1)=i+1+j from by omega];exact h2,h3⟩
  unfold Fc at hd
  rw[S7] at hd
  cases hk:uW Ks i with
  |n=>
   rw[hk] at hd
   rcases anC.1 hd with rfl|hd
   ·exact⟨0,o,J,by rw[an0];unfold nD;rw[hk];rfl,J⟩
   ·exact acy hd
  |_=>rw[hk] at hd;exact acy hd
theorem mg {id:Nat} {Q:Exit→Act→World→Prop} {f:aQ} {w:World} (Ks:List ZK) (ag:World→Prop) (hm:P.follows .mixedOrders=true) (qd:okZ n l Ks=true) (hI:∀w',Ext w w'→ag w')
  (h:PZ P n l.toArray w ag (KZ P n l.toArray Q w ag (FC Ks l) (Fc Ks l)) l Ks [] f):WC P n (.region id l.toArray true) Q f w:=by
 simp only[okZ,eI] at qd
 obtain⟨hE,hN,hn,h1⟩:=qd
 have lO:(l.filterMap (·.dst)).Nodup:=oI _ hN
 have ep:∀(i:Nat) (o:Oper) (d:Nat),l[i]? =some o→o.dst=some d→d<n:=by
  intro i o d hi hd
  have:=anr.1 hn d<|anN.2 ⟨o,dB hi,hd⟩
  simpa using this
 have hZ:∀(i:Nat) (o:Oper),l[i]? =some o→Z1 n l Ks i o:=fun i o hi=>by
  have:=Ol l 0 h1 i o hi
  rwa [an5] at this
 have uniq:∀(q q':Nat) (a b:Oper) (t:Nat),l[q]? =some a→l[q']? =some b→a.dst=some t→b.dst=some t→q=q':=fun q q' a b t h1 h2 h3 h4=>
  hQ (·.dst) l lO q q' a b h1 h2 (by show a.dst.isSome=true;rw[h3];rfl) (by show a.dst=b.dst;rw[h3,h4])
 obtain⟨E,U',f',hEl, -,hF0,hL,hK⟩:=PZ.table (f0:=f) lO hZ l Ks 0 [] f [] rfl rfl rfl (by simp)
  ⟨fun g N w t hV qI=>⟨fun _=>qI.off fun q o h1 h2=>by
   cases hq:eH Ks q with
   |true=>rfl
   |false=>exact absurd (hV q o h1 h2 hq) (apa _),fun j Φ hj=>by simp at hj⟩,fun j t Φ hj=>by simp at hj⟩ h
 have hF:∀(i:Nat) (o:Oper),l[i]? =some o→Fact P n l Ks w ag f E i o:=fun i o hi=>hF0 i o (aoD _) hi
 have Fo:∀d,d∈Fc Ks l→∃(q:Nat) (o:Oper),l[q]? =some o∧nD Ks q=true∧o.dst=some d:=fun d hd=>by
  obtain⟨j,o,h2,h3,h4⟩:=Lw l 0 Ks rfl hd
  rw[an5] at h3
  have gH:eH Ks j=false:=by unfold nD at h3;unfold eH;cases hq:uW Ks j<;>rw[hq] at h3<;>first|rfl|exact Bool.noConfusion h3
  obtain⟨d',nz⟩:=(hZ j o h2).dst gH
  rw[nz] at h4
  exact⟨j,o,h2,h3,by rw[nz];exact ani some h4⟩
 have Yq:∀q,nD Ks q=true→xl Ks q=true:=fun q h3=>by unfold nD at h3;unfold xl;cases hq:uW Ks q<;>rw[hq] at h3<;>first|rfl|exact Bool.noConfusion h3
 refine drj (P:=P) (Q:=Q) (fun L g w'=>(∀(i:Nat) (o:Oper),L i=true→l[i]? =some o→∀j,kN o j=true→L j=true)∧((∃N,J1 l Ks w f E L g w' N)∨∃g2 V,J2 P n l Ks ag (fun f w=>Q .normal (b9 n f) w) L g w' g2 V∧NF l Ks L V l.length)) hm hE ?_ ?_ ?_
 ·exact⟨fun i o hi=>Bool.noConfusion hi,.inl ⟨fun _=>False,fun b hb=>hb.elim,fun p q o o' d d' hp=>Bool.noConfusion hp,fun e _ _=>rfl,Ext.drew w,fun t _=>rfl,fun q o t hq=>Bool.noConfusion hq⟩⟩
 ·rintro L g w' i o ho tP hLl sx ⟨hC,hJ⟩
  have z:=hZ i o ho
  have jF:=(dC.1 ho).1
  have Me:∀(q:Nat) (o':Oper),(L q||decide (q=i))=true→l[q]? =some o'→∀j,kN o' j=true→(L j||decide (j=i))=true:=by
   intro q o' hq tH j hj
   rcases aoc.1 hq with h1|h1
   ·rw[hC q o' h1 tH j hj];rfl
   ·have:q=i:=by simpa using h1
    subst this
    rw[ho] at tH;cases tH
    rw[sx j hj];rfl
  have late:∀(g2:aQ) (V:Nat→Bool),J2 P n l Ks ag (fun f w=>Q .normal (b9 n f) w) L g w' g2 V→NF l Ks L V l.length→∀d,o.dst=some d→(eH Ks i=false∨V i=true)→(eH Ks i=true→tf l Ks i=true)→
    SO P n l.toArray o g w' (fun Eu mB=>∃g2 V,J2 P n l Ks ag (fun f w=>Q .normal (b9 n f) w) (fun k=>L k||decide (k=i)) Eu mB g2 V∧NF l Ks (fun k=>L k||decide (k=i)) V l.length):=by
   intro g2 V hJ GF d hd CN afg
   have S5:∀t∈o.looksAt l.toArray,g t=g2 t:=by
    intro t ht
    have q:=z.look t ht
    refine(hJ.eq t q.1 fun q' o' h1 h2 h3=>?_).symm
    rcases q.2 with h4|⟨j,ta,hj,L3,qe,tL, -⟩
    ·exact absurd h2<|h4 q' o' h1
    ·rw[uniq q' j o' ta t h1 qe h2 tL];exact sx j L3
   have Yg:∀q,(L q||decide (q=i))=true→q≠i→L q=true:=fun q h4 ti=>by
    rcases aoc.1 h4 with h4|h4
    ·exact h4
    ·exact absurd (by simpa using h4) ti
   have hLf:∀q,(L q||decide (q=i))=false→L q=false:=fun q h4=>by
    cases hq:L q with
    |false=>rfl
    |true=>simp[hq] at h4
   refine(hJ.vp i o d ho hd CN tP w' g hJ.i S5).mono ?_
   rintro Eu mB ⟨rfl,rfl⟩
   refine⟨g2,V,⟨fun q o' h1 h2=>by rw[hJ.rd q o' h1 h2];rfl,fun t ht hq=>?_,fun q o' d' h1 h2 h3 h4=>hJ.vp q o' d' h1 h2 h3 (hLf q h4),hJ.i,?_,hJ.vx,fun q hq e he mY qC=>by rw[hJ.vl q hq e he mY qC];rfl,fun q hq m hm hx Eo=>hJ.vd q hq m hm hx (hLf m Eo)⟩,fun q hq hx Eo hr=>GF q hq hx (hLf q Eo) fun e he mY qC=>Yg e (hr e he mY qC) fun e'=>?_⟩
   ·rw[hd]
    show g2 t=cb g d (g2 d) t
    by_cases CJ:t=d
    ·subst CJ;rw[iR]
    ·rw[jx g _ CJ]
     refine hJ.eq t ht fun q o' h1 h2 h3=>Yg q (hq q o' h1 h2 h3) fun e=>?_
     subst e
     rw[ho] at h1;cases h1
     rw[hd] at h2;cases h2
     exact CJ J
   ·rw[nN (L':=fun k=>L k||V k) l 0 fun k _ hk=>?_]
    ·exact hJ.we
    ·by_cases z8:k=i
     ·subst z8
      rcases CN with h1|h1
      ·rw[h1] at hk;cases hk
      ·simp[h1]
     ·rw[ans z8,aoN]
   ·subst e'
    have:=afg mY
    unfold tf at this
    rw[qC,aqi] at this;cases this
  cases xC:eH Ks i with
  |true=>
   have hb:∀e,e<i→eH Ks e=true→jK l e=false→L e=true:=fun e he mY qC=>HE hC l.length i e o ho sx (z.ord xC e he mY qC)
   have SR:sS o=jK l i:=by unfold jK;rw[ho]
   have hR:∀(q:Nat) (o':Oper),l[q]? =some o'→xl Ks q=true→L q=true:=fun q o' hq hk=>by
    have:=(hZ q o' hq).rd hk i jF xC
    exact HE hC l.length i q o ho sx this
   rcases hJ with ⟨N,hJ⟩|⟨g2,V,hJ,GF⟩
   ·have Jk:jK l i=false:=by
     cases Jk:jK l i with
     |false=>rfl
     |true=>
      obtain⟨-,e,he,mY,qC⟩:=z.xd xC (by rw[SR,Jk])
      have h1:=hb e he mY qC
      rw[hJ.no e aq mY] at h1;cases h1
    obtain⟨g2,q1,q2,q3⟩:=YI lO hZ hF hJ hI hR ep l.length (anl _)
    have yy:∀t,Kn l Ks f E l.length g2 N w' t:=fun t=>⟨fun Fm=>by
      rw[q1 t fun q o' _ h1 h2 h3=>absurd h3 (by rw[Fm q o' h1 h2];decide)]
      exact hJ.off t Fm,fun q o' hq h1 h2 h3=>q3 q o' t hq h1 h2 h3⟩
    have hV:∀t,YY l Ks l.length t:=fun t q o' h1 _ _=>(dC.1 h1).1
    have xn:=hK w' g2 N hJ.ext hJ.ni (fun d d' h1 h2 h3=>by
     obtain⟨p,o1,a1,a2,a3⟩:=Fo d h1
     obtain⟨q,o2,b1,b2,b3⟩:=Fo d' h2
     have e1:g2 d=g d:=q1 d fun q' o' _ c1 c2 _=>by rw[uniq q' p o' o1 d c1 a1 c2 a3];exact hR p o1 a1 (Yq p a2)
     have e2:g2 d'=g d':=q1 d' fun q' o' _ c1 c2 _=>by rw[uniq q' q o' o2 d' c1 b1 c2 b3];exact hR q o2 b1 (Yq q b2)
     rw[e1,e2]
     exact hJ.dis p q o1 o2 d d' (hR p o1 a1 (Yq p a2)) (hR q o2 b1 (Yq q b2)) (fun e=>h3 (by subst e;rw[a1] at b1;cases b1;rw[a3] at b3;exact anm b3)) a1 b1 a2 b2 a3 b3) (fun t ht=>(hL.is g2 N w' t (hV t) (yy t)).1 ht) (fun j t Φ hj=>(hL.is g2 N w' t (hV t) (yy t)).2 j Φ hj)
    have hJ2:J2 P n l Ks ag (fun f w=>Q .normal (b9 n f) w) L g w' g2 (fun _=>false):=by
     refine⟨hR,fun t _ ht=>q1 t fun q o' _ h1 h2 h3=>ht q o' h1 h2 (.inl h3),fun q o' d h1 h2 h3=>q2 q o' d (dC.1 h1).1 h1 h2 (h3.resolve_right aw),hI w' hJ.ext,?_,fun q hq=>(by cases hq),fun q hq=>(by cases hq),fun q hq=>(by cases hq)⟩
     rw[nN (L':=L) l 0 fun k _ _=>aoN _]
     have:qq Ks L 0 l=FC Ks l:=by
      rw[←E7 l 0 Ks rfl]
      refine nN l 0 fun k _ hk=>?_
      by_cases z7:k<l.length
      ·exact hJ.no k z7 hk
      ·cases hLk:L k with
       |false=>rfl
       |true=>exact absurd (hLl k hLk) z7
     rw[this];exact xn
    have GF:NF l Ks L (fun _=>false) l.length:=fun q hq hx _ hr=>by
     have qa:eH Ks q=true∧jK l q=true:=by unfold tf at hx;rwa [eI] at hx
     have tH:l[q]? =some l[q]:=eB hq
     obtain⟨-,e,he,mY,qC⟩:=(hZ q _ tH).xd qa.1 (by have:=qa.2;unfold jK at this;rwa [tH] at this)
     have h1:=hr e he mY qC
     rw[hJ.no e aq mY] at h1;cases h1
    exact(RA lO hZ ep hJ2 GF ho xC Jk tP hb sx).mono fun Eu mB h=>⟨Me,.inr h⟩
   ·cases Jk:jK l i with
    |false=>exact(RA lO hZ ep hJ GF ho xC Jk tP hb sx).mono fun Eu mB h=>⟨Me,.inr h⟩
    |true=>
     obtain⟨⟨d,hd⟩, -⟩:=z.xd xC (by rw[SR,Jk])
     exact(late g2 V hJ GF d hd (.inr (GF i jF (by unfold tf;rw[xC,Jk];rfl) tP hb))<|fun Ys=>by unfold tf;rw[Jk,aqo];exact Ys).mono fun Eu mB h=>⟨Me,.inr h⟩
  |false=>
   obtain⟨d,hd⟩:=z.dst xC
   rcases hJ with ⟨N,hJ⟩|⟨g2,V,hJ,GF⟩
   ·
    have yy:∀t∈o.looksAt l.toArray,Kn l Ks f E i g N w' t:=by
     intro t ht
     refine⟨hJ.off t,fun q o' hq h1 h2 h3=>?_⟩
     rcases (z.look t ht).2 with h4|⟨j,ta,hj,L3,qe,tL, -⟩
     ·exact absurd h2<|h4 q o' h1
     ·have hqj:=uniq q j o' ta t h1 qe h2 tL
      subst hqj
      exact hJ.Ai q o' t (sx q L3) h1 h2 h3
    have fin:∀(v:Value) (w2:World) (N':Nat→Prop),Ext w' w2→EF w N' w2→(∀b,N b→N' b)→(∀b,N' b→N b∨w'.heap.size≤b)→nh E i N' v w2→
      (nD Ks i=true→∀(q:Nat) (o':Oper) (d':Nat),L q=true→l[q]? =some o'→nD Ks q=true→o'.dst=some d'→g d'≠v)→J1 l Ks w f E (fun k=>L k||decide (k=i)) (cX g o.dst v) w2 N':=by
     intro v w2 N' hx hni S1 hn2 hv L9
     have Md:∀q,(L q||decide (q=i))=true→q≠i→L q=true:=fun q h4 ti=>by
      rcases aoc.1 h4 with h4|h4
      ·exact h4
      ·exact absurd (by simpa using h4) ti
     rw[hd]
     have LX:∀(q:Nat) (o':Oper) (t:Nat),l[q]? =some o'→o'.dst=some t→q≠i→cb g d v t=g t:=fun q o' t h1 h2 ti=>jx g v (fun e=>ti (uniq q i o' o d h1 ho (by rw[h2,e]) hd))
     refine⟨hni,fun p q o1 o2 d1 d2 hp hq Gy a1 b1 a2 b2 a3 b3=>?_,fun e he mY=>?_,hJ.ext.trans hx,fun t ht=>?_,fun q o' t hq h1 h2 h3=>?_⟩
     ·show cb g d v d1≠cb g d v d2
      by_cases SY:p=i
      ·subst SY
       have ti:q≠p:=fun e=>Gy e.symm
       rw[ho] at a1;cases a1
       rw[hd] at a3;cases a3
       rw[iR,LX q o2 d2 b1 b3 ti]
       exact fun e=>L9 a2 q o2 d2 (Md q hq ti) b1 b2 b3 e.symm
      ·by_cases ti:q=i
       ·subst ti
        rw[ho] at b1;cases b1
        rw[hd] at b3;cases b3
        rw[iR,LX p o1 d1 a1 a3 SY]
        exact L9 b2 p o1 d1 (Md p hp SY) a1 a2 a3
       ·rw[LX p o1 d1 a1 a3 SY,LX q o2 d2 b1 b3 ti]
        exact hJ.dis p q o1 o2 d1 d2 (Md p hp SY) (Md q hq ti) Gy a1 b1 a2 b2 a3 b3
     ·rw[hJ.no e he mY,ans (fun e'=>by rw[e',xC] at mY;cases mY)];rfl
     ·show cb g d v t=f t
      rw[jx g v (fun e=>by have:=ht i o ho (by rw[hd,e]);rw[xC] at this;cases this)]
      exact hJ.off t ht
     ·by_cases ti:q=i
      ·subst ti
       rw[ho] at h1;cases h1
       rw[hd] at h2;cases h2
       show nh E q N' (cb g d v d) w2
       rw[iR];exact hv
      ·show nh E q N' (cb g d v t) w2
       rw[LX q o' t h1 h2 ti]
       exact(hF q o' h1).mono.ext _ _ _ _ hx ((hF q o' h1).mono.grow _ _ _ _ S1 hn2 (hJ.Ai q o' t (Md q hq ti) h1 h2 h3))
    have acI:∀w2,Ext w' w2→EF w N w2:=fun w2 hx b hb=>⟨(hJ.ni b hb).1,anR (hJ.ni b hb).2 hx.size⟩
    rcases (hF i o ho).go xC with ⟨hFR,hN, -⟩|⟨⟨X,hX,hFF⟩,hN⟩|⟨⟨zz,T,hX,hFN⟩,hN⟩
    ·refine(hFR g N w' hJ.ext hJ.ni yy).mono ?_
     rintro Eu mB ⟨v,rfl,hx,hv⟩
     exact⟨Me,.inl ⟨N,fin v mB N hx (acI mB hx) (fun _ h=>h) (fun _ h=>.inl h) hv fun h=>by rw[hN] at h;cases h⟩⟩
    ·refine(hFF g N w' w' (hI w' hJ.ext) yy).mono ?_
     rintro Eu mB ⟨rfl,rfl⟩
     exact⟨Me,.inl ⟨N,fin X mB N (Ext.refl _) hJ.ni (fun _ h=>h) (fun _ h=>.inl h) (by rw[hX];rfl) fun h=>by rw[hN] at h;cases h⟩⟩
    ·refine(hFN g N w' hJ.ext yy).mono ?_
     rintro Eu mB ⟨v,rfl,hx,b0,pD,vV,Yh⟩
     have aif:b0<mB.heap.size:=(anQ.1 Yh).1
     refine⟨Me,.inl ⟨fun b=>N b∨b=b0,fin v mB _ hx (fun b hb=>?_) (fun _ h=>.inl h) (fun b hb=>?_) (by rw[hX];exact⟨b0,pD,Nat.le_trans hJ.ext.size vV,Yh,.inr rfl⟩) fun _ q o' d' Md h1 h2 h3 e=>?_⟩⟩
     ·rcases hb with hb|rfl
      ·exact acI mB hx b hb
      ·exact⟨Nat.le_trans hJ.ext.size vV,aif⟩
     ·rcases hb with hb|rfl
      ·exact .inl hb
      ·exact .inr vV
     ·have hqE:eH Ks q=false:=by unfold nD at h2;unfold eH;cases hq:uW Ks q<;>rw[hq] at h2<;>first|rfl|exact Bool.noConfusion h2
      rcases (hF q o' h1).go hqE with ⟨-,h9, -⟩|⟨-,h9⟩|⟨⟨z2,T2,hX2, -⟩, -⟩
      ·rw[h2] at h9;cases h9
      ·rw[h2] at h9;cases h9
      ·have:=hJ.Ai q o' d' Md h1 h3 hqE
       rw[hX2] at this
       obtain⟨b1,c1, -,c3, -⟩:=this
       rw[c1,pD] at e
       have:b1=b0:=by
        have:=ani (fun v=>match v with|Value.pointer (some a)=>a.block|_=>0) e
        simpa using this
       have h7:=(anQ.1 c3).1
       omega
   ·exact(late g2 V hJ GF d hd (.inl xC)<|fun Ys=>by rw[xC] at Ys;cases Ys).mono fun Eu mB h=>⟨Me,.inr h⟩
 ·rintro g w' ⟨-,hJ⟩
  have hz:qq Ks (fun k=>decide (k<l.length)) 0 l=[]:=E6 l 0 fun k _ hk=>by rw[anq aq]
  rcases hJ with ⟨N,hJ⟩|⟨g2,V,hJ, -⟩
  ·have yy:∀t,Kn l Ks f E l.length g N w' t:=fun t=>⟨hJ.off t,fun q o' hq h1 h2 h3=>hJ.Ai q o' t (anq hq) h1 h2 h3⟩
   have hV:∀t,YY l Ks l.length t:=fun t q o' h1 _ _=>(dC.1 h1).1
   have xn:=hK w' g N hJ.ext hJ.ni (fun d d' h1 h2 h3=>by
    obtain⟨p,o1,a1,a2,a3⟩:=Fo d h1
    obtain⟨q,o2,b1,b2,b3⟩:=Fo d' h2
    exact hJ.dis p q o1 o2 d d' (anq (dC.1 a1).1) (anq (dC.1 b1).1) (fun e=>h3 (by subst e;rw[a1] at b1;cases b1;rw[a3] at b3;exact anm b3)) a1 b1 a2 b2 a3 b3) (fun t ht=>(hL.is g N w' t (hV t) (yy t)).1 ht) (fun j t Φ hj=>(hL.is g N w' t (hV t) (yy t)).2 j Φ hj)
   have:FC Ks l=[]:=by
    rw[←E7 l 0 Ks rfl,←hz]
    refine nN l 0 fun k _ hk=>?_
    by_cases z7:k<l.length
    ·have:=hJ.no k z7 hk
     rw[anq z7] at this;cases this
    ·rw[ans z7]
   rw[this] at xn
   exact xn
  ·have xn:=hJ.we
   rw[E6 l 0 fun k _ hk=>by rw[anq aq];rfl] at xn
   have:b9 n g2=b9 n g:=by
    unfold b9
    congr 2
    funext t
    exact hJ.eq t t.2 fun q o h3 _ _=>anq (dC.1 h3).1
   have h9:Q .normal (b9 n g2) w':=xn
   rwa [this] at h9
end
end Go.Ew
namespace Go.Ew
open Go.RowKit
def Kq:ZK→Bool
 | .r=>true
 | .s=>true
 |_=>false
def DO (ops:Array Oper) (o:Oper) (aj:UN):Bool:=(o.looksAt ops).all (fun t=>!xm aj t)
def Ke (ops:Array Oper) (o:Oper) (aj:UN) (d:Nat):Bool:=(o.looksAt ops).all (fun t=>Nat.beq t d||!xm aj t)&&(o.looksAt ops).contains d
def QT (ops:Array Oper) (o:Oper) (aj:UN) (d d1:Nat):Bool:=(o.looksAt ops).all (fun t=>Nat.beq t d||(Nat.beq t d1||!xm aj t))&&((o.looksAt ops).contains d&&((o.looksAt ops).contains d1&&!Nat.beq d d1))
theorem mN {Φ:Value→World→Prop} (h:∀v w w',Ext w w'→Φ v w→Φ v w'):rQ (fun _=>Φ):=⟨fun _ v w w'=>h v w w',fun _ _ _ _ _ _ h=>h⟩
theorem mE {Φ:Value→Prop}:rQ (fun _ v _=>Φ v):=⟨fun _ _ _ _ _ h=>h,fun _ _ _ _ _ _ h=>h⟩
section
variable {P:Program} {n:Nat} {ops:Array Oper} {w0:World} {ag:World→Prop} {K:UN→aQ→Prop} {f:aQ} {rest:List Oper} {zk:ZK} {ks:List ZK} {aj:UN} {o:Oper} {v X:Value} {Φ Ψ Ψ':PR} {d d1 d2:Nat}
theorem OV (h:DO ops o aj=true) {g:aQ} {N:Nat→Prop} {w:World} (ha:Y6 (o.looksAt ops) aj f g N w):∀t∈o.looksAt ops,g t=f t:=by
 intro t ht
 have:=anr.1 h t ht
 exact(ha t ht).1 (by simpa using this)
theorem ye (h:PZ P n ops w0 ag K rest ks aj f):PZ P n ops w0 ag K (o::rest) (.e::ks) aj f:=h
theorem PZ.of (hz:Kq zk=true) (h:(∃X,GN P n ops w0 o aj f (eN X)∧PZ P n ops w0 ag K rest ks aj (cX f o.dst X))∨(∃d Φ,o.dst=some d∧rQ Φ∧GN P n ops w0 o aj f Φ∧PZ P n ops w0 ag K rest ks ((d,Φ)::aj) f)):PZ P n ops w0 ag K (o::rest) (zk::ks) aj f:=by
 cases zk with
 |r=>exact h
 |s=>exact h
 |f=>cases hz
 |e=>cases hz
 |n=>cases hz
theorem yz (h:K aj f):PZ P n ops w0 ag K [] ks aj f:=h
theorem yq (hz:Kq zk=true) (hf:(lg n o&&DO ops o aj)=true) (h:PW P n ops w0 (fun f'=>PZ P n ops w0 ag K rest ks aj f') [o] f):PZ P n ops w0 ag K (o::rest) (zk::ks) aj f:=by
 obtain⟨X,h1,h2⟩:=h
 rw[eI] at hf
 exact PZ.of hz<|.inl ⟨X,fun w g N hx _ ha=>SO.rL (ai:=fun v w'=>v=X) ((h1 w hx).mono fun f' w' hq=>⟨X,hq.1,hq.2,J⟩) (gp hf.1).1 (OV hf.2 ha) (gp hf.1).2,h2⟩
theorem yu (hz:Kq zk=true) (Φ:PR) (hd:o.dst=some d) (hm:rQ Φ) (hf:(lg n o&&DO ops o aj)=true) (h:∀w N,Ext w0 w→EF w0 N w→SO P n ops o f w (fun f' w'=>∃v,f'=cX f o.dst v∧Ext w w'∧Φ N v w')) (r:PZ P n ops w0 ag K rest ks ((d,Φ)::aj) f):PZ P n ops w0 ag K (o::rest) (zk::ks) aj f:=by
 rw[eI] at hf
 exact PZ.of hz<|.inr ⟨d,Φ,hd,hm,fun w g N hx hn ha=>SO.rL (ai:=fun v w'=>Φ N v w') (h w N hx hn) (gp hf.1).1 (OV hf.2 ha) (gp hf.1).2,r⟩
theorem Sq {j:Nat} (hU:aj[j]? =some (d,Ψ)) (h:Ke ops o aj d=true) {g:aQ} {N:Nat→Prop} {w:World} (ha:Y6 (o.looksAt ops) aj f g N w):Ψ N (g d) w∧∀t∈o.looksAt ops,g t=cb f d (g d) t:=by
 unfold Ke at h
 rw[eI] at h
 refine⟨(ha d<|anY.1 h.2).2 j Ψ hU,fun t ht=>?_⟩
 by_cases e:t=d
 ·subst e;exact(iR _ _ _).symm
 ·rw[jx _ _ e]
  have:=anr.1 h.1 t ht
  rcases aoc.1 this with h1|h1
  ·exact absurd (aou h1) e
  ·exact(ha t ht).1 (by simpa using h1)
theorem Rj (hz:Kq zk=true) (j:Nat) (hU:aj[j]? =some (d,Ψ)) (hf:(lg n o&&Ke ops o aj d)=true) (h:∀w N v,Ext w0 w→EF w0 N w→Ψ N v w→SO P n ops o (cb f d v) w (fun f' w'=>f'=cX (cb f d v) o.dst X∧Ext w w')) (r:PZ P n ops w0 ag K rest ks aj (cX f o.dst X)):PZ P n ops w0 ag K (o::rest) (zk::ks) aj f:=by
 rw[eI] at hf
 refine PZ.of hz<|.inl ⟨X,fun w g N hx hn ha=>?_,r⟩
 obtain⟨h1,h2⟩:=Sq hU hf.2 ha
 exact SO.rL (ai:=fun v w'=>v=X) ((h w N (g d) hx hn h1).mono fun f' w' hq=>⟨X,hq.1,hq.2,J⟩) (gp hf.1).1 h2 (gp hf.1).2
theorem lF (hz:Kq zk=true) (Φ:PR) (j:Nat) (hU:aj[j]? =some (d,Ψ)) (hd:o.dst=some d2) (hm:rQ Φ) (hf:(lg n o&&Ke ops o aj d)=true) (h:∀w N v,Ext w0 w→EF w0 N w→Ψ N v w→SO P n ops o (cb f d v) w (fun f' w'=>∃u,f'=cX (cb f d v) o.dst u∧Ext w w'∧Φ N u w')) (r:PZ P n ops w0 ag K rest ks ((d2,Φ)::aj) f):PZ P n ops w0 ag K (o::rest) (zk::ks) aj f:=by
 rw[eI] at hf
 refine PZ.of hz<|.inr ⟨d2,Φ,hd,hm,fun w g N hx hn ha=>?_,r⟩
 obtain⟨h1,h2⟩:=Sq hU hf.2 ha
 exact SO.rL (ai:=fun v w'=>Φ N v w') (h w N (g d) hx hn h1) (gp hf.1).1 h2 (gp hf.1).2
theorem aa4 {j i:Nat} (hU:aj[j]? =some (d,Ψ)) (hU':aj[i]? =some (d1,Ψ')) (h:QT ops o aj d d1=true) {g:aQ} {N:Nat→Prop} {w:World} (ha:Y6 (o.looksAt ops) aj f g N w):Ψ N (g d) w∧Ψ' N (g d1) w∧∀t∈o.looksAt ops,g t=cb (cb f d (g d)) d1 (g d1) t:=by
 unfold QT at h
 simp only[eI,aos] at h
 obtain⟨h0,h1,h2,h3⟩:=h
 refine⟨(ha d<|anY.1 h1).2 j Ψ hU,(ha d1<|anY.1 h2).2 i Ψ' hU',fun t ht=>?_⟩
 by_cases e1:t=d1
 ·subst e1;exact(iR _ _ _).symm
 ·rw[jx _ _ e1]
  by_cases e:t=d
  ·subst e;exact(iR _ _ _).symm
  ·rw[jx _ _ e]
   have:=anr.1 h0 t ht
   rcases aoc.1 this with h4|h4
   ·exact absurd (aou h4) e
   ·rcases aoc.1 h4 with h4|h4
    ·exact absurd (aou h4) e1
    ·exact(ha t ht).1 (by simpa using h4)
theorem yu2 (hz:Kq zk=true) (Φ:PR) (j i:Nat) (hU:aj[j]? =some (d,Ψ)) (hU':aj[i]? =some (d1,Ψ')) (hd:o.dst=some d2) (hm:rQ Φ) (hf:(lg n o&&QT ops o aj d d1)=true) (h:∀w N v v',Ext w0 w→EF w0 N w→Ψ N v w→Ψ' N v' w→SO P n ops o (cb (cb f d v) d1 v') w (fun f' w'=>∃u,f'=cX (cb (cb f d v) d1 v') o.dst u∧Ext w w'∧Φ N u w')) (r:PZ P n ops w0 ag K rest ks ((d2,Φ)::aj) f):PZ P n ops w0 ag K (o::rest) (zk::ks) aj f:=by
 rw[eI] at hf
 refine PZ.of hz<|.inr ⟨d2,Φ,hd,hm,fun w g N hx hn ha=>?_,r⟩
 obtain⟨h1,h2,h3⟩:=aa4 hU hU' hf.2 ha
 exact SO.rL (ai:=fun v w'=>Φ N v w') (h w N (g d) (g d1) hx hn h1 h2) (gp hf.1).1 h3 (gp hf.1).2
theorem yf (hf:(lg n o&&DO ops o aj)=true) (h:∀w,ag w→SO P n ops o f w (fun f' w'=>f'=cX f o.dst X∧w'=w)) (r:PZ P n ops w0 ag K rest ks aj (cX f o.dst X)):PZ P n ops w0 ag K (o::rest) (.f::ks) aj f:=by
 rw[eI] at hf
 refine⟨X,fun w g hI ha=>?_,hf.2,r⟩
 refine(SO.rL (ai:=fun v w'=>v=X∧w'=w) ((h w hI).mono fun f' w' hq=>⟨X,hq.1,by rw[hq.2];exact Ext.refl w,J,hq.2⟩) (gp hf.1).1 (fun t ht=>(ha t ht).2) (gp hf.1).2).mono ?_
 rintro f' w' ⟨v,rfl, -,rfl,rfl⟩
 exact⟨J,J⟩
theorem e3 {f:aQ} {w:World}:f=f∧w=w:=⟨rfl,rfl⟩
theorem yn {z:Array Value} {T:TypeId} (hd:o.dst=some d) (hf:(lg n o&&DO ops o aj)=true) (h:∀w,SO P n ops o f w (fun f' w'=>∃v,f'=cX f o.dst v∧Ext w w'∧M7 z T w v w')) (r:PZ P n ops w0 ag K rest ks ((d,JB w0 z T)::aj) f):PZ P n ops w0 ag K (o::rest) (.n::ks) aj f:=by
 rw[eI] at hf
 exact⟨d,z,T,hd,hf.2,fun w g hx ha=>SO.rL (ai:=fun v w'=>M7 z T w v w') (h w) (gp hf.1).1 ha (gp hf.1).2,r⟩
end
section
variable {P:Program} {n:Nat} {ops:Array Oper} {w w0:World} {ag:World→Prop} {f:aQ} {o:Oper} {rest:List Oper} {d:Nat} {T ty:TypeId} {ps:String} {af:Array Edge} {x:Operand} {v z:Value} {size bytes:Nat} {agg:Bool}
theorem Pr (F:ei P T size agg bytes z):SO P n ops ⟨some d,.alloc T,ty,ps,af,none⟩ f w (fun f' w'=>∃v,f'=cX f (some d) v∧Ext w w'∧M7 z.cells T w v w'):=
 SO.value (v:=.pointer (some ⟨w.heap.size,0,none⟩)) (w':=w.alloc (.cells z.cells T)) (by simp[execOp,Instr.alloc,F.tU,A0]) ⟨_,rfl,Ext.alloc w _,_,rfl,anl _,heap_alloc_new w _⟩
theorem ke {K:aQ→World→Prop} (h:SO P n ops o f w (fun f' w'=>ag w'∧WE P n ops ag K rest f' w')):WE P n ops ag K (o::rest) f w:=h
theorem j5 {K:aQ→World→Prop} (h:SO P n ops o f w (fun f' w'=>WE P n ops (fun _=>True) K rest f' w')):WE P n ops (fun _=>True) K (o::rest) f w:=h.mono fun _ _ h=>⟨trivial,h⟩
theorem kz {K:aQ→World→Prop} (h:K f w):WE P n ops ag K [] f w:=h
end
section
variable {M0:Nat→Prop} {zA w w':World} {l:List Item}
theorem HI.lays (H:HI M0 zA w l) (x:Ext w w') (bs:List (Nat×Array Value×TypeId)) (hb:∀q∈bs,w.heap.size≤q.1∧w'.heap[q.1]? =some (.cells q.2.1 q.2.2 (0,0))) (hn:(bs.map (·.1)).Nodup):
  HI M0 zA w' (bs.map (fun q=>box q.1 q.2.1 q.2.2)++l):=by
 have pA:∀q∈bs,q.1<w'.heap.size:=fun q hq=>(anQ.1 (hb q hq).2).1
 have Yb:(bs.map (fun q=>box q.1 q.2.1 q.2.2)).filterMap (·.jC)=bs.map (·.1):=by
  clear hb hn pA
  induction bs with
  |nil=>rfl
  |cons q bs ih=>simp only[anM,an9,ih];rfl
 refine⟨H.below.trans x,H.m0,?_,?_,?_⟩
 ·intro it hit b BO
  rcases anK.1 hit with h|h
  ·obtain⟨q,hq,rfl⟩:=an6.1 h
   cases BO
   exact⟨Nat.le_trans H.below.size (hb q hq).1,pA q hq⟩
  ·exact⟨(H.jq it h b BO).1,anR (H.jq it h b BO).2 x.size⟩
 ·rw[apx,Yb,ao4]
  refine⟨hn,H.nodup,?_⟩
  intro b pD c hc e
  subst e
  obtain⟨q,hq,rfl⟩:=an6.1 pD
  obtain⟨it,hit,BK⟩:=anN.1 hc
  have:=(H.jq it hit _ BK).2
  have:=(hb q hq).1
  omega
 ·intro it hit
  rcases anK.1 hit with h|h
  ·obtain⟨q,hq,rfl⟩:=an6.1 h
   exact(hb q hq).2
  ·refine it.lift (H.all it h) ⟨x.size,fun c hc hM=>⟨x.block c hc,?_⟩⟩ fun c hc=>x.block c (H.jq it h c hc).2
   rintro(Mb|⟨j,hj,xr⟩)
   ·exact hM<|.inl Mb
   ·rcases anK.1 hj with hj|hj
    ·obtain⟨q,hq,rfl⟩:=an6.1 hj
     cases xr
     have:=(hb q hq).1
     omega
    ·exact hM<|.inr ⟨j,hj,xr⟩
end
def MN (M N:Nat→Prop) (c:Nat):Prop:=M c∨N c
section
variable {α:Type} [GT α] {M N N':Nat→Prop} {w0 w w':World} {v:Value} {x:α}
theorem kc (h:RV M w0 v x) (e:Ext w0 w) (hN:∀c,N c→w0.heap.size≤c∧c<w.heap.size):RV (MN M N) w v x:=
 h.lift ⟨e.size,fun c hc hn=>⟨e.block c hc,by
  rintro(h1|h1)
  ·exact hn h1
  ·have:=(hN c h1).1;omega⟩⟩
theorem kC (hM:∀b,M b→b<w0.heap.size) (e:Ext w0 w) (hN:∀c,N c→w0.heap.size≤c∧c<w.heap.size):∀b,MN M N b→b<w.heap.size:=by
 rintro b (h|h)
 ·exact anR (hM b h) e.size
 ·exact(hN b h).2
theorem gV (h:RV (MN M N) w v x) (k:∀b,N' b→N b∨w.heap.size≤b):RV (MN M N') w v x:=
 h.lift ⟨anl _,fun c hc hn=>⟨rfl,by
  rintro(h1|h1)
  ·exact hn<|.inl h1
  ·rcases k c h1 with h2|h2
   ·exact hn<|.inr h2
   ·omega⟩⟩
end
def UF (w0 w:World) (N:Nat→Prop) (bs:List (Nat×Array Value×TypeId)):Prop:=∀q∈bs,w0.heap.size≤q.1∧w.heap[q.1]? =some (.cells q.2.1 q.2.2 (0,0))∧N q.1
theorem Ph {w0 w:World} {N:Nat→Prop}:UF w0 w N []:=fun _ h=>by cases h
theorem Pg {w0 w:World} {N:Nat→Prop} {bs:List (Nat×Array Value×TypeId)} {b:Nat} {z:Array Value} {T:TypeId} (h1:w0.heap.size≤b) (h2:w.heap[b]? =some (.cells z T (0,0))) (h3:N b) (h:UF w0 w N bs):UF w0 w N ((b,z,T)::bs):=by
 intro q hq
 rcases anC.1 hq with rfl|hq
 ·exact⟨h1,h2,h3⟩
 ·exact h q hq
theorem Ov {b:Nat}:b∉([]:List Nat):=by simp
theorem Ox:([]:List Nat).Nodup:=aqe
theorem Ow {b:Nat} {l:List Nat} (h:b∉l) (h1:l.Nodup):(b::l).Nodup:=aoo.2 ⟨h,h1⟩
theorem HI.DK {M0:Nat→Prop} {zA w w':World} {l:List Item} {N:Nat→Prop} {bs:List (Nat×Array Value×TypeId)} (H:HI M0 zA w l) (x:Ext w w') (hb:UF w w' N bs) (hn:(bs.map (·.1)).Nodup):HI M0 zA w' (bs.map (fun q=>box q.1 q.2.1 q.2.2)++l):=
 H.lays x bs (fun q hq=>⟨(hb q hq).1,(hb q hq).2.1⟩) hn
theorem Zs {α:Type} [GT α] {M0 N:Nat→Prop} {l:List Item} {w:World} {v:Value} {x:α} (bs:List (Nat×Array Value×TypeId)) (h:RV (MN (MS M0 l) N) w v x) (hb:∀q∈bs,N q.1):RV (MS M0 (bs.map (fun q=>box q.1 q.2.1 q.2.2)++l)) w v x:=
 h.lift (Up.less fun c hc hn=>by
  rcases hn with h1|⟨it,hit,BK⟩
  ·exact .inl (.inl h1)
  ·rcases anK.1 hit with h2|h2
   ·obtain⟨q,hq,rfl⟩:=an6.1 h2
    cases BK
    exact .inr (hb q hq)
   ·exact .inl (.inr ⟨it,h2,BK⟩))
theorem rW {α:Type} [GT α] {M0 N:Nat→Prop} {l:List Item} {w0 w:World} {v:Value} {x:α} {bs:List (Nat×Array Value×TypeId)} (h:RV (MN (MS M0 l) N) w v x) (hb:UF w0 w N bs):RV (MS M0 (bs.map (fun q=>box q.1 q.2.1 q.2.2)++l)) w v x:=
 Zs bs h fun q hq=>(hb q hq).2.2
theorem Zt {α:Type} [GT α] {M0:Nat→Prop} {l:List Item} {it:Item} {w:World} {v:Value} {x:α} (h:it.jC=none) (r:RV (MS M0 l) w v x):RV (MS M0 (it::l)) w v x:=by rw[aG h];exact r
end Go.Ew
namespace Go.Ew
open Go.RowKit Go.IntWalk
theorem ieq {v:Value} {kk:IntKind} {a b:Int} (h:v=.int kk a) (e:a=b):v=.int kk b:=e▸h
theorem NW {v:Value} {a b:BitVec 64} (h:v=aj a) (e:a=b):v=aj b:=e▸h
theorem fX {b:Bool} (h:(!b)=true):b=false:=by cases b<;>simp_all
theorem eY {b:Bool} (h:(!b)=false):b=true:=by cases b<;>simp_all
theorem hG.ext {α:Type} [GT α] {M:Nat→Prop} {w w':World} {ad:Addr} {x:α} (h:hG M w ad x) (e:Ext w w'):hG M w' ad x:=by
 obtain⟨cs,h1,h2⟩:=h
 refine⟨cs,GT.lift h1 (Up.ext e),fun j v hv=>?_⟩
 have hc:=h2 j v hv
 exact(World.cell?_of_block<|e.block _<|pJ hc).trans hc
theorem Cc {α:Type} [GT α] (M:Nat→Prop) (w:World):RS M w (.slice none 0 0) ([]:List α):=⟨none,0,0,rfl,rfl,anl _,by simp[maxLen],.inl rfl⟩
theorem ee {α:Type} [GT α] (M:Nat→Prop) (w:World):RV M w (.slice none 0 0) ([]:List α):=RV.list.2 (Cc M w)
theorem bN {M0:Nat→Prop}:MS M0 []=M0:=by funext b;simp[MS]
class Flat (α:Type) [GT α]:Prop where
 flat:∀{M w M' w' cs} {x:α},GT.rep M w cs x→GT.rep M' w' cs x
instance :Flat Int:=⟨fun h=>h⟩
instance :Flat (BitVec 64):=⟨fun h=>h⟩
instance :Flat (BitVec 8):=⟨fun h=>h⟩
instance :Flat Bool:=⟨fun h=>h⟩
instance :Flat ByteArray:=⟨fun h=>h⟩
instance {α β:Type} [GT α] [GT β] [Flat α] [Flat β]:Flat (α×β):=⟨fun h=>by
 obtain⟨c1,c2,h0,h1,h2⟩:=h
 exact⟨c1,c2,h0,Flat.flat h1,Flat.flat h2⟩⟩
theorem bu.flat {α:Type} [GT α] [Flat α] {M M':Nat→Prop} {w w':World}:∀{xs:List α} {cs:List Value},bu M w cs xs→bu M' w' cs xs
 |[],_,h=>h
 |x::xs,cs,⟨c1,c2,h1,h2,h3⟩=>⟨c1,c2,h1,Flat.flat h2,bu.flat h3⟩
section
variable {M0:Nat→Prop} {w0 w w':World} {l l':List Item} {α:Type} [GT α] {v:Value} {xs:List α} {x:α} {e:TypeId} {ad:Addr}
theorem HI.rv (H:HI M0 w0 w l) (i:Nat) (hi:l[i]? =some (tg v x)):RV (MS M0 l) w v x:=H.at_ i hi
theorem HI.atv (H:HI M0 w0 w l) (i:Nat) (hi:l[i]? =some (qP ad x)):At (MS M0 l) w ad x:=H.at_ i hi
theorem HI.fj (H:HI M0 w0 w l) (i:Nat) (hi:l[i]? =some (tg v x)):RV M0 w v x:=(H.rv i hi).lift H.out
theorem HI.mw (H:HI M0 w0 w l) (i:Nat) (hi:l[i]? =some (own w0.heap.size e v xs)):RV M0 w v xs:=H.ZG i hi (fun _ _ _ _=>trivial)
theorem yi {β γ:Type} (g:β→Option γ):∀(is:List β),is.Nodup→(∀i∈is,∀j∈is,∀b,g i=some b→g j=some b→i=j)→(is.filterMap g).Nodup
 |[],_,_=>aqe
 |i::is,hn,hg=>by
  have LY:=aoo.1 hn
  have ih:=yi g is LY.2<|fun a ha b hb=>hg a (anP _ ha) b<|anP _ hb
  rw[an9]
  cases hgi:g i with
  |none=>exact ih
  |some b=>
   refine aoo.2 ⟨fun hm=>?_,ih⟩
   obtain⟨j,hj,hgj⟩:=anN.1 hm
   have:=hg i (an8) j (anP _ hj) b hgi hgj
   exact LY.1<|this▸hj
theorem HI.bU (H:HI M0 w0 w l) (is:List Nat) (hn:is.Nodup) (he:is.filterMap (fun i=>l[i]?)=l'):HI M0 w0 w l':=by
 subst he
 refine H.pick _ (fun it hit=>?_) ?_
 ·obtain⟨i,_,hi⟩:=anN.1 hit
  exact dB hi
 ·rw[List.filterMap_filterMap]
  refine yi _ is hn fun i _ j _ b hi hj=>?_
  obtain⟨a,ha,Jj⟩:=apX.1 hi
  obtain⟨c,hc,hcb⟩:=apX.1 hj
  exact hQ (·.jC) l H.nodup i j a c ha hc (by rw[Jj];rfl)<|by rw[Jj,hcb]
end
theorem mj.rest {P:Program} {n:Nat} {l:List Oper} {k:Nat} {Φ:List (Value→World→Prop)} {f0:aQ} {w0:World} {i:Nat} (h:Nat.ble k i=true):∀r,mj P n l k Φ f0 w0 i r:=by
 intro r
 induction r generalizing i with
 |nil=>trivial
 |cons o r ih=>
  refine⟨fun hb=>?_,ih ?_⟩
  ·simp at h hb;omega
  ·simp at h ⊢;omega
theorem aeC.rv {α:Type} [GT α] {e:TypeId} {w w':World} {xs:List α} {v:Value} {M:Nat→Prop} (h:aeC e w xs v w') (hM:∀b,M b→b<w.heap.size):RV M w' v xs:=by
 obtain⟨_,hb,ho⟩:=h
 refine zL ho (fun b _ u3=>.inl (hM b u3))<|fun b vT hMb=>?_
 obtain⟨cs,h1,_⟩:=ho
 have:=(h1.lt b vT).1
 have:=hM b hMb
 omega
section
variable {P:Program} {n:Nat} {fn:Func} {ai:Value→World→Prop} {f:aQ} {w w0:World} {M0:Nat→Prop} {l:List Item} {agg:Bool} {bytes:Nat} {z:Value} {k:Nat}
theorem pM {t:Nat} (h:Nat.blt t n=true):(b9 n f).tmps.getD t undef=f t:=AH h
theorem tV {T:TypeId} {b:Nat} {cs:Array Value} {ty:TypeId} (H:HI M0 w0 w l) (i:Nat) (hi:l[i]? =some (box b cs ty)) (F:ei P T k agg bytes z) (hk:agg=false→k=1) (hl:((cs.toList.drop 0).take k).length=k):
  (loadVar T ⟨b,0,none⟩).run P w=.ok (sj agg ((cs.toList.drop 0).take k)) w:=by
 have hb:w.heap[b]? =some (.cells cs ty (0,0)):=H.at_ i hi
 refine ru F hk hl fun j u hu=>?_
 rw[show (⟨b,0,none⟩:Addr).add j=⟨b,j,none⟩ from by unfold Addr.add;split<;>simp_all,cell_of_row w b j cs ty (0,0) hb]
 have hj:j<k:=by
  have:=(dC.1 hu).1
  omega
 rw[anO,ann hj,an2] at hu
 simpa using hu
theorem oY {T:TypeId} {b:Nat} {cs:Array Value} {ty:TypeId} {p:Nat} (H:HI M0 w0 w l) (i:Nat) (hi:l[i]? =some (box b cs ty)) (F:ei P T k agg bytes z) (hr:fn.results=#[.cell p T]) (hp:Nat.blt p n=true) (hx:f p=.pointer (some ⟨b,0,none⟩)) (hl:((cs.toList.drop 0).take k).length=k) (hk:agg=false→k=1)
  (h:ai (sj agg ((cs.toList.drop 0).take k)) w):rY P n fn ai .ret (b9 n f) w:=by
 refine⟨f,J,_,?_,h⟩
 have h:=tV (P:=P) H i hi F hk hl
 have h0:(b9 n f).tmps.getD p undef=.pointer (some ⟨b,0,none⟩):=by rw[pM hp,hx]
 simp only[results,hr,ap0]
 simp only[aqf,aqn]
 simp[h,h0,asAddr]
theorem im {T:TypeId} {b:Nat} {cs:Array Value} {ty:TypeId} {p t:Nat} (H:HI M0 w0 w l) (i:Nat) (hi:l[i]? =some (box b cs ty)) (F:ei P T k agg bytes z) (hr:fn.results=#[.cell p T,.tmp t]) (hp:Nat.blt p n=true) (ht:Nat.blt t n=true) (hx:f p=.pointer (some ⟨b,0,none⟩)) (hl:((cs.toList.drop 0).take k).length=k) (hk:agg=false→k=1)
  (h:ai (.tuple #[sj agg ((cs.toList.drop 0).take k),f t]) w):rY P n fn ai .ret (b9 n f) w:=by
 refine⟨f,J,_,?_,h⟩
 have h:=tV (P:=P) H i hi F hk hl
 have h0:(b9 n f).tmps.getD p undef=.pointer (some ⟨b,0,none⟩):=by rw[pM hp,hx]
 have h2:=pM (f:=f) ht
 simp only[results,hr,ap0]
 simp only[aqf,aqn]
 simp[h,h0,asAddr,h2]
theorem rc4 {T:TypeId} {b:Nat} {cs:Array Value} {ty:TypeId} {p t t2 t3:Nat} (H:HI M0 w0 w l) (i:Nat) (hi:l[i]? =some (box b cs ty)) (F:ei P T k agg bytes z) (hr:fn.results=#[.cell p T,.tmp t,.tmp t2,.tmp t3]) (hp:Nat.blt p n=true) (ht:Nat.blt t n=true) (SP:Nat.blt t2 n=true) (ht3:Nat.blt t3 n=true) (hx:f p=.pointer (some ⟨b,0,none⟩)) (hl:((cs.toList.drop 0).take k).length=k) (hk:agg=false→k=1)
  (h:ai (.tuple #[sj agg ((cs.toList.drop 0).take k),f t,f t2,f t3]) w):rY P n fn ai .ret (b9 n f) w:=by
 refine⟨f,J,_,?_,h⟩
 have h:=tV (P:=P) H i hi F hk hl
 have h0:(b9 n f).tmps.getD p undef=.pointer (some ⟨b,0,none⟩):=by rw[pM hp,hx]
 have h2:=pM (f:=f) ht
 have h3:=pM (f:=f) SP
 have h4:=pM (f:=f) ht3
 simp only[results,hr,ap0]
 simp only[aqf,aqn]
 simp[h,h0,asAddr,h2,h3,h4]
theorem r3 {t t2 t3:Nat} (hr:fn.results=#[.tmp t,.tmp t2,.tmp t3]) (ht:Nat.blt t n=true) (SP:Nat.blt t2 n=true) (ht3:Nat.blt t3 n=true)
  (h:ai (.tuple #[f t,f t2,f t3]) w):rY P n fn ai .ret (b9 n f) w:=by
 refine⟨f,J,_,?_,h⟩
 have h2:=pM (f:=f) ht
 have h3:=pM (f:=f) SP
 have h4:=pM (f:=f) ht3
 simp only[results,hr,ap0]
 simp only[aqf,aqn]
 simp[h2,h3,h4]
end
theorem HC {α:Type} [GT α] {M:Nat→Prop} {w:World} {a:Option Addr} {n c:Nat} {xs:List α} (h:RV M w (.slice a n c) xs) (ha:a.isNone=true):xs=[]:=by
 cases a with
 |some _=>cases ha
 |none=>
  obtain⟨a,m,c',e,h2, -, -,h5⟩:=RV.list.1 h
  injection e with e1 e2 e3
  subst e1
  rcases h5 with h5|⟨ad,h5, -⟩
  ·exact aok.1<|h2.trans h5
  ·cases h5
end Go.Ew
