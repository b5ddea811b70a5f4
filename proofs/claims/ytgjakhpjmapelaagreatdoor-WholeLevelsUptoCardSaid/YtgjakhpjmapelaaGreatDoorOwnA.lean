/- Engine, part A: a frame's temporaries as a function; single operations in continuation form; regions, loops, cuts. Independent of any program. -/
import Derived.WalkKit
import Derived.Deep.LoopGhost
import Derived.Maps.AppendAt
set_option linter.unusedVariables false
set_option linter.unusedSimpArgs false
namespace Go.Ew
theorem J.{u}{α:Sort u}{a:α}:a=a:=rfl
abbrev amh:=@congrArg
abbrev ami:=@List.length_set
abbrev amj:=@decide_eq_true_eq
abbrev amk:=@Nat.le_refl
abbrev aml:=@if_pos
abbrev amm:=@List.mem_range
abbrev amn:=@if_neg
abbrev amo:=@Option.some.inj
abbrev amp:=@decide_eq_true
abbrev amq:=@List.all_eq_true
abbrev amr:=@List.take_of_length_le
abbrev ams:=@decide_eq_false
abbrev amt:=@Bool.or_eq_true
abbrev amu:=@Option.some.injEq
abbrev amv:=@List.getElem?_eq_none
abbrev amw:=@List.getElem?_cons_zero
abbrev amx:=@List.getElem?_map
abbrev amy:=@decide_eq_false_iff_not
abbrev amz:=@List.mem_cons
abbrev amA:=@List.mem_filter
abbrev amB:=@List.mem_iff_getElem?
abbrev amC:=@List.getElem?_set_self
abbrev amD:=@List.getElem?_cons_succ
abbrev amE:=@Bool.eq_iff_iff
abbrev amF:=@List.length_drop
abbrev amG:=@Option.isSome_iff_exists
abbrev amH:=@List.mem_append
abbrev amI:=@Option.map_eq_some_iff
abbrev amJ:=@List.map_cons
abbrev amK:=@List.mem_filterMap
abbrev amL:=@List.getElem?_take
abbrev amM:=@List.mem_cons_of_mem
abbrev amN:=@Array.getElem?_eq_some_iff
abbrev amO:=@Nat.lt_of_lt_of_le
abbrev amP:=@List.findIdx?_eq_some_iff_getElem
abbrev amQ:=@List.ext_getElem?
abbrev amR:=@List.any_eq_true
abbrev amS:=@List.length_map
abbrev amT:=@Int.toNat_of_nonneg
abbrev amU:=@List.getElem?_set_ne
abbrev amV:=@List.contains_iff_mem
abbrev amW:=@List.take_add_one
abbrev amX:=@Nat.add_zero
abbrev amY:=@List.getElem?_drop
abbrev amZ:=@Classical.byContradiction
abbrev am0:=@Prod.mk.injEq
abbrev am1:=@Array.length_toList
abbrev am2:=@Nat.zero_add
abbrev am3:=@of_decide_eq_true
abbrev am4:=@List.mem_cons_self
abbrev am5:=@List.mem_map
abbrev am6:=@List.filterMap_cons
abbrev am7:=@List.mem_or_eq_of_mem_set
abbrev am8:=@Nat.add_mul
abbrev am9:=@if_false
abbrev am_:=@List.replicate_succ
abbrev am':=@Bool.or_eq_true_iff
abbrev ana:=@List.append_assoc
abbrev anb:=@List.drop_eq_getElem_cons
abbrev anc:=@List.drop_drop
abbrev ane:=@Bool.true_and
abbrev anf:=@List.take_length
abbrev ang:=@List.getElem?_range
abbrev anh:=@List.length_filter_le
abbrev ani:=@List.length_eq_zero_iff
abbrev anj:=@Nat.sub_self
abbrev ank:=@Nat.mul_le_mul_right
abbrev anl:=@Nat.min_eq_left
abbrev anm:=@List.nodup_cons
abbrev ann:=@List.cons.injEq
abbrev ano:=@List.filter_eq_nil_iff
abbrev anp:=@List.map_congr_left
abbrev anq:=@Bool.not_eq_true'
abbrev anr:=@Nat.le_of_ble_eq_true
abbrev ans:=@Nat.eq_of_beq_eq_true
abbrev ant:=@List.take_append_drop
abbrev anu:=@List.mem_append_right
abbrev anv:=@Array.getElem?_toList
abbrev anw:=@List.mem_singleton
abbrev anx:=@decide_eq_decide
abbrev anz:=@List.mem_of_mem_take
abbrev anA:=@List.mem_append_left
abbrev anB:=@Nat.zero_le
abbrev anC:=@List.getElem?_set
abbrev anD:=@Option.map_some
abbrev anE:=@List.getElem!_eq_getElem?_getD
abbrev anF:=@List.set_append_right
abbrev anG:=@List.take_append_of_le_length
abbrev anH:=@List.eq_nil_of_length_eq_zero
abbrev anI:=@Nat.lt_succ_self
abbrev anJ:=@List.getElem?_take_of_lt
abbrev anK:=@List.find?_eq_none
abbrev anL:=@List.filter_append
abbrev anM:=@Bool.or_false
abbrev anN:=@List.take_take
abbrev anO:=@List.size_toArray
abbrev anP:=@List.flatMap_cons
abbrev anQ:=@List.range_succ
abbrev anR:=@List.append_nil
abbrev anS:=@List.drop_eq_nil_of_le
abbrev anT:=@List.ext_getElem
abbrev anU:=@of_decide_eq_false
abbrev anV:=@if_true
abbrev anW:=@BitVec.eq_of_toNat_eq
abbrev anX:=@Nat.lt_succ_iff_lt_or_eq
abbrev anY:=@List.mem_of_mem_drop
abbrev anZ:=@List.map_append
abbrev an0:=@Array.eq_empty_of_size_eq_zero
abbrev an1:=@List.getElem?_replicate
abbrev an2:=@List.flatMap_append
abbrev an3:=@Array.getInternal_eq_getElem
abbrev an4:=@BitVec.toNat_ofInt
abbrev an5:=@List.length_singleton
abbrev an6:=@List.getElem?_zipWith
abbrev an7:=@Nat.lt_irrefl
abbrev an8:=@Bool.false_or
abbrev an9:=@Array.getElem?_append_left
abbrev an_:=@List.nodup_append
abbrev an':=@List.length_range
abbrev aoa:=@List.foldl_append
abbrev aob:=@List.any_eq_false
abbrev aoc:=@Nat.shiftRight_eq_div_pow
abbrev aod:=@List.mem_iff_getElem
abbrev aoe:=@List.findIdx?_eq_none_iff
abbrev aof:=@Bool.or_eq_false_iff
abbrev aog:=@List.take_zero
abbrev aoh:=@not_true
abbrev aoi:=@List.map_toArray
abbrev aoj:=@BitVec.toNat_ushiftRight
abbrev aok:=@BitVec.eq_of_getLsbD_eq
abbrev aol:=@Nat.not_lt_zero
abbrev aom:=@Nat.blt_eq
abbrev aon:=@List.set_cons_zero
abbrev aoo:=@BitVec.getLsbD_and
abbrev aop:=@Nat.mul_one
abbrev aoq:=@List.find?_eq_some_iff_append
abbrev aor:=@List.filter_congr
abbrev aos:=@List.filterMap_append
abbrev aot:=@Nat.mod_eq_of_lt
abbrev aou:=@Nat.div_eq_of_lt
abbrev aov:=@List.take_append
abbrev aow:=@List.nodup_range
abbrev aox:=@List.getElem_mem
abbrev aoy:=@List.contains_eq_mem
abbrev aoz:=@List.cons_append
abbrev aoA:=@List.findSome?_eq_none_iff
abbrev aoB:=@Bool.not_true
abbrev aoC:=@BitVec.toInt_eq_toNat_cond
abbrev aoD:=@ne_eq
abbrev aoE:=@List.mem_of_find?_eq_some
abbrev aoF:=@List.foldl_cons
abbrev aoG:=@or_false
abbrev aoH:=@Nat.zero_mul
abbrev aoI:=@Nat.mul_comm
abbrev aoJ:=@List.getElem_range
abbrev aoK:=@List.Nodup.sublist
abbrev aoL:=@Bool.not_eq_false'
abbrev aoM:=@Bool.false_ne_true
abbrev aoN:=@BitVec.getLsbD_shiftLeft
abbrev aoO:=@List.drop_zero
abbrev aoP:=@Option.bind_eq_some_iff
abbrev aoQ:=@Option.isSome_map
abbrev aoR:=@Nat.lt_trichotomy
abbrev aoS:=@List.mapM_toArray
abbrev aoT:=@List.getElem_cons_drop
abbrev aoU:=@Nat.add_assoc
abbrev aoV:=@List.sum_cons
abbrev aoW:=@Option.getD_some
abbrev aoX:=@List.getElem_set
abbrev aoY:=@List.all_reverse
abbrev aoZ:=@List.findSome?_append
abbrev ao0:=@Bool.and_eq_false_iff
abbrev ao1:=@Nat.sub_zero
abbrev ao2:=@Nat.lt_or_ge
abbrev ao3:=@Nat.ble_eq
abbrev ao4:=@List.take_left'
abbrev ao5:=@List.getElem?_of_mem
abbrev ao6:=@List.findIdx?_append
abbrev ao7:=@Array.getElem_toList
abbrev ao8:=@List.drop_append_of_le_length
abbrev ao9:=@List.filter_eq_self
abbrev ao':=@List.nodup_nil
abbrev apa:=@List.mapM_cons
abbrev apb:=@List.drop_take
abbrev apc:=@Bool.false_and
abbrev apd:=@Bool.and_false
abbrev ape:=@false_and
abbrev apf:=@Nat.eq_zero_or_pos
abbrev apg:=@List.filterMap_map
abbrev aph:=@Bool.false_eq_true
abbrev api:=@List.mapM_nil
abbrev apj:=@Bool.and_true
abbrev apk:=@List.flatten_cons
abbrev apl:=@Array.size_append
abbrev apm:=@true_and
abbrev apn:=@getElem!_pos
abbrev apo:=@false_or
abbrev apq:=@Nat.min_le_right
abbrev apr:=@Nat.lt_trans
abbrev aps:=@List.not_mem_nil
abbrev apt:=@List.mem_flatMap
abbrev apu:=@Nat.le_succ
abbrev apv:=@Int.le_refl
theorem aq {p:Prop} (h:p:=by omega):p:=h
theorem aw {p:Prop} (h:p:=by decide):p:=h
theorem bh {p:Prop} (h:p:=by simp):p:=h
theorem bq {p:Prop} (h:p:=by assumption):p:=h
theorem eP {α:Type} {l:List α} {i:Nat} (h:i<l.length):l[i]? =some l[i]:=List.getElem?_eq_getElem h
theorem gZ {α:Type} {l:List α} {i:Nat} {a:α}:l.getD i a=(l[i]?).getD a:=List.getD_eq_getElem?_getD
theorem ef {α:Type} {l:List α} {i:Nat} {a:α}:l[i]? =some a↔∃h:i<l.length,l[i]=a:=List.getElem?_eq_some_iff
theorem dJ {α:Type} {l:List α} {i:Nat} {a:α} (h:l[i]? =some a):a∈l:=List.mem_of_getElem? h
theorem eQ (a b:Bool):((a&&b)=true)=(a=true∧b=true):=Bool.and_eq_true a b
theorem dZ (n:Nat):(n:Int).toNat=n:=Int.toNat_natCast n
theorem gf {α:Type} {a b:List α}:(a++b).length=a.length+b.length:=List.length_append
theorem nX {α:Type} {n:Nat} {a:α}:(List.replicate n a).length=n:=List.length_replicate
theorem ij {α:Type} {i:Nat} {l:List α}:(l.take i).length=min i l.length:=List.length_take
theorem oR {α:Type} {a b:List α} {n:Nat} (h:a.length≤n):(a++b)[n]? =b[n-a.length]?:=List.getElem?_append_right h
theorem iB {α:Type} {a:α} {l:List α}:(a::l).length=l.length+1:=List.length_cons
theorem gm {α:Type}:([]:List α).length=0:=List.length_nil
theorem qK {α:Type} {a b:List α} {n:Nat} (h:n<a.length):(a++b)[n]? =a[n]?:=List.getElem?_append_left h
open Go.RowKit
abbrev aS:=Nat→Value
def b9 (f:aS) (d:Nat) (v:Value):aS:=fun t=>bif Nat.beq t d then v else f t
def cU (f:aS):Option Nat→Value→aS
 |some d,v=>b9 f d v
 |none,_=>f
def bZ (n:Nat) (f:aS):Act:=⟨Array.ofFn (fun i:Fin n=>f i),[]⟩
def ev (f:aS):Operand→Value
 | .tmp t=>f t
 | .const v=>v
 | .global g=>.pointer (some ⟨g,0,none⟩)
 | .func k=>.func (.func k) #[] #[]
def bG (n:Nat):Operand→Bool
 | .tmp t=>Nat.blt t n
 |_=>true
theorem aO {n:Nat} {f:aS} {x:Operand} (h:bG n x=true):(bZ n f).eval x=ev f x:=by
 cases x with
 |tmp t=>
  simp only[bG,aom] at h
  simp[Act.eval,bZ,ev,h]
 |_=>rfl
theorem iI (f:aS) (d:Nat) (v:Value):b9 f d v d=v:=by simp[b9]
theorem jq (f:aS) {d t:Nat} (v:Value) (h:t≠d):b9 f d v t=f t:=by
 have:Nat.beq t d=false:=by
  cases hb:Nat.beq t d with
  |false=>rfl
  |true=>exact absurd (ans hb) h
 simp only[b9,this,cond_false]
theorem ql (n:Nat) (f:aS) (d:Option Nat) (v:Value):(bZ n f).put d v=bZ n (cU f d v):=by
 cases d with
 |none=>rfl
 |some d=>
  simp only[Act.put,bZ,cU,Act.mk.injEq,and_true]
  apply Array.ext
  ·simp
  ·intro i h1 h2
   simp only[Array.size_ofFn] at h2
   by_cases hi:i=d
   ·subst hi
    simp[b9]
   ·rw[Array.getElem_setIfInBounds_ne (by simpa using h2) aq]
    simp only[Array.getElem_ofFn]
    exact(jq f v hi).symm
theorem ZX (n:Nat) (tmps:Array Value) (h:tmps.size=n):(⟨tmps,[]⟩:Act)=bZ n (fun t=>tmps.getD t undef):=by
 simp only[bZ,Act.mk.injEq,and_true]
 apply Array.ext
 ·simp[h]
 ·intro i h1 h2
  simp[h1]
def xi (ops:Array Oper) (j:Nat):Option Nat:=(ops[j]?).bind (·.dst)
theorem BH {n:Nat} {f:aS} {ops:Array Oper} {j t:Nat} {b:Bool} (h:xi ops j=some t) (ht:Nat.blt t n=true) (hv:f t=.bool b):
  yielded ops (bZ n f).tmps j=some b:=by
 simp only[aom] at ht
 unfold xi at h
 simp[yielded,h,bZ,ht,hv]
def SO (P:Program) (n:Nat) (ops:Array Oper) (o:Oper) (f:aS) (w:World) (K:aS→World→Prop):Prop:=
 ∀(Q:Exit→Act→World→Prop) (rest:List Oper),(∀f' w',K f' w'→wpList P ops Q rest (bZ n f') w')→wpList P ops Q (o::rest) (bZ n f) w
theorem SO.mono {P:Program} {n:Nat} {ops:Array Oper} {o:Oper} {f:aS} {w:World} {K K':aS→World→Prop} (h:SO P n ops o f w K) (hk:∀f' w',K f' w'→K' f' w'):SO P n ops o f w K':=
 fun Q rest hr=>h Q rest fun f' w' hK=>hr f' w' (hk f' w' hK)
section
variable {P:Program} {n:Nat} {ops:Array Oper} {f:aS} {w:World} {K:aS→World→Prop} {Q:Exit→Act→World→Prop} {rest:List Oper} {o:Oper}
theorem SO.value {d:Option Nat} {op:Op} {ty:TypeId} {ps:String} {af:Array Edge} {v:Value} {w':World}
  (hr:(execOp (bZ n f).eval ⟨d,op,ty,ps,af,none⟩).run P w=.ok (.value v) w') (h:K (cU f d v) w'):SO P n ops ⟨d,op,ty,ps,af,none⟩ f w K:=by
 intro Q rest hk
 refine wpList_plain J fun K' SM=>?_
 simp only[Oper.wp,hr,Oper.upon]
 rw[ql]
 exact SM _ _<|hk _ _ h
theorem SO.skip {d:Option Nat} {op:Op} {ty:TypeId} {ps:String} {af:Array Edge} {w':World}
  (hr:(execOp (bZ n f).eval ⟨d,op,ty,ps,af,none⟩).run P w=.ok .skip w') (h:K (cU f d undef) w'):SO P n ops ⟨d,op,ty,ps,af,none⟩ f w K:=by
 intro Q rest hk
 refine wpList_plain J fun K' SM=>?_
 simp only[Oper.wp,hr,Oper.upon]
 rw[ql]
 exact SM _ _<|hk _ _ h
theorem SO.enter {d:Option Nat} {op:Op} {ty:TypeId} {ps:String} {af:Array Edge} {g:FuncId} {args:Array Value} {w':World}
  (hr:(execOp (bZ n f).eval ⟨d,op,ty,ps,af,none⟩).run P w=.ok (.enter g args) w')
  (h:Calls P g args w' fun e mo=>∃v,e=.returned v∧K (cU f d v) mo):SO P n ops ⟨d,op,ty,ps,af,none⟩ f w K:=by
 intro Q rest hk
 refine wpList_plain J fun K' SM=>?_
 simp only[Oper.wp,hr,Oper.upon]
 refine h.mono ?_
 rintro e mo ⟨v,rfl,hv⟩
 show K' ((bZ n f).put d v) mo
 rw[ql]
 exact SM _ _<|hk _ _ hv
theorem gy {d:Option Nat} {op:Op} {ty:TypeId} {ps:String} {af:Array Edge} {j t:Nat} {want b:Bool}
  (hj:xi ops j=some t) (ht:Nat.blt t n=true) (hv:f t=.bool b) (hb:b=want)
  (h:SO P n ops ⟨d,op,ty,ps,af,none⟩ f w K):SO P n ops ⟨d,op,ty,ps,af,some (j,want)⟩ f w K:=by
 subst hb
 intro Q rest hk
 have h1:=h Q rest hk
 have hy:=BH (n:=n) hj ht hv
 unfold wpList at h1 ⊢
 rw[aml (by simp[Region.wanted])] at h1
 rw[aml (by simp[Region.wanted,hy])]
 exact h1
theorem gn {d:Option Nat} {op:Op} {ty:TypeId} {ps:String} {af:Array Edge} {j t:Nat} {want b:Bool}
  (hj:xi ops j=some t) (ht:Nat.blt t n=true) (hv:f t=.bool b) (hb:b=!want)
  (h:K (cU f d undef) w):SO P n ops ⟨d,op,ty,ps,af,some (j,want)⟩ f w K:=by
 subst hb
 intro Q rest hk
 have hy:=BH (n:=n) hj ht hv
 unfold wpList
 rw[amn (by simp[Region.wanted,hy])]
 rw[ql]
 exact hk _ _ h
def WL (P:Program) (n:Nat) (ops:Array Oper) (Q:Exit→Act→World→Prop):List Oper→aS→World→Prop
 |l,f,w=>wpList P ops Q l (bZ n f) w
def WC (P:Program) (n:Nat) (c:Code) (Q:Exit→Act→World→Prop) (f:aS) (w:World):Prop:=c.wp P Q (bZ n f) w
theorem k (h:SO P n ops o f w (WL P n ops Q rest)):WL P n ops Q (o::rest) f w:=h Q rest fun _ _ h=>h
theorem z (h:Q .normal (bZ n f) w):WL P n ops Q [] f w:=wpList_nil (P:=P) (ops:=ops) h
theorem rg {id:Nat} {l:List Oper} (h:WL P n l.toArray Q l f w):WC P n (.region id l.toArray false) Q f w:=wp_region_lit h
theorem sq {x y:Code} (h:WC P n x (Exit.then (fun a w=>y.wp P Q a w) Q) f w):WC P n (.seq x y) Q f w:=wp_seq h
theorem nx {y:Code} (h:WC P n y Q f w):Exit.then (fun a w=>y.wp P Q a w) Q .normal (bZ n f) w:=h
theorem sk (h:Q .normal (bZ n f) w):WC P n .skip Q f w:=wp_skip h
theorem rt (h:Q .ret (bZ n f) w):WC P n .ret Q f w:=wp_ret h
theorem ex {id:Nat} (h:Q (.exit id) (bZ n f) w):WC P n (.exit id) Q f w:=wp_exit h
theorem bk {id:Nat} {c:Code} (h:WC P n c (Exit.inBlock id Q) f w):WC P n (.block id c) Q f w:=wp_block h
theorem aI {id:Nat} {a:Act} (h:Q .normal a w):Exit.inBlock id Q .normal a w:=h
theorem bQ {id:Nat} {a:Act} (h:Q .ret a w):Exit.inBlock id Q .ret a w:=h
theorem bg {id:Nat} {a:Act} (h:Q .normal a w):Exit.inBlock id Q (.exit id) a w:=by
 show (if id=id then _ else _);rw[aml rfl];exact h
theorem Ve {id W9:Nat} {a:Act} (gE:W9≠id) (h:Q (.exit W9) a w):Exit.inBlock id Q (.exit W9) a w:=by
 show (if W9=id then _ else _);rw[amn gE];exact h
theorem aL {next:Act→World→Prop} {a:Act} (h:Q .ret a w):Exit.then next Q .ret a w:=h
theorem aX {next:Act→World→Prop} {id:Nat} {a:Act} (h:Q (.exit id) a w):Exit.then next Q (.exit id) a w:=h
theorem cd {c:Operand} {x y:Code} {b:Bool} (hc:bG n c=true) (hv:ev f c=.bool b) (ht:b=true→WC P n x Q f w) (hf:b=false→WC P n y Q f w):WC P n (.cond c x y) Q f w:=
 wp_cond_split (by rw[aO hc,hv]) ht hf
theorem oP {c:Operand} {x y:Code} {b:Bool} (hc:bG n c=true) (hv:ev f c=.bool b) (hb:b=true) (h:WC P n x Q f w):WC P n (.cond c x y) Q f w:=
 wp_cond_true (by rw[aO hc,hv,hb]) h
theorem nP {c:Operand} {x y:Code} {b:Bool} (hc:bG n c=true) (hv:ev f c=.bool b) (hb:b=false) (h:WC P n y Q f w):WC P n (.cond c x y) Q f w:=
 wp_cond_false (by rw[aO hc,hv,hb]) h
def VS (n:Nat) (ai:aS→World→Prop) (Q:Exit→Act→World→Prop):Exit→Act→World→Prop
 | .normal,a,w=>∃f,a=bZ n f∧ai f w
 |e,a,w=>Q e a w
theorem cut {x y:Code} (ai:aS→World→Prop) (h:WC P n x (VS n ai Q) f w) (h2:∀f' w',ai f' w'→WC P n y Q f' w'):WC P n (.seq x y) Q f w:=by
 refine wp_seq<|wp_mono h ?_
 intro e a w' hq
 cases e with
 |normal=>obtain⟨f',rfl,hR⟩:=hq;exact h2 f' w' hR
 |_=>exact hq
theorem A7 {ai:aS→World→Prop} (h:ai f w):VS n ai Q .normal (bZ n f) w:=⟨f,rfl,h⟩
theorem HS {ai:aS→World→Prop} {a:Act} (h:Q .ret a w):VS n ai Q .ret a w:=h
def JL (n:Nat) (ag:Nat→aS→World→Prop) (m:Nat) (Q:Exit→Act→World→Prop):Exit→Act→World→Prop
 | .normal,a,w=>∃f m',a=bZ n f∧m'<m∧ag m' f w
 |e,a,w=>Q e a w
theorem lp {c:Code} (ag:Nat→aS→World→Prop) (m0:Nat) (h0:ag m0 f w)
  (hr:∀m f w,ag m f w→WC P n c (JL n ag m Q) f w):WC P n (.loop c) Q f w:=by
 have key:∀m,∀f w,ag m f w→∀b k cs,
   ∃e a' w',Q e a' w'∧Arrives P (lone (b.at (bZ n f) (.code c::.inLoop c::k)) cs w) b k cs e a' w':=by
  intro m
  induction m using Nat.strongRecOn with
  |_ m ih=>
   intro f w hI b k cs
   obtain⟨e,a₁,w₁,hq,CE⟩:=hr m f w hI b (.inLoop c::k) cs
   cases e with
   |normal=>
    obtain⟨f',m',rfl,eM,XI⟩:=hq
    obtain⟨e₂,a₂,w₂,aeo,Zl⟩:=ih m' eM f' w₁ XI b k cs
    exact⟨e₂,a₂,w₂,aeo,.of_steps (Steps.trans CE (.one step_inLoop)) Zl⟩
   |exit id=>exact⟨_,a₁,w₁,hq,.pass (x:=.inLoop c) rfl (fun _ _=>.inl (by simp)) CE⟩
   |goto l=>exact⟨_,a₁,w₁,hq,.pass (x:=.inLoop c) rfl (fun _ _=>.inl (by simp)) CE⟩
   |ret=>exact⟨_,a₁,w₁,hq,.pass (x:=.inLoop c) rfl (fun _ _=>.inl (by simp)) CE⟩
   |panic ch=>exact⟨_,a₁,w₁,hq,.pass (x:=.inLoop c) rfl (fun _ _=>.inl (by simp)) CE⟩
   |outgrown=>exact⟨_,a₁,w₁,hq,.pass (x:=.inLoop c) rfl (fun _ _=>.inl (by simp)) CE⟩
 intro b k cs
 obtain⟨e,a',w',hq,CE⟩:=key m0 f w h0 b k cs
 exact⟨e,a',w',hq,.of_steps (.one step_loop) CE⟩
theorem bB {ag:Nat→aS→World→Prop} {m:Nat} (m':Nat) (hm:m'<m) (h:ag m' f w):JL n ag m Q .normal (bZ n f) w:=⟨f,m',rfl,hm,h⟩
theorem dQ {ag:Nat→aS→World→Prop} {m:Nat} {a:Act} (h:Q .ret a w):JL n ag m Q .ret a w:=h
theorem bf {ag:Nat→aS→World→Prop} {m:Nat} {a:Act} {id:Nat} (h:Q (.exit id) a w):JL n ag m Q (.exit id) a w:=h
end
def rT (P:Program) (n:Nat) (fn:Func) (ai:Value→World→Prop):Exit→Act→World→Prop
 | .normal,a,w| .ret,a,w=>∃f,a=bZ n f∧∃v,(results fn (bZ n f).tmps).run P w=.ok v w∧ai v w
 |_,_,_=>False
def cb (ai:Value→World→Prop):Ending→World→Prop:=fun e w=>∃v,e=.returned v∧ai v w
theorem enter {P:Program} {g:FuncId} {fn:Func} {c:Code} {args:Array Value} {w:World} {ai:Value→World→Prop} (n:Nat)
  (hf:P.funcs[g]? =some fn) (hb:fn.body=some c) (hn:fn.ntmps=n) (ha:Nat.ble args.size n=true)
  (h:∀f:aS,(∀i,(_:i<args.size)→f i=args[i])→WC P n c (rT P n fn ai) f w):Calls P g args w (cb ai):=by
 refine calls_of_wp hf hb ?_
 subst hn
 simp only[ao3] at ha
 rw[ZX fn.ntmps (args++Array.replicate (fn.ntmps-args.size) undef) (by simp;omega)]
 have h1:=h (fun t=>(args++Array.replicate (fn.ntmps-args.size) undef).getD t undef) (fun i hi=>by
  simp[an9,hi])
 refine wp_mono h1 ?_
 intro e a w' hq
 cases e with
 |normal=>obtain⟨f',rfl,v,h1,h2⟩:=hq;exact⟨rfl,v,h1,v,rfl,h2⟩
 |ret=>obtain⟨f',rfl,v,h1,h2⟩:=hq;exact⟨rfl,v,h1,v,rfl,h2⟩
 |_=>exact hq.elim
section
variable {P:Program} {n:Nat} {fn:Func} {ai:Value→World→Prop} {f:aS} {w:World}
theorem Ar {t:Nat} (h:Nat.blt t n=true):(bZ n f).tmps.getD t undef=f t:=by
 simp only[aom] at h
 simp[bZ,h]
theorem r1 {t:Nat} (hr:fn.results=#[.tmp t]) (ht:Nat.blt t n=true) (h:ai (f t) w):rT P n fn ai .ret (bZ n f) w:=
 ⟨f,rfl,f t,by rw[results_tmp hr,Ar ht],h⟩
theorem r2 {t u:Nat} (hr:fn.results=#[.tmp t,.tmp u]) (ht:Nat.blt t n=true) (hu:Nat.blt u n=true) (h:ai (.tuple #[f t,f u]) w):rT P n fn ai .ret (bZ n f) w:=
 ⟨f,rfl,_,by rw[results_tmp2 hr,Ar ht,Ar hu],h⟩
theorem r0 (hr:fn.results=#[]) (h:ai (.tuple #[]) w):rT P n fn ai .ret (bZ n f) w:=
 ⟨f,rfl,_,results_none hr _ _ _,h⟩
theorem DU (hr:fn.results=#[]) (h:ai (.tuple #[]) w):rT P n fn ai .normal (bZ n f) w:=
 ⟨f,rfl,_,results_none hr _ _ _,h⟩
end
end Go.Ew
namespace Go.Ew
open Go.RowKit
structure Ext (w w':World):Prop extends Below w.heap.size w w' where
 drawn:w.drawn≤w'.drawn
theorem Ext.refl (w:World):Ext w w:=⟨Below.refl _ _,amk _⟩
theorem Ext.trans {a b c:World} (h:Ext a b) (k:Ext b c):Ext a c:=⟨Below.trans h.toBelow (Below.mono k.toBelow h.size),Nat.le_trans h.drawn k.drawn⟩
theorem Ext.drew (w:World):Ext w w.drew:=⟨Below.drew (Below.refl _ _),apu _⟩
theorem Ext.alloc (w:World) (o:Obj):Ext w (w.alloc o):=⟨Below.alloc (Below.refl _ _) (amk _) o,amk _⟩
theorem TS {α:Type} (a:Ask α):∀w:World,w.drawn≤(w.ask a).2.drawn:=by
 induction a with
 |done a=>intro w;simp only[World.ask];exact amk _
 |ask alb range k ih=>
  intro w
  simp only[World.ask]
  split
  ·exact ih _ w
  ·exact Nat.le_trans (apu _)<|ih _ {w with drawn:=w.drawn+1}
theorem Q5 (w:World) (c:Sys):w.drawn≤(w.sys c).2.drawn:=by
 have h:=TS (Kernel.perform c w.os) w
 unfold World.sys
 split
 ·exact amk _
 ·rename_i e;rw[e] at h;exact h
theorem S9 {P:Program} {w w':World} {a:Addr} {v:Value} {b:Bool} {l:List Addr} (h:w.farStore P a v b=.ok (w',l)):w'.drawn=w.drawn:=by
 unfold World.farStore at h
 split at h
 ·split at h
  ·rename_i e
   simp only[Except.ok.injEq] at h
   subst h
   unfold World.viewStore at e
   simp only[bind,Except.bind,pure,Except.pure] at e
   repeat' (first|cases e|split at e)
   all_goals rfl
  ·cases h
 ·cases h
theorem r7 {α:Type} {P:Program} (m:Sem α):∀{w w':World} {v:α},m.run P w=.ok v w'→w.drawn≤w'.drawn:=by
 induction m with
 |pure a=>intro w w' v h;simp only[Sem.run,Result.ok.injEq] at h;rw[h.2];exact amk _
 |load m a k ih=>
  intro w w' v h
  simp only[Sem.run] at h
  split at h
  ·exact ih _ h
  ·split at h
   ·exact ih _ h
   ·cases h
 |store m a u k ih=>
  intro w w' v h
  cases u<;>simp only[Sem.run] at h<;>(try (cases h;done))<;>
  ·split at h
   ·split at h
    ·cases h
    ·have:=ih h;exact this
   ·split at h
    ·rename_i e
     have:=ih h
     rw[S9 e] at this
     exact this
    ·cases h
 |new o k ih=>intro w w' v h;have:=ih w.heap.size (w:={w with heap:=w.heap.push o}) h;exact this
 |shape r k ih=>intro w w' v h;exact ih (w.shape? r) h
 |freeze a n k ih=>
  intro w w' v h
  have:=ih (w:=w.freeze a n) h
  simp only[World.freeze] at this
  split at this<;>exact this
 |frozen a k ih=>intro w w' v h;exact ih (w.frozen? a) h
 |getObj r k ih=>
  intro w w' v h
  simp only[Sem.run] at h
  split at h
  ·cases h
  ·exact ih _ h
  ·cases h
 |setObj r o k ih=>
  intro w w' v h
  simp only[Sem.run] at h
  split at h
  ·cases h
  ·have:=ih h;exact this
  ·cases h
 |choose q k ih=>
  intro w w' v h
  simp only[Sem.run] at h
  split at h
  ·exact ih _ h
  ·exact Nat.le_trans (apu _)<|ih _ (w:={w with drawn:=w.drawn+1}) h
 |sys c k ih=>intro w w' v h;exact Nat.le_trans (Q5 w c) (ih _ (w:=(w.sys c).2) h)
 |program k ih=>intro w w' v h;exact ih P h
 |mark m k ih=>intro w w' v h;exact ih (w:=w) h
 |halt x=>intro w w' v h;cases h
def kH (o:Oper) (j:Nat):Bool:=o.after.toList.any fun e=>Region.binds .any e&&e.on==j
def iM (l:List Oper) (i:Nat):Nat:=(((l[i]?).bind (·.dst)).getD 0)
def i' (k:Nat) (l:List Oper):List Nat:=(l.take k).filterMap (·.dst)
def nodupB:List Nat→Bool
 |[]=>true
 |x::xs=>!xs.contains x&&nodupB xs
def qO:Nat→List Oper→Bool
 |_,[]=>true
 |i,o::r=>o.after.all (fun e=>!Region.binds .any e||Nat.blt e.on i)&&qO (i+1) r
def oq (l:List Oper):Nat→Nat→Nat→Bool
 |0,_,_=>false
 |n+1,i,m=>match l[i]? with
  |none=>false
  |some o=>kH o m||(List.range i).any fun j=>kH o j&&oq l n j m
def wa (l:List Oper) (k:Nat):Bool:=
 (Nat.ble l.length k||(List.range k).all fun m=>oq l (k+1) k m)&&
  (List.range l.length).all fun i=>Nat.ble i k||match l[i]? with
   |some o=>kH o (i-1)
   |none=>true
def NZ (n k:Nat) (l:List Oper):Bool:=
 qO 0 l&&(l.take k).all (fun o=>o.dst.isSome)&&nodupB (i' k l)&&(i' k l).all (fun d=>Nat.blt d n)&&wa l k&&Nat.ble k l.length
def zv (Φ:List (Value→World→Prop)) (i:Nat):Value→World→Prop:=Φ.getD i (fun _ _=>True)
structure DStep (P:Program) (n:Nat) (l:List Oper) (k:Nat) (Φ:List (Value→World→Prop)) (f0:aS) (w0:World) (i:Nat) (o:Oper):Prop where
 go:∀f w,(∀t,(i' k l).contains t=false→f t=f0 t)→Ext w0 w→(∀j,kH o j=true→Nat.blt j k=true→zv Φ j (f (iM l j)) w)→
  SO P n l.toArray o f w (fun f' w'=>∃v,f'=cU f o.dst v∧Ext w w'∧zv Φ i v w')
 mono:∀v w w',Ext w w'→zv Φ i v w→zv Φ i v w'
def ma (P:Program) (n:Nat) (l:List Oper) (k:Nat) (Φ:List (Value→World→Prop)) (f0:aS) (w0:World):Nat→List Oper→Prop
 |_,[]=>True
 |i,o::r=>(Nat.blt i k=true→DStep P n l k Φ f0 w0 i o)∧ma P n l k Φ f0 w0 (i+1) r
section
variable {P:Program} {n:Nat} {l:List Oper} {k:Nat} {Φ:List (Value→World→Prop)} {f0:aS} {w0:World}
theorem ma.at_:∀(r:List Oper) (i:Nat),ma P n l k Φ f0 w0 i r→∀j o,r[j]? =some o→Nat.blt (i+j) k=true→DStep P n l k Φ f0 w0 (i+j) o
 |[],_,_,j,o,h,_=>by simp at h
 |x::r,i,h,0,o,hj,hk=>by
  simp only[amw,amu] at hj
  subst hj
  exact h.1 hk
 |x::r,i,h,j+1,o,hj,hk=>by
  simp only[amD] at hj
  have:=ma.at_ r (i+1) h.2 j o hj<|by rw[show i+1+j=i+(j+1) from by omega];exact hk
  rwa [show i+1+j=i+(j+1) from by omega] at this
theorem vU:∀(r:List Oper) (i:Nat),qO i r=true→∀j o,r[j]? =some o→∀e∈o.after,Region.binds .any e=true→e.on<i+j
 |[],_,_,j,o,h,_,_,_=>by simp at h
 |x::r,i,h,j,o,hj,e,he,hb=>by
  simp only[qO,eQ,Array.all_eq_true_iff_forall_mem,amt,anq,aom] at h
  cases j with
  |zero=>
   simp only[amw,amu] at hj
   subst hj
   rcases h.1 e he with h1|h1
   ·rw[hb] at h1;cases h1
   ·omega
  |succ j=>
   simp only[amD] at hj
   have:=vU r (i+1) h.2 j o hj e he hb
   omega
theorem v8 {o:Oper} {j:Nat}:kH o j=true↔∃e∈o.after,Region.binds .any e=true∧e.on=j:=by
 simp only[kH,amR,Array.mem_toList_iff]
 constructor
 ·rintro⟨e,he,h⟩
  simp only[eQ,beq_iff_eq] at h
  exact⟨e,he,h.1,h.2⟩
 ·rintro⟨e,he,h1,h2⟩
  exact⟨e,he,by simp[h1,h2]⟩
theorem zE {l:List Oper} {k:Nat} (h:wa l k=true) {i:Nat} {o:Oper} (hk:k<i) (ho:l[i]? =some o):kH o (i-1)=true:=by
 simp only[wa,eQ] at h
 have:=amq.1 h.2 i<|by rw[amm];exact(ef.1 ho).1
 rw[ho] at this
 have hf:Nat.ble i k=false:=by
  cases hb:Nat.ble i k with
  |false=>rfl
  |true=>rw[ao3] at hb;omega
 rw[hf] at this
 simpa using this
theorem Jz {l:List Oper} {k:Nat} (h:wa l k=true) (hk:k<l.length) {m:Nat} (hm:m<k):oq l (k+1) k m=true:=by
 simp only[wa,eQ,amt] at h
 rcases h.1 with h1|h1
 ·rw[ao3] at h1;omega
 ·exact amq.1 h1 m<|by rw[amm];exact hm
theorem B2 {l:List Oper} {listed:Array Bool} (hC:∀i o,listed.getD i false=true→l[i]? =some o→∀j,kH o j=true→listed.getD j false=true):
  ∀(n i m:Nat) (o:Oper),l[i]? =some o→(∀j,kH o j=true→listed.getD j false=true)→oq l n i m=true→listed.getD m false=true
 |0,_,_,_,_,_,h=>by cases h
 |n+1,i,m,o,ho,hd,h=>by
  simp only[oq,ho,amt] at h
  rcases h with h|h
  ·exact hd m h
  ·obtain⟨j,_,hj⟩:=amR.1 h
   simp only[eQ] at hj
   have hlj:=hd j hj.1
   cases qv:l[j]? with
   |none=>
    have h2:=hj.2
    cases n with
    |zero=>cases h2
    |succ n=>simp[oq,qv] at h2
   |some o'=>exact B2 hC n j m o' qv (hC j o' hlj qv) hj.2
theorem oA:∀(l:List Nat),nodupB l=true→l.Nodup
 |[],_=>ao'
 |x::xs,h=>by
  simp only[nodupB,eQ,anq] at h
  refine anm.2 ⟨?_,oA xs h.2⟩
  intro hx
  have:=amV.2 hx
  rw[h.1] at this
  cases this
theorem FO {ops:Array Oper} {i:Nat} {o:Oper} {f:aS} {w:World} {K:aS→World→Prop} {Q:Exit→Act→World→Prop} {K':Act→World→Prop}
  (hi:ops[i]? =some o) (h:SO P n ops o f w K) (hk:∀f' w',K f' w'→K' (bZ n f') w'):wpOp P ops Q i K' (bZ n f) w:=by
 have h1:=h (fun e a w=>match e with| .normal=>K' a w|e=>Q e a w) []<|fun f' w' hK=>hk f' w' hK
 unfold wpOp
 simp only[hi]
 unfold wpList at h1
 split at h1
 ·rename_i hw
  rw[aml hw]
  refine h1.imp (fun h2=>?_)<|fun h2=>?_
  ·unfold Oper.wp at h2 ⊢
   generalize (execOp (bZ n f).eval o).run P w=r at *
   cases r with
   |ok x w'=>
    cases x<;>simp only[Oper.upon] at h2 ⊢<;>first
     |exact h2
     |(refine Calls.mono h2 ?_;intro e mo he;cases e<;>first|exact he|(obtain⟨a0,w1,hq⟩:=he;exact⟨a0,w1,hq⟩))
   |halt x w'=>cases x<;>simp only[Oper.upon] at h2 ⊢<;>exact h2
  ·obtain⟨ha,a0,w1,hq⟩:=h2
   exact⟨ha,a0,w1,hq⟩
 ·rename_i hw
  rw[amn hw]
  exact h1
def Wp (N m:Nat) (listed:Array Bool):Prop:=listed.size=N∧∀i,i<N→listed.getD i false=decide (i<m)
theorem qC {listed:Array Bool} {i:Nat} (h:i<listed.size) (a b:Bool):listed.getD i a=listed.getD i b:=by
 simp[Array.getD,h]
theorem FQ {Q:Exit→Act→World→Prop} (hE:qO 0 l=true) (hT:wa l k=true):
  ∀(d m:Nat) (listed:Array Bool) (a:Act) (w:World),l.length-m=d→k≤m→m≤l.length→Wp l.length m listed→wpList P l.toArray Q (l.drop m) a w→wpAny P .any l.toArray Q d listed a w:=by
 intro d
 induction d with
 |zero=>
  intro m listed a w hd hk hm hl h
  have tu:m=l.length:=by omega
  subst tu
  rw[anS (amk _)] at h
  refine⟨?_,h⟩
  unfold Region.ready
  rw[ano]
  intro i hi
  simp only[anO,amm] at hi
  have:=hl.2 i hi
  rw[show listed.getD i true=listed.getD i false from qC (by rw[hl.1];exact hi) _ _,this]
  simp[hi]
 |succ d ih=>
  intro m listed a w hd hk hm hl h
  have tu:m<l.length:=by omega
  have iX:l[m]? =some l[m]:=eP tu
  have Sl:∀i,i∈Region.ready .any l.toArray listed↔i=m:=by
   intro i
   rw[mem_ready]
   constructor
   ·rintro⟨h0,o,ho,oC⟩
    have jA:i<l.length:=by
     have:=(amN.1 ho).1
     simpa using this
    have hnm:¬i<m:=by
     intro him
     rw[show listed.getD i true=listed.getD i false from qC (by rw[hl.1];exact jA) _ _,hl.2 i jA] at h0
     simp[him] at h0
    by_cases him:i=m
    ·exact him
    ·exfalso
     have hoi:l[i]? =some o:=by simpa using ho
     have hb:=zE hT (i:=i) aq hoi
     obtain⟨e,he,xb,uL⟩:=v8.1 hb
     have:=oC e he xb
     rw[uL,hl.2 (i-1) aq] at this
     simp at this
     omega
   ·rintro rfl
    refine⟨?_,l[i],by simp,?_⟩
    ·rw[show listed.getD i true=listed.getD i false from qC (by rw[hl.1];exact tu) _ _,hl.2 i tu]
     simp
    ·intro e he xb
     have:=vU l 0 hE i l[i] iX e he xb
     rw[hl.2 e.on aq]
     simp;omega
  have aes:l.drop m=l[m]::l.drop (m+1):=anb tu
  refine⟨fun h0=>?_,fun i hi=>?_⟩
  ·have:=(Sl m).2 rfl
   rw[h0] at this
   cases this
  ·obtain rfl:=(Sl i).1 hi
   rw[aes] at h
   have qp:Wp l.length (i+1) (listed.setIfInBounds i true):=by
    refine⟨by simp[hl.1],fun j hj=>?_⟩
    by_cases np:i=j
    ·subst np
     simp[hl.1,tu]
    ·rw[getD_set_ne false np,hl.2 j hj]
     simp;omega
   unfold wpOp
   rw[show (l.toArray)[i]? =some l[i] from by simp]
   simp only
   unfold wpList at h
   split at h
   ·rename_i hw
    rw[aml hw]
    refine h.imp (Oper.wp_mono fun a w h'=>ih (i+1) _ a w aq aq aq qp h') id
   ·rename_i hw
    rw[amn hw]
    exact ih (i+1) _ _ w aq aq aq qp h
theorem qm {i:Nat} {o:Oper} (hi:l[i]? =some o) (hk:i<k) {d:Nat} (hd:o.dst=some d):d∈i' k l:=by
 unfold i'
 rw[amK]
 refine⟨o,?_,hd⟩
 have:(l.take k)[i]? =some o:=by rw[amL,aml hk];exact hi
 exact dJ this
theorem gU {α β:Type} (g:α→Option β):∀(l:List α),(l.filterMap g).Nodup→∀(i j:Nat) (a b:α),l[i]? =some a→l[j]? =some b→(g a).isSome→g a=g b→i=j
 |[],_,i,_,_,_,hi,_,_,_=>by simp at hi
 |x::xs,h,i,j,a,b,hi,hj,hs,he=>by
  have PS:(xs.filterMap g).Nodup:=by
   rw[am6] at h
   split at h
   ·exact h
   ·exact(anm.1 h).2
  have AZ:∀(m:Nat) (c:α),xs[m]? =some c→g x=g c→(g x).isSome→False:=by
   intro m c hm hc hx
   obtain⟨y,hy⟩:=amG.1 hx
   rw[am6,hy] at h
   exact(anm.1 h).1 (amK.2 ⟨c,dJ hm,by rw[←hc,hy]⟩)
  cases i with
  |zero=>
   cases j with
   |zero=>rfl
   |succ j=>
    simp only[amw,amu,amD] at hi hj
    subst hi
    exact(AZ j b hj he hs).elim
  |succ i=>
   cases j with
   |zero=>
    simp only[amw,amu,amD] at hi hj
    subst hj
    exact(AZ i a hi he.symm (he▸hs)).elim
   |succ j=>
    simp only[amD] at hi hj
    rw[gU g xs PS i j a b hi hj hs he]
def DJ (n:Nat) (l:List Oper) (k:Nat) (Φ:List (Value→World→Prop)) (f0:aS) (w0:World) (listed:Array Bool) (a:Act) (w:World):Prop:=
 ∃f,a=bZ n f∧(∀t,(i' k l).contains t=false→f t=f0 t)∧Ext w0 w∧(∀i,i<k→listed.getD i false=true→zv Φ i (f (iM l i)) w)∧
  ∀i o,listed.getD i false=true→l[i]? =some o→∀j,kH o j=true→listed.getD j false=true
theorem wpAny_first {Q:Exit→Act→World→Prop} (pW:NZ n k l=true) (hS:ma P n l k Φ f0 w0 0 l)
  (vn:∀f w,(∀t,(i' k l).contains t=false→f t=f0 t)→Ext w0 w→(∀i,Nat.blt i k=true→zv Φ i (f (iM l i)) w)→WL P n l.toArray Q (l.drop k) f w):
  ∀(d:Nat) (listed:Array Bool) (a:Act) (w:World),listed.size=l.length→(∀i,k≤i→listed.getD i false=false)→(listed.toList.filter (fun b=>!b)).length=d→
   DJ n l k Φ f0 w0 listed a w→wpAny P .any l.toArray Q d listed a w:=by
 have abI:=pW
 simp only[NZ,eQ] at pW
 obtain⟨⟨⟨⟨⟨hE,hD⟩,hN⟩,hn⟩,hT⟩,zQ⟩:=pW
 simp only[ao3] at zQ
 intro d
 induction d with
 |zero=>
  intro listed a w pq Bv hd hJ
  have oC:∀i,i<l.length→listed.getD i false=true:=by
   intro i hi
   have h0:=anH hd
   rw[ano] at h0
   have pv:i<listed.size:=by omega
   have:=h0 listed[i]<|by simp
   simp at this
   simp[Array.getD,pv,this]
  have ahw:k=l.length:=by
   rcases ao2 k l.length with h|h
   ·have h1:=oC k h
    rw[Bv k (amk _)] at h1
    cases h1
   ·omega
  obtain⟨f,rfl,hf,hx,hφ,hC⟩:=hJ
  have:=vn f w hf hx<|fun i hi=>hφ i (by simpa using hi) (oC i<|by have h9:i<k:=(by simpa using hi);omega)
  refine FQ hE hT 0 l.length listed _ w aq aq (amk _) ⟨pq,fun i hi=>by rw[oC i hi];simp[hi]⟩ ?_
  rw[ahw] at this
  exact this
 |succ d ih=>
  intro listed a w pq Bv hd hJ
  by_cases oC:∀i,i<k→listed.getD i false=true
  ·obtain⟨f,rfl,hf,hx,hφ,hC⟩:=hJ
   have:=vn f w hf hx<|fun i hi=>hφ i (by simpa using hi) (oC i<|by simpa using hi)
   have qp:Wp l.length k listed:=⟨pq,fun i hi=>by
    by_cases sY:i<k
    ·rw[oC i sY];simp[sY]
    ·rw[Bv i aq];simp;omega⟩
   have SD:d+1=l.length-k:=by
    rw[←hd]
    have hl:listed.toList=List.replicate k true++List.replicate (l.length-k) false:=by
     apply anT
     ·simp[pq];omega
     ·intro i h1 h2
      simp only[am1] at h1
      have:=qp.2 i aq
      simp only[Array.getD,h1,dif_pos] at this
      rw[ao7]
      by_cases sY:i<k
      ·rw[List.getElem_append_left (by simpa using sY)]
       simp[an3,sY] at this ⊢
       exact this
      ·rw[List.getElem_append_right (by simpa using sY)]
       simp[an3,sY] at this ⊢
       exact this
    rw[hl]
    simp
   exact FQ hE hT (d+1) k listed _ w aq (amk _) zQ qp this
  ·obtain⟨i0,I5⟩:∃i,i<k∧listed.getD i false=false:=by
    apply amZ
    intro Gx
    refine oC fun i hi=>?_
    cases hb:listed.getD i false with
    |true=>rfl
    |false=>exact(Gx ⟨i,hi,hb⟩).elim
   
   obtain⟨m,Su,St⟩:=exists_least (p:=fun i=>i<k∧listed.getD i false=false) ⟨i0,I5⟩
   have tu:m<l.length:=by omega
   have iX:l[m]? =some l[m]:=eP tu
   have Bs:m∈Region.ready .any l.toArray listed:=by
    rw[mem_ready]
    refine⟨?_,l[m],by simp,fun e he hb=>?_⟩
    ·rw[show listed.getD m true=listed.getD m false from qC aq _ _];exact Su.2
    ·have eM:=vU l 0 hE m l[m] iX e he hb
     cases vE:listed.getD e.on false with
     |true=>rfl
     |false=>
      have:=St e.on ⟨by omega,vE⟩
      omega
   refine⟨fun h0=>(by rw[h0] at Bs;cases Bs),fun i hi=>?_⟩
   obtain⟨h0,o,ho,zU⟩:=mem_ready.1 hi
   have pU:l[i]? =some o:=by simpa using ho
   have jA:i<l.length:=(ef.1 pU).1
   have LX:listed.getD i false=false:=by
    rw[show listed.getD i false=listed.getD i true from qC aq _ _];exact h0
   have sY:i<k:=by
    rcases ao2 i k with h|h
    ·exact h
    ·exfalso
     obtain⟨f,rfl,hf,hx,hφ,hC⟩:=hJ
     by_cases ahy:i=k
     ·subst ahy
      have:=B2 hC _ i m o pU (fun j hj=>by
       obtain⟨e,he,xb,uL⟩:=v8.1 hj
       rw[←uL];exact zU e he xb) (Jz hT jA Su.1)
      rw[Su.2] at this
      cases this
     ·have hb:=zE hT (i:=i) aq pU
      obtain⟨e,he,xb,uL⟩:=v8.1 hb
      have:=zU e he xb
      rw[uL,Bv (i-1) aq] at this
      cases this
   obtain⟨f,rfl,hf,hx,hφ,hC⟩:=hJ
   have Dt:=(ma.at_ l 0 hS i o pU<|by simpa using sY)
   simp only[am2] at Dt
   have hSO:=Dt.go f w hf hx (fun j hj I3=>by
    obtain⟨e,he,hb,uL⟩:=v8.1 hj
    subst uL
    exact hφ e.on (by simpa using I3) (zU e he hb))
   obtain⟨di,uO⟩:∃di,o.dst=some di:=by
    rw[amq] at hD
    have:=hD o<|dJ (i:=i)<|by rw[amL,aml sY];exact pU
    exact amG.1 this
   refine FO ho hSO fun f' w' hK=>?_
   obtain⟨v,rfl,hxw,hv⟩:=hK
   refine ih (listed.setIfInBounds i true) _ w' (by simp[pq]) (fun j hj=>?_) ?_ ?_
   ·rw[getD_set_ne false aq];exact Bv j hj
   ·
    have LI:i<listed.size:=by omega
    have tX:listed.toList[i]? =some false:=by
     rw[eP (by simpa using LI)]
     simp only[Array.getD,LI,dif_pos] at LX
     simpa [an3] using LX
    have key:∀(L:List Bool) (i:Nat),L[i]? =some false→((L.set i true).filter (fun b=>!b)).length+1=(L.filter (fun b=>!b)).length:=by
     intro L
     induction L with
     |nil=>intro i h;simp at h
     |cons b L ihL=>
      intro i h
      cases i with
      |zero=>simp at h;subst h;simp
      |succ i=>
       simp at h
       have:=ihL i h
       cases b<;>simp at this ⊢<;>omega
    have:=key listed.toList i tX
    rw[Array.toList_setIfInBounds]
    omega
   ·refine⟨cU f o.dst v,J,fun t ht=>?_,hx.trans hxw,fun j I3 hj=>?_,fun j oj hj qv q hq=>?_⟩
    ·rw[uO]
     have gE:t≠di:=by
      rintro rfl
      have:=qm pU sY uO
      rw[←amV,ht] at this
      cases this
     rw[show cU f (some di) v=b9 f di v from rfl,jq f v gE]
     exact hf t ht
    ·have wZ:j<l.length:=by omega
     have qv:l[j]? =some l[j]:=eP wZ
     by_cases np:i=j
     ·subst np
      have:iM l i=di:=by unfold iM;rw[pU];simp[uO]
      rw[this,uO,show cU f (some di) v=b9 f di v from rfl,iI]
      exact hv
     ·rw[getD_set_ne false np] at hj
      have abh:=hφ j I3 hj
      have Sj:=(ma.at_ l 0 hS j l[j] qv<|by simpa using I3)
      simp only[am2] at Sj
      obtain⟨dj,D8⟩:∃dj,(l[j]).dst=some dj:=by
       rw[amq] at hD
       have:=hD l[j]<|dJ (i:=j)<|by rw[amL,aml I3];exact qv
       exact amG.1 this
      have hDj:iM l j=dj:=by unfold iM;rw[qv];simp[D8]
      have gE:dj≠di:=by
       rintro rfl
       have lD:=oA _ hN
       unfold i' at lD
       exact np<|gU (·.dst) (l.take k) lD i j o l[j] (by rw[amL,aml sY];exact pU) (by rw[amL,aml I3];exact qv) (by simp[uO])<|by simp[uO,D8]
      rw[hDj] at abh ⊢
      rw[uO,show cU f (some di) v=b9 f di v from rfl,jq f v gE]
      exact Sj.mono _ _ _ hxw abh
    ·have nn:listed.getD q false=true:=by
      by_cases np:i=j
      ·subst np
       rw[pU] at qv
       cases qv
       obtain⟨e,he,xb,uL⟩:=v8.1 hq
       rw[←uL];exact zU e he xb
      ·rw[getD_set_ne false np] at hj
       exact hC j oj hj qv q hq
     by_cases sX:i=q
     ·subst sX;rw[LX] at nn;cases nn
     ·rw[getD_set_ne false sX];exact nn
theorem dr {id:Nat} {Q:Exit→Act→World→Prop} {f:aS} {w:World} (k:Nat) (Φ:List (Value→World→Prop)) (hm:P.follows .mixedOrders=true) (pW:NZ n k l=true)
  (hS:ma P n l k Φ f w 0 l)
  (vn:∀f' w',(∀t,(i' k l).contains t=false→f' t=f t)→Ext w w'→(∀i,Nat.blt i k=true→zv Φ i (f' (iM l i)) w')→WL P n l.toArray Q (l.drop k) f' w'):
  WC P n (.region id l.toArray true) Q f w:=by
 refine wp_region_any hm ?_
 have h:=wpAny_first (P:=P) (w0:=w) (f0:=f) (Q:=Q) pW hS vn l.length (Array.replicate l.length false) (bZ n f) w.drew (by simp) (fun i _=>by simp[Array.getD]) (by simp) ⟨f,rfl,fun _ _=>rfl,Ext.drew w,fun i hi h=>(by
  have h2:(Array.replicate l.length false).getD i false=false:=by
   simp only[Array.getD];split<;>simp
  rw[h2] at h;cases h),fun i o h _ _ _=>(by
  have h2:(Array.replicate l.length false).getD i false=false:=by
   simp only[Array.getD];split<;>simp
  rw[h2] at h;cases h)⟩
 simpa using h
end
abbrev eV (x:Value):Value→World→Prop:=fun v _=>v=x
theorem d0 {f' f:aS} {d:Option Nat} {v:Value} {w:World} {ai:Value→World→Prop} (e:f'=cU f d v) (h:ai v w):∃v,f'=cU f d v∧Ext w w∧ai v w:=⟨v,e,Ext.refl w,h⟩
theorem dc {P:Program} {n:Nat} {l:List Oper} {k:Nat} {Φ:List (Value→World→Prop)} {f0:aS} {w0:World} {i:Nat} {o:Oper} {r:List Oper}
  (go:∀f w,(∀t,(i' k l).contains t=false→f t=f0 t)→Ext w0 w→(∀j,kH o j=true→Nat.blt j k=true→zv Φ j (f (iM l j)) w)→SO P n l.toArray o f w (fun f' w'=>∃v,f'=cU f o.dst v∧Ext w w'∧zv Φ i v w'))
  (rest:ma P n l k Φ f0 w0 (i+1) r) (mono:∀v w w',Ext w w'→zv Φ i v w→zv Φ i v w':=by exact fun _ _ _ _ h=>h):ma P n l k Φ f0 w0 i (o::r):=⟨fun _=>⟨go,mono⟩,rest⟩
abbrev C (x:Int):Value:=.int .i64 x
abbrev pV (b o:Nat):Value:=.pointer (some ⟨b,o,none⟩)
theorem BL:(∀b,(b&&true)=b)∧(∀b,(true&&b)=b)∧(∀b,(b&&false)=false)∧(∀b,(false&&b)=false)∧(∀b,(b||true)=true)∧(∀b,(true||b)=true)∧(∀b,(b||false)=b)∧(∀b,(false||b)=b)∧((!true)=false)∧((!false)=true)∧
  (∀(α:Type) (x y:α),cond true x y=x)∧(∀(α:Type) (x y:α),cond false x y=y)∧(∀(α:Type) (x y:α),(some x).getD y=x)∧(∀(α β:Type) (x:α) (f:α→β),(some x).map f=some (f x))∧(∀(α:Type) (l:List α) (i:Nat) (y:α),l.getD i y=(l[i]?).getD y):=by
 refine⟨?_,?_,?_,?_,?_,?_,?_,?_,J,J,fun _ _ _=>rfl,fun _ _ _=>rfl,fun _ _ _=>rfl,fun _ _ _ _=>rfl,fun _ _ _ _=>gZ⟩<;>intro b<;>cases b<;>rfl
end Go.Ew
namespace Go.Ew
open Go.RowKit Go.IntWalk
abbrev aj (x:BitVec 64):Value:=.int .u64 (x.toNat:Int)
def aK (a:Int):Prop:= -9223372036854775808≤a∧a≤9223372036854775807
theorem QX {a:Int} (h:aK a):IntKind.i64.wrap a=a:=i64_in a h
theorem yK (a:Int):IntKind.u64.wrap a=((BitVec.ofInt 64 a).toNat:Int):=by
 rw[IntKind.wrap_u64,an4]
 have h1:(0:Int)≤a%18446744073709551616:=Int.emod_nonneg _ aw
 show a%18446744073709551616=(((a%((2^64:Nat):Int)).toNat:Nat):Int)
 rw[show ((2^64:Nat):Int)=18446744073709551616 from rfl,amT h1]
theorem nT (x:BitVec 64):BitVec.ofInt 64 (x.toNat:Int)=x:=by
 apply anW
 rw[an4]
 have:=x.isLt
 omega
section
variable {P:Program} {n:Nat} {ops:Array Oper} {f:aS} {w:World} {K:aS→World→Prop} {x y c:Operand} {d:Nat} {ty T T2:TypeId} {ps:String} {af:Array Edge} {v v2:Value} {a b:Int} {p q:Bool} {kk kk2:IntKind} {s t:BitVec 64}
theorem mv (ox:bG n x=true) (hx:ev f x=v) (h:K (b9 f d v) w):SO P n ops ⟨some d,.move x,ty,ps,af,none⟩ f w K:=
 SO.value (v:=v) (by simp[execOp,aO ox,hx]) h
theorem jB (ox:bG n x=true) (hx:ev f x=v) (h:K (b9 f d v) w):SO P n ops ⟨some d,.assign x,ty,ps,af,none⟩ f w K:=
 SO.value (v:=v) (by simp[execOp,aO ox,hx]) h
theorem aR (oc:bG n c=true) (ox:bG n x=true) (oy:bG n y=true) (hc:ev f c=.bool p) (hp:p=true) (hx:ev f x=v) (h:K (b9 f d v) w):SO P n ops ⟨some d,.pick c x y,ty,ps,af,none⟩ f w K:=
 SO.value (v:=v) (by simp[execOp,asBool,aO oc,aO ox,aO oy,hc,hp,hx]) h
theorem cK (oc:bG n c=true) (ox:bG n x=true) (oy:bG n y=true) (hc:ev f c=.bool p) (hp:p=false) (hy:ev f y=v) (h:K (b9 f d v) w):SO P n ops ⟨some d,.pick c x y,ty,ps,af,none⟩ f w K:=
 SO.value (v:=v) (by simp[execOp,asBool,aO oc,aO ox,aO oy,hc,hp,hy]) h
theorem jE (ox:bG n x=true) (hx:ev f x=.bool p) (h:K (b9 f d (.bool (!p))) w):SO P n ops ⟨some d,.unOp .not T x,ty,ps,af,none⟩ f w K:=
 SO.value (v:=.bool (!p)) (by simp[execOp,aO ox,hx,Op.unary]) h
theorem bin {op:BinOp} (ox:bG n x=true) (oy:bG n y=true) (hx:ev f x=.int kk a) (hy:ev f y=.int kk2 b) (hr:(binOp op T (.int kk a) (.int kk2 b)).run P w=.ok v w) (h:K (b9 f d v) w):
  SO P n ops ⟨some d,.binOp op T x y T2,ty,ps,af,none⟩ f w K:=
 SO.value (v:=v) (by
  simp only[execOp,aO ox,aO oy,hx,hy]
  have hg:(eqGuard op T x y (.int kk a) (.int kk2 b)).run P w=.ok () w:=by unfold eqGuard;split<;>rfl
  simp[hg,hr,Result.andThen]) h
theorem add (ox:bG n x=true) (oy:bG n y=true) (hx:ev f x=.int .i64 a) (hy:ev f y=.int .i64 b) (hi:aK (a+b)) (h:K (b9 f d (.int .i64 (a+b))) w):SO P n ops ⟨some d,.binOp .add T x y T2,ty,ps,af,none⟩ f w K:=
 bin ox oy hx hy (by simp[binOp,Op.intArith,QX hi]) h
theorem sub (ox:bG n x=true) (oy:bG n y=true) (hx:ev f x=.int .i64 a) (hy:ev f y=.int .i64 b) (hi:aK (a-b)) (h:K (b9 f d (.int .i64 (a-b))) w):SO P n ops ⟨some d,.binOp .sub T x y T2,ty,ps,af,none⟩ f w K:=
 bin ox oy hx hy (by simp[binOp,Op.intArith,QX hi]) h
theorem mul (ox:bG n x=true) (oy:bG n y=true) (hx:ev f x=.int .i64 a) (hy:ev f y=.int .i64 b) (hi:aK (a*b)) (h:K (b9 f d (.int .i64 (a*b))) w):SO P n ops ⟨some d,.binOp .mul T x y T2,ty,ps,af,none⟩ f w K:=
 bin ox oy hx hy (by simp[binOp,Op.intArith,QX hi]) h
theorem quo (ox:bG n x=true) (oy:bG n y=true) (hx:ev f x=.int .i64 a) (hy:ev f y=.int .i64 b) (hi:0≤a∧a≤9223372036854775807∧1≤b) (h:K (b9 f d (.int .i64 (a/b))) w):SO P n ops ⟨some d,.binOp .quo T x y T2,ty,ps,af,none⟩ f w K:=
 bin ox oy hx hy (by
  have hb:b≠0:=by omega
  simp[binOp,Op.intDiv,hb];exact i64_quo a b hi) h
theorem lss (ox:bG n x=true) (oy:bG n y=true) (hx:ev f x=.int kk a) (hy:ev f y=.int kk b) (h:K (b9 f d (.bool (decide (a<b)))) w):SO P n ops ⟨some d,.binOp .lss T x y T2,ty,ps,af,none⟩ f w K:=
 bin ox oy hx hy (by simp[binOp,Op.intCmp]) h
theorem leq (ox:bG n x=true) (oy:bG n y=true) (hx:ev f x=.int kk a) (hy:ev f y=.int kk b) (h:K (b9 f d (.bool (decide (a≤b)))) w):SO P n ops ⟨some d,.binOp .leq T x y T2,ty,ps,af,none⟩ f w K:=
 bin ox oy hx hy (by simp[binOp,Op.intCmp]) h
theorem gtr (ox:bG n x=true) (oy:bG n y=true) (hx:ev f x=.int kk a) (hy:ev f y=.int kk b) (h:K (b9 f d (.bool (decide (b<a)))) w):SO P n ops ⟨some d,.binOp .gtr T x y T2,ty,ps,af,none⟩ f w K:=
 bin ox oy hx hy (by simp[binOp,Op.intCmp]) h
theorem geq (ox:bG n x=true) (oy:bG n y=true) (hx:ev f x=.int kk a) (hy:ev f y=.int kk b) (h:K (b9 f d (.bool (decide (b≤a)))) w):SO P n ops ⟨some d,.binOp .geq T x y T2,ty,ps,af,none⟩ f w K:=
 bin ox oy hx hy (by simp[binOp,Op.intCmp]) h
theorem eql (ox:bG n x=true) (oy:bG n y=true) (hx:ev f x=.int kk a) (hy:ev f y=.int kk b) (h:K (b9 f d (.bool (decide (a=b)))) w):SO P n ops ⟨some d,.binOp .eql T x y T2,ty,ps,af,none⟩ f w K:=
 bin ox oy hx hy (by simp[binOp,Op.intCmp];rfl) h
theorem neq (ox:bG n x=true) (oy:bG n y=true) (hx:ev f x=.int kk a) (hy:ev f y=.int kk b) (h:K (b9 f d (.bool (!decide (a=b)))) w):SO P n ops ⟨some d,.binOp .neq T x y T2,ty,ps,af,none⟩ f w K:=
 bin ox oy hx hy (by simp[binOp,Op.intCmp];rfl) h
theorem KG (ox:bG n x=true) (oy:bG n y=true) (hx:ev f x=.int .i64 a) (hy:ev f y=.int .u64 6) (h:K (b9 f d (.int .i64 (a/64))) w):SO P n ops ⟨some d,.binOp .shr T x y T2,ty,ps,af,none⟩ f w K:=
 bin ox oy hx hy (by
  simp[binOp,Op.shift]
  show a.fdiv (2^min 6 64)=_
  rw[show (2:Int)^min 6 64=64 from rfl,Int.fdiv_eq_ediv_of_nonneg _ aw]) h
theorem Kc (ox:bG n x=true) (oy:bG n y=true) (hx:ev f x=.int .i64 a) (hy:ev f y=.int .i64 63) (h:K (b9 f d (.int .i64 (a%64))) w):SO P n ops ⟨some d,.binOp .and T x y T2,ty,ps,af,none⟩ f w K:=
 bin ox oy hx hy (by
  simp only[binOp,Op.intBits,aoD,aoh,am9,Sem.run_pure]
  have h1:((BitVec.ofInt IntKind.i64.bits a &&& BitVec.ofInt IntKind.i64.bits 63).toNat:Int)=a%64:=by
   show ((BitVec.ofInt 64 a &&& BitVec.ofInt 64 63).toNat:Int)=a%64
   rw[BitVec.toNat_and,an4,show (BitVec.ofInt 64 63).toNat=2^6-1 from rfl,Nat.and_two_pow_sub_one_eq_mod]
   have:(0:Int)≤a%((2^64:Nat):Int):=Int.emod_nonneg _ aw
   omega
  rw[h1,QX (by unfold aK;omega)]) h
theorem Hk (r:BitVec 64):IntKind.u64.wrap (r.toNat:Int)=(r.toNat:Int):=by rw[yK,nT]
theorem CZ (s t:BitVec 64) (ox:bG n x=true) (oy:bG n y=true) (hx:ev f x=aj s) (hy:ev f y=aj t) (h:K (b9 f d (aj (s &&& t))) w):SO P n ops ⟨some d,.binOp .and T x y T2,ty,ps,af,none⟩ f w K:=
 bin ox oy hx hy (by
  have e1:BitVec.ofInt IntKind.u64.bits (s.toNat:Int)=s:=nT s
  have e2:BitVec.ofInt IntKind.u64.bits (t.toNat:Int)=t:=nT t
  simp only[binOp,Op.intBits,aoD,aoh,am9,Sem.run_pure,e1,e2];exact amh (fun z=>Result.ok (Value.int .u64 z) w) (Hk (s &&& t))) h
theorem RP (s t:BitVec 64) (ox:bG n x=true) (oy:bG n y=true) (hx:ev f x=aj s) (hy:ev f y=aj t) (h:K (b9 f d (aj (s ||| t))) w):SO P n ops ⟨some d,.binOp .or T x y T2,ty,ps,af,none⟩ f w K:=
 bin ox oy hx hy (by
  have e1:BitVec.ofInt IntKind.u64.bits (s.toNat:Int)=s:=nT s
  have e2:BitVec.ofInt IntKind.u64.bits (t.toNat:Int)=t:=nT t
  simp only[binOp,Op.intBits,aoD,aoh,am9,Sem.run_pure,e1,e2];exact amh (fun z=>Result.ok (Value.int .u64 z) w) (Hk (s ||| t))) h
theorem ZU (s t:BitVec 64) (ox:bG n x=true) (oy:bG n y=true) (hx:ev f x=aj s) (hy:ev f y=aj t) (h:K (b9 f d (aj (s &&& ~~~t))) w):SO P n ops ⟨some d,.binOp .andNot T x y T2,ty,ps,af,none⟩ f w K:=
 bin ox oy hx hy (by
  have e1:BitVec.ofInt IntKind.u64.bits (s.toNat:Int)=s:=nT s
  have e2:BitVec.ofInt IntKind.u64.bits (t.toNat:Int)=t:=nT t
  simp only[binOp,Op.intBits,aoD,aoh,am9,Sem.run_pure,e1,e2];exact amh (fun z=>Result.ok (Value.int .u64 z) w) (Hk (s &&& ~~~t))) h
theorem Ic (s t:BitVec 64) (ox:bG n x=true) (oy:bG n y=true) (hx:ev f x=aj s) (hy:ev f y=aj t) (h:K (b9 f d (aj (s+t))) w):SO P n ops ⟨some d,.binOp .add T x y T2,ty,ps,af,none⟩ f w K:=
 bin ox oy hx hy (by
  simp only[binOp,Op.intArith,aoD,aoh,am9,Sem.run_pure]
  refine amh (fun z=>Result.ok (Value.int .u64 z) w) ?_
  rw[IntKind.wrap_u64,BitVec.toNat_add];omega) h
theorem aai (s t:BitVec 64) (ox:bG n x=true) (oy:bG n y=true) (hx:ev f x=aj s) (hy:ev f y=aj t) (h:K (b9 f d (aj (s-t))) w):SO P n ops ⟨some d,.binOp .sub T x y T2,ty,ps,af,none⟩ f w K:=
 bin ox oy hx hy (by
  simp only[binOp,Op.intArith,aoD,aoh,am9,Sem.run_pure]
  refine amh (fun z=>Result.ok (Value.int .u64 z) w) ?_
  have:=t.isLt
  rw[IntKind.wrap_u64,BitVec.toNat_sub];omega) h
theorem aaP (s:BitVec 64) (ox:bG n x=true) (hx:ev f x=aj s) (h:K (b9 f d (aj (-s))) w):SO P n ops ⟨some d,.unOp .neg T x,ty,ps,af,none⟩ f w K:=
 SO.value (v:=aj (-s)) (by
  simp only[execOp,aO ox,hx,Op.unary,Op.intArith,aoD,aoh,am9]
  have e:IntKind.u64.wrap (0-(s.toNat:Int))=((-s).toNat:Int):=by
   have:=s.isLt
   rw[IntKind.wrap_u64,BitVec.toNat_neg];omega
  rw[e];simp) h
theorem E5 (s t:BitVec 64) (ox:bG n x=true) (oy:bG n y=true) (hx:ev f x=aj s) (hy:ev f y=aj t) (h:K (b9 f d (aj (s*t))) w):SO P n ops ⟨some d,.binOp .mul T x y T2,ty,ps,af,none⟩ f w K:=
 bin ox oy hx hy (by
  simp only[binOp,Op.intArith,aoD,aoh,am9,Sem.run_pure]
  refine amh (fun z=>Result.ok (Value.int .u64 z) w) ?_
  rw[IntKind.wrap_u64,BitVec.toNat_mul];exact(Int.natCast_emod _ _).symm) h
theorem agZ (s t:BitVec 64) (ht:t≠0#64) (ox:bG n x=true) (oy:bG n y=true) (hx:ev f x=aj s) (hy:ev f y=aj t) (h:K (b9 f d (aj (s/t))) w):SO P n ops ⟨some d,.binOp .quo T x y T2,ty,ps,af,none⟩ f w K:=
 bin ox oy hx hy (by
  have h0:t.toNat≠0:=fun h=>ht (anW h)
  have h1:(t.toNat:Int)≠0:=by omega
  have hs:=s.isLt
  simp only[binOp,Op.intDiv,aoD,aoh,am9,h1,Sem.run_pure]
  refine amh (fun z=>Result.ok (Value.int .u64 z) w) ?_
  rw[u64_quo _ _ aq,BitVec.toNat_udiv];rfl) h
theorem aao (s:BitVec 64) (b:Int) (hb:0≤b) (ox:bG n x=true) (oy:bG n y=true) (hx:ev f x=aj s) (hy:ev f y=.int kk b) (h:K (b9 f d (aj (s <<< b.toNat))) w):SO P n ops ⟨some d,.binOp .shl T x y T2,ty,ps,af,none⟩ f w K:=
 bin ox oy hx hy (by
  have h0:¬b<0:=by omega
  simp only[binOp,Op.shift,h0,am9,Sem.run_pure]
  refine amh (fun z=>Result.ok (Value.int .u64 z) w) ?_
  show IntKind.u64.wrap ((s.toNat:Int)*2^min b.toNat 64)=_
  rw[IntKind.wrap_u64,BitVec.toNat_shiftLeft,Nat.shiftLeft_eq]
  rcases ao2 b.toNat 64 with eM|Bv
  ·rw[anl aq]
   simp
  ·rw[Nat.min_eq_right Bv]
   have e1:s.toNat*2^b.toNat%2^64=0:=by
    rw[show b.toNat=64+(b.toNat-64) from by omega,Nat.pow_add,←Nat.mul_assoc,aoI (s.toNat) _,Nat.mul_assoc]
    exact Nat.mul_mod_right _ _
   rw[e1]
   show (s.toNat:Int)*18446744073709551616%18446744073709551616=0
   exact Int.mul_emod_left _ _) h
theorem agU (s:BitVec 64) (b:Int) (hb:0≤b) (ox:bG n x=true) (oy:bG n y=true) (hx:ev f x=aj s) (hy:ev f y=.int kk b) (h:K (b9 f d (aj (s >>> b.toNat))) w):SO P n ops ⟨some d,.binOp .shr T x y T2,ty,ps,af,none⟩ f w K:=
 bin ox oy hx hy (by
  have h0:¬b<0:=by omega
  simp only[binOp,Op.shift,h0,am9,Sem.run_pure]
  refine amh (fun z=>Result.ok (Value.int .u64 z) w) ?_
  show (s.toNat:Int).fdiv (2^min b.toNat 64)=_
  rw[Int.fdiv_eq_ediv_of_nonneg _ (by have:(0:Int)<2^min b.toNat 64:=Int.pow_pos aw;omega),aoj,aoc]
  rcases ao2 b.toNat 64 with eM|Bv
  ·rw[anl aq]
   simp
  ·rw[Nat.min_eq_right Bv]
   have hs:=s.isLt
   have e1:s.toNat/2^b.toNat=0:=aou (amO hs (Nat.pow_le_pow_right aw Bv))
   rw[e1]
   show (s.toNat:Int)/18446744073709551616=0
   omega) h
theorem Dg (s:BitVec 64) (k:Nat) (ox:bG n x=true) (oy:bG n y=true) (hx:ev f x=aj s) (hy:ev f y=.int kk ((k:Nat):Int)) (h:K (b9 f d (aj (s >>> k))) w):SO P n ops ⟨some d,.binOp .shr T x y T2,ty,ps,af,none⟩ f w K:=
 agU s ((k:Nat):Int) aq ox oy hx hy (by rw[dZ];exact h)
theorem eqU (s t:BitVec 64) (ox:bG n x=true) (oy:bG n y=true) (hx:ev f x=aj s) (hy:ev f y=aj t) (h:K (b9 f d (.bool (decide (s=t)))) w):SO P n ops ⟨some d,.binOp .eql T x y T2,ty,ps,af,none⟩ f w K:=
 bin ox oy hx hy (by
  simp only[binOp,Op.intCmp,aoD,aoh,am9,Sem.run_pure]
  refine amh (fun z=>Result.ok (Value.bool z) w) ?_
  by_cases e:s=t
  ·subst e;simp
  ·have:(s.toNat:Int)≠t.toNat:=fun h=>e (anW aq)
   simp[e,this]) h
theorem neU (s t:BitVec 64) (ox:bG n x=true) (oy:bG n y=true) (hx:ev f x=aj s) (hy:ev f y=aj t) (h:K (b9 f d (.bool (!decide (s=t)))) w):SO P n ops ⟨some d,.binOp .neq T x y T2,ty,ps,af,none⟩ f w K:=
 bin ox oy hx hy (by
  simp only[binOp,Op.intCmp,aoD,aoh,am9,Sem.run_pure]
  refine amh (fun z=>Result.ok (Value.bool z) w) ?_
  by_cases e:s=t
  ·subst e;simp
  ·have:(s.toNat:Int)≠t.toNat:=fun h=>e (anW aq)
   simp[e,this]) h
theorem XL (s t:BitVec 64) (ox:bG n x=true) (oy:bG n y=true) (hx:ev f x=aj s) (hy:ev f y=aj t) (h:K (b9 f d (.bool (decide (t.toNat<s.toNat)))) w):SO P n ops ⟨some d,.binOp .gtr T x y T2,ty,ps,af,none⟩ f w K:=
 bin ox oy hx hy (by
  simp only[binOp,Op.intCmp,aoD,aoh,am9,Sem.run_pure]
  refine amh (fun z=>Result.ok (Value.bool z) w) ?_
  simp) h
theorem cv {e:TypeDesc} {k2:IntKind} (ox:bG n x=true) (hx:ev f x=.int kk a) (h1:P.underlying T=some e) (h2:P.underlying T2=some (.int k2)) (h:K (b9 f d (.int k2 (k2.wrap a))) w):
  SO P n ops ⟨some d,.convert T T2 x,ty,ps,af,none⟩ f w K:=
 SO.value (v:=.int k2 (k2.wrap a)) (by simp[execOp,aO ox,hx,convert,underlying,h1,h2,Conv.intToInt]) h
theorem OI {e:TypeDesc} (ox:bG n x=true) (hx:ev f x=.int kk a) (h1:P.underlying T=some e) (h2:P.underlying T2=some (.int .u64)) (h:K (b9 f d (aj (BitVec.ofInt 64 a))) w):
  SO P n ops ⟨some d,.convert T T2 x,ty,ps,af,none⟩ f w K:=
 cv ox hx h1 h2 (by rw[yK];exact h)
theorem cvI {e:TypeDesc} (ox:bG n x=true) (hx:ev f x=.int kk a) (hi:aK a) (h1:P.underlying T=some e) (h2:P.underlying T2=some (.int .i64)) (h:K (b9 f d (.int .i64 a)) w):
  SO P n ops ⟨some d,.convert T T2 x,ty,ps,af,none⟩ f w K:=
 cv ox hx h1 h2 (by rw[QX hi];exact h)
theorem max2 (ox:bG n x=true) (oy:bG n y=true) (hx:ev f x=.int kk a) (hy:ev f y=.int kk b) {Mw:Array TypeId} (h:K (b9 f d (.int kk (max a b))) w):
  SO P n ops ⟨some d,.call {callee:=.builtin .max,args:=#[x,y],argTypes:=Mw},ty,ps,af,none⟩ f w K:=
 SO.value (v:=.int kk (max a b)) (by
  have:(if b>a then b else a)=max a b:=by split<;>omega
  simp[execOp,resolve,invoke,builtin,Builtin.max_,Builtin.max2,aO ox,aO oy,hx,hy,this]) h
theorem xt {i:Nat} {vs:Array Value} (ox:bG n x=true) (hx:ev f x=.tuple vs) (hi:vs[i]? =some v) (h:K (b9 f d v) w):SO P n ops ⟨some d,.extract x i,ty,ps,af,none⟩ f w K:=
 SO.value (v:=v) (by simp[execOp,Instr.extract,aO ox,hx,hi]) h
def Ga (n:Nat) (L:List Operand):Bool:=L.all (bG n)
theorem yt {L:List Operand} (h:Ga n L=true):L.map (bZ n f).eval=L.map (ev f):=by
 apply anp
 intro x hx
 exact aO<|amq.1 h x hx
theorem mf {fn:Fn} {ae:List Operand} (oc:Ga n ae=true) (h:K (b9 f d (.func fn #[] (ae.map (ev f)).toArray)) w):SO P n ops ⟨some d,.makeFunc fn #[] ae.toArray,ty,ps,af,none⟩ f w K:=
 SO.value (v:=.func fn #[] (ae.map (ev f)).toArray) (by simp[execOp,Instr.makeFunc,yt oc]) h
theorem xz {g:FuncId} {fn:Func} {c:Code} {args:Array Value} (hf:P.funcs[g]? =some fn) (hb:fn.body=some c) (hn:(fn.name== "runtime.NumGoroutine")=false):
  (callFunc g args).run P w=.ok (.enter g args) w:=by
 simp only[beq_eq_false_iff_ne,aoD] at hn
 simp[callFunc,hf,hb,hn]
def ct (P:Program) (g:FuncId):Prop:=∃fn c,P.funcs[g]? =some fn∧fn.body=some c∧(fn.name== "runtime.NumGoroutine")=false
theorem e0:([]:List Operand).map (ev f)=[]:=rfl
theorem ec {L:List Operand} {vs:List Value} (h:ev f x=v) (t:L.map (ev f)=vs):(x::L).map (ev f)=v::vs:=by
 rw[amJ,h,t]
theorem ca {g:FuncId} {L:List Operand} {vs:List Value} {Mw:Array TypeId} {ai:Value→World→Prop} (G:ct P g) (ol:Ga n L=true) (hL:L.map (ev f)=vs)
  (hc:Calls P g vs.toArray w (cb ai)) (h:∀v w',ai v w'→K (b9 f d v) w'):
  SO P n ops ⟨some d,.call {callee:=.value (.func g),args:=L.toArray,argTypes:=Mw},ty,ps,af,none⟩ f w K:=by
 obtain⟨fn,c,hf,hb,hn⟩:=G
 subst hL
 exact SO.enter (g:=g) (args:=(L.map (ev f)).toArray) (w':=w) (by
  simp only[execOp,resolve,aoi,yt ol]
  show ((Deferred.ofValue (.func (.func g) #[] #[]) (L.map (ev f)).toArray >>=fun d=>invoke d.target d.args).run P w)=_
  simp[Deferred.ofValue,invoke,xz hf hb hn]) (hc.mono fun e w' hr=>by
   obtain⟨v,rfl,hv⟩:=hr
   exact⟨v,rfl,h v w' hv⟩)
theorem cf {fx:Operand} {g:FuncId} {L:List Operand} {vs ae:List Value} {Mw:Array TypeId} {ai:Value→World→Prop} (G:ct P g)
  (ofx:bG n fx=true) (ol:Ga n L=true) (hfx:ev f fx=.func (.func g) #[] ae.toArray) (hL:L.map (ev f)=vs)
  (hc:Calls P g (vs++ae).toArray w (cb ai)) (h:∀v w',ai v w'→K (b9 f d v) w'):
  SO P n ops ⟨some d,.call {callee:=.value fx,args:=L.toArray,argTypes:=Mw},ty,ps,af,none⟩ f w K:=by
 obtain⟨fn,c,hf,hb,hn⟩:=G
 subst hL
 exact SO.enter (g:=g) (args:=(L.map (ev f)++ae).toArray) (w':=w) (by
  simp only[execOp,resolve,aoi,yt ol,aO ofx,hfx]
  simp[Deferred.ofValue,invoke,xz hf hb hn]) (hc.mono fun e w' hr=>by
   obtain⟨v,rfl,hv⟩:=hr
   exact⟨v,rfl,h v w' hv⟩)
end
end Go.Ew
namespace Go.Ew
open Go.RowKit
def Up (M:Nat→Prop) (w:World) (M':Nat→Prop) (w':World):Prop:=
 w.heap.size≤w'.heap.size∧∀b,b<w.heap.size→¬M b→w'.heap[b]? =w.heap[b]?∧¬M' b
theorem Up.refl (M:Nat→Prop) (w:World):Up M w M w:=⟨amk _,fun _ _ h=>⟨rfl,h⟩⟩
theorem Up.trans {M M' M'':Nat→Prop} {w w' mo:World} (h:Up M w M' w') (k:Up M' w' M'' mo):Up M w M'' mo:=
 ⟨Nat.le_trans h.1 k.1,fun b hb hM=>by
  have h1:=h.2 b hb hM
  have h2:=k.2 b (amO hb h.1) h1.2
  exact⟨h2.1.trans h1.1,h2.2⟩⟩
theorem Up.ext {M:Nat→Prop} {w w':World} (h:Ext w w'):Up M w M w':=⟨h.size,fun b hb hM=>⟨h.block b hb,hM⟩⟩
theorem Up.less {M M':Nat→Prop} {w:World} (h:∀b,b<w.heap.size→M' b→M b):Up M w M' w:=⟨amk _,fun b hb hM=>⟨rfl,fun h'=>hM (h b hb h')⟩⟩
theorem pC {w:World} {ad:Addr} {v:Value} (h:w.cell? ad=some v):ad.block<w.heap.size:=World.block_lt_of_cell? w ad h
theorem Up.cell {M M':Nat→Prop} {w w':World} (h:Up M w M' w') {ad:Addr} {v:Value} (hM:¬M ad.block) (hc:w.cell? ad=some v):w'.cell? ad=some v:=
 (World.cell?_of_block (h.2 _ (pC hc) hM).1).trans hc
theorem u2 (a:Addr) (j:Nat):(a.add j).block=a.block:=by unfold Addr.add;split<;>rfl
theorem add_add (a:Addr) (i j:Nat):(a.add i).add j=a.add (i+j):=by
 unfold Addr.add
 by_cases hi:i=0
 ·subst hi;simp
 ·by_cases hj:j=0
  ·subst hj;simp
  ·simp[hi,hj,aoU]
class GT (α:Type) where
 size:Nat
 agg:Bool
 rep:(Nat→Prop)→World→List Value→α→Prop
 len:∀{M w cs x},rep M w cs x→cs.length=size
 one:∀{M w cs x},rep M w cs x→∀c∈cs,c.oneCell'=true
 single:agg=false→size=1
 pos:0<size
 lift:∀{M w M' w' cs x},rep M w cs x→Up M w M' w'→rep M' w' cs x
def sc (agg:Bool) (cs:List Value):Value:=bif agg then .agg cs.toArray else cs.headD undef
theorem Tx {agg:Bool} {cs:List Value} (h:agg=false→cs.length=1) (h1:∀c∈cs,c.oneCell'=true):(sc agg cs).cells=cs.toArray:=by
 cases agg with
 |true=>rfl
 |false=>
  match cs,h rfl with
  |[c],_=>
   have:=h1 c<|by simp
   cases c<;>first|rfl|cases this
def RV {α:Type} [GT α] (M:Nat→Prop) (w:World) (v:Value) (x:α):Prop:=∃cs,GT.rep M w cs x∧v=sc (GT.agg α) cs
def At {α:Type} [GT α] (M:Nat→Prop) (w:World) (ad:Addr) (x:α):Prop:=∃cs,GT.rep M w cs x∧¬M ad.block∧∀j v,cs[j]? =some v→w.cell? (ad.add j)=some v
theorem RV.lift {α:Type} [GT α] {M M':Nat→Prop} {w w':World} {v:Value} {x:α} (h:RV M w v x) (u:Up M w M' w'):RV M' w' v x:=
 let ⟨cs,h1,h2⟩:=h;⟨cs,GT.lift h1 u,h2⟩
theorem At.lift {α:Type} [GT α] {M M':Nat→Prop} {w w':World} {ad:Addr} {x:α} (h:At M w ad x) (u:Up M w M' w'):At M' w' ad x:=by
 obtain⟨cs,h1,h2,h3⟩:=h
 have gE:0<cs.length:=by rw[GT.len h1];exact GT.pos
 have eM:ad.block<w.heap.size:=by
  have:=h3 0 cs[0]<|eP gE
  have:=pC this
  rwa [u2] at this
 exact⟨cs,GT.lift h1 u,(u.2 _ eM h2).2,fun j v hv=>u.cell (by rw[u2];exact h2) (h3 j v hv)⟩
instance alM:GT Int where
 size:=1
 agg:=false
 rep _ _ cs x:=cs=[.int .i64 x]∧aK x
 len h:=by rw[h.1];rfl
 one h:=by rw[h.1];simp[Value.oneCell']
 single _:=rfl
 pos:=by decide
 lift h _:=h
instance gBV:GT (BitVec 64) where
 size:=1
 agg:=false
 rep _ _ cs x:=cs=[aj x]
 len h:=by rw[h];rfl
 one h:=by rw[h];simp[Value.oneCell']
 single _:=rfl
 pos:=by decide
 lift h _:=h
abbrev U8 (x:BitVec 8):Value:=.int .u8 (x.toNat:Int)
instance gB8:GT (BitVec 8) where
 size:=1
 agg:=false
 rep _ _ cs x:=cs=[U8 x]
 len h:=by rw[h];rfl
 one h:=by rw[h];simp[Value.oneCell']
 single _:=rfl
 pos:=by decide
 lift h _:=h
instance ak6:GT Bool where
 size:=1
 agg:=false
 rep _ _ cs x:=cs=[.bool x]
 len h:=by rw[h];rfl
 one h:=by rw[h];simp[Value.oneCell']
 single _:=rfl
 pos:=by decide
 lift h _:=h
instance alL:GT ByteArray where
 size:=1
 agg:=false
 rep _ _ cs x:=cs=[.string x]∧x.size≤maxLen
 len h:=by rw[h.1];rfl
 one h:=by rw[h.1];simp[Value.oneCell']
 single _:=rfl
 pos:=by decide
 lift h _:=h
instance ak4 {α β:Type} [GT α] [GT β]:GT (α×β) where
 size:=GT.size α+GT.size β
 agg:=true
 rep M w cs x:=∃c1 c2,cs=c1++c2∧GT.rep M w c1 x.1∧GT.rep M w c2 x.2
 len:=by
  rintro M w cs x ⟨c1,c2,rfl,h1,h2⟩
  rw[gf,GT.len h1,GT.len h2]
 one:=by
  rintro M w cs x ⟨c1,c2,rfl,h1,h2⟩ c hc
  rcases amH.1 hc with h|h
  ·exact GT.one h1 c h
  ·exact GT.one h2 c h
 single h:=by cases h
 pos:=by have:=GT.pos (α:=α);omega
 lift:=by
  rintro M w M' w' cs x ⟨c1,c2,rfl,h1,h2⟩ u
  exact⟨c1,c2,J,GT.lift h1 u,GT.lift h2 u⟩
def T1 {α:Type} [GT α] (M:Nat→Prop) (w:World) (ad:Addr) (xs:List α):Prop:=
 ∀i x,xs[i]? =some x→At M w (ad.add (i*GT.size α)) x
def RS {α:Type} [GT α] (M:Nat→Prop) (w:World) (v:Value) (xs:List α):Prop:=
 ∃a n c,v=.slice a n c∧xs.length=n∧n≤c∧c≤maxLen∧(n=0∨∃ad,a=some ad∧T1 M w ad xs)
theorem RS.lift {α:Type} [GT α] {M M':Nat→Prop} {w w':World} {v:Value} {xs:List α} (h:RS M w v xs) (u:Up M w M' w'):RS M' w' v xs:=by
 obtain⟨a,n,c,h1,h2,h3,h4,h5⟩:=h
 refine⟨a,n,c,h1,h2,h3,h4,?_⟩
 rcases h5 with h5|⟨ad,h5,h6⟩
 ·exact .inl h5
 ·exact .inr ⟨ad,h5,fun i x hx=>(h6 i x hx).lift u⟩
instance ak5 {α:Type} [GT α]:GT (List α) where
 size:=1
 agg:=false
 rep M w cs xs:=∃v,cs=[v]∧RS M w v xs
 len:=by rintro M w cs x ⟨v,rfl,_⟩;rfl
 one:=by
  rintro M w cs x ⟨v,rfl,a,n,c,rfl,_⟩ c hc
  simp at hc;subst hc;rfl
 single _:=rfl
 pos:=by decide
 lift:=by
  rintro M w M' w' cs x ⟨v,rfl,h⟩ u
  exact⟨v,J,h.lift u⟩
theorem RV.int {M:Nat→Prop} {w:World} {v:Value} {x:Int}:RV M w v x↔v=.int .i64 x∧aK x:=by
 constructor
 ·rintro⟨cs,⟨rfl,h⟩,rfl⟩;exact⟨rfl,h⟩
 ·rintro⟨rfl,h⟩;exact⟨_,⟨rfl,h⟩,rfl⟩
theorem RV.bv {M:Nat→Prop} {w:World} {v:Value} {x:BitVec 64}:RV M w v x↔v=aj x:=by
 constructor
 ·rintro⟨cs,rfl,rfl⟩;rfl
 ·rintro rfl;exact⟨_,rfl,rfl⟩
theorem RV.b8 {M:Nat→Prop} {w:World} {v:Value} {x:BitVec 8}:RV M w v x↔v=U8 x:=by
 constructor
 ·rintro⟨cs,rfl,rfl⟩;rfl
 ·rintro rfl;exact⟨_,rfl,rfl⟩
theorem RV.bool {M:Nat→Prop} {w:World} {v:Value} {x:Bool}:RV M w v x↔v=.bool x:=by
 constructor
 ·rintro⟨cs,rfl,rfl⟩;rfl
 ·rintro rfl;exact⟨_,rfl,rfl⟩
theorem RV.str {M:Nat→Prop} {w:World} {v:Value} {x:ByteArray}:RV M w v x↔v=.string x∧x.size≤maxLen:=by
 constructor
 ·rintro⟨cs,⟨rfl,h⟩,rfl⟩;exact⟨rfl,h⟩
 ·rintro⟨rfl,h⟩;exact⟨_,⟨rfl,h⟩,rfl⟩
theorem RV.list {α:Type} [GT α] {M:Nat→Prop} {w:World} {v:Value} {xs:List α}:RV M w v xs↔RS M w v xs:=by
 constructor
 ·rintro⟨cs,⟨u,rfl,h⟩,rfl⟩;exact h
 ·intro h;exact⟨[v],⟨v,rfl,h⟩,rfl⟩
structure Item where
 jx:Option Nat
 holds:(Nat→Prop)→World→Prop
 lift:∀{M M' w w'},holds M w→Up M w M' w'→(∀b,jx=some b→w'.heap[b]? =w.heap[b]?)→holds M' w'
def sU {α:Type} [GT α] (v:Value) (x:α):Item:=⟨none,fun M w=>RV M w v x,fun h u _=>h.lift u⟩
def qJ {α:Type} [GT α] (ad:Addr) (x:α):Item:=⟨none,fun M w=>At M w ad x,fun h u _=>h.lift u⟩
def box (b:Nat) (cs:Array Value) (t:TypeId):Item:=⟨some b,fun M w=>w.heap[b]? =some (.cells cs t (0,0)),fun h u hb=>(hb b rfl).trans h⟩
def bu {α:Type} [GT α] (M:Nat→Prop) (w:World):List Value→List α→Prop
 |cs,[]=>cs=[]
 |cs,x::xs=>∃c1 c2,cs=c1++c2∧GT.rep M w c1 x∧bu M w c2 xs
theorem bu.lift {α:Type} [GT α] {M M':Nat→Prop} {w w':World} (u:Up M w M' w'):∀{xs:List α} {cs:List Value},bu M w cs xs→bu M' w' cs xs
 |[],_,h=>h
 |x::xs,cs,⟨c1,c2,h1,h2,h3⟩=>⟨c1,c2,h1,GT.lift h2 u,bu.lift u h3⟩
theorem bu.length {α:Type} [GT α] {M:Nat→Prop} {w:World}:∀{xs:List α} {cs:List Value},bu M w cs xs→cs.length=xs.length*GT.size α
 |[],_,h=>by rw[show _=[] from h];simp
 |x::xs,cs,⟨c1,c2,h1,h2,h3⟩=>by rw[h1,gf,GT.len h2,bu.length h3,iB,am8];omega
theorem bu.append {α:Type} [GT α] {M:Nat→Prop} {w:World}:∀{xs ys:List α} {cs ds:List Value},bu M w cs xs→bu M w ds ys→bu M w (cs++ds) (xs++ys)
 |[],ys,cs,ds,h,k=>by rw[show cs=[] from h];exact k
 |x::xs,ys,cs,ds,⟨c1,c2,h1,h2,h3⟩,k=>⟨c1,c2++ds,by rw[h1,ana],h2,bu.append h3 k⟩
theorem bu.AK {α:Type} [GT α] {M:Nat→Prop} {w:World}:∀{xs:List α} {cs:List Value},bu M w cs xs→∀c∈cs,c.oneCell'=true
 |[],_,h,c,hc=>by rw[show _=[] from h] at hc;cases hc
 |x::xs,cs,⟨c1,c2,h1,h2,h3⟩,c,hc=>by
  rw[h1] at hc
  rcases amH.1 hc with h|h
  ·exact GT.one h2 c h
  ·exact bu.AK h3 c h
theorem bu.at_ {α:Type} [GT α] {M:Nat→Prop} {w:World}:∀{xs:List α} {cs:List Value},bu M w cs xs→∀i x,xs[i]? =some x→∃c,GT.rep M w c x∧∀j v,c[j]? =some v→cs[i*GT.size α+j]? =some v
 |[],_,_,i,x,hx=>by simp at hx
 |y::xs,cs,⟨c1,c2,h1,h2,h3⟩,i,x,hx=>by
  cases i with
  |zero=>
   simp at hx;subst hx
   refine⟨c1,h2,fun j v hv=>?_⟩
   have hj:j<c1.length:=(ef.1 hv).1
   rw[h1,aoH,am2,qK hj];exact hv
  |succ i=>
   simp at hx
   obtain⟨c,yl,zV⟩:=bu.at_ h3 i x hx
   refine⟨c,yl,fun j v hv=>?_⟩
   have hl:=GT.len h2
   rw[h1,oR (by rw[hl,am8];omega),hl]
   have:=zV j v hv
   rw[show (i+1)*GT.size α+j-GT.size α=i*GT.size α+j from by rw[am8];omega]
   exact this
def own {α:Type} [GT α] (B:Nat) (e:TypeId) (v:Value) (xs:List α):Item:=
 ⟨v.ownBlock,fun M w=>∃cs,w.ownsRow B e (GT.size α) v xs.length cs∧bu M w cs xs,fun {M M' w w'} h u hb=>by
  obtain⟨cs,h1,h2⟩:=h
  refine⟨cs,⟨h1.1,?_⟩,bu.lift u h2⟩
  rcases h1.2 with h3|⟨g,cap,cur,rfl,h4,h5,h6⟩
  ·exact .inl h3
  ·exact .inr ⟨g,cap,cur,rfl,h4,(hb g rfl).trans h5,h6⟩⟩
def MS (M0:Nat→Prop) (l:List Item) (b:Nat):Prop:=M0 b∨∃it∈l,it.jx=some b
structure HI (M0:Nat→Prop) (w0 w:World) (l:List Item):Prop where
 below:Ext w0 w
 m0:∀b,M0 b→b<w0.heap.size
 ji:∀it∈l,∀b,it.jx=some b→w0.heap.size≤b∧b<w.heap.size
 nodup:(l.filterMap (·.jx)).Nodup
 all:∀it∈l,it.holds (MS M0 l) w
abbrev HI.fW {M0:Nat→Prop} {w0 w:World} {l:List Item} (_:HI M0 w0 w l):Nat→Prop:=MS M0 l
section
variable {M0:Nat→Prop} {w0 w w':World} {l:List Item} {it nk:Item}
theorem HI.at_ (h:HI M0 w0 w l) (i:Nat) (hi:l[i]? =some it):it.holds (MS M0 l) w:=h.all it (dJ hi)
theorem HI.mb (h:HI M0 w0 w l):∀b,MS M0 l b→b<w.heap.size:=by
 rintro b (hb|⟨it,hit,hb⟩)
 ·exact amO (h.m0 b hb) h.below.size
 ·exact(h.ji it hit b hb).2
theorem HI.start (hM:∀b,M0 b→b<w.heap.size):HI M0 w w []:=
 ⟨Ext.refl w,hM,fun _ h=>(by cases h),ao',fun _ h=>(by cases h)⟩
theorem HI.ext (h:HI M0 w0 w l) (x:Ext w w'):HI M0 w0 w' l:=
 ⟨h.below.trans x,h.m0,fun it hit b hb=>⟨(h.ji it hit b hb).1,amO (h.ji it hit b hb).2 x.size⟩,h.nodup,
  fun it hit=>it.lift (h.all it hit) (Up.ext x) fun b hb=>x.block b (h.ji it hit b hb).2⟩
theorem aE (hn:it.jx=none):MS M0 (it::l)=MS M0 l:=by
 funext b
 simp only[MS,amz,eq_iff_iff]
 constructor
 ·rintro(h|⟨i,rfl|hi,hb⟩)
  ·exact .inl h
  ·rw[hn] at hb;cases hb
  ·exact .inr ⟨i,hi,hb⟩
 ·rintro(h|⟨i,hi,hb⟩)
  ·exact .inl h
  ·exact .inr ⟨i,.inr hi,hb⟩
theorem HI.put (h:HI M0 w0 w l) (hn:it.jx=none) (hh:it.holds (MS M0 l) w):HI M0 w0 w (it::l):=by
 refine⟨h.below,h.m0,?_,by simpa [am6,hn] using h.nodup,?_⟩
 ·intro i hi b hb
  rcases amz.1 hi with rfl|hi
  ·rw[hn] at hb;cases hb
  ·exact h.ji i hi b hb
 ·rw[aE hn]
  intro i hi
  rcases amz.1 hi with rfl|hi
  ·exact hh
  ·exact h.all i hi
theorem HI.new (h:HI M0 w0 w l) (x:Ext w w') (b:Nat) (hn:it.jx=some b) (hb:w.heap.size≤b) (uP:b<w'.heap.size) (hh:it.holds (MS M0 (it::l)) w'):HI M0 w0 w' (it::l):=by
 refine⟨h.below.trans x,h.m0,?_,?_,?_⟩
 ·intro i hi c hc
  rcases amz.1 hi with rfl|hi
  ·rw[hn] at hc;cases hc;exact⟨Nat.le_trans h.below.size hb,uP⟩
  ·exact⟨(h.ji i hi c hc).1,amO (h.ji i hi c hc).2 x.size⟩
 ·rw[am6,hn]
  refine anm.2 ⟨?_,h.nodup⟩
  intro hm
  obtain⟨i,hi,Bu⟩:=amK.1 hm
  have:=(h.ji i hi b Bu).2
  omega
 ·intro i hi
  rcases amz.1 hi with rfl|hi
  ·exact hh
  ·refine i.lift (h.all i hi) ⟨x.size,fun c hc hM=>⟨x.block c hc,?_⟩⟩ fun c hc=>x.block c (h.ji i hi c hc).2
   rintro(LQ|⟨j,hj,xa⟩)
   ·exact hM<|.inl LQ
   ·rcases amz.1 hj with rfl|hj
    ·rw[hn] at xa;cases xa;omega
    ·exact hM<|.inr ⟨j,hj,xa⟩
theorem HI.vc (h:HI M0 w0 w l) (i:Nat) (hi:l[i]? =some it) (hos:w'.os=w.os) (hta:w'.tape=w.tape) (hou:w'.output=w.output) (hs:w.heap.size≤w'.heap.size) (hdr:w.drawn≤w'.drawn)
  (hk:∀c,c<w.heap.size→it.jx≠some c→w'.heap[c]? =w.heap[c]?)
  (hb:∀b,nk.jx=some b→b<w'.heap.size∧(it.jx=some b∨w.heap.size≤b))
  (hh:nk.holds (MS M0 (l.set i nk)) w'):HI M0 w0 w' (l.set i nk):=by
 have jA:i<l.length:=(ef.1 hi).1
 have hit:it∈l:=dJ hi
 have AZ:∀j,j∈l.set i nk→j=nk∨∃m,m≠i∧l[m]? =some j:=by
  intro j hj
  obtain⟨m,hm,rfl⟩:=aod.1 hj
  rw[aoX]
  split
  ·exact .inl rfl
  ·rename_i gE
   exact .inr ⟨m,fun e=>gE e.symm,eP (by simpa using hm)⟩
 
 have LN:∀m j b,m≠i→l[m]? =some j→j.jx=some b→it.jx≠some b:=by
  intro m j b hm hj vD Bu
  exact hm<|gU (·.jx) l h.nodup m i j it hj hi (by rw[vD];rfl)<|by rw[vD,Bu]
 refine⟨⟨⟨hos.trans h.below.os,hta.trans h.below.tape,hou.trans h.below.output,Nat.le_trans h.below.size hs,fun c hc=>?_⟩,Nat.le_trans h.below.drawn hdr⟩,h.m0,?_,?_,?_⟩
 ·rw[hk c (amO hc h.below.size) (fun e=>by have:=(h.ji it hit c e).1;omega)]
  exact h.below.block c hc
 ·intro j hj b vD
  rcases AZ j hj with rfl|⟨m,hm,zT⟩
  ·obtain⟨h1,h2⟩:=hb b vD
   refine⟨?_,h1⟩
   rcases h2 with h2|h2
   ·exact(h.ji it hit b h2).1
   ·exact Nat.le_trans h.below.size h2
  ·have:=h.ji j (dJ zT) b vD
   exact⟨this.1,amO this.2 hs⟩
 ·
  have abo:l=l.take i++it::l.drop (i+1):=by
   have h1:=ant i l
   rw[anb jA] at h1
   have h2:l[i]=it:=by
    have:=eP jA
    rw[hi] at this
    exact(amo this).symm
   rw[h2] at h1
   exact h1.symm
  have ahd:l.set i nk=l.take i++nk::l.drop (i+1):=by
   rw[List.set_eq_take_append_cons_drop,aml jA]
  have lD:=h.nodup
  rw[abo] at lD
  rw[ahd]
  simp only[aos,am6] at lD ⊢
  have Lx:((l.take i).filterMap (·.jx)++(l.drop (i+1)).filterMap (·.jx)).Nodup:=by
   refine aoK ?_ lD
   refine List.Sublist.append (List.Sublist.refl _) ?_
   cases it.jx with
   |none=>exact List.Sublist.refl _
   |some b=>exact List.sublist_cons_self _ _
  cases By:nk.jx with
  |none=>simpa [By] using Lx
  |some b=>
   simp only[]
   have abK:∀j,(j∈l.take i∨j∈l.drop (i+1))→j.jx≠some b:=by
    intro j hj vD
    have zT:∃m,m≠i∧l[m]? =some j:=by
     rcases hj with hj|hj
     ·obtain⟨m,hm,rfl⟩:=aod.1 hj
      simp only[ij] at hm
      exact⟨m,by omega,by rw[List.getElem_take];exact eP aq⟩
     ·obtain⟨m,hm,rfl⟩:=aod.1 hj
      simp only[amF] at hm
      exact⟨i+1+m,by omega,by rw[List.getElem_drop];exact eP aq⟩
    obtain⟨m,hm,zT⟩:=zT
    rcases (hb b By).2 with h2|h2
    ·exact LN m j b hm zT vD h2
    ·have:=(h.ji j (dJ zT) b vD).2
     omega
   have:((l.take i).filterMap (·.jx)++b::(l.drop (i+1)).filterMap (·.jx)).Nodup:=by
    rw[an_] at Lx ⊢
    refine⟨Lx.1,anm.2 ⟨?_,Lx.2.1⟩,?_⟩
    ·intro hm
     obtain⟨j,hj,vD⟩:=amK.1 hm
     exact abK j (.inr hj) vD
    ·intro c hc c' LQ he
     subst he
     rcases amz.1 LQ with rfl|LQ
     ·obtain⟨j,hj,vD⟩:=amK.1 hc
      exact abK j (.inl hj) vD
     ·exact Lx.2.2 c hc c LQ J
   exact this
 ·intro j hj
  rcases AZ j hj with rfl|⟨m,hm,zT⟩
  ·exact hh
  ·have wZ:=dJ zT
   refine j.lift (h.all j wZ) ⟨hs,fun c hc hM=>?_⟩ fun c hc=>hk c (h.ji j wZ c hc).2 (LN m j c hm zT hc)
   refine⟨hk c hc fun e=>hM (.inr ⟨it,hit,e⟩),?_⟩
   rintro(h1|⟨q,hq,hqc⟩)
   ·exact hM<|.inl h1
   ·rcases AZ q hq with rfl|⟨m',hm',iQ⟩
    ·rcases (hb c hqc).2 with h2|h2
     ·exact hM<|.inr ⟨it,hit,h2⟩
     ·omega
    ·exact hM<|.inr ⟨q,dJ iQ,hqc⟩
theorem HI.pick (h:HI M0 w0 w l) (l':List Item) (hs:∀it∈l',it∈l) (hn:(l'.filterMap (·.jx)).Nodup):HI M0 w0 w l':=
 ⟨h.below,h.m0,fun it hit=>h.ji it (hs it hit),hn,fun it hit=>it.lift (h.all it (hs it hit)) (Up.less fun b _ hb=>by
  rcases hb with hb|⟨j,hj,vD⟩
  ·exact .inl hb
  ·exact .inr ⟨j,hs j hj,vD⟩) fun _ _=>rfl⟩
theorem HI.drop (h:HI M0 w0 w l) (i:Nat):HI M0 w0 w (l.eraseIdx i):=
 h.pick _ (fun it hit=>List.mem_of_mem_eraseIdx hit) (h.nodup.sublist ((List.eraseIdx_sublist l i).filterMap _))
theorem HI.tail (h:HI M0 w0 w (it::l)):HI M0 w0 w l:=h.drop 0
theorem HI.out (h:HI M0 w0 w l):Up (MS M0 l) w M0 w:=Up.less fun b _ hb=>.inl hb
end
def Yi {α:Type} [GT α] (M:Nat→Prop) (w0:World) (x:α) (v:Value) (w:World):Prop:=Ext w0 w∧RV M w v x
def adE {α:Type} [GT α] (w0:World) (x:α) (v:Value) (w:World):Prop:=Ext w0 w∧RV (fun b=>b<w0.heap.size) w v x
def adC {α:Type} [GT α] (e:TypeId) (w0:World) (xs:List α) (v:Value) (w:World):Prop:=
 Ext w0 w∧(∀b,v.ownBlock=some b→b<w.heap.size)∧(own w0.heap.size e v xs).holds (fun b=>b<w0.heap.size∨v.ownBlock=some b) w
theorem bE (b:Bool):b=true∨b=false:=Bool.eq_false_or_eq_true b
theorem dT {p:Prop} [Decidable p] (h:decide p=true):p:=am3 h
theorem dF {p:Prop} [Decidable p] (h:decide p=false):¬p:=anU h
abbrev OA:=Option Addr
abbrev R {α:Type} (a:Option Addr) (xs:List α) (c:Nat):Value:=.slice a xs.length c
abbrev iL {α:Type} [GT α] (a:Option Addr) (xs:List α) (c:Nat):Item:=sU (.slice a xs.length c) xs
abbrev oL {α:Type} [GT α] (w:World) (e:TypeId) (a:Option Addr) (xs:List α) (c:Nat):Item:=own w.heap.size e (.slice a xs.length c) xs
end Go.Ew
namespace Go.Ew
open Go.RowKit Go.IntWalk
def adn (P:Program) (t:TypeId):Option Bool:=(P.underlying t).map fun| .struct _| .array _ _=>true|_=>false
structure eh (P:Program) (t:TypeId) (k:Nat) (agg:Bool) (bytes:Nat) (z:Value):Prop where
 i:(P.info? t).map (fun i=>(i.zero,i.size,i.bytes))=some (some z,k,bytes)
 a:adn P t=some agg
section
variable {P:Program} {t e:TypeId} {k bytes:Nat} {agg:Bool} {z:Value} {w:World}
theorem eh.info (F:eh P t k agg bytes z):∃i,P.info? t=some i∧i.zero=some z∧i.size=k∧i.bytes=bytes:=info_parts F.i
theorem eh.IA (F:eh P t k agg bytes z) (w:World):(isAgg t).run P w=.ok agg w:=by
 have h:=F.a
 unfold adn at h
 cases hu:P.underlying t with
 |none=>rw[hu] at h;cases h
 |some d=>
  rw[hu] at h
  simp only[anD,amu] at h
  subst h
  cases d<;>simp[isAgg,underlying,hu]
theorem eh.jf (F:eh P t k agg bytes z) (w:World):(sizeOf t).run P w=.ok k w:=by
 obtain⟨i,h1,_,h2,_⟩:=F.info
 simp[sizeOf,typeInfo,h1,h2]
theorem eh.tL (F:eh P t k agg bytes z) (w:World):(zeroValue t).run P w=.ok z w:=by
 obtain⟨i,h1,h2,_⟩:=F.info
 simp[zeroValue,typeInfo,h1,h2]
theorem gC {d:TypeDesc} (h:P.underlying t=some d) (w:World):(underlying t).run P w=.ok d w:=by simp[underlying,h]
theorem rn (F:eh P t k agg bytes z) (hk:agg=false→k=1) {ad:Addr} {cs:List Value} (hl:cs.length=k) (hc:∀j v,cs[j]? =some v→w.cell? (ad.add j)=some v):
  (loadVar t ad).run P w=.ok (sc agg cs) w:=by
 cases agg with
 |true=>
  subst hl
  simp[loadVar,F.IA,F.jf,run_loadCells_list w ad cs hc,sc]
 |false=>
  match cs,hl,hc with
  |[c],_,hc=>
   have h0:w.cell? ad=some c:=by
    have:=hc 0 c J
    rwa [show ad.add 0=ad from by simp[Addr.add]] at this
   simp[loadVar,F.IA,h0,sc]
  |[],hl,_=>simp at hl;have:=hk rfl;omega
  |_::_::_,hl,_=>simp at hl;have:=hk rfl;omega
end
def gS {α:Type} [GT α] (M:Nat→Prop) (w:World) (ad:Addr) (x:α):Prop:=∃cs,GT.rep M w cs x∧∀j v,cs[j]? =some v→w.cell? (ad.add j)=some v
theorem At.w {α:Type} [GT α] {M:Nat→Prop} {w:World} {ad:Addr} {x:α} (h:At M w ad x):gS M w ad x:=let ⟨cs,h1,_,h3⟩:=h;⟨cs,h1,h3⟩
theorem At.fst {α β:Type} [GT α] [GT β] {M:Nat→Prop} {w:World} {ad:Addr} {x:α×β} (h:At M w ad x):At M w ad x.1:=by
 obtain⟨_,⟨c1,c2,rfl,h1,h2⟩,hM,hc⟩:=h
 exact⟨c1,h1,hM,fun j v hv=>hc j v (by rw[qK (ef.1 hv).1];exact hv)⟩
theorem At.snd {α β:Type} [GT α] [GT β] {M:Nat→Prop} {w:World} {ad:Addr} {x:α×β} (h:At M w ad x):At M w (ad.add (GT.size α)) x.2:=by
 obtain⟨_,⟨c1,c2,rfl,h1,h2⟩,hM,hc⟩:=h
 refine⟨c2,h2,by rw[u2];exact hM,fun j v hv=>?_⟩
 rw[add_add]
 refine hc _ v ?_
 rw[oR (by rw[GT.len h1];omega),GT.len h1]
 rw[show GT.size α+j-GT.size α=j from by omega]
 exact hv
theorem gS.fst {α β:Type} [GT α] [GT β] {M:Nat→Prop} {w:World} {ad:Addr} {x:α×β} (h:gS M w ad x):gS M w ad x.1:=by
 obtain⟨_,⟨c1,c2,rfl,h1,h2⟩,hc⟩:=h
 exact⟨c1,h1,fun j v hv=>hc j v (by rw[qK (ef.1 hv).1];exact hv)⟩
theorem gS.snd {α β:Type} [GT α] [GT β] {M:Nat→Prop} {w:World} {ad:Addr} {x:α×β} (h:gS M w ad x):gS M w (ad.add (GT.size α)) x.2:=by
 obtain⟨_,⟨c1,c2,rfl,h1,h2⟩,hc⟩:=h
 refine⟨c2,h2,fun j v hv=>?_⟩
 rw[add_add]
 refine hc _ v ?_
 rw[oR (by rw[GT.len h1];omega),GT.len h1]
 rw[show GT.size α+j-GT.size α=j from by omega]
 exact hv
section
variable {P:Program} {n:Nat} {ops:Array Oper} {f:aS} {w:World} {K:aS→World→Prop} {x y c:Operand} {d:Nat} {ty T T2 e:TypeId} {ps:String} {af:Array Edge} {v v2:Value} {a b:Int} {M M0:Nat→Prop} {w0:World} {l:List Item} {kk:IntKind} {bytes:Nat} {z:Value} {ad:Addr} {size:Nat} {agg:Bool}
theorem nj {α:Type} [GT α] {xv:α} (hA:gS M w ad xv) (F:eh P T (GT.size α) (GT.agg α) bytes z) (ox:bG n x=true) (hx:ev f x=.pointer (some ad))
  (h:∀v,RV M w v xv→K (b9 f d v) w):SO P n ops ⟨some d,.load T x,ty,ps,af,none⟩ f w K:=by
 obtain⟨cs,h1,h2⟩:=hA
 exact SO.value (v:=sc (GT.agg α) cs) (by
  simp[execOp,aO ox,hx,Instr.loadAt,Instr.sureAddr,rn F GT.single (GT.len h1) h2]) (h _ ⟨cs,h1,rfl⟩)
theorem mQ {i:Int} (hA:gS M w ad i) (F:eh P T 1 false bytes z) (ox:bG n x=true) (hx:ev f x=.pointer (some ad)) (h:aK i→K (b9 f d (.int .i64 i)) w):
  SO P n ops ⟨some d,.load T x,ty,ps,af,none⟩ f w K:=nj hA F ox hx fun v hv=>by obtain⟨rfl,hi⟩:=RV.int.1 hv;exact h hi
theorem yb {u:BitVec 64} (hA:gS M w ad u) (F:eh P T 1 false bytes z) (ox:bG n x=true) (hx:ev f x=.pointer (some ad)) (h:K (b9 f d (aj u)) w):
  SO P n ops ⟨some d,.load T x,ty,ps,af,none⟩ f w K:=nj hA F ox hx fun v hv=>by rw[RV.bv.1 hv];exact h
theorem ld8 {u:BitVec 8} (hA:gS M w ad u) (F:eh P T 1 false bytes z) (ox:bG n x=true) (hx:ev f x=.pointer (some ad)) (h:K (b9 f d (U8 u)) w):
  SO P n ops ⟨some d,.load T x,ty,ps,af,none⟩ f w K:=nj hA F ox hx fun v hv=>by rw[RV.b8.1 hv];exact h
theorem ldB {u:Bool} (hA:gS M w ad u) (F:eh P T 1 false bytes z) (ox:bG n x=true) (hx:ev f x=.pointer (some ad)) (h:K (b9 f d (.bool u)) w):
  SO P n ops ⟨some d,.load T x,ty,ps,af,none⟩ f w K:=nj hA F ox hx fun v hv=>by rw[RV.bool.1 hv];exact h
theorem ldS {u:ByteArray} (hA:gS M w ad u) (F:eh P T 1 false bytes z) (ox:bG n x=true) (hx:ev f x=.pointer (some ad)) (h:u.size≤maxLen→K (b9 f d (.string u)) w):
  SO P n ops ⟨some d,.load T x,ty,ps,af,none⟩ f w K:=nj hA F ox hx fun v hv=>by obtain⟨rfl,hi⟩:=RV.str.1 hv;exact h hi
theorem RS.explicit {α:Type} [GT α] {xs:List α} (h:RS M w v xs):∃a c,v=.slice a xs.length c∧RV M w (.slice a xs.length c) xs:=by
 obtain⟨a,n,c,rfl,rfl,h3⟩:=h
 exact⟨a,c,J,RV.list.2 ⟨a,_,c,J,J,h3⟩⟩
theorem vB {α:Type} [GT α] {xs:List α} (hA:gS M w ad xs) (F:eh P T 1 false bytes z) (ox:bG n x=true) (hx:ev f x=.pointer (some ad))
  (h:∀a c,RV M w (.slice a xs.length c) xs→K (b9 f d (.slice a xs.length c)) w):SO P n ops ⟨some d,.load T x,ty,ps,af,none⟩ f w K:=
 nj hA F ox hx fun v hv=>by obtain⟨a,c,rfl,hr⟩:=(RV.list.1 hv).explicit;exact h a c hr
theorem cq {bb off:Nat} {cs:Array Value} {t:TypeId} {k:Nat} (H:HI M0 w0 w l) (i:Nat) (hi:l[i]? =some (box bb cs t)) (F:eh P T k agg bytes z) (ox:bG n x=true) (hx:ev f x=.pointer (some ⟨bb,off,none⟩))
  (hk:agg=false→k=1) (hl:((cs.toList.drop off).take k).length=k) (h:K (b9 f d (sc agg ((cs.toList.drop off).take k))) w):SO P n ops ⟨some d,.load T x,ty,ps,af,none⟩ f w K:=by
 have hb:w.heap[bb]? =some (.cells cs t (0,0)):=H.at_ i hi
 refine SO.value (v:=sc agg ((cs.toList.drop off).take k)) ?_ h
 have hc:∀j u,((cs.toList.drop off).take k)[j]? =some u→w.cell? ((⟨bb,off,none⟩:Addr).add j)=some u:=by
  intro j u hu
  rw[show (⟨bb,off,none⟩:Addr).add j=⟨bb,off+j,none⟩ from by unfold Addr.add;split<;>simp_all,cell_of_row w bb (off+j) cs t (0,0) hb]
  have hj:j<k:=by
   have:=(ef.1 hu).1
   omega
  rw[amL,aml hj,amY] at hu
  simpa using hu
 simp[execOp,aO ox,hx,Instr.loadAt,Instr.sureAddr,rn F hk hl hc]
theorem lx {bb off:Nat} {cs:Array Value} {t:TypeId} (H:HI M0 w0 w l) (i:Nat) (hi:l[i]? =some (box bb cs t)) (F:eh P T 1 false bytes z) (ox:bG n x=true) (hx:ev f x=.pointer (some ⟨bb,off,none⟩))
  (hl:((cs.toList.drop off).take 1).length=1) (h:K (b9 f d (sc false ((cs.toList.drop off).take 1))) w):SO P n ops ⟨some d,.load T x,ty,ps,af,none⟩ f w K:=cq H i hi F ox hx (fun _=>rfl) hl h
def wr (cs:Array Value) (off:Nat) (vs:List Value):Array Value:=(cs.toList.take off++vs++cs.toList.drop (off+vs.length)).toArray
theorem BX (F:eh P T size agg bytes z) {g o:Nat} {cs:Array Value} {t:TypeId} (hg:w.heap[g]? =some (.cells cs t (0,0))) (hs:v.cells.size=size) (hf:o+v.cells.toList.length≤cs.size) (h1:∀u∈v.cells.toList,u.oneCell'=true):
  (storeVar T ⟨g,o,none⟩ v).run P w=.ok () (w.setRow g (wr cs o v.cells.toList)):=by
 have qq:=run_storeCells_at P g o t v.cells.toList 0 cs w hg (by simpa using hf) h1
 simp only[amX] at qq
 simp[storeVar,F.jf,hs,qq,wr]
theorem HI.wrote {g:Nat} {cs cs':Array Value} {t:TypeId} (H:HI M0 w0 w l) (i:Nat) (hi:l[i]? =some (box g cs t)):HI M0 w0 (w.setRow g cs') (l.set i (box g cs' t)):=by
 have hb:w.heap[g]? =some (.cells cs t (0,0)):=H.at_ i hi
 refine H.vc i hi J J J (by simp) (amk _) (fun c hc gE=>setRow_other w g c _ (fun e=>gE (by rw[e];rfl))) (fun b uP=>?_)<|setRow_heap w g cs _ t _ hb
 refine⟨?_,.inl uP⟩
 rw[size_setRow]
 exact(H.ji _ (dJ hi) b uP).2
theorem bp {dd:Option Nat} {bb off:Nat} {cs:Array Value} {t:TypeId} (H:HI M0 w0 w l) (i:Nat) (hi:l[i]? =some (box bb cs t)) (F:eh P T size agg bytes z) (ox:bG n x=true) (oy:bG n y=true) (hx:ev f x=.pointer (some ⟨bb,off,none⟩)) (hy:ev f y=v)
  (hs:v.cells.size=size) (hf:Nat.ble (off+v.cells.toList.length) cs.size=true) (h1:v.cells.toList.all Value.oneCell'=true)
  (h:∀w',HI M0 w0 w' (l.set i (box bb (wr cs off v.cells.toList) t))→K (cU f dd undef) w'):SO P n ops ⟨dd,.store T x y,ty,ps,af,none⟩ f w K:=by
 have hb:w.heap[bb]? =some (.cells cs t (0,0)):=H.at_ i hi
 refine SO.skip ?_ (h _<|H.wrote i hi)
 simp[execOp,aO ox,aO oy,hx,hy,Instr.storeAt,Instr.sureAddr,BX F hb hs (by simpa using hf) (fun u hu=>amq.1 h1 u hu)]
theorem AM (t:TypeId) (v:Value) (w:World):(newVar t v).run P w=.ok ⟨w.heap.size,0,none⟩ (w.alloc (.cells v.cells t)):=by simp[newVar,newRow]
theorem HI.ac5 (H:HI M0 w0 w l) (cs:Array Value) (t:TypeId):HI M0 w0 (w.alloc (.cells cs t)) (box w.heap.size cs t::l):=
 H.new (Ext.alloc w _) w.heap.size rfl (amk _) (by simp) (heap_alloc_new w _)
theorem al (H:HI M0 w0 w l) (F:eh P T size agg bytes z) (h:∀b w',Ext w w'→HI M0 w0 w' (box b z.cells T::l)→K (b9 f d (.pointer (some ⟨b,0,none⟩))) w'):
  SO P n ops ⟨some d,.alloc T,ty,ps,af,none⟩ f w K:=
 SO.value (v:=.pointer (some ⟨w.heap.size,0,none⟩)) (w':=w.alloc (.cells z.cells T)) (by simp[execOp,Instr.alloc,F.tL,AM]) (h _ _ (Ext.alloc w _) (H.ac5 z.cells T))
theorem bx (H:HI M0 w0 w l) (ox:bG n x=true) (hx:ev f x=v) (h:∀b w',Ext w w'→HI M0 w0 w' (box b v.cells T::l)→K (b9 f d (.pointer (some ⟨b,0,none⟩))) w'):
  SO P n ops ⟨some d,.box T x,ty,ps,af,none⟩ f w K:=
 SO.value (v:=.pointer (some ⟨w.heap.size,0,none⟩)) (w':=w.alloc (.cells v.cells T)) (by simp[execOp,Instr.box,aO ox,hx,AM]) (h _ _ (Ext.alloc w _) (H.ac5 v.cells T))
structure gM (P:Program) (s:TypeId) (j:Nat) (off:Nat):Prop where
 h:∃fs fd,P.underlying s=some (.struct fs)∧fs[j]? =some fd∧fd.offset=off∧((P.info? fd.type).map fun i=>Nat.beq i.size 0)=some false
theorem fa {j off:Nat} (F:gM P T j off) (ox:bG n x=true) (hx:ev f x=.pointer (some ad)) (h:K (b9 f d (.pointer (some (ad.add off)))) w):SO P n ops ⟨some d,.fieldAddr T x j,ty,ps,af,none⟩ f w K:=by
 obtain⟨fs,fd,h1,h2,rfl,h3⟩:=F.h
 obtain⟨i,h4,h6⟩:=amI.1 h3
 have h5:i.size≠0:=by
  intro e
  rw[e] at h6
  cases h6
 exact SO.value (v:=.pointer (some (ad.add fd.offset))) (by
  simp[execOp,aO ox,hx,Instr.fieldAt,gC h1,h2,Instr.sureAddr,fieldPlace,sizeOf,typeInfo,h4,h5]) h
theorem ia {α:Type} [GT α] {xs:List α} {i:Int} (hR:RV M w v xs) (ox:bG n x=true) (oy:bG n y=true) (hx:ev f x=v) (hy:ev f y=.int kk i) (hi:0≤i∧i<xs.length) (hu:P.underlying T=some (.slice e)) (F:eh P e (GT.size α) agg bytes z)
  (h:∀ad xv,xs[i.toNat]? =some xv→At M w ad xv→K (b9 f d (.pointer (some ad))) w):SO P n ops ⟨some d,.indexAddr T x y,ty,ps,af,none⟩ f w K:=by
 obtain⟨a,m,c,rfl,h1,h2,h3,h4⟩:=RV.list.1 hR
 rcases h4 with h4|⟨ad,rfl,hs⟩
 ·omega
 ·have eM:i.toNat<xs.length:=by omega
  refine SO.value (v:=.pointer (some<|ad.add<|i.toNat*GT.size α)) ?_<|h _ xs[i.toNat] (eP eM)<|hs _ _<|eP eM
  have hb:0≤i∧i<(m:Int):=by omega
  simp[execOp,aO ox,aO oy,hx,hy,Instr.indexAt,asIntOf,gC hu,hb,F.jf]
theorem ic {α:Type} [GT α] {xs:List α} {B:Nat} {i:Int} (hO:(own B e v xs).holds M w) (ox:bG n x=true) (oy:bG n y=true) (hx:ev f x=v) (hy:ev f y=.int kk i) (hi:0≤i∧i<xs.length) (hu:P.underlying T=some (.slice e)) (F:eh P e (GT.size α) agg bytes z)
  (h:∀g xv,v.ownBlock=some g→xs[i.toNat]? =some xv→gS M w ⟨g,i.toNat*GT.size α,none⟩ xv→K (b9 f d (.pointer (some ⟨g,i.toNat*GT.size α,none⟩))) w):SO P n ops ⟨some d,.indexAddr T x y,ty,ps,af,none⟩ f w K:=by
 obtain⟨cs,h1,h2⟩:=hO
 rcases h1.2 with ⟨_,h3⟩|⟨g,cap,cur,rfl,h3,h4,h5,h6,h7,h8⟩
 ·omega
 ·have eM:i.toNat<xs.length:=by omega
  have kV:(⟨g,0,none⟩:Addr).add (i.toNat*GT.size α)=⟨g,i.toNat*GT.size α,none⟩:=by unfold Addr.add;split<;>simp_all
  refine SO.value (v:=.pointer (some ⟨g,i.toNat*GT.size α,none⟩)) ?_<|h g xs[i.toNat] J (eP eM) ?_
  ·have hb:0≤i∧i<(xs.length:Int):=by omega
   simp[execOp,aO ox,aO oy,hx,hy,Instr.indexAt,asIntOf,gC hu,hb,F.jf,kV]
  ·obtain⟨c,yl,zV⟩:=bu.at_ h2 i.toNat xs[i.toNat] (eP eM)
   refine⟨c,yl,fun j u hu=>?_⟩
   have ui:=h1.cells (g:=g) J (i.toNat*GT.size α+j) u<|zV j u hu
   rwa [←add_add,kV] at ui
theorem bu.set {α:Type} [GT α] {M:Nat→Prop} {w:World} {y:α} {c:List Value} (hy:GT.rep M w c y):∀{xs:List α} {cs:List Value} (i:Nat),i<xs.length→bu M w cs xs→
  bu M w (cs.take (i*GT.size α)++c++cs.drop (i*GT.size α+c.length)) (xs.set i y)
 |x::xs,cs,0,_,⟨c1,c2,h1,h2,h3⟩=>by
  refine⟨c,c2,?_,hy,h3⟩
  rw[h1,aoH,aog,List.nil_append,am2,GT.len hy,←GT.len h2,List.drop_left]
 |x::xs,cs,i+1,hi,⟨c1,c2,h1,h2,h3⟩=>by
  have:=bu.set hy i (by simpa using hi) h3
  refine⟨c1,_,?_,h2,this⟩
  have hl:=GT.len h2
  rw[h1,show (i+1)*GT.size α=c1.length+i*GT.size α from by rw[hl,am8];omega,aoU]
  rw[aov,List.drop_append,amr aq,anS aq]
  rw[show c1.length+i*GT.size α-c1.length=i*GT.size α from by omega,show c1.length+(i*GT.size α+c.length)-c1.length=i*GT.size α+c.length from by omega]
  simp[ana]
theorem MQ {β:Type} (cur cy:List β) (o n:Nat) (h:o+cy.length≤n) (hn:n≤cur.length):
  (cur.take o++cy++cur.drop (o+cy.length)).take n=(cur.take n).take o++cy++(cur.take n).drop (o+cy.length):=by
 rw[aov,aov,apb,anN,anN,gf,ij]
 rw[show min n o=o from by omega,show min o n=o from by omega,show min o cur.length=o from by omega,amr (l:=cy) aq]
theorem pR {dd:Option Nat} {α:Type} [GT α] {xs:List α} {yv:α} {B:Nat} {j g:Nat} {u:Value} (H:HI M0 w0 w l) (i:Nat) (hi:l[i]? =some (own B e v xs)) (hg:v.ownBlock=some g) (hB:B=w0.heap.size) (hj:j<xs.length) (F:eh P T (GT.size α) agg bytes z) (ox:bG n x=true) (oy:bG n y=true)
  (hx:ev f x=.pointer (some ⟨g,j*GT.size α,none⟩)) (hy:ev f y=u) (hR:RV (MS M0 l) w u yv)
  (h:∀w',HI M0 w0 w' (l.set i (own B e v (xs.set j yv)))→K (cU f dd undef) w'):SO P n ops ⟨dd,.store T x y,ty,ps,af,none⟩ f w K:=by
 subst hB
 obtain⟨cs,h1,h2⟩:=H.at_ i hi
 rcases h1.2 with ⟨rfl,h3⟩|⟨g',cap,cur,rfl,h3,h4,h5,h6,h7,h8⟩
 ·cases hg
 ·have hgg:g'=g:=by simpa [Value.ownBlock] using hg
  subst hgg
  obtain⟨cy,Sc,rfl⟩:=hR
  have ry:=Tx (agg:=GT.agg α) (cs:=cy) (fun h=>by rw[GT.len Sc];exact GT.single h)<|GT.one Sc
  have Xy:=GT.len Sc
  have Vp:j*GT.size α+cy.length≤cur.size:=by
   rw[h7,Xy]
   have:(j+1)*GT.size α≤cap*GT.size α:=ank _ aq
   rw[am8] at this
   omega
  have kD:=BX (P:=P) (w:=w) F (g:=g') (o:=j*GT.size α) (v:=sc (GT.agg α) cy) h4 (by rw[ry];simpa using Xy) (by rw[ry];simpa using Vp)<|by rw[ry];simpa using GT.one Sc
  rw[ry] at kD
  simp only[List.toList_toArray] at kD
  refine SO.skip (w':=w.setRow g' (wr cur (j*GT.size α) cy)) ?_ (h _ ?_)
  ·simp[execOp,aO ox,aO oy,hx,hy,Instr.storeAt,Instr.sureAddr,kD]
  ·have Cw:∀c,c<w.heap.size→(own w0.heap.size e (Value.slice (some ⟨g',0,none⟩) xs.length cap) xs).jx≠some c→(w.setRow g' (wr cur (j*GT.size α) cy)).heap[c]? =w.heap[c]?:=
    fun c hc gE=>setRow_other w g' c _ (fun e=>gE (by rw[e];rfl))
   have hblk:∀b,(own w0.heap.size e (Value.slice (some ⟨g',0,none⟩) xs.length cap) (xs.set j yv)).jx=some b→b<(w.setRow g' (wr cur (j*GT.size α) cy)).heap.size∧((own w0.heap.size e (Value.slice (some ⟨g',0,none⟩) xs.length cap) xs).jx=some b∨w.heap.size≤b):=by
    intro b hb
    refine⟨?_,.inl hb⟩
    rw[size_setRow]
    exact(H.ji _ (dJ hi) b hb).2
   refine H.vc i hi J J J (by simp) (amk _) Cw hblk ?_
   refine⟨cs.take (j*GT.size α)++cy++cs.drop (j*GT.size α+cy.length),?_,?_⟩
   ·rw[ami]
    have hlen:(cs.take (j*GT.size α)++cy++cs.drop (j*GT.size α+cy.length)).length=xs.length*GT.size α:=by
     have ru:=h1.1
     have:(j+1)*GT.size α≤xs.length*GT.size α:=ank _ aq
     rw[am8] at this
     simp only[gf,ij,amF]
     omega
    refine⟨hlen,.inr ⟨g',cap,wr cur (j*GT.size α) cy,J,h3,setRow_heap w g' cur _ e _ h4,h5,h6,?_,?_⟩⟩
    ·simp only[wr,anO,gf,ij,amF,am1]
     omega
    ·have hle:(j+1)*GT.size α≤xs.length*GT.size α:=ank _ aq
     rw[am8] at hle
     have ru:=h1.1
     have pq:xs.length*GT.size α≤cur.size:=by rw[h7];exact ank _ h5
     simp only[wr]
     rw[←h8]
     exact MQ cur.toList cy (j*GT.size α) (xs.length*GT.size α) aq<|by simpa using pq
   ·
    have qp:Up (MS M0 l) w (MS M0 (l.set i (own w0.heap.size e (Value.slice (some ⟨g',0,none⟩) xs.length cap) (xs.set j yv)))) (w.setRow g' (wr cur (j*GT.size α) cy)):=by
     refine⟨by simp,fun b hb hM=>⟨setRow_other w g' b _ (fun e=>hM (.inr ⟨_,dJ hi,by rw[e];rfl⟩)),?_⟩⟩
     rintro(CG|⟨it,hit,lZ⟩)
     ·exact hM<|.inl CG
     ·rcases am7 hit with hit|rfl
      ·exact hM<|.inr ⟨it,hit,lZ⟩
      ·exact hM<|.inr ⟨_,dJ hi,lZ⟩
    exact bu.lift qp<|bu.set Sc j hj h2
theorem dW {ao:Option Addr} {m cc:Nat} (ox:bG n x=true) (hx:ev f x=.slice ao m cc) (hu:P.underlying T=some (.slice e)) (h:K (b9 f d (.int .i64 (m:Int))) w):
  SO P n ops ⟨some d,.call {callee:=.builtin .len,args:=#[x],argTypes:=#[T]},ty,ps,af,none⟩ f w K:=
 SO.value (v:=.int .i64 (m:Int)) (by simp[execOp,resolve,invoke,builtin,Builtin.len_,aO ox,hx,gC hu,goInt]) h
theorem vz {s:ByteArray} (ox:bG n x=true) (hx:ev f x=.string s) (hu:P.underlying T=some .string) (h:K (b9 f d (.int .i64 (s.size:Int))) w):
  SO P n ops ⟨some d,.call {callee:=.builtin .len,args:=#[x],argTypes:=#[T]},ty,ps,af,none⟩ f w K:=
 SO.value (v:=.int .i64 (s.size:Int)) (by simp[execOp,resolve,invoke,builtin,Builtin.len_,aO ox,hx,gC hu,goInt]) h
theorem YI {ao:Option Addr} {m cc:Nat} (hu:P.underlying T=some (.slice e)):(binOp .eql T (.slice ao m cc) (.slice none 0 0)).run P w=.ok (.bool ao.isNone) w:=by
 show ((Op.equal T (.slice ao m cc) (.slice none 0 0) >>=fun b=>pure (Value.bool b)):Sem Value).run P w=_
 have h:(Op.equal T (.slice ao m cc) (.slice none 0 0)).run P w=.ok ao.isNone w:=by
  rw[show Op.equal T (.slice ao m cc) (.slice none 0 0)=Op.equalIn (9999+1) T (.slice ao m cc) (.slice none 0 0) from rfl]
  unfold Op.equalIn
  rw[Sem.run_bind,gC hu]
  cases ao<;>rfl
 rw[Sem.run_bind,h];rfl
theorem Tb {ao:Option Addr} {m cc:Nat} (ox:bG n x=true) (oy:bG n y=true) (hx:ev f x=.slice ao m cc) (hy:ev f y=.slice none 0 0) (hu:P.underlying T=some (.slice e)) (h:K (b9 f d (.bool ao.isNone)) w):
  SO P n ops ⟨some d,.binOp .eql T x y T2,ty,ps,af,none⟩ f w K:=
 SO.value (v:=.bool ao.isNone) (by
  have hg:(eqGuard .eql T x y (.slice ao m cc) (.slice none 0 0)).run P w=.ok () w:=by unfold eqGuard;rfl
  have hr:=YI (P:=P) (w:=w) (ao:=ao) (m:=m) (cc:=cc) hu
  simp only[execOp,aO ox,aO oy,hx,hy,Sem.run_bind,hg,hr,Result.andThen_ok,Sem.run_pure]) h
end
end Go.Ew
namespace Go.Ew
open Go.RowKit Go.IntWalk
theorem Ext.grown {w w':World} (h:w.grownBy w' none) (hd:w.drawn≤w'.drawn):Ext w w':=⟨⟨h.os,h.tape,h.output,h.size,fun k hk=>h.block k hk (by simp)⟩,hd⟩
def Src {α:Type} [GT α] (M:Nat→Prop) (w:World) (v:Value) (ys:List α):Prop:=
 ∃a c,v=.slice a ys.length c∧(ys.length=0∨∃ad,a=some ad∧∃cs,bu M w cs ys∧∀j u,cs[j]? =some u→w.cell? (ad.add j)=some u)
theorem T1.chunks {α:Type} [GT α] {M:Nat→Prop} {w:World}:∀{xs:List α} {ad:Addr},T1 M w ad xs→∃cs,bu M w cs xs∧∀j u,cs[j]? =some u→w.cell? (ad.add j)=some u
 |[],ad,_=>⟨[],rfl,fun j u h=>by simp at h⟩
 |x::xs,ad,h=>by
  obtain⟨c1,h1,_,h2⟩:=h 0 x rfl
  have PS:T1 M w (ad.add (GT.size α)) xs:=by
   intro i y hy
   have:=h (i+1) y<|by simpa using hy
   rw[add_add]
   rwa [show (i+1)*GT.size α=GT.size α+i*GT.size α from by rw[am8];omega] at this
  obtain⟨c2,h3,h4⟩:=T1.chunks PS
  refine⟨c1++c2,⟨c1,c2,J,h1,h3⟩,fun j u hu=>?_⟩
  rw[List.getElem?_append] at hu
  have hl:=GT.len h1
  split at hu
  ·have:=h2 j u hu
   rwa [add_add,aoH,am2] at this
  ·have:=h4 _ u hu
   rw[add_add,hl] at this
   rwa [show GT.size α+(j-GT.size α)=j from by omega] at this
theorem RV.src {α:Type} [GT α] {M:Nat→Prop} {w:World} {v:Value} {ys:List α} (h:RV M w v ys):Src M w v ys:=by
 obtain⟨a,n,c,rfl,rfl,h3,h4,h5⟩:=RV.list.1 h
 refine⟨a,c,J,?_⟩
 rcases h5 with h5|⟨ad,h5,h6⟩
 ·exact .inl h5
 ·exact .inr ⟨ad,h5,h6.chunks⟩
theorem gT {α:Type} [GT α] {M:Nat→Prop} {w:World} {v:Value} {ys:List α} {B:Nat} {e:TypeId} (h:(own B e v ys).holds M w):Src M w v ys:=by
 obtain⟨cs,h1,h2⟩:=h
 rcases h1.2 with ⟨rfl,h3⟩|⟨g,cap,cur,rfl,h3,h4,h5,h6,h7,h8⟩
 ·exact⟨none,0,by rw[h3],.inl h3⟩
 ·exact⟨_,cap,J,.inr ⟨_,J,cs,h2,h1.cells (g:=g) rfl⟩⟩
theorem zy {α:Type} [GT α] {M M':Nat→Prop} {w:World} {v:Value} {ys:List α} {B:Nat} {e:TypeId} (h:(own B e v ys).holds M w) (hM:∀b,b<w.heap.size→M' b→M b) (hv:∀b,v.ownBlock=some b→¬M' b):RV M' w v ys:=by
 obtain⟨cs,h1,h2⟩:=h
 refine RV.list.2 ?_
 rcases h1.2 with ⟨rfl,h3⟩|⟨g,cap,cur,rfl,h3,h4,h5,h6,h7,h8⟩
 ·exact⟨none,0,0,J,h3,amk _,by simp[maxLen],.inl rfl⟩
 ·refine⟨_,_,cap,J,J,h5,h6,.inr ⟨_,J,fun i x hx=>?_⟩⟩
  obtain⟨c,yl,zV⟩:=bu.at_ h2 i x hx
  refine⟨c,GT.lift yl (Up.less hM),by rw[u2];exact hv g rfl,fun j u hu=>?_⟩
  rw[add_add]
  exact h1.cells (g:=g) J _ u<|zV j u hu
section
variable {M0:Nat→Prop} {w0 w w':World} {l:List Item} {α:Type} [GT α] {v:Value} {xs:List α} {e:TypeId}
theorem vT {B:Nat} (H:HI M0 w0 w l) {i:Nat} (hi:l[i]? =some (own B e v xs)):∀b,v.ownBlock=some b→w0.heap.size≤b∧b<w.heap.size:=H.ji _ (dJ hi)
theorem HI.freeze {B:Nat} (H:HI M0 w0 w l) (i:Nat) (hi:l[i]? =some (own B e v xs)):HI M0 w0 w (l.set i (sU v xs)):=by
 refine H.vc i hi J J J (amk _) (amk _) (fun _ _ _=>rfl) (fun b hb=>by cases hb) ?_
 have hO:=H.at_ i hi
 refine zy hO (fun b hb hM=>?_)<|fun b hb hM=>?_
 ·rcases hM with hM|⟨it,hit,lZ⟩
  ·exact .inl hM
  ·rcases am7 hit with hit|rfl
   ·exact .inr ⟨it,hit,lZ⟩
   ·cases lZ
 ·have By:=vT H hi b hb
  rcases hM with hM|⟨it,hit,lZ⟩
  ·have:=H.m0 b hM;omega
  ·obtain⟨m,hm,rfl⟩:=aod.1 hit
   rw[aoX] at lZ
   split at lZ
   ·cases lZ
   ·rename_i gE
    have tu:m<l.length:=by simpa using hm
    exact gE<|gU (·.jx) l H.nodup i m _ l[m] hi (eP tu) (by show (v.ownBlock).isSome=true;rw[hb];rfl)<|by rw[lZ];exact hb
theorem HI.re (α:Type) [GT α] (H:HI M0 w0 w l) (e:TypeId):HI M0 w0 w (own w0.heap.size e (.slice none 0 0) ([]:List α)::l):=
 H.put rfl ⟨[],World.ownsRow_nil w _ e _,rfl⟩
theorem HI.ae8 (H:HI M0 w0 w l) (h:Yi (MS M0 l) w xs v w'):HI M0 w0 w' (sU v xs::l):=(H.ext h.1).put rfl h.2
theorem adE.ae8 {β:Type} [GT β] {y:β} {M:Nat→Prop} (h:adE w y v w') (hM:∀b,M b→b<w.heap.size):Yi M w y v w':=⟨h.1,h.2.lift (Up.less fun b _ hb=>hM b hb)⟩
theorem HI.YU (H:HI M0 w0 w l) (i:Nat) (hi:l[i]? =some (own w0.heap.size e v xs)) (ajL:∀it∈l,∀b,it.jx=some b→True):RV M0 w v xs:=by
 have hO:=H.at_ i hi
 refine zy hO (fun b _ hb=>.inl hb)<|fun b hb hM=>?_
 have:=vT H hi b hb
 have:=H.m0 b hM
 omega
end
section
variable {P:Program} {n:Nat} {ops:Array Oper} {f:aS} {w:World} {K:aS→World→Prop} {x y c:Operand} {d:Nat} {ty T T2 e:TypeId} {ps:String} {af:Array Edge} {v v2 u:Value} {a b:Int} {M M0:Nat→Prop} {w0:World} {l:List Item} {kk:IntKind} {bytes:Nat} {z:Value} {ad:Addr} {size:Nat} {agg:Bool}
theorem vf {B:Nat} {s m:Nat} {cs:List Value} (h:w.ownsRow B e s v m cs):∃a c,v=.slice a m c:=by
 rcases h.2 with ⟨rfl,rfl⟩|⟨g,cap,cur,rfl,_⟩
 ·exact⟨none,0,J⟩
 ·exact⟨_,cap,J⟩
theorem ap {α:Type} [GT α] {xs ys:List α} {B:Nat} (H:HI M0 w0 w l) (i:Nat) (hi:l[i]? =some (own B e v xs)) (hB:B=w0.heap.size) (ox:bG n x=true) (oy:bG n y=true) (hx:ev f x=v) (hy:ev f y=u)
  (hs:Src (MS M0 l) w u ys) (hu:P.underlying T=some (.slice e)) (F:eh P e (GT.size α) agg bytes z) (hz:z.cells.size=GT.size α) (hl:(xs.length+ys.length)*bytes≤140737488355328) (nL:xs.length+ys.length≤9223372036854775807)
  (h:∀a c w',HI M0 w0 w' (l.set i (own B e (.slice a (xs++ys).length c) (xs++ys)))→K (b9 f d (.slice a (xs++ys).length c)) w'):
  SO P n ops ⟨some d,.call {callee:=.builtin .append,args:=#[x,y],argTypes:=#[T,T]},ty,ps,af,none⟩ f w K:=by
 subst hB
 obtain⟨cs,h1,h2⟩:=H.at_ i hi
 obtain⟨a0,c0,rfl,Fa⟩:=hs
 obtain⟨inf,sh,tz,uM,Cz⟩:=F.info
 have eM:∀b,v.ownBlock=some b→w0.heap.size≤b∧b<w.heap.size:=vT H hi
 
 obtain⟨v',w',kD,yS,qW,Bx⟩:∃v' w',(Builtin.append_ #[T,T] ty #[v,.slice a0 ys.length c0]).run P w=.ok v' w'∧
   (∃ds,w'.ownsRow w0.heap.size e (GT.size α) v' (xs.length+ys.length) (cs++ds)∧bu (MS M0 l) w ds ys)∧w.grownBy w' v.ownBlock∧(v'.ownBlock=v.ownBlock∨∀b,v'.ownBlock=some b→w.heap.size≤b∧b<w'.heap.size):=by
  rcases Fa with h0|⟨ad,rfl,ds,tA,CA⟩
  ·have hys:ys=[]:=anH h0
   subst hys
   have hr:(Builtin.append_ #[T,T] ty #[v,.slice a0 0 c0]).run P w=.ok v w:=by
    rcases h1.2 with ⟨rfl,hn⟩|⟨g,cap,cur,rfl,hb,hg,hnc,_⟩
    ·cases a0<;>simp[Builtin.append_,gC hu,sizeOf,typeInfo,sh,Builtin.lenOf,Builtin.firstCells,loadCells,loadCellsFrom]
    ·have:xs.length≤cap:=hnc
     cases a0<;>simp[Builtin.append_,gC hu,sizeOf,typeInfo,sh,Builtin.lenOf,Builtin.firstCells,loadCells,loadCellsFrom,this,storeCells]
   exact⟨v,w,by simpa using hr,⟨[],by simpa using h1,J⟩,⟨J,J,J,amk _,fun _ _ _=>rfl⟩,.inl rfl⟩
  ·obtain⟨v',w',r1,r2,r3,_,r4⟩:=run_append_own_at (P:=P) w w0.heap.size T ty e inf z (GT.size α) bytes hu sh tz uM Cz hz GT.pos v xs.length cs h1 ad ys.length c0 ds (bu.length tA) CA (bu.AK tA) (by simp only[maxLen];omega) hl H.below.size
   refine⟨v',w',r1,⟨ds,r2,tA⟩,r3,?_⟩
   rcases r4 with hb|hb
   ·exact .inl hb
   ·refine .inr fun b vC=>⟨?_,(r2.lt b vC).2⟩
    rw[hb] at vC
    cases vC
    exact amk _
 obtain⟨ds,ho,SC⟩:=yS
 obtain⟨a',c',rfl⟩:=vf ho
 refine SO.value (v:=.slice a' (xs.length+ys.length) c') (w':=w') ?_ ?_
 ·simp[execOp,resolve,invoke,builtin,aO ox,aO oy,hx,hy,kD]
 ·have:=h a' c' w'
  rw[gf] at this
  refine this ?_
  have hblk:∀b,(own w0.heap.size e (.slice a' (xs.length+ys.length) c') (xs++ys)).jx=some b→b<w'.heap.size∧((own w0.heap.size e v xs).jx=some b∨w.heap.size≤b):=by
   intro b hb
   refine⟨(ho.lt b hb).2,?_⟩
   rcases Bx with Bx|Bx
   ·exact .inl (by rw[←hb];exact Bx.symm)
   ·exact .inr (Bx b hb).1
  refine H.vc i hi qW.os qW.tape qW.output qW.size (r7 _ kD) (fun c hc gE=>qW.block c hc (fun e=>gE e.symm)) hblk ?_
  refine⟨cs++ds,by rw[gf];exact ho,?_⟩
  refine bu.lift ?_<|bu.append h2 SC
  refine⟨qW.size,fun b hb hM=>⟨qW.block b hb (fun e=>hM (.inr ⟨_,dJ hi,e.symm⟩)),?_⟩⟩
  rintro(CG|⟨it,hit,lZ⟩)
  ·exact hM<|.inl CG
  ·rcases am7 hit with hit|rfl
   ·exact hM<|.inr ⟨it,hit,lZ⟩
   ·rcases (hblk b lZ).2 with h'|h'
    ·exact hM<|.inr ⟨_,dJ hi,h'⟩
    ·omega
theorem l9 {α:Type} [GT α] {xs ys:List α} {B:Nat} (H:HI M0 w0 w l) (i:Nat) (hi:l[i]? =some (own B e v xs)) (hB:B=w0.heap.size) (ox:bG n x=true) (oy:bG n y=true) (hx:ev f x=v) (hy:ev f y=u)
  (hs:Src (MS M0 l) w u ys) (hu:P.underlying T=some (.slice e)) (F:eh P e (GT.size α) agg bytes z) (hz:z.cells.size=GT.size α) (hl:(xs.length+ys.length)*bytes≤140737488355328) (px:Nat.ble 1 bytes=true)
  (h:∀a c w',HI M0 w0 w' (l.set i (own B e (.slice a (xs++ys).length c) (xs++ys)))→K (b9 f d (.slice a (xs++ys).length c)) w'):
  SO P n ops ⟨some d,.call {callee:=.builtin .append,args:=#[x,y],argTypes:=#[T,T]},ty,ps,af,none⟩ f w K:=
 ap H i hi hB ox oy hx hy hs hu F hz hl (Nat.le_trans (Nat.le_mul_of_pos_right _ (anr px)) (Nat.le_trans hl aw)) h
theorem Y_ {α:Type} [GT α] {M:Nat→Prop} {xs:List α} {cells:Array Value} {B:Nat} {w w':World} (hx:Ext w w') (hB:B≤w.heap.size) (hh:w'.heap[w.heap.size]? =some (.cells cells e (0,0))) (hc:bu M w cells.toList xs) (hl:xs.length≤maxLen) {M':Nat→Prop} (hM:∀b,b<w.heap.size→M' b→M b):
  (own B e (.slice (some ⟨w.heap.size,0,none⟩) xs.length xs.length) xs).holds M' w':=by
 refine⟨cells.toList,⟨bu.length hc,.inr ⟨w.heap.size,xs.length,cells,J,hB,hh,amk _,hl,?_,?_⟩⟩,bu.lift ⟨hx.size,fun b hb hn=>⟨hx.block b hb,fun h=>hn (hM b hb h)⟩⟩ hc⟩
 ·have:=bu.length hc;simpa using this
 ·rw[amr (by rw[bu.length hc];exact amk _)]
theorem adF {it:Item} {b:Nat} (hn:it.jx=some b):∀c,c<b→MS M0 (it::l) c→MS M0 l c:=by
 rintro c hc (h|⟨j,hj,xa⟩)
 ·exact .inl h
 ·rcases amz.1 hj with rfl|hj
  ·rw[hn] at xa;cases xa;omega
  ·exact .inr ⟨j,hj,xa⟩
theorem ey:(([]:List (Nat×Operand)).map fun p=>(p.1,ev f p.2))=[]:=rfl
theorem cj {i:Nat} {L:List (Nat×Operand)} {V:List (Nat×Value)} (h:ev f x=v) (t:(L.map fun p=>(p.1,ev f p.2))=V):(((i,x)::L).map fun p=>(p.1,ev f p.2))=(i,v)::V:=by
 rw[amJ,t,h]
theorem bs {α:Type} [GT α] {xs:List α} {len:Nat} {L:List (Nat×Operand)} {V:List (Nat×Value)} {cells:Array Value} (H:HI M0 w0 w l) (ol:Ga n (L.map (·.2))=true) (hL:(L.map fun p=>(p.1,ev f p.2))=V)
  (hb:∀w,(Instr.buildSlice T len V.toArray).run P w=.ok (.slice (some ⟨w.heap.size,0,none⟩) len len) (w.alloc (.cells cells e)))
  (hc:bu (MS M0 l) w cells.toList xs) (hl:xs.length=len) (hm:len≤maxLen)
  (h:∀g w',Ext w w'→HI M0 w0 w' (own w0.heap.size e (.slice (some ⟨g,0,none⟩) len len) xs::l)→K (b9 f d (.slice (some ⟨g,0,none⟩) len len)) w'):
  SO P n ops ⟨some d,.buildSlice T len L.toArray,ty,ps,af,none⟩ f w K:=by
 subst hl hL
 refine SO.value (v:=.slice (some ⟨w.heap.size,0,none⟩) xs.length xs.length) (w':=w.alloc (.cells cells e)) ?_<|h _ _ (Ext.alloc w _) ?_
 ·have he:(L.map fun p=>(p.1,(bZ n f).eval p.2))=L.map fun p=>(p.1,ev f p.2):=by
   apply anp
   intro p hp
   rw[aO (amq.1 ol p.2 (am5.2 ⟨p,hp,rfl⟩))]
  simp only[execOp,aoi]
  have:=hb w
  rw[←he] at this
  simp[this]
 ·refine H.new (Ext.alloc w _) w.heap.size J (amk _) (by simp) ?_
  exact Y_ (Ext.alloc w _) H.below.size (heap_alloc_new w _) hc hm<|adF (b:=w.heap.size) J
theorem mk {α:Type} [GT α] {m:Nat} {zx:α} (H:HI M0 w0 w l) (ox:bG n x=true) (oy:bG n y=true) (hx:ev f x=.int .i64 (m:Int)) (hy:ev f y=.int .i64 (m:Int)) (hu:P.underlying T=some (.slice e)) (F:eh P e (GT.size α) (GT.agg α) bytes z)
  (hz:∀M w,GT.rep (α:=α) M w z.cells.toList zx) (hb:bytes*m≤281474976710656) (hm:m≤9223372036854775807)
  (h:∀g w',Ext w w'→HI M0 w0 w' (own w0.heap.size e (.slice (some ⟨g,0,none⟩) m m) (List.replicate m zx)::l)→K (b9 f d (.slice (some ⟨g,0,none⟩) m m)) w'):
  SO P n ops ⟨some d,.makeSlice T x y,ty,ps,af,none⟩ f w K:=by
 obtain⟨inf,sh,tz,uM,Cz⟩:=F.info
 obtain⟨w',kD,yS,qW⟩:=run_make_full (P:=P) w w0.heap.size T e inf z (GT.size α) hu sh tz uM .i64 .i64 m (by rw[Cz];exact hb) (by simp only[maxLen];omega) H.below.size
 refine SO.value (v:=.slice (some ⟨w.heap.size,0,none⟩) m m) (w':=w') (by simp[execOp,aO ox,aO oy,hx,hy,kD])<|h _ _ (Ext.grown qW<|r7 _ kD) ?_
 refine H.new (Ext.grown qW<|r7 _ kD) w.heap.size J (amk _) ((yS.lt _ J).2) ?_
 refine⟨_,by rw[nX];exact yS,?_⟩
 
 have Xa:z.cells.toList.length=GT.size α:=GT.len (hz (fun _=>False) w)
 have key:∀k,(madeCells z.cells (k*GT.size α)).toList=(List.replicate k z.cells.toList).flatten:=by
  intro k
  apply anT
  ·simp[madeCells,Xa,aoI]
  ·intro i h1 h2
   have sY:i<k*GT.size α:=by simpa [madeCells] using h1
   simp only[madeCells]
   have hs:z.cells.size=GT.size α:=by simpa using Xa
   have Cu:0<GT.size α:=GT.pos
   have eM:i%GT.size α<z.cells.size:=by rw[hs];exact Nat.mod_lt _ Cu
   have e2:((List.replicate k z.cells.toList).flatten)[i]? =z.cells.toList[i%GT.size α]?:=by
    clear h1 h2 eM
    induction k generalizing i with
    |zero=>simp at sY
    |succ k ih=>
     rw[am_,apk,List.getElem?_append]
     split
     ·rename_i hl
      rw[Xa] at hl
      rw[aot hl]
     ·rename_i hl
      rw[Xa] at hl ⊢
      rw[ih (i-GT.size α) (by rw[am8] at sY;omega)]
      rw[show i%GT.size α=(i-GT.size α)%GT.size α from by
       rw[Nat.mod_eq_sub_mod aq]]
   have e3:=eP h2
   rw[e2,eP (by simpa using eM)] at e3
   rw[←amo e3]
   simp only[ao7,Array.getElem_map,Array.getElem_range,hs]
   rw[apn z.cells (i%GT.size α) eM]
 have hcs:∀k M w,bu (α:=α) M w ((List.replicate k z.cells.toList).flatten) (List.replicate k zx):=by
  intro k
  induction k with
  |zero=>intro M w;rfl
  |succ k ih=>intro M w;exact⟨_,_,by rw[am_,apk],hz M w,ih M w⟩
 rw[key]
 exact hcs _ _ _
theorem mk0 {α:Type} [GT α] {m:Nat} (H:HI M0 w0 w l) (ox:bG n x=true) (oy:bG n y=true) (hx:ev f x=.int .i64 0) (hy:ev f y=.int .i64 (m:Int)) (hu:P.underlying T=some (.slice e)) (F:eh P e (GT.size α) agg bytes z)
  (hb:bytes*m≤281474976710656) (hm:m≤9223372036854775807)
  (h:∀g w',Ext w w'→HI M0 w0 w' (own w0.heap.size e (.slice (some ⟨g,0,none⟩) 0 m) ([]:List α)::l)→K (b9 f d (.slice (some ⟨g,0,none⟩) 0 m)) w'):
  SO P n ops ⟨some d,.makeSlice T x y,ty,ps,af,none⟩ f w K:=by
 obtain⟨inf,sh,tz,uM,Cz⟩:=F.info
 obtain⟨w',kD,yS,qW⟩:=run_make_own (P:=P) w w0.heap.size T e inf z (GT.size α) hu sh tz uM .i64 .i64 m (by rw[Cz];exact hb) (by simp only[maxLen];omega) H.below.size
 refine SO.value (v:=.slice (some ⟨w.heap.size,0,none⟩) 0 m) (w':=w') (by simp[execOp,aO ox,aO oy,hx,hy,kD])<|h _ _ (Ext.grown qW<|r7 _ kD) ?_
 exact H.new (Ext.grown qW<|r7 _ kD) w.heap.size J (amk _) ((yS.lt _ J).2) ⟨[],yS,J⟩
theorem RV.cut {α:Type} [GT α] {M:Nat→Prop} {w:World} {ao:Option Addr} {m cc:Nat} {xs:List α} (h:RV M w (.slice ao m cc) xs) (lo hi:Nat) (h1:lo≤hi) (h2:hi≤xs.length) (hc:cc=lo→xs.length=lo):
  RV M w (.slice (if cc=lo then ao else ao.map (·.add (lo*GT.size α))) (hi-lo) (cc-lo)) ((xs.drop lo).take (hi-lo)):=by
 obtain⟨a,n,c,he,h3,h4,h5,h6⟩:=RV.list.1 h
 simp only[Value.slice.injEq] at he
 obtain⟨rfl,rfl,rfl⟩:=he
 refine RV.list.2 ⟨_,_,_,J,by simp;omega,by omega,by omega,?_⟩
 by_cases h0:hi-lo=0
 ·exact .inl h0
 ·rcases h6 with h6|⟨ad,rfl,hs⟩
  ·omega
  ·have gE:cc≠lo:=fun e=>by have:=hc e;omega
   refine .inr ⟨ad.add (lo*GT.size α),by simp[gE],fun i x hx=>?_⟩
   rw[amL] at hx
   split at hx
   ·rw[amY] at hx
    have:=hs (lo+i) x hx
    rw[add_add]
    rwa [←am8]
   ·cases hx
theorem NG {α:Type} [GT α] {xs:List α} {ao:Option Addr} {cc:Nat} {lo:Int} {qT:Operand} (hR:RV M w (.slice ao xs.length cc) xs) (ox:bG n x=true) (ol:bG n qT=true) (hx:ev f x=.slice ao xs.length cc)
  (hl:ev f qT=.int kk lo) (hb:0≤lo∧lo≤xs.length) (hu:P.underlying T=some (.slice e)) (F:eh P e (GT.size α) agg bytes z)
  (h:∀a c,RV M w (.slice a (xs.drop lo.toNat).length c) (xs.drop lo.toNat)→K (b9 f d (.slice a (xs.drop lo.toNat).length c)) w):
  SO P n ops ⟨some d,.slice T x (some qT) none none,ty,ps,af,none⟩ f w K:=by
 have hle:xs.length≤cc:=by obtain⟨a',n',c',he,_,h4,_⟩:=RV.list.1 hR;simp only[Value.slice.injEq] at he;omega
 have hc:=hR.cut lo.toNat xs.length aq aq<|fun e=>by omega
 rw[amr (by simp)] at hc
 have hlen:(xs.drop lo.toNat).length=xs.length-lo.toNat:=by simp
 refine SO.value (v:=.slice (if cc=lo.toNat then ao else ao.map (·.add (lo.toNat*GT.size α))) (xs.length-lo.toNat) (cc-lo.toNat)) (w':=w) ?_<|by rw[hlen] at h;exact h _ _ hc
 have uN:P.underlying T=some (.slice (P.elem T)):=by rw[hu];simp[Program.elem,hu]
 have tY:P.elem T=e:=by simp[Program.elem,hu]
 simp[execOp,aO ox,aO ol,hx,hl,Instr.sliceAt,gC hu]
 have:=run_slice_l (P:=P) (w:=w) T ao xs.length cc uN kk lo hb.1 aq
 rw[tY,F.jf] at this
 simp[this,sliced]
theorem NH {α:Type} [GT α] {xs:List α} {ao:Option Addr} {cc:Nat} {hi:Int} {oK:Operand} (hR:RV M w (.slice ao xs.length cc) xs) (ox:bG n x=true) (oh:bG n oK=true) (hx:ev f x=.slice ao xs.length cc)
  (hh:ev f oK=.int kk hi) (hb:0≤hi∧hi≤xs.length) (hu:P.underlying T=some (.slice e)) (F:eh P e (GT.size α) agg bytes z)
  (h:∀a c,RV M w (.slice a (xs.take hi.toNat).length c) (xs.take hi.toNat)→K (b9 f d (.slice a (xs.take hi.toNat).length c)) w):
  SO P n ops ⟨some d,.slice T x none (some oK) none,ty,ps,af,none⟩ f w K:=by
 have hle:xs.length≤cc:=by obtain⟨a',n',c',he,_,h4,_⟩:=RV.list.1 hR;simp only[Value.slice.injEq] at he;omega
 have hc:=hR.cut 0 hi.toNat aq aq<|fun e=>by omega
 simp only[aoO,ao1] at hc
 have hlen:(xs.take hi.toNat).length=hi.toNat:=by simp;omega
 refine SO.value (v:=.slice (if cc=0 then ao else ao.map (·.add (0*GT.size α))) hi.toNat cc) (w':=w) ?_<|by rw[hlen] at h;exact h _ _ hc
 have uN:P.underlying T=some (.slice (P.elem T)):=by rw[hu];simp[Program.elem,hu]
 have tY:P.elem T=e:=by simp[Program.elem,hu]
 simp[execOp,aO ox,aO oh,hx,hh,Instr.sliceAt,gC hu]
 have:=run_slice_h (P:=P) (w:=w) T ao xs.length cc uN kk hi hb.1 aq
 rw[tY,F.jf] at this
 simp[this,sliced]
theorem bd {L:List (Nat×Operand)} {V:List (Nat×Value)} {v:Value} (ol:Ga n (L.map (·.2))=true) (hL:(L.map fun p=>(p.1,ev f p.2))=V) (hb:∀w,(Instr.build T V.toArray).run P w=.ok v w) (h:K (b9 f d v) w):
  SO P n ops ⟨some d,.build T L.toArray,ty,ps,af,none⟩ f w K:=by
 subst hL
 refine SO.value (v:=v) (w':=w) ?_ h
 have he:(L.map fun p=>(p.1,(bZ n f).eval p.2))=L.map fun p=>(p.1,ev f p.2):=by
  apply anp
  intro p hp
  rw[aO (amq.1 ol p.2 (am5.2 ⟨p,hp,rfl⟩))]
 simp only[execOp,aoi]
 have:=hb w
 rw[←he] at this
 simp[this]
theorem fd {i:Nat} {u v:Value} (ox:bG n x=true) (hx:ev f x=u) (hr:∀w,(Instr.field T u i).run P w=.ok v w) (h:K (b9 f d v) w):SO P n ops ⟨some d,.field T x i,ty,ps,af,none⟩ f w K:=
 SO.value (v:=v) (by simp[execOp,aO ox,hx,hr w]) h
theorem ix {u v:Value} (ox:bG n x=true) (oy:bG n y=true) (hx:ev f x=u) (hy:ev f y=v2) (hr:∀w,(Instr.index T u v2).run P w=.ok v w) (h:K (b9 f d v) w):SO P n ops ⟨some d,.index T x y,ty,ps,af,none⟩ f w K:=
 SO.value (v:=v) (by simp[execOp,aO ox,aO oy,hx,hy,hr w]) h
theorem W_ {i:Int} {m:Nat} (ox:bG n x=true) (oy:bG n y=true) (hx:ev f x=.pointer (some ad)) (hy:ev f y=.int kk i) (hi:0≤i∧i<(m:Int)) (hu:P.underlying T=some (.array m e)) (F:eh P e size agg bytes z)
  (h:K (b9 f d (.pointer (some (ad.add (i.toNat*size))))) w):SO P n ops ⟨some d,.indexAddr T x y,ty,ps,af,none⟩ f w K:=
 SO.value (v:=.pointer (some (ad.add (i.toNat*size)))) (by
  simp[execOp,aO ox,aO oy,hx,hy,Instr.indexAt,asIntOf,gC hu,Instr.sureAddr,hi.1,hi.2,F.jf]) h
theorem ag7 {i m:Nat} (ox:bG n x=true) (oy:bG n y=true) (hx:ev f x=.pointer (some ad)) (hy:ev f y=.int kk ((i:Nat):Int)) (hi:i<m) (hu:P.underlying T=some (.array m e)) (F:eh P e size agg bytes z)
  (h:K (b9 f d (.pointer (some (ad.add (i*size))))) w):SO P n ops ⟨some d,.indexAddr T x y,ty,ps,af,none⟩ f w K:=
 W_ ox oy hx hy aq hu F (by rw[dZ];exact h)
theorem ixS {s:ByteArray} {i:Int} (ox:bG n x=true) (oy:bG n y=true) (hx:ev f x=.string s) (hy:ev f y=.int kk i) (hi:0≤i∧i<s.size) (hu:P.underlying T=some .string)
  (h:∀c,s[i.toNat]? =some c→K (b9 f d (.int .u8 (c.toNat:Int))) w):SO P n ops ⟨some d,.index T x y,ty,ps,af,none⟩ f w K:=by
 have eM:i.toNat<s.size:=by omega
 have hg:s[i.toNat]? =some s[i.toNat]:=getElem?_pos s i.toNat eM
 exact SO.value (v:=.int .u8 ((s[i.toNat]).toNat:Int)) (by
  simp[execOp,aO ox,aO oy,hx,hy,Instr.index,asIntOf,gC hu,hi.1,hg]) (h _ hg)
theorem X2 {s t:ByteArray} (ox:bG n x=true) (oy:bG n y=true) (hx:ev f x=.string s) (hy:ev f y=.string t) (h:K (b9 f d (.bool (decide (s=t)))) w):SO P n ops ⟨some d,.binOp .eql T x y T2,ty,ps,af,none⟩ f w K:=
 SO.value (v:=.bool (decide (s=t))) (by
  have e:(s.toList==t.toList)=decide (s=t):=by
   rw[←beq_toListBytes,amE]
   rcases s with ⟨a⟩
   rcases t with ⟨b⟩
   show (a==b)=true↔_
   simp
  have hg:(eqGuard .eql T x y (.string s) (.string t)).run P w=.ok () w:=by unfold eqGuard;rfl
  simp only[execOp,aO ox,aO oy,hx,hy,Sem.run_bind,hg,Result.andThen_ok]
  simp[binOp,Op.stringOp,e]) h
theorem neS {s t:ByteArray} (ox:bG n x=true) (oy:bG n y=true) (hx:ev f x=.string s) (hy:ev f y=.string t) (h:K (b9 f d (.bool (!decide (s=t)))) w):SO P n ops ⟨some d,.binOp .neq T x y T2,ty,ps,af,none⟩ f w K:=
 SO.value (v:=.bool (!decide (s=t))) (by
  have e:(s.toList==t.toList)=decide (s=t):=by
   rw[←beq_toListBytes,amE]
   rcases s with ⟨a⟩
   rcases t with ⟨b⟩
   show (a==b)=true↔_
   simp
  have hg:(eqGuard .neq T x y (.string s) (.string t)).run P w=.ok () w:=by unfold eqGuard;rfl
  simp only[execOp,aO ox,aO oy,hx,hy,Sem.run_bind,hg,Result.andThen_ok]
  simp[binOp,Op.stringOp,e]) h
theorem eqB {p q:Bool} (ox:bG n x=true) (oy:bG n y=true) (hx:ev f x=.bool p) (hy:ev f y=.bool q) (hu:P.underlying T=some .bool) (h:K (b9 f d (.bool (p==q))) w):SO P n ops ⟨some d,.binOp .eql T x y T2,ty,ps,af,none⟩ f w K:=
 SO.value (v:=.bool (p==q)) (by
  have hg:(eqGuard .eql T x y (.bool p) (.bool q)).run P w=.ok () w:=by unfold eqGuard;rfl
  have hr:(binOp .eql T (.bool p) (.bool q)).run P w=.ok (.bool (p==q)) w:=by
   show ((Op.equal T (.bool p) (.bool q) >>=fun b=>pure (Value.bool b)):Sem Value).run P w=_
   have h:(Op.equal T (.bool p) (.bool q)).run P w=.ok (p==q) w:=by
    rw[show Op.equal T (.bool p) (.bool q)=Op.equalIn (9999+1) T (.bool p) (.bool q) from rfl]
    unfold Op.equalIn
    rw[Sem.run_bind,gC hu];rfl
   rw[Sem.run_bind,h];rfl
  simp only[execOp,aO ox,aO oy,hx,hy,Sem.run_bind,hg,hr,Result.andThen_ok,Sem.run_pure]) h
theorem gl {op:BinOp} {u:Value} (ox:bG n x=true) (oy:bG n y=true) (hx:ev f x=v) (hy:ev f y=v2) (hg:(eqGuard op T x y v v2).run P w=.ok () w) (hr:(binOp op T v v2).run P w=.ok u w) (h:K (b9 f d u) w):
  SO P n ops ⟨some d,.binOp op T x y T2,ty,ps,af,none⟩ f w K:=
 SO.value (v:=u) (by simp only[execOp,aO ox,aO oy,hx,hy,Sem.run_bind,hg,hr,Result.andThen_ok,Sem.run_pure]) h
end
end Go.Ew
namespace Go.Ew
open Go.RowKit
def PW (P:Program) (n:Nat) (ops:Array Oper) (w0:World) (K:aS→Prop):List Oper→aS→Prop
 |[],f=>K f
 |o::r,f=>∃v,(∀w,Ext w0 w→SO P n ops o f w (fun f' w'=>f'=cU f o.dst v∧Ext w w'))∧PW P n ops w0 K r (cU f o.dst v)
def F' (l:List Oper):Nat→List Oper→Bool
 |_,[]=>true
 |i,o::r=>(o.looksAt l.toArray).all (fun t=>!(i' l.length l).contains t||(List.range i).any (fun j=>kH o j&&Nat.beq (iM l j) t&&((l[j]?).bind (·.dst)).isSome))&&
   (match o.op with| .select _ _=>false|_=>true)&&F' l (i+1) r
def PF (n:Nat) (l:List Oper):Bool:=NZ n l.length l&&F' l 0 l
section
variable {P:Program} {n:Nat} {ops:Array Oper} {w0:World} {K:aS→Prop} {o:Oper} {f f2:aS} {w:World} {v:Value}
theorem C1 {x:Operand} (h:∀t,x=.tmp t→f2 t=f t):(bZ n f2).eval x=(bZ n f).eval x:=by
 cases x with
 |tmp t=>
  by_cases ht:t<n
  ·simp[Act.eval,bZ,ht,h t rfl]
  ·simp[Act.eval,bZ,ht]
 |_=>rfl
theorem xC (hg:∀j b,o.guard=some (j,b)→∀t,(ops[j]?).bind (·.dst)=some t→f2 t=f t):Region.wanted o (yielded ops (bZ n f2).tmps)=Region.wanted o (yielded ops (bZ n f).tmps):=by
 unfold Region.wanted
 cases hgd:o.guard with
 |none=>rfl
 |some gw=>
  obtain⟨j,b⟩:=gw
  simp only[]
  have:yielded ops (bZ n f2).tmps j=yielded ops (bZ n f).tmps j:=by
   unfold yielded
   cases ht:(ops[j]?).bind (·.dst) with
   |none=>rfl
   |some t=>
    have he:=hg j b hgd t ht
    by_cases hn:t<n
    ·simp[bZ,hn,he]
    ·simp[bZ,hn]
  rw[this]
theorem FI {d:Nat} {u v:Value} (hd:d<n) (h:bZ n (b9 f d u)=bZ n (b9 f d v)):u=v:=by
 have h1:(bZ n (b9 f d u)).tmps[d]? =(bZ n (b9 f d v)).tmps[d]?:=by rw[h]
 simpa [bZ,hd,iI] using h1
theorem xT {l:List Oper}:∀(r:List Oper) (i:Nat),F' l i r=true→∀j o,r[j]? =some o→(∀t∈o.looksAt l.toArray,(i' l.length l).contains t=false∨∃q,q<i+j∧kH o q=true∧iM l q=t∧((l[q]?).bind (·.dst)).isSome=true)∧∀cs b,o.op≠.select cs b
 |[],_,_,j,o,h=>by simp at h
 |x::r,i,h,j,o,hj=>by
  simp only[F',eQ] at h
  cases j with
  |zero=>
   simp only[amw,amu] at hj
   subst hj
   refine⟨fun t ht=>?_,fun cs b e=>?_⟩
   ·have:=amq.1 h.1.1 t ht
    rcases am'.1 this with h1|h1
    ·exact .inl (by simpa using h1)
    ·obtain⟨q,hq,nn⟩:=amR.1 h1
     simp only[eQ,Nat.beq_eq] at nn
     exact .inr ⟨q,by have:=amm.1 hq;omega,nn.1.1,by simpa using nn.1.2,nn.2⟩
   ·have:=h.1.2
    rw[e] at this;cases this
  |succ j=>
   simp only[amD] at hj
   have:=xT r (i+1) h.2 j o hj
   refine⟨fun t ht=>?_,this.2⟩
   rcases this.1 t ht with h1|⟨q,h1,h2⟩
   ·exact .inl h1
   ·exact .inr ⟨q,by omega,h2⟩
end
theorem gu {P:Program} {n:Nat} {ops:Array Oper} {f:aS} {w:World} {K:aS→World→Prop} {d:Option Nat} {op:Op} {ty:TypeId} {ps:String} {af:Array Edge} {j t:Nat} {want:Bool}
  (hj:xi ops j=some t) (ht:Nat.blt t n=true) (hv:f t=undef)
  (h:K (cU f d undef) w):SO P n ops ⟨d,op,ty,ps,af,some (j,want)⟩ f w K:=by
 intro Q rest hk
 have hy:yielded ops (bZ n f).tmps j=none:=by
  simp only[aom] at ht
  unfold xi at hj
  simp[yielded,hj,bZ,ht,hv,undef]
 unfold wpList
 rw[amn (by simp[Region.wanted,hy])]
 rw[ql]
 exact hk _ _ h
section
variable {P:Program} {n:Nat} {ops:Array Oper} {w0:World} {K:aS→Prop} {f:aS} {rest:List Oper}
theorem e1 {f:aS} {w:World}:f=f∧Ext w w:=⟨rfl,Ext.refl w⟩
theorem e2 {f:aS} {d:Nat} {v x:Value} {w w':World} (h:v=x∧Ext w w'):cU f (some d) v=cU f (some d) x∧Ext w w':=⟨by rw[h.1],h.2⟩
theorem kq {o:Oper} {v:Value} (h:∀w,Ext w0 w→SO P n ops o f w (fun f' w'=>f'=cU f o.dst v∧Ext w w')) (r:PW P n ops w0 K rest (cU f o.dst v)):PW P n ops w0 K (o::rest) f:=⟨v,h,r⟩
theorem zq (h:K f):PW P n ops w0 K [] f:=h
variable {d:Option Nat} {op:Op} {ty:TypeId} {ps:String} {af:Array Edge} {j t:Nat} {want b:Bool}
theorem qy (hj:xi ops j=some t) (ht:Nat.blt t n=true) (hv:f t=.bool b) (hb:b=want)
  (h:PW P n ops w0 K (⟨d,op,ty,ps,af,none⟩::rest) f):PW P n ops w0 K (⟨d,op,ty,ps,af,some (j,want)⟩::rest) f:=by
 obtain⟨v,h1,h2⟩:=h
 exact⟨v,fun w hw=>gy hj ht hv hb (h1 w hw),h2⟩
theorem qn (hj:xi ops j=some t) (ht:Nat.blt t n=true) (hv:f t=.bool b) (hb:b=!want)
  (h:PW P n ops w0 K rest (cU f d undef)):PW P n ops w0 K (⟨d,op,ty,ps,af,some (j,want)⟩::rest) f:=
 ⟨undef,fun w hw=>gn hj ht hv hb ⟨rfl,Ext.refl w⟩,h⟩
theorem qu (hj:xi ops j=some t) (ht:Nat.blt t n=true) (hv:f t=undef)
  (h:PW P n ops w0 K rest (cU f d undef)):PW P n ops w0 K (⟨d,op,ty,ps,af,some (j,want)⟩::rest) f:=
 ⟨undef,fun w hw=>gu hj ht hv ⟨rfl,Ext.refl w⟩,h⟩
end
section
variable {P:Program} {n:Nat} {ops:Array Oper} {w0:World} {K:aS→Prop} {f:aS} {rest:List Oper} {d:Nat} {ty:TypeId} {ps:String} {af:Array Edge} {M:Nat→Prop} {x y:Operand} {T e:TypeId} {kk:IntKind} {agg:Bool} {bytes:Nat} {z v:Value} {ad:Addr}
theorem tS {α:Type} [GT α] {xs:List α} {i:Int} (hR:RV M w0 v xs) (ox:bG n x=true) (oy:bG n y=true) (hx:ev f x=v) (hy:ev f y=.int kk i) (hi:0≤i∧i<xs.length) (hu:P.underlying T=some (.slice e)) (F:eh P e (GT.size α) agg bytes z)
  (h:∀ad xv,xs[i.toNat]? =some xv→At M w0 ad xv→PW P n ops w0 K rest (b9 f d (.pointer (some ad)))):PW P n ops w0 K (⟨some d,.indexAddr T x y,ty,ps,af,none⟩::rest) f:=by
 obtain⟨a,m,c,rfl,h1,h2,h3,h4⟩:=RV.list.1 hR
 rcases h4 with h4|⟨ad,rfl,hs⟩
 ·omega
 ·have eM:i.toNat<xs.length:=by omega
  refine⟨.pointer (some<|ad.add<|i.toNat*GT.size α),fun w hw=>SO.value (v:=.pointer (some<|ad.add<|i.toNat*GT.size α)) (w':=w) ?_ ⟨J,Ext.refl w⟩,h _ xs[i.toNat] (eP eM) (hs _ _<|eP eM)⟩
  have hb:0≤i∧i<(m:Int):=by omega
  simp[execOp,aO ox,aO oy,hx,hy,Instr.indexAt,asIntOf,gC hu,hb,F.jf]
theorem sK {α:Type} [GT α] {xs:List α} {B:Nat} {i:Int} (hO:(own B e v xs).holds M w0) (ox:bG n x=true) (oy:bG n y=true) (hx:ev f x=v) (hy:ev f y=.int kk i) (hi:0≤i∧i<xs.length) (hu:P.underlying T=some (.slice e)) (F:eh P e (GT.size α) agg bytes z)
  (h:∀ad xv,xs[i.toNat]? =some xv→gS M w0 ad xv→PW P n ops w0 K rest (b9 f d (.pointer (some ad)))):PW P n ops w0 K (⟨some d,.indexAddr T x y,ty,ps,af,none⟩::rest) f:=by
 obtain⟨cs,h1,h2⟩:=hO
 rcases h1.2 with ⟨_,h3⟩|⟨g,cap,cur,rfl,h3,h4,h5,h6,h7,h8⟩
 ·omega
 ·have eM:i.toNat<xs.length:=by omega
  have kV:(⟨g,0,none⟩:Addr).add (i.toNat*GT.size α)=⟨g,i.toNat*GT.size α,none⟩:=by unfold Addr.add;split<;>simp_all
  refine⟨.pointer (some ⟨g,i.toNat*GT.size α,none⟩),fun w hw=>SO.value (v:=.pointer (some ⟨g,i.toNat*GT.size α,none⟩)) (w':=w) ?_ ⟨J,Ext.refl w⟩,h _ xs[i.toNat] (eP eM) ?_⟩
  ·have hb:0≤i∧i<(xs.length:Int):=by omega
   simp[execOp,aO ox,aO oy,hx,hy,Instr.indexAt,asIntOf,gC hu,hb,F.jf,kV]
  ·obtain⟨c,yl,zV⟩:=bu.at_ h2 i.toNat xs[i.toNat] (eP eM)
   refine⟨c,yl,fun j u hu=>?_⟩
   have ui:=h1.cells (g:=g) J (i.toNat*GT.size α+j) u<|zV j u hu
   rwa [←add_add,kV] at ui
theorem xO {α:Type} [GT α] {xv:α} (hA:gS M w0 ad xv) (F:eh P T (GT.size α) (GT.agg α) bytes z) (ox:bG n x=true) (hx:ev f x=.pointer (some ad))
  (h:∀v,RV M w0 v xv→PW P n ops w0 K rest (b9 f d v)):PW P n ops w0 K (⟨some d,.load T x,ty,ps,af,none⟩::rest) f:=by
 obtain⟨cs,h1,h2⟩:=hA
 refine⟨sc (GT.agg α) cs,fun w hw=>SO.value (v:=sc (GT.agg α) cs) (w':=w) ?_ ⟨J,Ext.refl w⟩,h _ ⟨cs,h1,J⟩⟩
 have h3:∀j v,cs[j]? =some v→w.cell? (ad.add j)=some v:=fun j v hv=>(World.cell?_of_block (hw.block _ (pC (h2 j v hv)))).trans (h2 j v hv)
 simp[execOp,aO ox,hx,Instr.loadAt,Instr.sureAddr,rn F GT.single (GT.len h1) h3]
theorem oW {i:Int} (hA:gS M w0 ad i) (F:eh P T 1 false bytes z) (ox:bG n x=true) (hx:ev f x=.pointer (some ad)) (h:aK i→PW P n ops w0 K rest (b9 f d (.int .i64 i))):
  PW P n ops w0 K (⟨some d,.load T x,ty,ps,af,none⟩::rest) f:=xO hA F ox hx fun v hv=>by obtain⟨rfl,hi⟩:=RV.int.1 hv;exact h hi
theorem ad' {u:BitVec 64} (hA:gS M w0 ad u) (F:eh P T 1 false bytes z) (ox:bG n x=true) (hx:ev f x=.pointer (some ad)) (h:PW P n ops w0 K rest (b9 f d (aj u))):
  PW P n ops w0 K (⟨some d,.load T x,ty,ps,af,none⟩::rest) f:=xO hA F ox hx fun v hv=>by rw[RV.bv.1 hv];exact h
theorem aea {u:Bool} (hA:gS M w0 ad u) (F:eh P T 1 false bytes z) (ox:bG n x=true) (hx:ev f x=.pointer (some ad)) (h:PW P n ops w0 K rest (b9 f d (.bool u))):
  PW P n ops w0 K (⟨some d,.load T x,ty,ps,af,none⟩::rest) f:=xO hA F ox hx fun v hv=>by rw[RV.bool.1 hv];exact h
theorem F4 {α:Type} [GT α] {xs:List α} (hA:gS M w0 ad xs) (F:eh P T 1 false bytes z) (ox:bG n x=true) (hx:ev f x=.pointer (some ad))
  (h:∀a c,RV M w0 (.slice a xs.length c) xs→PW P n ops w0 K rest (b9 f d (.slice a xs.length c))):PW P n ops w0 K (⟨some d,.load T x,ty,ps,af,none⟩::rest) f:=
 xO hA F ox hx fun v hv=>by obtain⟨a,c,rfl,hr⟩:=(RV.list.1 hv).explicit;exact h a c hr
end
end Go.Ew
namespace Go.Ew
open Go.RowKit
abbrev UT:=List (Nat×(Value→World→Prop))
def Ls (aj:UT) (t:Nat):Bool:=aj.any (fun p=>Nat.beq p.1 t)
section
variable {P:Program} {n:Nat} {ops:Array Oper} {w0:World} {o:Oper} {f f2:aS} {w:World} {v:Value} {ai:Value→World→Prop}
theorem SO.rG (h:SO P n ops o f w (fun f' w'=>∃v,f'=cU f o.dst v∧Ext w w'∧ai v w')) (hs:∀cs b,o.op≠.select cs b) (hu:∀t∈o.looksAt ops,f2 t=f t) (hd:∀d,o.dst=some d→d<n):
  SO P n ops o f2 w (fun f' w'=>∃v,f'=cU f2 o.dst v∧Ext w w'∧ai v w'):=by
 intro Q rest hk
 have h1:=h (fun e a w'=>match e with| .normal=>∃v,a=bZ n (cU f o.dst v)∧Ext w w'∧ai v w'|_=>False) []<|fun f' w' hK=>wpList_nil (by obtain⟨v,h1,h2⟩:=hK;exact⟨v,by rw[h1],h2⟩)
 have he:execOp (bZ n f2).eval o=execOp (bZ n f).eval o:=execOp_congr o hs fun x hx=>C1 fun t ht=>hu t (by
  subst ht
  exact anA _ (amK.2 ⟨.tmp t,by simpa using hx,rfl⟩))
 have hw:Region.wanted o (yielded ops (bZ n f2).tmps)=Region.wanted o (yielded ops (bZ n f).tmps):=xC fun j b hg t ht=>hu t (by
  unfold Oper.looksAt
  rw[hg]
  refine anu _ ?_
  simp[ht])
 have key:∀u w',(∃v,(bZ n f).put o.dst u=bZ n (cU f o.dst v)∧Ext w w'∧ai v w')→wpList P ops Q rest ((bZ n f2).put o.dst u) w':=by
  rintro u w' ⟨v,hq,h2,h3⟩
  rw[ql] at hq ⊢
  cases ta:o.dst with
  |none=>exact hk _ _ ⟨v,by rw[ta];rfl,h2,h3⟩
  |some d=>
   rw[ta] at hq
   have Sh:u=v:=FI (hd d ta) hq
   subst Sh
   exact hk _ _ ⟨u,by rw[ta],h2,h3⟩
 unfold wpList at h1 ⊢
 rw[hw]
 split at h1
 ·rename_i Cr
  rw[aml Cr]
  refine .inl ?_
  rcases h1 with h2|⟨_,a0,w1,hq⟩
  ·unfold Oper.wp at h2 ⊢
   rw[he]
   generalize (execOp (bZ n f).eval o).run P w=r at *
   cases r with
   |ok x w'=>
    cases x with
    |enter g args=>
     simp only[Oper.upon] at h2 ⊢
     refine Calls.mono h2 ?_
     intro e mo yj
     cases e with
     |returned u=>exact key u mo yj
     |panicked c=>exact yj.elim
     |outgrown=>obtain⟨a0,w1,hq⟩:=yj;exact hq.elim
    |row r args=>
     simp only[Oper.upon] at h2 ⊢
     exact Rows.mono h2 fun u mo yj=>key u mo yj
    |defer d=>
     simp only[Oper.upon] at h2 ⊢
     obtain⟨v,h3, -⟩:=(show ∃v,_∧_ from h2)
     exfalso
     have h4:=amh (fun a=>a.defers.length) h3
     cases ta:o.dst<;>rw[ta] at h4<;>simp[Act.put,bZ] at h4
    |value u=>
     simp only[Oper.upon] at h2 ⊢
     exact key u w' h2
    |skip=>
     simp only[Oper.upon] at h2 ⊢
     exact key undef w' h2
    |_=>exact(show False from h2).elim
   |halt x w'=>cases x<;>simp only[Oper.upon] at h2 ⊢<;>exact h2.elim
  ·exact hq.elim
 ·rename_i Cr
  rw[amn Cr]
  exact key undef w h1
def Agr (L:List Nat) (aj:UT) (f g:aS) (w:World):Prop:=
 ∀t∈L,(Ls aj t=false→g t=f t)∧(∀(j:Nat) (Φ:Value→World→Prop),aj[j]? =some (t,Φ)→Φ (g t) w)
def GO (P:Program) (n:Nat) (ops:Array Oper) (w0:World) (o:Oper) (aj:UT) (f:aS) (ai:Value→World→Prop):Prop:=
 ∀w g,Ext w0 w→Agr (o.looksAt ops) aj f g w→SO P n ops o g w (fun f' w'=>∃v,f'=cU g o.dst v∧Ext w w'∧ai v w')
def PX (P:Program) (n:Nat) (ops:Array Oper) (w0:World) (K:UT→aS→Prop):List Oper→UT→aS→Prop
 |[],aj,f=>K aj f
 |o::r,aj,f=>(∃X,GO P n ops w0 o aj f (eV X)∧PX P n ops w0 K r aj (cU f o.dst X))∨
   (∃d Φ,o.dst=some d∧(∀v w w',Ext w w'→Φ v w→Φ v w')∧GO P n ops w0 o aj f Φ∧PX P n ops w0 K r ((d,Φ)::aj) f)
abbrev EN:=Option Value×(Value→World→Prop)
def CP:List (Oper×EN)→aS→aS
 |[],f=>f
 |(o,(some X,_))::r,f=>CP r (cU f o.dst X)
 |(_,(none,_))::r,f=>CP r f
def xp:List (Oper×EN)→UT→UT
 |[],aj=>aj
 |(_,(some _,_))::r,aj=>xp r aj
 |(o,(none,Φ))::r,aj=>xp r ((o.dst.getD 0,Φ)::aj)
theorem PX.values {K:UT→aS→Prop}:∀(l:List Oper) (aj:UT) (f:aS),PX P n ops w0 K l aj f→∃es:List EN,es.length=l.length∧(∀e∈es,∀X,e.1=some X→e.2=eV X)∧(∀e∈es,∀v w w',Ext w w'→e.2 v w→e.2 v w')∧
  (∀i o e,l[i]? =some o→es[i]? =some e→GO P n ops w0 o (xp (List.zip (l.take i) es) aj) (CP (List.zip (l.take i) es) f) e.2)∧K (xp (List.zip l es) aj) (CP (List.zip l es) f)
 |[],aj,f,h=>⟨[],rfl,by simp,by simp,fun i o e hi=>by simp at hi,h⟩
 |o::r,aj,f,.inl ⟨X,h1,h2⟩=>by
  obtain⟨es,hl,hc,hm,hs,hK⟩:=PX.values r aj _ h2
  refine⟨(some X,eV X)::es,by simp[hl],?_,?_,fun i o' e hi he=>?_,hK⟩
  ·intro e he Y hY
   rcases amz.1 he with rfl|he
   ·cases hY;rfl
   ·exact hc e he Y hY
  ·intro e he
   rcases amz.1 he with rfl|he
   ·exact fun _ _ _ _ h=>h
   ·exact hm e he
  ·cases i with
   |zero=>
    simp only[amw,amu] at hi he
    subst hi;subst he
    exact h1
   |succ i=>
    simp only[amD] at hi he
    exact hs i o' e hi he
 |o::r,aj,f,.inr ⟨d,Φ,hd,Ss,h1,h2⟩=>by
  obtain⟨es,hl,hc,hm,hs,hK⟩:=PX.values r _ f h2
  have e0:∀l',xp ((o,((none,Φ):EN))::l') aj=xp l' ((d,Φ)::aj):=fun l'=>by show xp l' ((o.dst.getD 0,Φ)::aj)=_;rw[hd];rfl
  refine⟨(none,Φ)::es,by simp[hl],?_,?_,fun i o' e hi he=>?_,?_⟩
  ·intro e he Y hY
   rcases amz.1 he with rfl|he
   ·cases hY
   ·exact hc e he Y hY
  ·intro e he
   rcases amz.1 he with rfl|he
   ·exact Ss
   ·exact hm e he
  ·cases i with
   |zero=>
    simp only[amw,amu] at hi he
    subst hi;subst he
    exact h1
   |succ i=>
    simp only[amD] at hi he
    have:=hs i o' e hi he
    show GO P n ops w0 o' (xp ((o,((none,Φ):EN))::List.zip (r.take i) es) aj) (CP (List.zip (r.take i) es) f) e.2
    rw[e0];exact this
  ·show K (xp ((o,((none,Φ):EN))::List.zip r es) aj) (CP (List.zip r es) f)
   rw[e0];exact hK
theorem DA:∀(l:List Oper) (es:List EN) (f:aS) (t:Nat),(∀o∈l,o.dst≠some t)→CP (List.zip l es) f t=f t
 |[],es,f,t,h=>rfl
 |o::l,[],f,t,h=>rfl
 |o::l,(some X,Φ)::es,f,t,h=>by
  show CP (List.zip l es) (cU f o.dst X) t=f t
  rw[DA l es _ t (fun o' ho=>h o' (amM _ ho))]
  have:=h o am4
  cases hd:o.dst with
  |none=>rfl
  |some d=>exact jq f X (fun e=>this (by rw[hd,e]))
 |o::l,(none,Φ)::es,f,t,h=>DA l es f t (fun o' ho=>h o' (amM _ ho))
theorem L9:∀(l:List Oper) (es:List EN) (f:aS) (i:Nat) (o:Oper) (d:Nat) (X:Value) (Φ:Value→World→Prop),(l.filterMap (·.dst)).Nodup→l[i]? =some o→es[i]? =some (some X,Φ)→o.dst=some d→CP (List.zip l es) f d=X
 |[],es,f,i,o,d,X,Φ,hn,hi,he,hd=>by simp at hi
 |x::l,[],f,i,o,d,X,Φ,hn,hi,he,hd=>by simp at he
 |x::l,e::es,f,i,o,d,X,Φ,hn,hi,he,hd=>by
  cases i with
  |zero=>
   simp only[amw,amu] at hi he
   subst hi;subst he
   show CP (List.zip l es) (cU f x.dst X) d=X
   rw[DA l es _ d (fun o' ho e=>by
    rw[am6,hd] at hn
    exact(anm.1 hn).1 (amK.2 ⟨o',ho,e⟩)),hd]
   exact iI f d X
  |succ i=>
   simp only[amD] at hi he
   have LC:(l.filterMap (·.dst)).Nodup:=by
    rw[am6] at hn
    split at hn
    ·exact hn
    ·exact(anm.1 hn).2
   obtain⟨a,b⟩:=e
   cases a with
   |none=>exact L9 l es f i o d X Φ LC hi he hd
   |some Y=>exact L9 l es _ i o d X Φ LC hi he hd
theorem HQ:∀(l:List Oper) (es:List EN) (aj:UT) (p:Nat×(Value→World→Prop)),p∈xp (List.zip l es) aj→p∈aj∨∃(i:Nat) (o:Oper),l[i]? =some o∧es[i]? =some (none,p.2)∧o.dst.getD 0=p.1
 |[],es,aj,p,h=>.inl h
 |o::l,[],aj,p,h=>.inl h
 |o::l,(some X,Φ)::es,aj,p,h=>by
  rcases HQ l es aj p h with h1|⟨i,o',h1,h2,h3⟩
  ·exact .inl h1
  ·exact .inr ⟨i+1,o',h1,h2,h3⟩
 |o::l,(none,Φ)::es,aj,p,h=>by
  rcases HQ l es _ p h with h1|⟨i,o',h1,h2,h3⟩
  ·rcases amz.1 h1 with rfl|h1
   ·exact .inr ⟨0,o,J,J,J⟩
   ·exact .inl h1
  ·exact .inr ⟨i+1,o',h1,h2,h3⟩
theorem Zv:∀(l:List Oper) (es:List EN) (aj:UT) (i:Nat) (o:Oper) (Φ:Value→World→Prop),l[i]? =some o→es[i]? =some (none,Φ)→(o.dst.getD 0,Φ)∈xp (List.zip l es) aj∧Ls (xp (List.zip l es) aj) (o.dst.getD 0)=true:=by
 have sg:∀(aj:UT) (t:Nat) (Φ:Value→World→Prop),(t,Φ)∈aj→Ls aj t=true:=fun aj t Φ h=>amR.2 ⟨_,h,by simp⟩
 have Lo:∀(l:List Oper) (es:List EN) (aj:UT) (p:Nat×(Value→World→Prop)),p∈aj→p∈xp (List.zip l es) aj:=by
  intro l
  induction l with
  |nil=>intro es aj p h;exact h
  |cons o l ih=>
   intro es aj p h
   cases es with
   |nil=>exact h
   |cons e es=>
    obtain⟨a,Φ⟩:=e
    cases a with
    |none=>exact ih es _ p (amM _ h)
    |some X=>exact ih es aj p h
 intro l
 induction l with
 |nil=>intro es aj i o Φ hi;simp at hi
 |cons x l ih=>
  intro es aj i o Φ hi he
  cases es with
  |nil=>simp at he
  |cons e es=>
   cases i with
   |zero=>
    simp only[amw,amu] at hi he
    subst hi;subst he
    have:=Lo l es ((x.dst.getD 0,Φ)::aj) (x.dst.getD 0,Φ) am4
    exact⟨this,sg _ _ _ this⟩
   |succ i=>
    simp only[amD] at hi he
    obtain⟨a,Ψ⟩:=e
    cases a with
    |none=>exact ih es _ i o Φ hi he
    |some X=>exact ih es aj i o Φ hi he
end
def KX (n:Nat) (Q:Exit→Act→World→Prop) (w0:World) (aj:UT) (f:aS):Prop:=
 ∀(w':World) (g:aS),Ext w0 w'→(∀t,Ls aj t=false→g t=f t)→(∀(j t:Nat) (Φ:Value→World→Prop),aj[j]? =some (t,Φ)→Φ (g t) w')→Q .normal (bZ n g) w'
section
variable {P:Program} {n:Nat}
theorem Tl {id:Nat} {l:List Oper} {Q:Exit→Act→World→Prop} {f:aS} {w:World} (hm:P.follows .mixedOrders=true) (pW:PF n l=true)
  (h:PX P n l.toArray w (KX n Q w) l [] f):WC P n (.region id l.toArray true) Q f w:=by
 obtain⟨es,hl,hc,Ss,hs,hK⟩:=PX.values l [] f h
 simp only[PF,eQ] at pW
 obtain⟨HJ,P4⟩:=pW
 have abI:=HJ
 simp only[NZ,eQ] at HJ
 obtain⟨⟨⟨⟨⟨hE,hD⟩,hN⟩,hn⟩,hT⟩,zQ⟩:=HJ
 have lD:(l.filterMap (·.dst)).Nodup:=by
  have:=oA _ hN
  unfold i' at this
  rwa [anf] at this
 have eM:∀(i:Nat) (o:Oper) (d:Nat),l[i]? =some o→o.dst=some d→d<n:=by
  intro i o d hi hd
  have:=amq.1 hn d<|qm hi (ef.1 hi).1 hd
  simpa using this
 have ta:∀(i:Nat) (o:Oper),l[i]? =some o→∃d,o.dst=some d:=by
  intro i o hi
  rw[anf] at hD
  exact amG.1<|amq.1 hD o<|dJ hi
 have Cu:∀(i:Nat) (o:Oper) (d:Nat),l[i]? =some o→o.dst=some d→iM l i=d:=by
  intro i o d hi hd
  unfold iM
  rw[hi];show (o.dst).getD 0=d
  rw[hd];rfl
 have Bw:∀(i:Nat),i<l.length→∃e,es[i]? =some e:=fun i hi=>⟨_,eP aq⟩
 have P1:∀(i:Nat) (e:EN) (v:Value) (w':World),es[i]? =some e→(zv (es.map (·.2)) i v w'↔e.2 v w'):=by
  intro i e v w' he
  unfold zv
  rw[gZ,amx,he]
  exact Iff.rfl
 have AX:∀(i j:Nat) (o o':Oper),l[i]? =some o→l[j]? =some o'→o.dst.getD 0=o'.dst.getD 0→i=j:=by
  intro i j o o' hi hj he
  obtain⟨d,hd⟩:=ta i o hi
  obtain⟨d',nq⟩:=ta j o' hj
  exact gU (·.dst) l lD i j o o' hi hj (by show o.dst.isSome=true;rw[hd];rfl)<|by show o.dst=o'.dst;rw[hd,nq] at he ⊢;rw[show d=d' from he]
 
 have Xr:∀(m:Nat),m≤l.length→∀(g:aS) (w':World) (t:Nat),
   ((i' l.length l).contains t=false→g t=f t)→(∀(q:Nat) (o:Oper) (e:EN),q<m→l[q]? =some o→es[q]? =some e→o.dst=some t→e.2 (g t) w')→
   (∀(q:Nat) (o:Oper),l[q]? =some o→o.dst=some t→q<m)→
   (Ls (xp (List.zip (l.take m) es) []) t=false→g t=CP (List.zip (l.take m) es) f t)∧∀(j:Nat) (Φ:Value→World→Prop),(xp (List.zip (l.take m) es) [])[j]? =some (t,Φ)→Φ (g t) w':=by
  intro m hm g w' t h1 h2 h3
  constructor
  ·intro hu
   by_cases ht:(i' l.length l).contains t=true
   ·have St:t∈l.filterMap (·.dst):=by
     have:=amV.1 ht
     unfold i' at this
     rwa [anf] at this
    obtain⟨o,ho,zP⟩:=amK.1 St
    obtain⟨q,hq⟩:=amB.1 ho
    have iQ:=h3 q o hq zP
    obtain⟨e,he⟩:=Bw q (ef.1 hq).1
    have Xg:(l.take m)[q]? =some o:=by rw[amL,aml iQ];exact hq
    obtain⟨a,Φ⟩:=e
    cases a with
    |none=>
     have:=(Zv (l.take m) es [] q o Φ Xg he).2
     rw[zP] at this
     rw[show (some t).getD 0=t from rfl] at this
     rw[hu] at this;cases this
    |some X=>
     have hv:=h2 q o _ iQ hq he zP
     rw[hc _ (dJ he) X rfl] at hv
     rw[L9 (l.take m) es f q o t X Φ (lD.sublist ((List.take_sublist m l).filterMap _)) Xg he zP]
     exact hv
   ·rw[h1 (by simpa using ht),DA]
    intro o' LA he
    obtain⟨j,hj⟩:=amB.1 (anz LA)
    exact ht<|amV.2<|qm hj (ef.1 hj).1 he
  ·intro j Φ hj
   rcases HQ (l.take m) es [] (t,Φ) (dJ hj) with h4|⟨q,o,hq,he,hd⟩
   ·cases h4
   ·have iQ:q<m:=by have:=(ef.1 hq).1;rw[ij] at this;omega
    rw[amL,aml iQ] at hq
    obtain⟨d,LO⟩:=ta q o hq
    have hdt:d=t:=by have h9:o.dst.getD 0=t:=hd;rw[LO] at h9;exact h9
    rw[hdt] at LO
    exact h2 q o _ iQ hq he LO
 have hof:∀(r:List Oper) (i:Nat),(∀j o,r[j]? =some o→DStep P n l l.length (es.map (·.2)) f w (i+j) o)→ma P n l l.length (es.map (·.2)) f w i r:=by
  intro r
  induction r with
  |nil=>intro i _;trivial
  |cons x r ih=>
   intro i hx
   refine⟨fun _=>hx 0 x rfl,ih (i+1) fun j o hj=>?_⟩
   have:=hx (j+1) o<|by simpa using hj
   rwa [show i+(j+1)=i+1+j from by omega] at this
 refine dr l.length (es.map (·.2)) hm abI (hof l 0 fun i o hi=>?_) fun g w' hg hx hp=>?_
 ·rw[am2]
  have jA:=(ef.1 hi).1
  obtain⟨e,he⟩:=Bw i jA
  refine⟨fun g w' hg hx hp=>?_,fun v w1 w2 hx h=>by rw[P1 i e v _ he] at h ⊢;exact Ss e (dJ he) v w1 w2 hx h⟩
  refine(hs i o e hi he w' g hx fun t ht=>?_).mono ?_
  ·refine Xr i (Nat.le_of_lt jA) g w' t (hg t) (fun q o' e' hq tq heq zP=>?_)<|fun q o' tq zP=>?_
   ·rcases (xT l 0 P4 i o hi).1 t ht with h1|⟨q',hq',uL,Xm,hqd⟩
    ·have:=qm tq (ef.1 tq).1 zP
     rw[amV.2 this] at h1;cases h1
    ·have IV:q'<l.length:=by omega
     obtain⟨d',nq⟩:=ta q' l[q'] (eP IV)
     have:=Cu q' _ d' (eP IV) nq
     have hqq:q'=q:=AX q' q _ _ (eP IV) tq (by rw[nq,zP];show d'=t;rw[←this,Xm])
     subst hqq
     have h5:=hp q' uL<|by simpa using IV
     rw[Xm] at h5
     exact(P1 q' e' _ w' heq).1 h5
   ·rcases (xT l 0 P4 i o hi).1 t ht with h1|⟨q',hq',uL,Xm,hqd⟩
    ·have:=qm tq (ef.1 tq).1 zP
     rw[amV.2 this] at h1;cases h1
    ·have IV:q'<l.length:=by omega
     obtain⟨d',nq⟩:=ta q' l[q'] (eP IV)
     have:=Cu q' _ d' (eP IV) nq
     have hqq:q'=q:=AX q' q _ _ (eP IV) tq (by rw[nq,zP];show d'=t;rw[←this,Xm])
     omega
  ·rintro Ed mo ⟨v,rfl,iW,hv⟩
   exact⟨v,J,iW,(P1 i e _ _ he).2 hv⟩
 ·rw[anS (amk _)]
  refine z ?_
  have oC:∀t,_:=fun t=>Xr l.length (amk _) g w' t (hg t) (fun q o e hq tq heq zP=>by
   have h5:=hp q<|by simpa using hq
   rw[Cu q o t tq zP] at h5
   exact(P1 q e _ w' heq).1 h5) (fun q o tq zP=>(ef.1 tq).1)
  rw[anf] at oC
  exact hK w' g hx (fun t ht=>(oC t).1 ht)<|fun j t Φ hj=>(oC t).2 j Φ hj
end
section
variable {P:Program} {n:Nat} {ops:Array Oper} {w0:World} {K:UT→aS→Prop} {f:aS} {rest:List Oper} {aj:UT} {o:Oper} {v X:Value} {Φ Ψ:Value→World→Prop} {d d2:Nat}
def JR (ops:Array Oper) (o:Oper) (aj:UT):Bool:=(o.looksAt ops).all (fun t=>!Ls aj t)
def Qn (ops:Array Oper) (o:Oper) (aj:UT) (d:Nat):Bool:=(o.looksAt ops).all (fun t=>Nat.beq t d||!Ls aj t)
def lN (n:Nat) (o:Oper):Bool:=(match o.op with| .select _ _=>false|_=>true)&&(match o.dst with|some d=>Nat.blt d n|none=>true)
theorem gk (h:lN n o=true):(∀cs b,o.op≠.select cs b)∧∀d,o.dst=some d→d<n:=by
 unfold lN at h
 rw[eQ] at h
 refine⟨fun cs b e=>(by rw[e] at h;have h1:=h.1;cases h1),fun d hd=>?_⟩
 have:=h.2
 rw[hd] at this
 simpa using this
theorem L5 (h:JR ops o aj=true) {g:aS} {w:World} (ha:Agr (o.looksAt ops) aj f g w):∀t∈o.looksAt ops,g t=f t:=by
 intro t ht
 have:=amq.1 h t ht
 exact(ha t ht).1 (by simpa using this)
theorem xk (hf:(lN n o&&JR ops o aj)=true) (h:∀w,Ext w0 w→SO P n ops o f w (fun f' w'=>f'=cU f o.dst X∧Ext w w')) (r:PX P n ops w0 K rest aj (cU f o.dst X)):PX P n ops w0 K (o::rest) aj f:=by
 rw[eQ] at hf
 refine .inl ⟨X,fun w g hx ha=>?_,r⟩
 exact SO.rG ((h w hx).mono fun f' w' hq=>⟨X,hq.1,hq.2,J⟩) (gk hf.1).1 (L5 hf.2 ha) (gk hf.1).2
theorem xu (Φ:Value→World→Prop) (hd:o.dst=some d) (hm:∀v w w',Ext w w'→Φ v w→Φ v w') (hf:(lN n o&&JR ops o aj)=true) (h:∀w,Ext w0 w→SO P n ops o f w (fun f' w'=>∃v,f'=cU f o.dst v∧Ext w w'∧Φ v w')) (r:PX P n ops w0 K rest ((d,Φ)::aj) f):PX P n ops w0 K (o::rest) aj f:=by
 rw[eQ] at hf
 exact .inr ⟨d,Φ,hd,hm,fun w g hx ha=>SO.rG (h w hx) (gk hf.1).1 (L5 hf.2 ha) (gk hf.1).2,r⟩
theorem NX {j:Nat} (hU:aj[j]? =some (d,Ψ)) (h:Qn ops o aj d=true) {g:aS} {w:World} (ha:Agr (o.looksAt ops) aj f g w) (hl:(o.looksAt ops).contains d=true):Ψ (g d) w∧∀t∈o.looksAt ops,g t=b9 f d (g d) t:=by
 refine⟨(ha d<|amV.1 hl).2 j Ψ hU,fun t ht=>?_⟩
 by_cases e:t=d
 ·subst e;exact(iI _ _ _).symm
 ·rw[jq _ _ e]
  have:=amq.1 h t ht
  rcases am'.1 this with h1|h1
  ·exact absurd (ans h1) e
  ·exact(ha t ht).1 (by simpa using h1)
theorem Z2 (j:Nat) (hU:aj[j]? =some (d,Ψ)) (hf:(lN n o&&Qn ops o aj d&&(o.looksAt ops).contains d)=true) (h:∀w v,Ext w0 w→Ψ v w→SO P n ops o (b9 f d v) w (fun f' w'=>f'=cU (b9 f d v) o.dst X∧Ext w w')) (r:PX P n ops w0 K rest aj (cU f o.dst X)):PX P n ops w0 K (o::rest) aj f:=by
 rw[eQ,eQ] at hf
 refine .inl ⟨X,fun w g hx ha=>?_,r⟩
 obtain⟨h1,h2⟩:=NX hU hf.1.2 ha hf.2
 exact SO.rG ((h w (g d) hx h1).mono fun f' w' hq=>⟨X,hq.1,hq.2,J⟩) (gk hf.1.1).1 h2 (gk hf.1.1).2
theorem ZZ (Φ:Value→World→Prop) (j:Nat) (hU:aj[j]? =some (d,Ψ)) (hd:o.dst=some d2) (hm:∀v w w',Ext w w'→Φ v w→Φ v w') (hf:(lN n o&&Qn ops o aj d&&(o.looksAt ops).contains d)=true) (h:∀w v,Ext w0 w→Ψ v w→SO P n ops o (b9 f d v) w (fun f' w'=>∃u,f'=cU (b9 f d v) o.dst u∧Ext w w'∧Φ u w')) (r:PX P n ops w0 K rest ((d2,Φ)::aj) f):PX P n ops w0 K (o::rest) aj f:=by
 rw[eQ,eQ] at hf
 refine .inr ⟨d2,Φ,hd,hm,fun w g hx ha=>?_,r⟩
 obtain⟨h1,h2⟩:=NX hU hf.1.2 ha hf.2
 exact SO.rG (h w (g d) hx h1) (gk hf.1.1).1 h2 (gk hf.1.1).2
theorem zx (h:K aj f):PX P n ops w0 K [] aj f:=h
theorem xq (hf:(lN n o&&JR ops o aj)=true) (h:PW P n ops w0 (fun f'=>PX P n ops w0 K rest aj f') [o] f):PX P n ops w0 K (o::rest) aj f:=by
 obtain⟨X,h1,h2⟩:=h
 exact xk hf h1 h2
end
section
variable {P:Program} {n:Nat} {ops:Array Oper} {w0:World}
theorem PW.toX {K:aS→Prop}:∀(l:List Oper) (f:aS),(∀o∈l,(∀cs b,o.op≠.select cs b)∧∀d,o.dst=some d→d<n)→PW P n ops w0 K l f→PX P n ops w0 (fun aj f=>aj=[]∧K f) l [] f
 |[],f,_,h=>⟨rfl,h⟩
 |o::r,f,ho,⟨X,h1,h2⟩=>.inl ⟨X,fun w g hx ha=>SO.rG ((h1 w hx).mono fun f' w' hq=>⟨X,hq.1,hq.2,rfl⟩) (ho o am4).1 (fun t ht=>(ha t ht).1 rfl) (ho o am4).2,PW.toX r _ (fun o' LA=>ho o' (amM _ LA)) h2⟩
theorem PX.mono {K K':UT→aS→Prop} (hK:∀aj f,K aj f→K' aj f):∀(l:List Oper) (aj:UT) (f:aS),PX P n ops w0 K l aj f→PX P n ops w0 K' l aj f
 |[],aj,f,h=>hK aj f h
 |o::r,aj,f,.inl ⟨X,h1,h2⟩=>.inl ⟨X,h1,PX.mono hK r aj _ h2⟩
 |o::r,aj,f,.inr ⟨d,Φ,h0,hm,h1,h2⟩=>.inr ⟨d,Φ,h0,hm,h1,PX.mono hK r _ f h2⟩
theorem BD {id:Nat} {l:List Oper} {Q:Exit→Act→World→Prop} {f:aS} {w:World} (hm:P.follows .mixedOrders=true) (pW:PF n l=true)
  (h:PW P n l.toArray w (fun f'=>∀w',Ext w w'→Q .normal (bZ n f') w') l f):WC P n (.region id l.toArray true) Q f w:=by
 have abJ:=pW
 simp only[PF,eQ] at abJ
 obtain⟨HJ,P4⟩:=abJ
 simp only[NZ,eQ] at HJ
 obtain⟨⟨⟨⟨⟨hE,hD⟩,hN⟩,hn⟩,hT⟩,zQ⟩:=HJ
 refine Tl hm pW<|PX.mono ?_ l [] f<|PW.toX l f ?_ h
 ·rintro aj g ⟨rfl,hK⟩ w' g' hx hg _
  have e:g'=g:=by funext t;exact hg t rfl
  rw[e];exact hK w' hx
 ·intro o ho
  obtain⟨i,hi⟩:=amB.1 ho
  refine⟨(xT l 0 P4 i o hi).2,fun d hd=>?_⟩
  have:=amq.1 hn d<|qm hi (ef.1 hi).1 hd
  simpa using this
end
end Go.Ew
namespace Go.Ew
open Go.RowKit
section
variable {P:Program} {n:Nat} {l:List Oper}
theorem Yr {Q:Exit→Act→World→Prop} (ab:(Nat→Bool)→aS→World→Prop) (hE:qO 0 l=true)
  (Dt:∀(L:Nat→Bool) (f:aS) (w:World) (i:Nat) (o:Oper),l[i]? =some o→L i=false→(∀j,L j=true→j<l.length)→(∀j,kH o j=true→L j=true)→ab L f w→SO P n l.toArray o f w (ab (fun k=>L k||decide (k=i))))
  (vn:∀(f:aS) (w:World),ab (fun k=>decide (k<l.length)) f w→Q .normal (bZ n f) w):
  ∀(d:Nat) (listed:Array Bool) (f:aS) (w:World),listed.size=l.length→(listed.toList.filter (fun b=>!b)).length=d→ab (fun k=>listed.getD k false) f w→wpAny P .any l.toArray Q d listed (bZ n f) w:=by
 intro d
 induction d with
 |zero=>
  intro listed f w pq hd hJ
  have oC:∀i,i<l.length→listed.getD i false=true:=by
   intro i hi
   have h0:=anH hd
   rw[ano] at h0
   have pv:i<listed.size:=by omega
   have:=h0 listed[i]<|by simp
   simp at this
   simp[Array.getD,pv,this]
  refine⟨?_,?_⟩
  ·apply List.eq_nil_iff_forall_not_mem.2
   intro i hi
   obtain⟨h0,o,ho, -⟩:=mem_ready.1 hi
   have pU:l[i]? =some o:=by simpa using ho
   have jA:i<l.length:=(ef.1 pU).1
   rw[show listed.getD i true=listed.getD i false from qC aq _ _,oC i jA] at h0
   cases h0
  ·refine vn f w ?_
   have:(fun k=>decide (k<l.length))=fun k=>listed.getD k false:=by
    funext k
    by_cases hk:k<l.length
    ·rw[oC k hk];exact amp hk
    ·rw[ams hk];simp[Array.getD];omega
   rw[this];exact hJ
 |succ d ih=>
  intro listed f w pq hd hJ
  obtain⟨i0,I5⟩:∃i,i<l.length∧listed.getD i false=false:=by
   apply amZ
   intro Gx
   have:listed.toList.filter (fun b=>!b)=[]:=by
    rw[ano]
    intro b hb
    obtain⟨i,hi,rfl⟩:=aod.1 hb
    simp only[am1] at hi
    cases vE:listed.toList[i] with
    |true=>simp
    |false=>
     exfalso
     refine Gx ⟨i,by omega,?_⟩
     simp only[ao7] at vE
     simp[Array.getD,hi,vE]
   rw[this] at hd;cases hd
  obtain⟨m,Su,St⟩:=exists_least (p:=fun i=>i<l.length∧listed.getD i false=false) ⟨i0,I5⟩
  have tu:m<l.length:=by omega
  have iX:l[m]? =some l[m]:=eP tu
  have Bs:m∈Region.ready .any l.toArray listed:=by
   rw[mem_ready]
   refine⟨?_,l[m],by simp,fun e he hb=>?_⟩
   ·rw[show listed.getD m true=listed.getD m false from qC aq _ _];exact Su.2
   ·have eM:=vU l 0 hE m l[m] iX e he hb
    cases vE:listed.getD e.on false with
    |true=>rfl
    |false=>
     have:=St e.on ⟨by omega,vE⟩
     omega
  refine⟨fun h0=>(by rw[h0] at Bs;cases Bs),fun i hi=>?_⟩
  obtain⟨h0,o,ho,zU⟩:=mem_ready.1 hi
  have pU:l[i]? =some o:=by simpa using ho
  have jA:i<l.length:=(ef.1 pU).1
  have LX:listed.getD i false=false:=by
   rw[show listed.getD i false=listed.getD i true from qC aq _ _];exact h0
  have aet:∀j,kH o j=true→listed.getD j false=true:=by
   intro j hj
   obtain⟨e,he,hb,uL⟩:=v8.1 hj
   subst uL
   exact zU e he hb
  have eM:∀j,listed.getD j false=true→j<l.length:=by
   intro j hj
   refine amZ fun hn=>?_
   rw[show listed.getD j false=false from by simp[Array.getD];omega] at hj
   cases hj
  have SD:((listed.setIfInBounds i true).toList.filter (fun b=>!b)).length=d:=by
   have LI:i<listed.size:=by omega
   have tX:listed.toList[i]? =some false:=by
    rw[eP (by simpa using LI)]
    simp only[Array.getD,LI,dif_pos] at LX
    simpa [an3] using LX
   have key:∀(L:List Bool) (i:Nat),L[i]? =some false→((L.set i true).filter (fun b=>!b)).length+1=(L.filter (fun b=>!b)).length:=by
    intro L
    induction L with
    |nil=>intro i h;simp at h
    |cons b L ihL=>
     intro i h
     cases i with
     |zero=>simp at h;subst h;simp
     |succ i=>
      simp at h
      have:=ihL i h
      cases b<;>simp at this ⊢<;>omega
   have:=key listed.toList i tX
   rw[Array.toList_setIfInBounds]
   omega
  refine FO ho (Dt (fun k=>listed.getD k false) f w i o pU LX eM aet hJ) fun f' w' hK=>?_
  refine ih _ _ _ (by simp[pq]) SD ?_
  have:(fun k=>(listed.setIfInBounds i true).getD k false)=fun k=>listed.getD k false||decide (k=i):=by
   funext k
   by_cases hk:k=i
   ·subst hk
    have LI:k<listed.size:=by omega
    simp[Array.getD,LI]
   ·rw[ams hk,anM]
    exact getD_set_ne false fun e=>hk e.symm
  rw[this];exact hK
theorem drj {id:Nat} {Q:Exit→Act→World→Prop} {f:aS} {w:World} (ab:(Nat→Bool)→aS→World→Prop) (hm:P.follows .mixedOrders=true) (hE:qO 0 l=true)
  (h0:ab (fun _=>false) f w.drew)
  (Dt:∀(L:Nat→Bool) (f:aS) (w:World) (i:Nat) (o:Oper),l[i]? =some o→L i=false→(∀j,L j=true→j<l.length)→(∀j,kH o j=true→L j=true)→ab L f w→SO P n l.toArray o f w (ab (fun k=>L k||decide (k=i))))
  (vn:∀(f:aS) (w:World),ab (fun k=>decide (k<l.length)) f w→Q .normal (bZ n f) w):
  WC P n (.region id l.toArray true) Q f w:=by
 refine wp_region_any hm ?_
 have h3:(fun k=>(Array.replicate l.length false).getD k false)=fun _:Nat=>false:=by
  funext i
  simp only[Array.getD];split<;>simp
 have h:=Yr (P:=P) (Q:=Q) ab hE Dt vn l.length (Array.replicate l.length false) f w.drew (by simp) (by simp)<|by rw[h3];exact h0
 simpa using h
end
end Go.Ew
namespace Go.Ew
open Go.RowKit
inductive ZK|r|f|s|e|n
def zkE:ZK→Bool
 | .e=>true
 |_=>false
def zkR:ZK→Bool
 | .r=>true
 | .n=>true
 |_=>false
def zkN:ZK→Bool
 | .n=>true
 |_=>false
def zkS:ZK→Bool
 | .s=>true
 |_=>false
def uJ (Ks:List ZK) (i:Nat):ZK:=Ks.getD i .r
def eE (Ks:List ZK) (i:Nat):Bool:=zkE (uJ Ks i)
def wU (Ks:List ZK) (i:Nat):Bool:=zkR (uJ Ks i)
def nz (Ks:List ZK) (i:Nat):Bool:=zkN (uJ Ks i)
def Lq (Ks:List ZK) (i:Nat):Bool:=zkS (uJ Ks i)
def sH (o:Oper):Bool:=match o.op with
 | .move _=>true
 | .assign _=>true
 | .extract _ _=>true
 |_=>false
def jH (l:List Oper) (i:Nat):Bool:=match l[i]? with
 |some o=>sH o
 |none=>false
def sT (l:List Oper) (Ks:List ZK) (i:Nat):Bool:=eE Ks i&&jH l i
def K_ (o:Oper):Bool:=match o.op with
 | .select _ _=>false
 |_=>true
def K7 (n:Nat) (l:List Oper) (Ks:List ZK):Nat→List Oper→Bool
 |_,[]=>true
 |i,o::r=>
  (o.looksAt l.toArray).all (fun t=>Nat.blt t n&&(!(l.filterMap (·.dst)).contains t||(List.range i).any (fun j=>kH o j&&(match (l[j]?).bind (·.dst) with|some d=>Nat.beq d t|none=>false)&&(eE Ks i||!eE Ks j))))&&
   (K_ o&&((eE Ks i||o.dst.isSome)&&((!Lq Ks i||sH o)&&((!wU Ks i||(List.range l.length).all (fun e=>!eE Ks e||oq l l.length e i))&&((!eE Ks i||(List.range i).all (fun e=>!eE Ks e||(jH l e||oq l l.length i e)))&&((!(eE Ks i&&sH o)||(o.dst.isSome&&(List.range i).any (fun e=>eE Ks e&&!jH l e)))&&K7 n l Ks (i+1) r))))))
def okZ (n:Nat) (l:List Oper) (Ks:List ZK):Bool:=
 qO 0 l&&(nodupB (l.filterMap (·.dst))&&((l.filterMap (·.dst)).all (fun d=>Nat.blt d n)&&K7 n l Ks 0 l))
section
variable {P:Program} {n:Nat} {l:List Oper} {Ks:List ZK} {ops:Array Oper}
structure Z1 (n:Nat) (l:List Oper) (Ks:List ZK) (i:Nat) (o:Oper):Prop where
 look:∀t∈o.looksAt l.toArray,t<n∧((∀(q:Nat) (o':Oper),l[q]? =some o'→o'.dst≠some t)∨∃(j:Nat) (o':Oper),j<i∧kH o j=true∧l[j]? =some o'∧o'.dst=some t∧(eE Ks i=false→eE Ks j=false))
 sel:∀cs b,o.op≠.select cs b
 dst:eE Ks i=false→∃d,o.dst=some d
 slot:Lq Ks i=true→sH o=true
 rd:wU Ks i=true→∀e,e<l.length→eE Ks e=true→oq l l.length e i=true
 ord:eE Ks i=true→∀e,e<i→eE Ks e=true→jH l e=false→oq l l.length i e=true
 xd:eE Ks i=true→sH o=true→(∃d,o.dst=some d)∧∃e,e<i∧eE Ks e=true∧jH l e=false
theorem RZ {o:Oper} (h:K_ o=true):∀cs b,o.op≠.select cs b:=fun cs b e=>by unfold K_ at h;rw[e] at h;cases h
theorem NY:∀(r:List Oper) (i:Nat),K7 n l Ks i r=true→∀j o,r[j]? =some o→Z1 n l Ks (i+j) o
 |[],_,_,j,o,h=>by simp at h
 |x::r,i,h,j+1,o,hj=>by
  simp only[K7,eQ] at h
  have:=NY r (i+1) h.2.2.2.2.2.2.2 j o<|by simpa using hj
  rwa [show i+1+j=i+(j+1) from by omega] at this
 |x::r,i,h,0,o,hj=>by
  simp only[amw,amu] at hj
  subst hj
  simp only[K7,eQ] at h
  obtain⟨h1,h2,h3,h4,h5,h6,h7, -⟩:=h
  refine⟨fun t ht=>?_,RZ h2,fun hE=>?_,fun hS=>?_,fun hR e he mS=>?_,fun hE e he mS qt=>?_,fun hE hs=>?_⟩
  ·have:=amq.1 h1 t ht
   simp only[eQ,aom,amt,anq] at this
   refine⟨this.1,this.2.imp (fun h q o' hq hd=>?_) fun h=>?_⟩
   ·have hm:t∈l.filterMap (·.dst):=amK.2 ⟨o',dJ hq,hd⟩
    rw[amV.2 hm] at h;cases h
   ·obtain⟨j,hj,hq⟩:=amR.1 h
    simp only[eQ,amt,anq] at hq
    obtain⟨⟨q1,q2⟩,q3⟩:=hq
    cases hl:l[j]? with
    |none=>rw[hl] at q2;cases q2
    |some o'=>
     rw[hl] at q2
     cases hd:o'.dst with
     |none=>simp[hd] at q2
     |some d=>
      simp[hd] at q2
      refine⟨j,o',by have:=amm.1 hj;omega,q1,hl,by rw[hd,q2],fun hi=>?_⟩
      rcases q3 with q3|q3
      ·rw[amX] at hi;rw[hi] at q3;cases q3
      ·exact q3
  ·rw[amX] at hE
   rw[hE] at h3
   exact amG.1<|by simpa using h3
  ·rw[amX] at hS
   rw[hS] at h4;simpa using h4
  ·rw[amX] at hR ⊢
   rw[hR] at h5
   rw[aoB,an8] at h5
   have:=amq.1 h5 e<|amm.2 he
   rw[mS] at this;simpa using this
  ·rw[amX] at hE he ⊢
   rw[hE] at h6
   rw[aoB,an8] at h6
   have:=amq.1 h6 e<|amm.2 he
   rw[mS,qt] at this;simpa using this
  ·rw[amX] at hE ⊢
   rw[hE,hs] at h7
   simp only[Bool.and_self,aoB,an8,eQ] at h7
   obtain⟨e,he,hq⟩:=amR.1 h7.2
   rw[eQ,anq] at hq
   exact⟨amG.1 h7.1,e,amm.1 he,hq.1,hq.2⟩
theorem Ix {o:Oper} {g:aS} {w:World} {ai:Value→World→Prop} (hs:sH o=true) (hd:∃d,o.dst=some d∧d<n)
  (h:SO P n ops o g w (fun f' w'=>∃v,f'=cU g o.dst v∧True∧ai v w')):
  ∃v,ai v w∧∀g2 w2,(∀t∈o.looksAt ops,g2 t=g t)→SO P n ops o g2 w2 (fun f' w'=>f'=cU g2 o.dst v∧w'=w2):=by
 obtain⟨d,hd,si⟩:=hd
 have h1:=h (fun e a w'=>match e with| .normal=>∃v,a=bZ n (cU g o.dst v)∧True∧ai v w'|_=>False) []<|fun f' w' hK=>wpList_nil (by obtain⟨v,h1,h2⟩:=hK;exact⟨v,by rw[h1],h2⟩)
 have hw:∀g2:aS,(∀t∈o.looksAt ops,g2 t=g t)→Region.wanted o (yielded ops (bZ n g2).tmps)=Region.wanted o (yielded ops (bZ n g).tmps):=fun g2 hu=>xC fun j b hg t ht=>hu t (by
  unfold Oper.looksAt
  rw[hg]
  refine anu _ ?_
  simp[ht])
 have ahe:∀cs b,o.op≠.select cs b:=fun cs b e=>by unfold sH at hs;rw[e] at hs;cases hs
 have he:∀g2:aS,(∀t∈o.looksAt ops,g2 t=g t)→execOp (bZ n g2).eval o=execOp (bZ n g).eval o:=fun g2 hu=>execOp_congr o ahe fun x hx=>C1 fun t ht=>hu t (by
  subst ht
  exact anA _ (amK.2 ⟨.tmp t,by simpa using hx,rfl⟩))
 have P0:∀(g2:aS) (u:Value),(bZ n g2).put o.dst u=bZ n (cU g2 o.dst u):=fun g2 u=>by rw[ql]
 unfold wpList at h1
 split at h1
 ·rename_i Cr
  
  have kD:(∃u,∀w2,(execOp (bZ n g).eval o).run P w2=.ok (.value u) w2)∨∀w2 x w3,(execOp (bZ n g).eval o).run P w2≠.ok x w3:=by
   obtain⟨dst,op,ty,ps,af,gd⟩:=o
   unfold sH at hs
   cases op<;>simp only at hs<;>try (cases hs;done)
   ·left;exact⟨_,fun w2=>rfl⟩
   ·left;exact⟨_,fun w2=>rfl⟩
   ·rename_i x i
    cases hx:(bZ n g).eval x with
    |tuple vs=>
     cases hi:vs[i]? with
     |some v=>left;exact⟨v,fun w2=>by simp[execOp,Instr.extract,hx,hi]⟩
     |none=>right;intro w2 y w3 hh;simp[execOp,Instr.extract,hx,hi] at hh
    |_=>right;intro w2 y w3 hh;simp[execOp,Instr.extract,hx] at hh
  rcases h1 with h2|⟨_,a0,w1,hq⟩
  ·rcases kD with ⟨u,hu⟩|Gx
   ·unfold Oper.wp at h2
    rw[hu w] at h2
    simp only[Oper.upon] at h2
    obtain⟨v,hv, -,hR⟩:=(show ∃v,_∧_∧_ from h2)
    rw[P0,hd] at hv
    have Sh:u=v:=FI si hv
    subst Sh
    refine⟨u,hR,fun g2 w2 hl Q rest hk=>?_⟩
    unfold wpList
    rw[hw g2 hl,aml Cr]
    refine .inl ?_
    unfold Oper.wp
    rw[he g2 hl,hu w2]
    simp only[Oper.upon]
    rw[P0]
    exact hk _ _ ⟨J,J⟩
   ·exfalso
    unfold Oper.wp at h2
    generalize hr:(execOp (bZ n g).eval o).run P w=r at h2
    cases r with
    |ok x w'=>exact Gx w x w' hr
    |halt x w'=>cases x<;>simp only[Oper.upon] at h2<;>exact h2.elim
  ·exact hq.elim
 ·rename_i Cr
  have h2:=h1
  obtain⟨v,hv, -,hR⟩:=(show ∃v,(bZ n g).put o.dst undef=_∧_∧_ from h2)
  rw[P0,hd] at hv
  have Sh:undef=v:=FI si hv
  subst Sh
  refine⟨undef,hR,fun g2 w2 hl Q rest hk=>?_⟩
  unfold wpList
  rw[hw g2 hl,amn Cr]
  rw[P0]
  exact hk _ _ ⟨J,J⟩
theorem Ui {o:Oper} {g:aS} {w:World} {ai:Value→World→Prop} (hs:sH o=true) (hd:∃d,o.dst=some d∧d<n)
  (h:SO P n ops o g w (fun f' w'=>∃v,f'=cU g o.dst v∧Ext w w'∧ai v w')):
  ∃v,ai v w∧∀g2 w2,(∀t∈o.looksAt ops,g2 t=g t)→SO P n ops o g2 w2 (fun f' w'=>f'=cU g2 o.dst v∧w'=w2):=
 Ix hs hd (h.mono fun f' w' ⟨v,h1,_,h2⟩=>⟨v,h1,trivial,h2⟩)
theorem SO.WR {o:Oper} {f g:aS} {w:World} {ai:aS→World→Prop} (h:SO P n ops o g w ai) (hs:∀cs b,o.op≠.select cs b) (hu:∀t∈o.looksAt ops,f t=g t):
  SO P n ops o f w (fun f' w'=>∃v g',f'=cU f o.dst v∧bZ n g'=bZ n (cU g o.dst v)∧ai g' w'):=by
 intro Q rest hk
 have h1:=h (fun e a w'=>match e with| .normal=>∃g',a=bZ n g'∧ai g' w'|_=>False) []<|fun f' w' hK=>wpList_nil ⟨f',J,hK⟩
 have he:execOp (bZ n f).eval o=execOp (bZ n g).eval o:=execOp_congr o hs fun x hx=>C1 fun t ht=>hu t (by
  subst ht
  exact anA _ (amK.2 ⟨.tmp t,by simpa using hx,rfl⟩))
 have hw:Region.wanted o (yielded ops (bZ n f).tmps)=Region.wanted o (yielded ops (bZ n g).tmps):=xC fun j b hg t ht=>hu t (by
  unfold Oper.looksAt
  rw[hg]
  refine anu _ ?_
  simp[ht])
 have key:∀u w',(∃g',(bZ n g).put o.dst u=bZ n g'∧ai g' w')→wpList P ops Q rest ((bZ n f).put o.dst u) w':=by
  rintro u w' ⟨g',hq,h2⟩
  rw[ql] at hq ⊢
  exact hk _ _ ⟨u,g',J,hq.symm,h2⟩
 unfold wpList at h1 ⊢
 rw[hw]
 split at h1
 ·rename_i Cr
  rw[aml Cr]
  refine .inl ?_
  rcases h1 with h2|⟨_,a0,w1,hq⟩
  ·unfold Oper.wp at h2 ⊢
   rw[he]
   generalize (execOp (bZ n g).eval o).run P w=r at *
   cases r with
   |ok x w'=>
    cases x with
    |enter c args=>
     simp only[Oper.upon] at h2 ⊢
     refine Calls.mono h2 ?_
     intro e mo yj
     cases e with
     |returned u=>exact key u mo yj
     |panicked c=>exact yj.elim
     |outgrown=>obtain⟨a0,w1,hq⟩:=yj;exact hq.elim
    |row r args=>
     simp only[Oper.upon] at h2 ⊢
     exact Rows.mono h2 fun u mo yj=>key u mo yj
    |defer dd=>
     simp only[Oper.upon] at h2 ⊢
     obtain⟨g',h3, -⟩:=(show ∃g',_∧_ from h2)
     exfalso
     have h4:=amh (fun a=>a.defers.length) h3
     cases ta:o.dst<;>rw[ta] at h4<;>simp[Act.put,bZ] at h4
    |value u=>
     simp only[Oper.upon] at h2 ⊢
     exact key u w' h2
    |skip=>
     simp only[Oper.upon] at h2 ⊢
     exact key undef w' h2
    |_=>exact(show False from h2).elim
   |halt x w'=>cases x<;>simp only[Oper.upon] at h2 ⊢<;>exact h2.elim
  ·exact hq.elim
 ·rename_i Cr
  rw[amn Cr]
  exact key undef w h1
end
def WE (P:Program) (n:Nat) (ops:Array Oper) (ag:World→Prop) (K:aS→World→Prop):List Oper→aS→World→Prop
 |[],f,w=>K f w
 |o::r,f,w=>SO P n ops o f w (fun f' w'=>ag w'∧WE P n ops ag K r f' w')
def Fs:List ZK→List Oper→List Oper
 |_,[]=>[]
 |ks,o::r=>match ks.headD .r with
  | .e=>o::Fs ks.tail r
  |_=>Fs ks.tail r
abbrev PR:=(Nat→Prop)→Value→World→Prop
abbrev UN:=List (Nat×PR)
def wV (aj:UN) (t:Nat):Bool:=aj.any (fun p=>Nat.beq p.1 t)
def eN (X:Value):PR:=fun _ v _=>v=X
structure rJ (Φ:PR):Prop where
 ext:∀N v w w',Ext w w'→Φ N v w→Φ N v w'
 grow:∀(N N':Nat→Prop) v (w:World),(∀b,N b→N' b)→(∀b,N' b→N b∨w.heap.size≤b)→Φ N v w→Φ N' v w
theorem W2 (X:Value):rJ (eN X):=⟨fun _ _ _ _ _ h=>h,fun _ _ _ _ _ _ h=>h⟩
def Jp (w0:World) (z:Array Value) (T:TypeId):PR:=fun N v w=>∃b,v=.pointer (some ⟨b,0,none⟩)∧w0.heap.size≤b∧w.heap[b]? =some (.cells z T (0,0))∧N b
theorem aef (w0:World) (z:Array Value) (T:TypeId):rJ (Jp w0 z T):=
 ⟨fun N v w w' hx ⟨b,h1,h2,h3,h4⟩=>⟨b,h1,h2,(hx.block b (amN.1 h3).1).trans h3,h4⟩,fun N N' v w h _ ⟨b,h1,h2,h3,h4⟩=>⟨b,h1,h2,h3,h b h4⟩⟩
def Em (w0:World) (N:Nat→Prop) (w:World):Prop:=∀b,N b→w0.heap.size≤b∧b<w.heap.size
def Yj (L:List Nat) (aj:UN) (f g:aS) (N:Nat→Prop) (w:World):Prop:=
 ∀t∈L,(wV aj t=false→g t=f t)∧(∀(j:Nat) (Φ:PR),aj[j]? =some (t,Φ)→Φ N (g t) w)
def GN (P:Program) (n:Nat) (ops:Array Oper) (w0:World) (o:Oper) (aj:UN) (f:aS) (ai:PR):Prop:=
 ∀w g N,Ext w0 w→Em w0 N w→Yj (o.looksAt ops) aj f g N w→SO P n ops o g w (fun f' w'=>∃v,f'=cU g o.dst v∧Ext w w'∧ai N v w')
def MH (z:Array Value) (T:TypeId) (w:World) (v:Value) (w':World):Prop:=∃b,v=.pointer (some ⟨b,0,none⟩)∧w.heap.size≤b∧w'.heap[b]? =some (.cells z T (0,0))
def PZ (P:Program) (n:Nat) (ops:Array Oper) (w0:World) (ag:World→Prop) (K:UN→aS→Prop):List Oper→List ZK→UN→aS→Prop
 |[],_,aj,f=>K aj f
 |o::r,ks,aj,f=>match ks.headD .r with
  | .e=>PZ P n ops w0 ag K r ks.tail aj f
  | .f=>∃X,(∀w g,ag w→(∀t∈o.looksAt ops,wV aj t=false∧g t=f t)→SO P n ops o g w (fun f' w'=>f'=cU g o.dst X∧w'=w))∧((o.looksAt ops).all (fun t=>!wV aj t))=true∧PZ P n ops w0 ag K r ks.tail aj (cU f o.dst X)
  | .n=>∃d z T,o.dst=some d∧((o.looksAt ops).all (fun t=>!wV aj t))=true∧(∀w g,Ext w0 w→(∀t∈o.looksAt ops,g t=f t)→SO P n ops o g w (fun f' w'=>∃v,f'=cU g o.dst v∧Ext w w'∧MH z T w v w'))∧PZ P n ops w0 ag K r ks.tail ((d,Jp w0 z T)::aj) f
  |_=>(∃X,GN P n ops w0 o aj f (eN X)∧PZ P n ops w0 ag K r ks.tail aj (cU f o.dst X))∨
    (∃d Φ,o.dst=some d∧rJ Φ∧GN P n ops w0 o aj f Φ∧PZ P n ops w0 ag K r ks.tail ((d,Φ)::aj) f)
def KZ (P:Program) (n:Nat) (ops:Array Oper) (Q:Exit→Act→World→Prop) (w0:World) (ag:World→Prop) (E:List Oper) (Nd:List Nat) (aj:UN) (f:aS):Prop:=
 ∀(w':World) (g:aS) (N:Nat→Prop),Ext w0 w'→Em w0 N w'→(∀d d',d∈Nd→d'∈Nd→d≠d'→g d≠g d')→(∀t,wV aj t=false→g t=f t)→(∀(j t:Nat) (Φ:PR),aj[j]? =some (t,Φ)→Φ N (g t) w')→WE P n ops ag (fun f w=>Q .normal (bZ n f) w) E g w'
def E3:List ZK→List Oper→List Nat
 |_,[]=>[]
 |ks,o::r=>match ks.headD .r with
  | .n=>o.dst.getD 0::E3 ks.tail r
  |_=>E3 ks.tail r
def mY (E:List PR) (i:Nat):PR:=E.getD i (fun _ _ _=>True)
section
variable {P:Program} {n:Nat} {l:List Oper} {Ks:List ZK} {w0:World} {ag:World→Prop} {f0:aS}
structure Kn (l:List Oper) (Ks:List ZK) (f0:aS) (E:List PR) (m:Nat) (g:aS) (N:Nat→Prop) (w:World) (t:Nat):Prop where
 off:(∀(q:Nat) (o:Oper),l[q]? =some o→o.dst=some t→eE Ks q=true)→g t=f0 t
 z6:∀(q:Nat) (o:Oper),q<m→l[q]? =some o→o.dst=some t→eE Ks q=false→mY E q N (g t) w
def Yb (l:List Oper) (Ks:List ZK) (m t:Nat):Prop:=∀(q:Nat) (o:Oper),l[q]? =some o→o.dst=some t→eE Ks q=false→q<m
structure QK (l:List Oper) (Ks:List ZK) (f0:aS) (E:List PR) (m:Nat) (aj:UN) (f:aS):Prop where
 is:∀(g:aS) (N:Nat→Prop) (w:World) (t:Nat),Yb l Ks m t→Kn l Ks f0 E m g N w t→(wV aj t=false→g t=f t)∧∀(j:Nat) (Φ:PR),aj[j]? =some (t,Φ)→Φ N (g t) w
 GX:∀(j t:Nat) (Φ:PR),aj[j]? =some (t,Φ)→∃(q:Nat) (o:Oper),q<m∧l[q]? =some o∧o.dst=some t
def afn (P:Program) (n:Nat) (l:List Oper) (Ks:List ZK) (w0:World) (f0:aS) (E:List PR) (i:Nat) (o:Oper):Prop:=
 ∀(g:aS) (N:Nat→Prop) (w:World),Ext w0 w→Em w0 N w→(∀t∈o.looksAt l.toArray,Kn l Ks f0 E i g N w t)→SO P n l.toArray o g w (fun f' w'=>∃v,f'=cU g o.dst v∧Ext w w'∧mY E i N v w')
def afo (P:Program) (n:Nat) (l:List Oper) (Ks:List ZK) (w0:World) (f0:aS) (E:List PR) (i:Nat) (o:Oper):Prop:=
 ∃z T,mY E i=Jp w0 z T∧∀(g:aS) (N:Nat→Prop) (w:World),Ext w0 w→(∀t∈o.looksAt l.toArray,Kn l Ks f0 E i g N w t)→SO P n l.toArray o g w (fun f' w'=>∃v,f'=cU g o.dst v∧Ext w w'∧MH z T w v w')
def afp (P:Program) (n:Nat) (l:List Oper) (Ks:List ZK) (ag:World→Prop) (f0:aS) (E:List PR) (i:Nat) (o:Oper):Prop:=
 ∃X,mY E i=eN X∧∀(g:aS) (N:Nat→Prop) (w w1:World),ag w→(∀t∈o.looksAt l.toArray,Kn l Ks f0 E i g N w1 t)→SO P n l.toArray o g w (fun f' w'=>f'=cU g o.dst X∧w'=w)
structure Fact (P:Program) (n:Nat) (l:List Oper) (Ks:List ZK) (w0:World) (ag:World→Prop) (f0:aS) (E:List PR) (i:Nat) (o:Oper):Prop where
 mono:rJ (mY E i)
 go:eE Ks i=false→(afn P n l Ks w0 f0 E i o∧nz Ks i=false∧(wU Ks i=true∨Lq Ks i=true))∨(afp P n l Ks ag f0 E i o∧nz Ks i=false)∨(afo P n l Ks w0 f0 E i o∧nz Ks i=true)
theorem OB {E E0:List PR} {m:Nat} (h:E.take m=E0) (hl:E0.length=m) {q:Nat} (hq:q<m):mY E q=mY E0 q:=by
 unfold mY
 rw[←h,gZ,gZ,amL,aml hq]
theorem Kn.of {E E0:List PR} {m:Nat} {g:aS} {N:Nat→Prop} {w:World} {t:Nat} (h:E.take m=E0) (hl:E0.length=m) (k:Kn l Ks f0 E m g N w t):Kn l Ks f0 E0 m g N w t:=
 ⟨k.off,fun q o hq h1 h2 h3=>by rw[←OB h hl hq];exact k.z6 q o hq h1 h2 h3⟩
theorem wh {aj:UN} {t:Nat}:wV aj t=true↔∃(j:Nat) (Φ:PR),aj[j]? =some (t,Φ):=by
 unfold wV
 rw[amR]
 constructor
 ·rintro⟨⟨a,b⟩,h1,h2⟩
  obtain⟨j,hj⟩:=amB.1 h1
  simp at h2
  exact⟨j,b,by rw[hj,h2]⟩
 ·rintro⟨j,Φ,h⟩
  exact⟨_,dJ h,by simp⟩
theorem PZ.table (lD:(l.filterMap (·.dst)).Nodup) (hZ:∀(i:Nat) (o:Oper),l[i]? =some o→Z1 n l Ks i o) {K:UN→aS→Prop}:∀(r:List Oper) (ks:List ZK) (m:Nat) (aj:UN) (f:aS) (E0:List PR),
  l.drop m=r→Ks.drop m=ks→E0.length=m→m+r.length=l.length→QK l Ks f0 E0 m aj f→PZ P n l.toArray w0 ag K r ks aj f→
  ∃(E:List PR) (U':UN) (f':aS),E.length=l.length∧E.take m=E0∧(∀(i:Nat) (o:Oper),m≤i→l[i]? =some o→Fact P n l Ks w0 ag f0 E i o)∧QK l Ks f0 E l.length U' f'∧K U' f'
 |[],ks,m,aj,f,E0,hr,I2,hl,tu,hL,h=>by
  simp only[gm,amX] at tu
  subst tu
  refine⟨E0,aj,f,hl,by rw[←hl,anf],fun i o hi ho=>?_,hL,h⟩
  have:=(ef.1 ho).1
  omega
 |o::r,ks,m,aj,f,E0,hr,I2,hl,tu,hL,h=>by
  have iX:l[m]? =some o:=by
   have:(l.drop m)[0]? =some o:=by rw[hr];rfl
   rwa [amY,amX] at this
  have hr':l.drop (m+1)=r:=by rw[←anc,hr];rfl
  have LG:Ks.drop (m+1)=ks.tail:=by rw[←anc,I2];cases ks<;>rfl
  have ahp:m+1+r.length=l.length:=by simp only[iB] at tu;omega
  have Sw:ks.headD .r=uJ Ks m:=by
   unfold uJ
   rw[←I2,gZ]
   cases hq:Ks.drop m with
   |nil=>rw[amv (by have:=amh List.length hq;simp at this;omega)];rfl
   |cons a b=>
    have:(Ks.drop m)[0]? =some a:=by rw[hq];rfl
    rw[amY,amX] at this
    rw[this];rfl
  have z:=hZ m o iX
  have AX:∀(q:Nat) (o':Oper) (t:Nat),l[q]? =some o'→o'.dst=some t→o.dst=some t→q=m:=fun q o' t hq hd CA=>
   gU (·.dst) l lD q m o' o hq iX (by show o'.dst.isSome=true;rw[hd];rfl) (by show o'.dst=o.dst;rw[hd,CA])
  have JO:∀t∈o.looksAt l.toArray,eE Ks m=false→Yb l Ks m t:=by
   intro t ht hE q o' hq hd BA
   rcases (z.look t ht).2 with h1|⟨j,sQ,hj, -,pX,tx, -⟩
   ·exact absurd hd<|h1 q o' hq
   ·have:q=j:=gU (·.dst) l lD q j o' sQ hq pX (by show o'.dst.isSome=true;rw[hd];rfl) (by show o'.dst=sQ.dst;rw[hd,tx])
    omega
  have fin:∀(e:PR) (U2:UN) (f2:aS),QK l Ks f0 (E0++[e]) (m+1) U2 f2→PZ P n l.toArray w0 ag K r ks.tail U2 f2→
    (∀E:List PR,E.take (m+1)=E0++[e]→Fact P n l Ks w0 ag f0 E m o)→
    ∃(E:List PR) (U':UN) (f':aS),E.length=l.length∧E.take m=E0∧(∀(i:Nat) (o:Oper),m≤i→l[i]? =some o→Fact P n l Ks w0 ag f0 E i o)∧QK l Ks f0 E l.length U' f'∧K U' f':=by
   intro e U2 f2 hL2 hP hF
   obtain⟨E,U',f',h1,h2,h3,h4,h5⟩:=PZ.table lD hZ r ks.tail (m+1) U2 f2 (E0++[e]) hr' LG (by simp[hl]) ahp hL2 hP
   refine⟨E,U',f',h1,?_,fun i o' hi LA=>?_,h4,h5⟩
   ·have:=amh (List.take m) h2
    rw[anN,anl aq,anG aq,←hl,anf] at this
    rw[hl] at this;exact this
   ·by_cases tz:i=m
    ·subst tz
     rw[iX] at LA;cases LA
     exact hF E h2
    ·exact h3 i o' aq LA
  have A5:∀(E:List PR) (e:PR),E.take (m+1)=E0++[e]→mY E m=e:=by
   intro E e h2
   rw[OB h2 (by simp[hl]) (anI m)]
   unfold mY
   rw[gZ,oR aq,hl,anj];rfl
  have aiy:∀(e:PR) (q:Nat),q<m→mY (E0++[e]) q=mY E0 q:=by
   intro e q hq
   unfold mY
   rw[gZ,qK aq,gZ]
  have JH:∀(E:List PR) (e:PR),E.take (m+1)=E0++[e]→E.take m=E0:=by
   intro E e h2
   have:=amh (List.take m) h2
   rw[anN,anl aq,anG aq,←hl,anf] at this
   rw[hl] at this;exact this
  
  have R8:∀(e:PR) (g:aS) (N:Nat→Prop) (w:World) (t:Nat),Kn l Ks f0 (E0++[e]) (m+1) g N w t→Kn l Ks f0 E0 m g N w t:=fun e g N w t k=>
   ⟨k.off,fun q o' hq h1 h2 h3=>by rw[←aiy e q hq];exact k.z6 q o' aq h1 h2 h3⟩
  unfold PZ at h
  rw[Sw] at h
  cases hk:uJ Ks m with
  |e=>
   rw[hk] at h
   have hE:eE Ks m=true:=by unfold eE;rw[hk];rfl
   refine fin (fun _ _ _=>True) aj f ⟨fun g N w t hV qB=>?_,fun j t Φ hj=>?_⟩ h fun E h2=>⟨by rw[A5 E _ h2];exact⟨fun _ _ _ _ _ _=>trivial,fun _ _ _ _ _ _ _=>trivial⟩,fun tE=>by rw[hE] at tE;cases tE⟩
   ·exact hL.is g N w t (fun q o' hq hd BA=>by
     have:=hV q o' hq hd BA
     by_cases iQ:q=m
     ·subst iQ;rw[hE] at BA;cases BA
     ·omega) (R8 _ g N w t qB)
   ·obtain⟨q,o',h1,h2,h3⟩:=hL.GX j t Φ hj
    exact⟨q,o',by omega,h2,h3⟩
  |f=>
   rw[hk] at h
   obtain⟨X,h1,h1b,h2⟩:=h
   have hE:eE Ks m=false:=by unfold eE;rw[hk];rfl
   obtain⟨d,hd⟩:=z.dst hE
   have hN:nz Ks m=false:=by unfold nz;rw[hk];rfl
   refine fin (eN X) aj (cU f o.dst X) ⟨fun g N w t hV qB=>?_,fun j t Φ hj=>?_⟩ h2 fun E tE=>⟨by rw[A5 E _ tE];exact W2 X,fun _=>.inr (.inl ⟨⟨X,A5 E _ tE,fun g N w w1 hI qB=>?_⟩,hN⟩)⟩
   ·by_cases ht:o.dst=some t
    ·have hv:g t=X:=by
      have:=qB.z6 m o (anI m) iX ht hE
      unfold mY at this
      rw[gZ,oR aq,hl,anj] at this
      exact this
     refine⟨fun _=>by rw[ht];show g t=b9 f t X t;rw[iI];exact hv,fun j Φ hj=>?_⟩
     obtain⟨q,o',h1,h2,h3⟩:=hL.GX j t Φ hj
     have:=AX q o' t h2 h3 ht
     omega
    ·have:=hL.is g N w t (fun q o' hq nq BA=>by
      have:=hV q o' hq nq BA
      by_cases iQ:q=m
      ·subst iQ;rw[iX] at hq;cases hq;exact absurd nq ht
      ·omega) (R8 _ g N w t qB)
     refine⟨fun hu=>?_,this.2⟩
     rw[this.1 hu,hd]
     exact(jq f X<|fun e=>ht (by rw[hd,e])).symm
   ·obtain⟨q,o',h1,h2,h3⟩:=hL.GX j t Φ hj
    exact⟨q,o',by omega,h2,h3⟩
   ·refine h1 w g hI fun t ht=>?_
    have hu:wV aj t=false:=by
     have:=amq.1 h1b t ht
     simpa using this
    exact⟨hu,(hL.is g N w1 t (JO t ht hE)<|(qB t ht).of (JH E _ tE) hl).1 hu⟩
  |n=>
   rw[hk] at h
   have hE:eE Ks m=false:=by unfold eE;rw[hk];rfl
   have hN:nz Ks m=true:=by unfold nz;rw[hk];rfl
   obtain⟨d,zz,T,hd,h1b,h1,h2⟩:=h
   refine fin (Jp w0 zz T) ((d,Jp w0 zz T)::aj) f ⟨fun g N w t hV qB=>?_,fun j t Ψ hj=>?_⟩ h2 fun E tE=>⟨by rw[A5 E _ tE];exact aef w0 zz T,fun _=>.inr (.inr ⟨⟨zz,T,A5 E _ tE,fun g N w hx qB=>?_⟩,hN⟩)⟩
   ·by_cases ht:d=t
    ·subst ht
     have hv:Jp w0 zz T N (g d) w:=by
      have:=qB.z6 m o (anI m) iX hd hE
      unfold mY at this
      rw[gZ,oR aq,hl,anj] at this
      exact this
     refine⟨fun hu=>?_,fun j Ψ hj=>?_⟩
     ·rw[wh.2 ⟨0,Jp w0 zz T,rfl⟩] at hu;cases hu
     ·cases j with
      |zero=>cases hj;exact hv
      |succ j=>
       obtain⟨q,o',h1,h2,h3⟩:=hL.GX j d Ψ hj
       have:=AX q o' d h2 h3 hd
       omega
    ·have zS:=hL.is g N w t (fun q o' hq nq BA=>by
      have:=hV q o' hq nq BA
      by_cases iQ:q=m
      ·subst iQ;rw[iX] at hq;cases hq;rw[hd] at nq;cases nq;exact absurd rfl ht
      ·omega) (R8 _ g N w t qB)
     refine⟨fun hu=>zS.1 ?_,fun j Ψ hj=>?_⟩
     ·cases hb:wV aj t with
      |false=>rfl
      |true=>
       obtain⟨j,Ψ,hj⟩:=wh.1 hb
       rw[wh.2 ⟨j+1,Ψ,hj⟩] at hu;cases hu
     ·cases j with
      |zero=>cases hj;exact absurd rfl ht
      |succ j=>exact zS.2 j Ψ hj
   ·cases j with
    |zero=>cases hj;exact⟨m,o,anI m,iX,hd⟩
    |succ j=>
     obtain⟨q,o',h1,h2,h3⟩:=hL.GX j t Ψ hj
     exact⟨q,o',by omega,h2,h3⟩
   ·refine h1 w g hx fun t ht=>?_
    have hu:wV aj t=false:=by
     have:=amq.1 h1b t ht
     simpa using this
    exact(hL.is g N w t (JO t ht hE)<|(qB t ht).of (JH E _ tE) hl).1 hu
  |r|s=>
   all_goals
    rw[hk] at h
    have hE:eE Ks m=false:=by unfold eE;rw[hk];rfl
    have hN:nz Ks m=false:=by unfold nz;rw[hk];rfl
    have hRS:wU Ks m=true∨Lq Ks m=true:=by unfold wU Lq;rw[hk];first|exact .inl rfl|exact .inr rfl
    obtain⟨d0,LP⟩:=z.dst hE
    rcases h with ⟨X,h1,h2⟩|⟨d,Φ,hd,Ss,h1,h2⟩
    ·refine fin (eN X) aj (cU f o.dst X) ⟨fun g N w t hV qB=>?_,fun j t Φ hj=>?_⟩ h2 fun E tE=>⟨by rw[A5 E _ tE];exact W2 X,fun _=>.inl ⟨fun g N w hx hNI qB=>?_,hN,hRS⟩⟩
     ·by_cases ht:o.dst=some t
      ·have hv:g t=X:=by
        have:=qB.z6 m o (anI m) iX ht hE
        unfold mY at this
        rw[gZ,oR aq,hl,anj] at this
        exact this
       refine⟨fun _=>by rw[ht];show g t=b9 f t X t;rw[iI];exact hv,fun j Φ hj=>?_⟩
       obtain⟨q,o',h1,h2,h3⟩:=hL.GX j t Φ hj
       have:=AX q o' t h2 h3 ht
       omega
      ·have:=hL.is g N w t (fun q o' hq nq BA=>by
        have:=hV q o' hq nq BA
        by_cases iQ:q=m
        ·subst iQ;rw[iX] at hq;cases hq;exact absurd nq ht
        ·omega) (R8 _ g N w t qB)
       refine⟨fun hu=>?_,this.2⟩
       rw[this.1 hu,LP]
       exact(jq f X<|fun e=>ht (by rw[LP,e])).symm
     ·obtain⟨q,o',h1,h2,h3⟩:=hL.GX j t Φ hj
      exact⟨q,o',by omega,h2,h3⟩
     ·rw[A5 E _ tE]
      exact h1 w g N hx hNI fun t ht=>hL.is g N w t (JO t ht hE) ((qB t ht).of (JH E _ tE) hl)
    ·refine fin Φ ((d,Φ)::aj) f ⟨fun g N w t hV qB=>?_,fun j t Ψ hj=>?_⟩ h2 fun E tE=>⟨by rw[A5 E _ tE];exact Ss,fun _=>.inl ⟨fun g N w hx hNI qB=>?_,hN,hRS⟩⟩
     ·by_cases ht:d=t
      ·subst ht
       have hv:Φ N (g d) w:=by
        have:=qB.z6 m o (anI m) iX hd hE
        unfold mY at this
        rw[gZ,oR aq,hl,anj] at this
        exact this
       refine⟨fun hu=>?_,fun j Ψ hj=>?_⟩
       ·rw[wh.2 ⟨0,Φ,rfl⟩] at hu;cases hu
       ·cases j with
        |zero=>cases hj;exact hv
        |succ j=>
         obtain⟨q,o',h1,h2,h3⟩:=hL.GX j d Ψ hj
         have:=AX q o' d h2 h3 hd
         omega
      ·have zS:=hL.is g N w t (fun q o' hq nq BA=>by
        have:=hV q o' hq nq BA
        by_cases iQ:q=m
        ·subst iQ;rw[iX] at hq;cases hq;rw[hd] at nq;cases nq;exact absurd rfl ht
        ·omega) (R8 _ g N w t qB)
       refine⟨fun hu=>zS.1 ?_,fun j Ψ hj=>?_⟩
       ·cases hb:wV aj t with
        |false=>rfl
        |true=>
         obtain⟨j,Ψ,hj⟩:=wh.1 hb
         rw[wh.2 ⟨j+1,Ψ,hj⟩] at hu;cases hu
       ·cases j with
        |zero=>cases hj;exact absurd rfl ht
        |succ j=>exact zS.2 j Ψ hj
     ·cases j with
      |zero=>cases hj;exact⟨m,o,anI m,iX,hd⟩
      |succ j=>
       obtain⟨q,o',h1,h2,h3⟩:=hL.GX j t Ψ hj
       exact⟨q,o',by omega,h2,h3⟩
     ·rw[A5 E _ tE]
      exact h1 w g N hx hNI fun t ht=>hL.is g N w t (JO t ht hE) ((qB t ht).of (JH E _ tE) hl)
end
def qi (Ks:List ZK) (L:Nat→Bool):Nat→List Oper→List Oper
 |_,[]=>[]
 |i,o::r=>if eE Ks i&&!L i then o::qi Ks L (i+1) r else qi Ks L (i+1) r
section
variable {Ks:List ZK} {L L':Nat→Bool}
theorem ET:∀(r:List Oper) (i:Nat) (ks:List ZK),Ks.drop i=ks→qi Ks (fun _=>false) i r=Fs ks r
 |[],_,_,_=>rfl
 |o::r,i,ks,h=>by
  have LG:Ks.drop (i+1)=ks.tail:=by rw[←anc,h];cases ks<;>rfl
  have Sw:ks.headD .r=uJ Ks i:=by
   unfold uJ
   rw[←h,gZ]
   cases hq:Ks.drop i with
   |nil=>rw[amv (by have:=amh List.length hq;simp at this;omega)];rfl
   |cons a b=>
    have:(Ks.drop i)[0]? =some a:=by rw[hq];rfl
    rw[amY,amX] at this
    rw[this];rfl
  unfold qi Fs
  rw[Sw,ET r (i+1) ks.tail LG]
  unfold eE
  cases uJ Ks i<;>simp[zkE]
theorem nH:∀(r:List Oper) (i:Nat),(∀k,i≤k→eE Ks k=true→L k=L' k)→qi Ks L i r=qi Ks L' i r
 |[],_,_=>rfl
 |o::r,i,h=>by
  unfold qi
  rw[nH r (i+1) fun k hk=>h k aq]
  cases hE:eE Ks i with
  |false=>simp
  |true=>rw[h i (amk _) hE]
theorem B0:∀(r:List Oper) (i j:Nat) (o:Oper),r[j]? =some o→eE Ks (i+j)=true→L (i+j)=false→(∀e,i≤e→e<i+j→eE Ks e=true→L e=true)→
  qi Ks L i r=o::qi Ks (fun k=>L k||decide (k=i+j)) i r
 |[],_,_,_,h,_,_,_=>by simp at h
 |x::r,i,0,o,h,hE,hL,_=>by
  simp only[amw,amu] at h
  subst h
  rw[amX] at hE hL
  unfold qi
  rw[hE,hL]
  simp only[amX,Bool.not_false,apj,decide_true,Bool.or_true,aoB,apd,anV,aph,am9]
  congr 1
  refine nH r (i+1) fun k hk _=>?_
  rw[ams aq,anM]
 |x::r,i,j+1,o,h,hE,hL,hb=>by
  have ih:=B0 r (i+1) j o (by simpa using h) (by rw[show i+1+j=i+(j+1) from by omega];exact hE) (by rw[show i+1+j=i+(j+1) from by omega];exact hL) fun e h1 h2 h3=>hb e aq aq h3
  rw[show i+1+j=i+(j+1) from by omega] at ih
  have h0:(eE Ks i&&!L i)=false:=by
   cases xg:eE Ks i with
   |false=>rfl
   |true=>rw[hb i (amk _) aq xg];rfl
  unfold qi
  rw[h0,ams (show ¬i=i+(j+1) by omega),anM,h0]
  simpa using ih
theorem ES:∀(r:List Oper) (i:Nat),(∀k,i≤k→k<i+r.length→L k=true)→qi Ks L i r=[]
 |[],_,_=>rfl
 |o::r,i,h=>by
  unfold qi
  rw[h i (amk _) (by simp),ES r (i+1) fun k h1 h2=>h k aq (by simp only[iB];omega)]
  simp
end
theorem Hu {l:List Oper} {L:Nat→Bool} (hC:∀i o,L i=true→l[i]? =some o→∀j,kH o j=true→L j=true):
  ∀(n i m:Nat) (o:Oper),l[i]? =some o→(∀j,kH o j=true→L j=true)→oq l n i m=true→L m=true
 |0,_,_,_,_,_,h=>by cases h
 |n+1,i,m,o,ho,hd,h=>by
  simp only[oq,ho,amt] at h
  rcases h with h|h
  ·exact hd m h
  ·obtain⟨j,_,hj⟩:=amR.1 h
   simp only[eQ] at hj
   have hlj:=hd j hj.1
   cases qv:l[j]? with
   |none=>
    have h2:=hj.2
    cases n with
    |zero=>cases h2
    |succ n=>simp[oq,qv] at h2
   |some o'=>exact Hu hC n j m o' qv (hC j o' hlj qv) hj.2
section
variable {P:Program} {n:Nat} {l:List Oper} {Ks:List ZK} {w0:World} {ag:World→Prop} {f0:aS} {E:List PR} {K:aS→World→Prop}
def VP (P:Program) (n:Nat) (l:List Oper) (ag:World→Prop) (o:Oper) (g:aS) (d:Nat):Prop:=∀(w2:World) (g2:aS),ag w2→(∀t∈o.looksAt l.toArray,g2 t=g t)→SO P n l.toArray o g2 w2 (fun f' w'=>f'=cU g2 o.dst (g d)∧w'=w2)
structure J1 (l:List Oper) (Ks:List ZK) (w0:World) (f0:aS) (E:List PR) (L:Nat→Bool) (f:aS) (w:World) (N:Nat→Prop):Prop where
 ni:Em w0 N w
 dis:∀(p q:Nat) (o o':Oper) (d d':Nat),L p=true→L q=true→p≠q→l[p]? =some o→l[q]? =some o'→nz Ks p=true→nz Ks q=true→o.dst=some d→o'.dst=some d'→f d≠f d'
 no:∀e,e<l.length→eE Ks e=true→L e=false
 ext:Ext w0 w
 off:∀t,(∀(q:Nat) (o:Oper),l[q]? =some o→o.dst=some t→eE Ks q=true)→f t=f0 t
 z6:∀(q:Nat) (o:Oper) (t:Nat),L q=true→l[q]? =some o→o.dst=some t→eE Ks q=false→mY E q N (f t) w
structure J2 (P:Program) (n:Nat) (l:List Oper) (Ks:List ZK) (ag:World→Prop) (K:aS→World→Prop) (L:Nat→Bool) (f:aS) (w:World) (g:aS) (V:Nat→Bool):Prop where
 rd:∀(q:Nat) (o:Oper),l[q]? =some o→wU Ks q=true→L q=true
 eq:∀t,t<n→(∀(q:Nat) (o:Oper),l[q]? =some o→o.dst=some t→(eE Ks q=false∨V q=true)→L q=true)→g t=f t
 vp:∀(q:Nat) (o:Oper) (d:Nat),l[q]? =some o→o.dst=some d→(eE Ks q=false∨V q=true)→L q=false→VP P n l ag o g d
 i:ag w
 we:WE P n l.toArray ag K (qi Ks (fun k=>L k||V k) 0 l) g w
 vx:∀q,V q=true→sT l Ks q=true
 vl:∀q,V q=true→∀e,e<q→eE Ks e=true→jH l e=false→L e=true
 vd:∀q,V q=true→∀m,m<q→sT l Ks m=true→L m=false→V m=true
def NF (l:List Oper) (Ks:List ZK) (L V:Nat→Bool) (m:Nat):Prop:=∀q,q<m→sT l Ks q=true→L q=false→(∀e,e<q→eE Ks e=true→jH l e=false→L e=true)→V q=true
theorem X0 (lD:(l.filterMap (·.dst)).Nodup) (hZ:∀(i:Nat) (o:Oper),l[i]? =some o→Z1 n l Ks i o) (hF:∀(i:Nat) (o:Oper),l[i]? =some o→Fact P n l Ks w0 ag f0 E i o) {L:Nat→Bool} {f:aS} {w:World} {N:Nat→Prop}
  (h:J1 l Ks w0 f0 E L f w N) (hI:∀w',Ext w0 w'→ag w') (hR:∀(q:Nat) (o:Oper),l[q]? =some o→wU Ks q=true→L q=true) (eM:∀(i:Nat) (o:Oper) (d:Nat),l[i]? =some o→o.dst=some d→d<n):∀m,m≤l.length→
  ∃g:aS,(∀t,(∀(q:Nat) (o:Oper),q<m→l[q]? =some o→o.dst=some t→eE Ks q=false→L q=true)→g t=f t)∧
   (∀(q:Nat) (o:Oper) (d:Nat),q<m→l[q]? =some o→o.dst=some d→eE Ks q=false→L q=false→VP P n l ag o g d)∧
   (∀(q:Nat) (o:Oper) (t:Nat),q<m→l[q]? =some o→o.dst=some t→eE Ks q=false→mY E q N (g t) w)
 |0,_=>⟨f,fun _ _=>rfl,fun q o d hq=>absurd hq (aol _),fun q o t hq=>absurd hq (aol _)⟩
 |m+1,hm=>by
  obtain⟨g,g1,g2,g3⟩:=X0 lD hZ hF h hI hR eM m aq
  have iX:l[m]? =some l[m]:=eP aq
  generalize l[m]=o at iX
  have z:=hZ m o iX
  have uniq:∀(q q':Nat) (a b:Oper) (t:Nat),l[q]? =some a→l[q']? =some b→a.dst=some t→b.dst=some t→q=q':=fun q q' a b t h1 h2 h3 h4=>
   gU (·.dst) l lD q q' a b h1 h2 (by show a.dst.isSome=true;rw[h3];rfl) (by show a.dst=b.dst;rw[h3,h4])
  cases hE:eE Ks m with
  |true=>
   refine⟨g,fun t ht=>g1 t fun q o' hq=>ht q o' aq,fun q o' d hq h1 h2 h3 h4=>?_,fun q o' t hq h1 h2 h3=>?_⟩
   ·by_cases iQ:q=m
    ·subst iQ;rw[hE] at h3;cases h3
    ·exact g2 q o' d aq h1 h2 h3 h4
   ·by_cases iQ:q=m
    ·subst iQ;rw[hE] at h3;cases h3
    ·exact g3 q o' t aq h1 h2 h3
  |false=>
   obtain⟨d,hd⟩:=z.dst hE
   have gd:g d=f d:=g1 d fun q o' hq h1 h2 h3=>by have:=uniq q m o' o d h1 iX h2 hd;omega
   cases SK:L m with
   |true=>
    refine⟨g,fun t ht=>g1 t fun q o' hq=>ht q o' aq,fun q o' d' hq h1 h2 h3 h4=>?_,fun q o' t hq h1 h2 h3=>?_⟩
    ·by_cases iQ:q=m
     ·subst iQ;rw[SK] at h4;cases h4
     ·exact g2 q o' d' aq h1 h2 h3 h4
    ·by_cases iQ:q=m
     ·subst iQ
      rw[iX] at h1;cases h1
      rw[hd] at h2;cases h2
      rw[gd];exact h.z6 q o d SK iX hd hE
     ·exact g3 q o' t aq h1 h2 h3
   |false=>
    
    have Sv:∀t∈o.looksAt l.toArray,t≠d∧∀(q:Nat) (o':Oper),l[q]? =some o'→o'.dst=some t→eE Ks q=false→q<m:=by
     intro t ht
     rcases (z.look t ht).2 with h1|⟨j,sQ,hj, -,pX,tx, -⟩
     ·exact⟨fun e=>h1 m o iX (by rw[hd,e]),fun q o' hq nq _=>absurd nq (h1 q o' hq)⟩
     ·refine⟨fun e=>?_,fun q o' hq nq _=>?_⟩
      ·have:=uniq j m sQ o d pX iX (by rw[tx,e]) hd;omega
      ·have:=uniq q j o' sQ t hq pX nq tx;omega
    have yh:∀t∈o.looksAt l.toArray,Kn l Ks f0 E m g N w t:=fun t ht=>⟨fun Fb=>by
      rw[g1 t fun q o' hq h1 h2 h3=>absurd h3 (by rw[Fb q o' h1 h2];decide)]
      exact h.off t Fb,fun q o' hq h1 h2 h3=>g3 q o' t hq h1 h2 h3⟩
    have key:∃v,mY E m N v w∧∀(w2:World) (g2:aS),ag w2→(∀t∈o.looksAt l.toArray,g2 t=g t)→SO P n l.toArray o g2 w2 (fun f' w'=>f'=cU g2 o.dst v∧w'=w2):=by
     rcases (hF m o iX).go hE with ⟨hFR, -,hk⟩|⟨⟨X,hX,hFF⟩, -⟩|⟨-,hk⟩
     ·rcases hk with hk|hk
      ·have:=hR m o iX hk;rw[SK] at this;cases this
      ·obtain⟨v,hv,Bp⟩:=Ui (z.slot hk) ⟨d,hd,eM m o d iX hd⟩ (hFR g N w h.ext h.ni yh)
       exact⟨v,hv,fun w2 g2 _ hg=>Bp g2 w2 hg⟩
     rotate_left
     ·have:=hR m o iX (by unfold nz at hk;unfold wU;cases hq:uJ Ks m<;>rw[hq] at hk<;>first|rfl|cases hk);rw[SK] at this;cases this
     ·refine⟨X,by rw[hX];rfl,fun w2 g2 GF hg=>hFF g2 N w2 w GF fun t ht=>?_⟩
      have k:=yh t ht
      exact⟨fun Fb=>by rw[hg t ht];exact k.off Fb,fun q o' hq h1 h2 h3=>by rw[hg t ht];exact k.z6 q o' hq h1 h2 h3⟩
    obtain⟨v,hv,hvp⟩:=key
    have gE:∀t,t≠d→b9 g d v t=g t:=fun t ht=>jq g v ht
    refine⟨b9 g d v,fun t ht=>?_,fun q o' d' hq h1 h2 h3 h4=>?_,fun q o' t hq h1 h2 h3=>?_⟩
    ·have Ct:t≠d:=fun e=>by
      have:=ht m o (anI m) iX (by rw[hd,e]) hE
      rw[SK] at this;cases this
     rw[gE t Ct]
     exact g1 t fun q o' hq=>ht q o' aq
    ·by_cases iQ:q=m
     ·subst iQ
      rw[iX] at h1;cases h1
      rw[hd] at h2;cases h2
      intro w2 gg GF hg
      rw[iI]
      exact hvp w2 gg GF fun t ht=>by rw[hg t ht,gE t (Sv t ht).1]
     ·have LO:d'≠d:=fun e=>iQ (uniq q m o' o d h1 iX (by rw[h2,e]) hd)
      have zq:=hZ q o' h1
      intro w2 gg GF hg
      rw[gE d' LO]
      refine g2 q o' d' aq h1 h2 h3 h4 w2 gg GF fun t ht=>?_
      rw[hg t ht]
      refine gE t fun e=>?_
      rcases (zq.look t ht).2 with h5|⟨j,sQ,hj, -,pX,tx, -⟩
      ·exact h5 m o iX<|by rw[hd,e]
      ·have:=uniq j m sQ o d pX iX (by rw[tx,e]) hd;omega
    ·by_cases iQ:q=m
     ·subst iQ
      rw[iX] at h1;cases h1
      rw[hd] at h2;cases h2
      rw[iI];exact hv
     ·rw[gE t fun e=>iQ (uniq q m o' o d h1 iX (by rw[h2,e]) hd)]
      exact g3 q o' t aq h1 h2 h3
theorem RO (a b:Bool) (c:Prop) [Decidable c]:((a||b)||decide c)=(a||(b||decide c)):=by cases a<;>cases b<;>rfl
theorem X1 (lD:(l.filterMap (·.dst)).Nodup) (hZ:∀(i:Nat) (o:Oper),l[i]? =some o→Z1 n l Ks i o) (eM:∀(i:Nat) (o:Oper) (d:Nat),l[i]? =some o→o.dst=some d→d<n) {L:Nat→Bool} {f g0:aS} {w:World} {V0:Nat→Bool} (h0:J2 P n l Ks ag K L f w g0 V0):∀m,m≤l.length→
  ∃g V,J2 P n l Ks ag K L f w g V∧NF l Ks L V m
 |0,_=>⟨g0,V0,h0,fun q hq=>absurd hq (aol _)⟩
 |m+1,hm=>by
  obtain⟨g,V,h,hN⟩:=X1 lD hZ eM h0 m aq
  have uniq:∀(q q':Nat) (a b:Oper) (t:Nat),l[q]? =some a→l[q']? =some b→a.dst=some t→b.dst=some t→q=q':=fun q q' a b t h1 h2 h3 h4=>
   gU (·.dst) l lD q q' a b h1 h2 (by show a.dst.isSome=true;rw[h3];rfl) (by show a.dst=b.dst;rw[h3,h4])
  by_cases hgo:sT l Ks m=true∧L m=false∧V m=false∧∀e,e<m→eE Ks e=true→jH l e=false→L e=true
  rotate_left
  ·refine⟨g,V,h,fun q hq hx hL hr=>?_⟩
   by_cases iQ:q=m
   ·subst iQ
    cases hV:V q with
    |true=>rfl
    |false=>exact absurd ⟨hx,hL,hV,hr⟩ hgo
   ·exact hN q aq hx hL hr
  obtain⟨hx,hL,hV,hr⟩:=hgo
  have iX:l[m]? =some l[m]:=eP aq
  generalize l[m]=o at iX
  have z:=hZ m o iX
  have Lv:eE Ks m=true∧jH l m=true:=by
   have:=hx;unfold sT at this;rwa [eQ] at this
  have hso:sH o=true:=by have:=Lv.2;unfold jH at this;rwa [iX] at this
  obtain⟨⟨d,hd⟩, -⟩:=z.xd Lv.1 hso
  have si:=eM m o d iX hd
  have hbV:∀e,e<m→eE Ks e=true→(L e||V e)=true:=by
   intro e he mS
   cases qt:jH l e with
   |false=>rw[hr e he mS qt];rfl
   |true=>
    cases hLe:L e with
    |true=>rfl
    |false=>rw[hN e he (by unfold sT;rw[mS,qt];rfl) hLe fun e' h1 h2 h3=>hr e' aq h2 h3];rfl
  have wX:=h.we
  rw[B0 l 0 m o iX (by rw[am2];exact Lv.1) (by rw[am2,hL,hV];rfl) (fun e _ h2 h3=>hbV e aq h3)] at wX
  simp only[am2] at wX
  have hsr:=SO.WR (show SO P n l.toArray o g w _ from wX) z.sel<|fun t _=>rfl
  obtain⟨v,⟨g',hg',XI,Sf⟩,kD⟩:=Ix (P:=P) (n:=n) (ops:=l.toArray) (ai:=fun v w'=>∃g',bZ n g'=bZ n (cU g o.dst v)∧ag w'∧WE P n l.toArray ag K (qi Ks (fun k=>(L k||V k)||decide (k=m)) 0 l) g' w') hso ⟨d,hd,si⟩ (hsr.mono fun f' w' ⟨v,g',e1,e2,e3,e4⟩=>⟨v,e1,trivial,g',e2,e3,e4⟩)
  have I6:∀t,t<n→g' t=b9 g d v t:=by
   intro t ht
   have:(bZ n g').tmps[t]? =(bZ n (cU g o.dst v)).tmps[t]?:=by rw[hg']
   rw[hd] at this
   simpa [bZ,ht,cU] using this
  have XG:∀q,(V q||decide (q=m))=true→q≠m→V q=true:=fun q h4 iQ=>by
   rcases am'.1 h4 with h4|h4
   ·exact h4
   ·exact absurd (by simpa using h4) iQ
  
  have aer:∀(q:Nat) (o':Oper),l[q]? =some o'→q≠m→(eE Ks q=false∨V q=true)→∀t∈o'.looksAt l.toArray,t≠d:=by
   intro q o' hq iQ Cx t ht e
   subst e
   rcases ((hZ q o' hq).look t ht).2 with h5|⟨j,sQ,hj, -,pX,tx,hj4⟩
   ·exact h5 m o iX hd
   ·have:=uniq j m sQ o t pX iX tx hd
    subst this
    rcases Cx with h6|h6
    ·rw[hj4 h6] at Lv;cases Lv.1
    ·have:=h.vd q h6 j hj hx hL
     rw[hV] at this;cases this
  refine⟨g',fun k=>V k||decide (k=m),⟨h.rd,fun t ht hq=>?_,fun q o' d' h1 h2 h3 h4=>?_,h.i,?_,fun q hq=>?_,fun q hq e he mS qt=>?_,fun q hq m' hm' pT D_=>?_⟩,fun q hq pT D_ hr'=>?_⟩
  ·have Ct:t≠d:=fun e=>by
    have:=hq m o iX (by rw[hd,e])<|.inr (by simp)
    rw[hL] at this;cases this
   rw[I6 t ht,jq g v Ct]
   exact h.eq t ht fun q o' h1 h2 h3=>hq q o' h1 h2 (h3.imp id fun h=>by rw[h];rfl)
  ·by_cases iQ:q=m
   ·subst iQ
    rw[iX] at h1;cases h1
    rw[hd] at h2;cases h2
    intro w2 gg _ hg
    rw[I6 d si,iI]
    refine kD gg w2 fun t ht=>?_
    have hk:=z.look t ht
    rw[hg t ht,I6 t hk.1]
    refine jq g v fun e=>?_
    rcases hk.2 with h5|⟨j,sQ,hj, -,pX,tx, -⟩
    ·exact h5 q o iX<|by rw[hd,e]
    ·have:=uniq j q sQ o d pX iX (by rw[tx,e]) hd;omega
   ·have Cx:eE Ks q=false∨V q=true:=h3.imp id fun h=>XG q h iQ
    have hv:=h.vp q o' d' h1 h2 Cx h4
    have LO:d'≠d:=fun e=>iQ (uniq q m o' o d h1 iX (by rw[h2,e]) hd)
    intro w2 gg GF hg
    rw[I6 d' (eM q o' d' h1 h2),jq g v LO]
    refine hv w2 gg GF fun t ht=>?_
    rw[hg t ht,I6 t ((hZ q o' h1).look t ht).1]
    exact jq g v<|aer q o' h1 iQ Cx t ht
  ·rw[nH (L':=fun k=>(L k||V k)||decide (k=m)) l 0 fun k _ _=>(RO _ _ _).symm]
   exact Sf
  ·by_cases iQ:q=m
   ·subst iQ;exact hx
   ·exact h.vx q<|XG q hq iQ
  ·by_cases iQ:q=m
   ·subst iQ;exact hr e he mS qt
   ·exact h.vl q (XG q hq iQ) e he mS qt
  ·show (V m'||decide (m'=m))=true
   by_cases iQ:q=m
   ·subst iQ
    rw[hN m' hm' pT D_ fun e h1 h2 h3=>hr e aq h2 h3];rfl
   ·rw[h.vd q (XG q hq iQ) m' hm' pT D_];rfl
  ·show (V q||decide (q=m))=true
   by_cases iQ:q=m
   ·subst iQ;simp
   ·rw[hN q aq pT D_ hr'];rfl
theorem Q6 (lD:(l.filterMap (·.dst)).Nodup) (hZ:∀(i:Nat) (o:Oper),l[i]? =some o→Z1 n l Ks i o) (eM:∀(i:Nat) (o:Oper) (d:Nat),l[i]? =some o→o.dst=some d→d<n) {L:Nat→Bool} {f g:aS} {w:World} {V:Nat→Bool} (h:J2 P n l Ks ag K L f w g V) (hN:NF l Ks L V l.length) {i:Nat} {o:Oper}
  (ho:l[i]? =some o) (hE:eE Ks i=true) (hS:jH l i=false) (tD:L i=false) (hb:∀e,e<i→eE Ks e=true→jH l e=false→L e=true) (si:∀j,kH o j=true→L j=true):
  SO P n l.toArray o f w (fun f' w'=>∃g' V',J2 P n l Ks ag K (fun k=>L k||decide (k=i)) f' w' g' V'∧NF l Ks (fun k=>L k||decide (k=i)) V' l.length):=by
 have z:=hZ i o ho
 have jA:=(ef.1 ho).1
 have uniq:∀(q q':Nat) (a b:Oper) (t:Nat),l[q]? =some a→l[q']? =some b→a.dst=some t→b.dst=some t→q=q':=fun q q' a b t h1 h2 h3 h4=>
  gU (·.dst) l lD q q' a b h1 h2 (by show a.dst.isSome=true;rw[h3];rfl) (by show a.dst=b.dst;rw[h3,h4])
 have hXi:sT l Ks i=false:=by unfold sT;rw[hS,apd]
 have hVi:V i=false:=by
  cases hq:V i with
  |false=>rfl
  |true=>rw[h.vx i hq] at hXi;cases hXi
 have Cx:∀q,(eE Ks q=false∨V q=true)→q≠i:=fun q h3 e=>by
  subst e
  rcases h3 with h3|h3
  ·rw[hE] at h3;cases h3
  ·rw[hVi] at h3;cases h3
 have hbV:∀e,e<i→eE Ks e=true→(L e||V e)=true:=by
  intro e he mS
  cases qt:jH l e with
  |false=>rw[hb e he mS qt];rfl
  |true=>
   cases hLe:L e with
   |true=>rfl
   |false=>rw[hN e aq (by unfold sT;rw[mS,qt];rfl) hLe fun e' h1 h2 h3=>hb e' aq h2 h3];rfl
 have wX:=h.we
 rw[B0 l 0 i o ho (by rw[am2];exact hE) (by rw[am2,tD,hVi];rfl) (fun e _ h2 h3=>hbV e aq h3)] at wX
 simp only[am2] at wX
 have Sv:∀t∈o.looksAt l.toArray,f t=g t:=by
  intro t ht
  have q:=z.look t ht
  refine(h.eq t q.1 fun q' o' h1 h2 h3=>?_).symm
  rcases q.2 with h4|⟨j,sQ,hj,LH,pX,tx, -⟩
  ·exact absurd h2<|h4 q' o' h1
  ·rw[uniq q' j o' sQ t h1 pX h2 tx];exact si j LH
 refine(SO.WR (show SO P n l.toArray o g w _ from wX) z.sel Sv).mono ?_
 rintro f' w' ⟨v,g',rfl,hg',XI,Sf⟩
 have I6:∀t,t<n→g' t=cU g o.dst v t:=by
  intro t ht
  have:(bZ n g').tmps[t]? =(bZ n (cU g o.dst v)).tmps[t]?:=by rw[hg']
  simpa [bZ,ht] using this
 refine X1 (V0:=V) lD hZ eM (L:=fun k=>L k||decide (k=i)) (g0:=g') ⟨fun q o' h1 h2=>by rw[h.rd q o' h1 h2];rfl,fun t ht hq=>?_,fun q o' d h1 h2 h3 h4=>?_,XI,?_,h.vx,fun q hq e he mS qt=>by rw[h.vl q hq e he mS qt];rfl,fun q hq m hm hx hL=>h.vd q hq m hm hx ?_⟩ l.length<|amk _
 ·rw[I6 t ht]
  cases hd:o.dst with
  |none=>
   show g t=f t
   refine h.eq t ht fun q o' h1 h2 h3=>?_
   rcases am'.1 (hq q o' h1 h2 h3) with h4|h4
   ·exact h4
   ·exact absurd (by simpa using h4)<|Cx q h3
  |some d=>
   show b9 g d v t=b9 f d v t
   by_cases Ct:t=d
   ·subst Ct;rw[iI,iI]
   ·rw[jq g v Ct,jq f v Ct]
    refine h.eq t ht fun q o' h1 h2 h3=>?_
    rcases am'.1 (hq q o' h1 h2 h3) with h4|h4
    ·exact h4
    ·exact absurd (by simpa using h4)<|Cx q h3
 ·have h4':L q=false:=by
   cases hq:L q with
   |false=>rfl
   |true=>rw[hq] at h4;cases h4
  have hv:=h.vp q o' d h1 h2 h3 h4'
  have gE:∀t,t<n→o.dst≠some t→g' t=g t:=by
   intro t ht hd
   rw[I6 t ht]
   cases nq:o.dst with
   |none=>rfl
   |some d'=>exact jq g v fun e=>hd (by rw[nq,e])
  intro w2 gg GF hg
  rw[gE d (eM q o' d h1 h2) (fun e=>Cx q h3 (uniq q i o' o d h1 ho h2 e))]
  refine hv w2 gg GF fun t ht=>?_
  rw[hg t ht]
  have zq:=(hZ q o' h1).look t ht
  refine gE t zq.1 fun e=>?_
  rcases zq.2 with h5|⟨j,sQ,hj, -,pX,tx,hj4⟩
  ·exact h5 i o ho e
  ·have:=uniq j i sQ o t pX ho tx e
   subst this
   rcases h3 with h3|h3
   ·rw[hj4 h3] at hE;cases hE
   ·rw[h.vl q h3 j hj hE hS] at tD;cases tD
 ·rw[nH (L':=fun k=>(L k||V k)||decide (k=i)) l 0 fun k _ _=>by cases L k<;>cases V k<;>cases decide (k=i)<;>rfl]
  exact Sf
 ·cases hq:L m with
  |false=>rfl
  |true=>simp[hq] at hL
theorem Lc {Ks:List ZK} {d:Nat}:∀(r:List Oper) (i:Nat) (ks:List ZK),Ks.drop i=ks→d∈E3 ks r→∃(j:Nat) (o:Oper),r[j]? =some o∧nz Ks (i+j)=true∧o.dst.getD 0=d
 |[],_,_,_,h=>by cases h
 |o::r,i,ks,h,hd=>by
  have LG:Ks.drop (i+1)=ks.tail:=by rw[←anc,h];cases ks<;>rfl
  have Sw:ks.headD .r=uJ Ks i:=by
   unfold uJ
   rw[←h,gZ]
   cases hq:Ks.drop i with
   |nil=>rw[amv (by have:=amh List.length hq;simp at this;omega)];rfl
   |cons a b=>
    have:(Ks.drop i)[0]? =some a:=by rw[hq];rfl
    rw[amY,amX] at this
    rw[this];rfl
  have abB:d∈E3 ks.tail r→∃(j:Nat) (o':Oper),(o::r)[j]? =some o'∧nz Ks (i+j)=true∧o'.dst.getD 0=d:=fun hd=>by
   obtain⟨j,o',h1,h2,h3⟩:=Lc r (i+1) ks.tail LG hd
   exact⟨j+1,o',by simpa using h1,by rw[show i+(j+1)=i+1+j from by omega];exact h2,h3⟩
  unfold E3 at hd
  rw[Sw] at hd
  cases hk:uJ Ks i with
  |n=>
   rw[hk] at hd
   rcases amz.1 hd with rfl|hd
   ·exact⟨0,o,J,by rw[amX];unfold nz;rw[hk];rfl,J⟩
   ·exact abB hd
  |_=>rw[hk] at hd;exact abB hd
theorem l8 {id:Nat} {Q:Exit→Act→World→Prop} {f:aS} {w:World} (Ks:List ZK) (ag:World→Prop) (hm:P.follows .mixedOrders=true) (pW:okZ n l Ks=true) (hI:∀w',Ext w w'→ag w')
  (h:PZ P n l.toArray w ag (KZ P n l.toArray Q w ag (Fs Ks l) (E3 Ks l)) l Ks [] f):WC P n (.region id l.toArray true) Q f w:=by
 simp only[okZ,eQ] at pW
 obtain⟨hE,hN,hn,h1⟩:=pW
 have lD:(l.filterMap (·.dst)).Nodup:=oA _ hN
 have eM:∀(i:Nat) (o:Oper) (d:Nat),l[i]? =some o→o.dst=some d→d<n:=by
  intro i o d hi hd
  have:=amq.1 hn d<|amK.2 ⟨o,dJ hi,hd⟩
  simpa using this
 have hZ:∀(i:Nat) (o:Oper),l[i]? =some o→Z1 n l Ks i o:=fun i o hi=>by
  have:=NY l 0 h1 i o hi
  rwa [am2] at this
 have uniq:∀(q q':Nat) (a b:Oper) (t:Nat),l[q]? =some a→l[q']? =some b→a.dst=some t→b.dst=some t→q=q':=fun q q' a b t h1 h2 h3 h4=>
  gU (·.dst) l lD q q' a b h1 h2 (by show a.dst.isSome=true;rw[h3];rfl) (by show a.dst=b.dst;rw[h3,h4])
 obtain⟨E,U',f',hEl, -,hF0,hL,hK⟩:=PZ.table (f0:=f) lD hZ l Ks 0 [] f [] rfl rfl rfl (by simp)
  ⟨fun g N w t hV qB=>⟨fun _=>qB.off fun q o h1 h2=>by
   cases hq:eE Ks q with
   |true=>rfl
   |false=>exact absurd (hV q o h1 h2 hq) (aol _),fun j Φ hj=>by simp at hj⟩,fun j t Φ hj=>by simp at hj⟩ h
 have hF:∀(i:Nat) (o:Oper),l[i]? =some o→Fact P n l Ks w ag f E i o:=fun i o hi=>hF0 i o (anB _) hi
 have Fc:∀d,d∈E3 Ks l→∃(q:Nat) (o:Oper),l[q]? =some o∧nz Ks q=true∧o.dst=some d:=fun d hd=>by
  obtain⟨j,o,h2,h3,h4⟩:=Lc l 0 Ks rfl hd
  rw[am2] at h3
  have gE:eE Ks j=false:=by unfold nz at h3;unfold eE;cases hq:uJ Ks j<;>rw[hq] at h3<;>first|rfl|exact Bool.noConfusion h3
  obtain⟨d',nq⟩:=(hZ j o h2).dst gE
  rw[nq] at h4
  exact⟨j,o,h2,h3,by rw[nq];exact amh some h4⟩
 have XH:∀q,nz Ks q=true→wU Ks q=true:=fun q h3=>by unfold nz at h3;unfold wU;cases hq:uJ Ks q<;>rw[hq] at h3<;>first|rfl|exact Bool.noConfusion h3
 refine drj (P:=P) (Q:=Q) (fun L g w'=>(∀(i:Nat) (o:Oper),L i=true→l[i]? =some o→∀j,kH o j=true→L j=true)∧((∃N,J1 l Ks w f E L g w' N)∨∃g2 V,J2 P n l Ks ag (fun f w=>Q .normal (bZ n f) w) L g w' g2 V∧NF l Ks L V l.length)) hm hE ?_ ?_ ?_
 ·exact⟨fun i o hi=>Bool.noConfusion hi,.inl ⟨fun _=>False,fun b hb=>hb.elim,fun p q o o' d d' hp=>Bool.noConfusion hp,fun e _ _=>rfl,Ext.drew w,fun t _=>rfl,fun q o t hq=>Bool.noConfusion hq⟩⟩
 ·rintro L g w' i o ho tD hLl si ⟨hC,hJ⟩
  have z:=hZ i o ho
  have jA:=(ef.1 ho).1
  have LV:∀(q:Nat) (o':Oper),(L q||decide (q=i))=true→l[q]? =some o'→∀j,kH o' j=true→(L j||decide (j=i))=true:=by
   intro q o' hq tq j hj
   rcases am'.1 hq with h1|h1
   ·rw[hC q o' h1 tq j hj];rfl
   ·have:q=i:=by simpa using h1
    subst this
    rw[ho] at tq;cases tq
    rw[si j hj];rfl
  have late:∀(g2:aS) (V:Nat→Bool),J2 P n l Ks ag (fun f w=>Q .normal (bZ n f) w) L g w' g2 V→NF l Ks L V l.length→∀d,o.dst=some d→(eE Ks i=false∨V i=true)→(eE Ks i=true→sT l Ks i=true)→
    SO P n l.toArray o g w' (fun Ed mo=>∃g2 V,J2 P n l Ks ag (fun f w=>Q .normal (bZ n f) w) (fun k=>L k||decide (k=i)) Ed mo g2 V∧NF l Ks (fun k=>L k||decide (k=i)) V l.length):=by
   intro g2 V hJ GD d hd Cx aen
   have Sv:∀t∈o.looksAt l.toArray,g t=g2 t:=by
    intro t ht
    have q:=z.look t ht
    refine(hJ.eq t q.1 fun q' o' h1 h2 h3=>?_).symm
    rcases q.2 with h4|⟨j,sQ,hj,LH,pX,tx, -⟩
    ·exact absurd h2<|h4 q' o' h1
    ·rw[uniq q' j o' sQ t h1 pX h2 tx];exact si j LH
   have Xz:∀q,(L q||decide (q=i))=true→q≠i→L q=true:=fun q h4 sX=>by
    rcases am'.1 h4 with h4|h4
    ·exact h4
    ·exact absurd (by simpa using h4) sX
   have hLf:∀q,(L q||decide (q=i))=false→L q=false:=fun q h4=>by
    cases hq:L q with
    |false=>rfl
    |true=>simp[hq] at h4
   refine(hJ.vp i o d ho hd Cx tD w' g hJ.i Sv).mono ?_
   rintro Ed mo ⟨rfl,rfl⟩
   refine⟨g2,V,⟨fun q o' h1 h2=>by rw[hJ.rd q o' h1 h2];rfl,fun t ht hq=>?_,fun q o' d' h1 h2 h3 h4=>hJ.vp q o' d' h1 h2 h3 (hLf q h4),hJ.i,?_,hJ.vx,fun q hq e he mS qt=>by rw[hJ.vl q hq e he mS qt];rfl,fun q hq m hm hx D_=>hJ.vd q hq m hm hx (hLf m D_)⟩,fun q hq hx D_ hr=>GD q hq hx (hLf q D_) fun e he mS qt=>Xz e (hr e he mS qt) fun e'=>?_⟩
   ·rw[hd]
    show g2 t=b9 g d (g2 d) t
    by_cases Ct:t=d
    ·subst Ct;rw[iI]
    ·rw[jq g _ Ct]
     refine hJ.eq t ht fun q o' h1 h2 h3=>Xz q (hq q o' h1 h2 h3) fun e=>?_
     subst e
     rw[ho] at h1;cases h1
     rw[hd] at h2;cases h2
     exact Ct J
   ·rw[nH (L':=fun k=>L k||V k) l 0 fun k _ hk=>?_]
    ·exact hJ.we
    ·by_cases zR:k=i
     ·subst zR
      rcases Cx with h1|h1
      ·rw[h1] at hk;cases hk
      ·simp[h1]
     ·rw[ams zR,anM]
   ·subst e'
    have:=aen mS
    unfold sT at this
    rw[qt,apd] at this;cases this
  cases xg:eE Ks i with
  |true=>
   have hb:∀e,e<i→eE Ks e=true→jH l e=false→L e=true:=fun e he mS qt=>Hu hC l.length i e o ho si (z.ord xg e he mS qt)
   have hsl:sH o=jH l i:=by unfold jH;rw[ho]
   have hR:∀(q:Nat) (o':Oper),l[q]? =some o'→wU Ks q=true→L q=true:=fun q o' hq hk=>by
    have:=(hZ q o' hq).rd hk i jA xg
    exact Hu hC l.length i q o ho si this
   rcases hJ with ⟨N,hJ⟩|⟨g2,V,hJ,GD⟩
   ·have I9:jH l i=false:=by
     cases I9:jH l i with
     |false=>rfl
     |true=>
      obtain⟨-,e,he,mS,qt⟩:=z.xd xg (by rw[hsl,I9])
      have h1:=hb e he mS qt
      rw[hJ.no e aq mS] at h1;cases h1
    obtain⟨g2,q1,q2,q3⟩:=X0 lD hZ hF hJ hI hR eM l.length (amk _)
    have yh:∀t,Kn l Ks f E l.length g2 N w' t:=fun t=>⟨fun Fb=>by
      rw[q1 t fun q o' _ h1 h2 h3=>absurd h3 (by rw[Fb q o' h1 h2];decide)]
      exact hJ.off t Fb,fun q o' hq h1 h2 h3=>q3 q o' t hq h1 h2 h3⟩
    have hV:∀t,Yb l Ks l.length t:=fun t q o' h1 _ _=>(ef.1 h1).1
    have wX:=hK w' g2 N hJ.ext hJ.ni (fun d d' h1 h2 h3=>by
     obtain⟨p,o1,a1,a2,a3⟩:=Fc d h1
     obtain⟨q,o2,b1,b2,b3⟩:=Fc d' h2
     have e1:g2 d=g d:=q1 d fun q' o' _ c1 c2 _=>by rw[uniq q' p o' o1 d c1 a1 c2 a3];exact hR p o1 a1 (XH p a2)
     have e2:g2 d'=g d':=q1 d' fun q' o' _ c1 c2 _=>by rw[uniq q' q o' o2 d' c1 b1 c2 b3];exact hR q o2 b1 (XH q b2)
     rw[e1,e2]
     exact hJ.dis p q o1 o2 d d' (hR p o1 a1 (XH p a2)) (hR q o2 b1 (XH q b2)) (fun e=>h3 (by subst e;rw[a1] at b1;cases b1;rw[a3] at b3;exact amo b3)) a1 b1 a2 b2 a3 b3) (fun t ht=>(hL.is g2 N w' t (hV t) (yh t)).1 ht) (fun j t Φ hj=>(hL.is g2 N w' t (hV t) (yh t)).2 j Φ hj)
    have hJ2:J2 P n l Ks ag (fun f w=>Q .normal (bZ n f) w) L g w' g2 (fun _=>false):=by
     refine⟨hR,fun t _ ht=>q1 t fun q o' _ h1 h2 h3=>ht q o' h1 h2 (.inl h3),fun q o' d h1 h2 h3=>q2 q o' d (ef.1 h1).1 h1 h2 (h3.resolve_right aw),hI w' hJ.ext,?_,fun q hq=>(by cases hq),fun q hq=>(by cases hq),fun q hq=>(by cases hq)⟩
     rw[nH (L':=L) l 0 fun k _ _=>anM _]
     have:qi Ks L 0 l=Fs Ks l:=by
      rw[←ET l 0 Ks rfl]
      refine nH l 0 fun k _ hk=>?_
      by_cases zQ:k<l.length
      ·exact hJ.no k zQ hk
      ·cases hLk:L k with
       |false=>rfl
       |true=>exact absurd (hLl k hLk) zQ
     rw[this];exact wX
    have GD:NF l Ks L (fun _=>false) l.length:=fun q hq hx _ hr=>by
     have pT:eE Ks q=true∧jH l q=true:=by unfold sT at hx;rwa [eQ] at hx
     have tq:l[q]? =some l[q]:=eP hq
     obtain⟨-,e,he,mS,qt⟩:=(hZ q _ tq).xd pT.1 (by have:=pT.2;unfold jH at this;rwa [tq] at this)
     have h1:=hr e he mS qt
     rw[hJ.no e aq mS] at h1;cases h1
    exact(Q6 lD hZ eM hJ2 GD ho xg I9 tD hb si).mono fun Ed mo h=>⟨LV,.inr h⟩
   ·cases I9:jH l i with
    |false=>exact(Q6 lD hZ eM hJ GD ho xg I9 tD hb si).mono fun Ed mo h=>⟨LV,.inr h⟩
    |true=>
     obtain⟨⟨d,hd⟩, -⟩:=z.xd xg (by rw[hsl,I9])
     exact(late g2 V hJ GD d hd (.inr (GD i jA (by unfold sT;rw[xg,I9];rfl) tD hb))<|fun XJ=>by unfold sT;rw[I9,apj];exact XJ).mono fun Ed mo h=>⟨LV,.inr h⟩
  |false=>
   obtain⟨d,hd⟩:=z.dst xg
   rcases hJ with ⟨N,hJ⟩|⟨g2,V,hJ,GD⟩
   ·
    have yh:∀t∈o.looksAt l.toArray,Kn l Ks f E i g N w' t:=by
     intro t ht
     refine⟨hJ.off t,fun q o' hq h1 h2 h3=>?_⟩
     rcases (z.look t ht).2 with h4|⟨j,sQ,hj,LH,pX,tx, -⟩
     ·exact absurd h2<|h4 q o' h1
     ·have hqj:=uniq q j o' sQ t h1 pX h2 tx
      subst hqj
      exact hJ.z6 q o' t (si q LH) h1 h2 h3
    have fin:∀(v:Value) (w2:World) (N':Nat→Prop),Ext w' w2→Em w N' w2→(∀b,N b→N' b)→(∀b,N' b→N b∨w'.heap.size≤b)→mY E i N' v w2→
      (nz Ks i=true→∀(q:Nat) (o':Oper) (d':Nat),L q=true→l[q]? =some o'→nz Ks q=true→o'.dst=some d'→g d'≠v)→J1 l Ks w f E (fun k=>L k||decide (k=i)) (cU g o.dst v) w2 N':=by
     intro v w2 N' hx hni Sr hn2 hv LN
     have LU:∀q,(L q||decide (q=i))=true→q≠i→L q=true:=fun q h4 sX=>by
      rcases am'.1 h4 with h4|h4
      ·exact h4
      ·exact absurd (by simpa using h4) sX
     rw[hd]
     have LB:∀(q:Nat) (o':Oper) (t:Nat),l[q]? =some o'→o'.dst=some t→q≠i→b9 g d v t=g t:=fun q o' t h1 h2 sX=>jq g v (fun e=>sX (uniq q i o' o d h1 ho (by rw[h2,e]) hd))
     refine⟨hni,fun p q o1 o2 d1 d2 hp hq Gw a1 b1 a2 b2 a3 b3=>?_,fun e he mS=>?_,hJ.ext.trans hx,fun t ht=>?_,fun q o' t hq h1 h2 h3=>?_⟩
     ·show b9 g d v d1≠b9 g d v d2
      by_cases Sn:p=i
      ·subst Sn
       have sX:q≠p:=fun e=>Gw e.symm
       rw[ho] at a1;cases a1
       rw[hd] at a3;cases a3
       rw[iI,LB q o2 d2 b1 b3 sX]
       exact fun e=>LN a2 q o2 d2 (LU q hq sX) b1 b2 b3 e.symm
      ·by_cases sX:q=i
       ·subst sX
        rw[ho] at b1;cases b1
        rw[hd] at b3;cases b3
        rw[iI,LB p o1 d1 a1 a3 Sn]
        exact LN b2 p o1 d1 (LU p hp Sn) a1 a2 a3
       ·rw[LB p o1 d1 a1 a3 Sn,LB q o2 d2 b1 b3 sX]
        exact hJ.dis p q o1 o2 d1 d2 (LU p hp Sn) (LU q hq sX) Gw a1 b1 a2 b2 a3 b3
     ·rw[hJ.no e he mS,ams (fun e'=>by rw[e',xg] at mS;cases mS)];rfl
     ·show b9 g d v t=f t
      rw[jq g v (fun e=>by have:=ht i o ho (by rw[hd,e]);rw[xg] at this;cases this)]
      exact hJ.off t ht
     ·by_cases sX:q=i
      ·subst sX
       rw[ho] at h1;cases h1
       rw[hd] at h2;cases h2
       show mY E q N' (b9 g d v d) w2
       rw[iI];exact hv
      ·show mY E q N' (b9 g d v t) w2
       rw[LB q o' t h1 h2 sX]
       exact(hF q o' h1).mono.ext _ _ _ _ hx ((hF q o' h1).mono.grow _ _ _ _ Sr hn2 (hJ.z6 q o' t (LU q hq sX) h1 h2 h3))
    have abL:∀w2,Ext w' w2→Em w N w2:=fun w2 hx b hb=>⟨(hJ.ni b hb).1,amO (hJ.ni b hb).2 hx.size⟩
    rcases (hF i o ho).go xg with ⟨hFR,hN, -⟩|⟨⟨X,hX,hFF⟩,hN⟩|⟨⟨zz,T,hX,hFN⟩,hN⟩
    ·refine(hFR g N w' hJ.ext hJ.ni yh).mono ?_
     rintro Ed mo ⟨v,rfl,hx,hv⟩
     exact⟨LV,.inl ⟨N,fin v mo N hx (abL mo hx) (fun _ h=>h) (fun _ h=>.inl h) hv fun h=>by rw[hN] at h;cases h⟩⟩
    ·refine(hFF g N w' w' (hI w' hJ.ext) yh).mono ?_
     rintro Ed mo ⟨rfl,rfl⟩
     exact⟨LV,.inl ⟨N,fin X mo N (Ext.refl _) hJ.ni (fun _ h=>h) (fun _ h=>.inl h) (by rw[hX];rfl) fun h=>by rw[hN] at h;cases h⟩⟩
    ·refine(hFN g N w' hJ.ext yh).mono ?_
     rintro Ed mo ⟨v,rfl,hx,b0,px,vE,XA⟩
     have ahq:b0<mo.heap.size:=(amN.1 XA).1
     refine⟨LV,.inl ⟨fun b=>N b∨b=b0,fin v mo _ hx (fun b hb=>?_) (fun _ h=>.inl h) (fun b hb=>?_) (by rw[hX];exact⟨b0,px,Nat.le_trans hJ.ext.size vE,XA,.inr rfl⟩) fun _ q o' d' LU h1 h2 h3 e=>?_⟩⟩
     ·rcases hb with hb|rfl
      ·exact abL mo hx b hb
      ·exact⟨Nat.le_trans hJ.ext.size vE,ahq⟩
     ·rcases hb with hb|rfl
      ·exact .inl hb
      ·exact .inr vE
     ·have hqE:eE Ks q=false:=by unfold nz at h2;unfold eE;cases hq:uJ Ks q<;>rw[hq] at h2<;>first|rfl|exact Bool.noConfusion h2
      rcases (hF q o' h1).go hqE with ⟨-,h9, -⟩|⟨-,h9⟩|⟨⟨z2,T2,hX2, -⟩, -⟩
      ·rw[h2] at h9;cases h9
      ·rw[h2] at h9;cases h9
      ·have:=hJ.z6 q o' d' LU h1 h3 hqE
       rw[hX2] at this
       obtain⟨b1,c1, -,c3, -⟩:=this
       rw[c1,px] at e
       have:b1=b0:=by
        have:=amh (fun v=>match v with|Value.pointer (some a)=>a.block|_=>0) e
        simpa using this
       have h7:=(amN.1 c3).1
       omega
   ·exact(late g2 V hJ GD d hd (.inl xg)<|fun XJ=>by rw[xg] at XJ;cases XJ).mono fun Ed mo h=>⟨LV,.inr h⟩
 ·rintro g w' ⟨-,hJ⟩
  have hz:qi Ks (fun k=>decide (k<l.length)) 0 l=[]:=ES l 0 fun k _ hk=>by rw[amp aq]
  rcases hJ with ⟨N,hJ⟩|⟨g2,V,hJ, -⟩
  ·have yh:∀t,Kn l Ks f E l.length g N w' t:=fun t=>⟨hJ.off t,fun q o' hq h1 h2 h3=>hJ.z6 q o' t (amp hq) h1 h2 h3⟩
   have hV:∀t,Yb l Ks l.length t:=fun t q o' h1 _ _=>(ef.1 h1).1
   have wX:=hK w' g N hJ.ext hJ.ni (fun d d' h1 h2 h3=>by
    obtain⟨p,o1,a1,a2,a3⟩:=Fc d h1
    obtain⟨q,o2,b1,b2,b3⟩:=Fc d' h2
    exact hJ.dis p q o1 o2 d d' (amp (ef.1 a1).1) (amp (ef.1 b1).1) (fun e=>h3 (by subst e;rw[a1] at b1;cases b1;rw[a3] at b3;exact amo b3)) a1 b1 a2 b2 a3 b3) (fun t ht=>(hL.is g N w' t (hV t) (yh t)).1 ht) (fun j t Φ hj=>(hL.is g N w' t (hV t) (yh t)).2 j Φ hj)
   have:Fs Ks l=[]:=by
    rw[←ET l 0 Ks rfl,←hz]
    refine nH l 0 fun k _ hk=>?_
    by_cases zQ:k<l.length
    ·have:=hJ.no k zQ hk
     rw[amp zQ] at this;cases this
    ·rw[ams zQ]
   rw[this] at wX
   exact wX
  ·have wX:=hJ.we
   rw[ES l 0 fun k _ hk=>by rw[amp aq];rfl] at wX
   have:bZ n g2=bZ n g:=by
    unfold bZ
    congr 2
    funext t
    exact hJ.eq t t.2 fun q o h3 _ _=>amp (ef.1 h3).1
   have h9:Q .normal (bZ n g2) w':=wX
   rwa [this] at h9
end
end Go.Ew
namespace Go.Ew
open Go.RowKit
def Nq:ZK→Bool
 | .r=>true
 | .s=>true
 |_=>false
def GJ (ops:Array Oper) (o:Oper) (aj:UN):Bool:=(o.looksAt ops).all (fun t=>!wV aj t)
def JS (ops:Array Oper) (o:Oper) (aj:UN) (d:Nat):Bool:=(o.looksAt ops).all (fun t=>Nat.beq t d||!wV aj t)&&(o.looksAt ops).contains d
def Qo (ops:Array Oper) (o:Oper) (aj:UN) (d d1:Nat):Bool:=(o.looksAt ops).all (fun t=>Nat.beq t d||(Nat.beq t d1||!wV aj t))&&((o.looksAt ops).contains d&&((o.looksAt ops).contains d1&&!Nat.beq d d1))
theorem mN {Φ:Value→World→Prop} (h:∀v w w',Ext w w'→Φ v w→Φ v w'):rJ (fun _=>Φ):=⟨fun _ v w w'=>h v w w',fun _ _ _ _ _ _ h=>h⟩
theorem mE {Φ:Value→Prop}:rJ (fun _ v _=>Φ v):=⟨fun _ _ _ _ _ h=>h,fun _ _ _ _ _ _ h=>h⟩
section
variable {P:Program} {n:Nat} {ops:Array Oper} {w0:World} {ag:World→Prop} {K:UN→aS→Prop} {f:aS} {rest:List Oper} {zk:ZK} {ks:List ZK} {aj:UN} {o:Oper} {v X:Value} {Φ Ψ Ψ':PR} {d d1 d2:Nat}
theorem Ou (h:GJ ops o aj=true) {g:aS} {N:Nat→Prop} {w:World} (ha:Yj (o.looksAt ops) aj f g N w):∀t∈o.looksAt ops,g t=f t:=by
 intro t ht
 have:=amq.1 h t ht
 exact(ha t ht).1 (by simpa using this)
theorem ye (h:PZ P n ops w0 ag K rest ks aj f):PZ P n ops w0 ag K (o::rest) (.e::ks) aj f:=h
theorem PZ.of (hz:Nq zk=true) (h:(∃X,GN P n ops w0 o aj f (eN X)∧PZ P n ops w0 ag K rest ks aj (cU f o.dst X))∨(∃d Φ,o.dst=some d∧rJ Φ∧GN P n ops w0 o aj f Φ∧PZ P n ops w0 ag K rest ks ((d,Φ)::aj) f)):PZ P n ops w0 ag K (o::rest) (zk::ks) aj f:=by
 cases zk with
 |r=>exact h
 |s=>exact h
 |f=>cases hz
 |e=>cases hz
 |n=>cases hz
theorem yz (h:K aj f):PZ P n ops w0 ag K [] ks aj f:=h
theorem yq (hz:Nq zk=true) (hf:(lN n o&&GJ ops o aj)=true) (h:PW P n ops w0 (fun f'=>PZ P n ops w0 ag K rest ks aj f') [o] f):PZ P n ops w0 ag K (o::rest) (zk::ks) aj f:=by
 obtain⟨X,h1,h2⟩:=h
 rw[eQ] at hf
 exact PZ.of hz<|.inl ⟨X,fun w g N hx _ ha=>SO.rG (ai:=fun v w'=>v=X) ((h1 w hx).mono fun f' w' hq=>⟨X,hq.1,hq.2,J⟩) (gk hf.1).1 (Ou hf.2 ha) (gk hf.1).2,h2⟩
theorem yu (hz:Nq zk=true) (Φ:PR) (hd:o.dst=some d) (hm:rJ Φ) (hf:(lN n o&&GJ ops o aj)=true) (h:∀w N,Ext w0 w→Em w0 N w→SO P n ops o f w (fun f' w'=>∃v,f'=cU f o.dst v∧Ext w w'∧Φ N v w')) (r:PZ P n ops w0 ag K rest ks ((d,Φ)::aj) f):PZ P n ops w0 ag K (o::rest) (zk::ks) aj f:=by
 rw[eQ] at hf
 exact PZ.of hz<|.inr ⟨d,Φ,hd,hm,fun w g N hx hn ha=>SO.rG (ai:=fun v w'=>Φ N v w') (h w N hx hn) (gk hf.1).1 (Ou hf.2 ha) (gk hf.1).2,r⟩
theorem RU {j:Nat} (hU:aj[j]? =some (d,Ψ)) (h:JS ops o aj d=true) {g:aS} {N:Nat→Prop} {w:World} (ha:Yj (o.looksAt ops) aj f g N w):Ψ N (g d) w∧∀t∈o.looksAt ops,g t=b9 f d (g d) t:=by
 unfold JS at h
 rw[eQ] at h
 refine⟨(ha d<|amV.1 h.2).2 j Ψ hU,fun t ht=>?_⟩
 by_cases e:t=d
 ·subst e;exact(iI _ _ _).symm
 ·rw[jq _ _ e]
  have:=amq.1 h.1 t ht
  rcases am'.1 this with h1|h1
  ·exact absurd (ans h1) e
  ·exact(ha t ht).1 (by simpa using h1)
theorem QP (hz:Nq zk=true) (j:Nat) (hU:aj[j]? =some (d,Ψ)) (hf:(lN n o&&JS ops o aj d)=true) (h:∀w N v,Ext w0 w→Em w0 N w→Ψ N v w→SO P n ops o (b9 f d v) w (fun f' w'=>f'=cU (b9 f d v) o.dst X∧Ext w w')) (r:PZ P n ops w0 ag K rest ks aj (cU f o.dst X)):PZ P n ops w0 ag K (o::rest) (zk::ks) aj f:=by
 rw[eQ] at hf
 refine PZ.of hz<|.inl ⟨X,fun w g N hx hn ha=>?_,r⟩
 obtain⟨h1,h2⟩:=RU hU hf.2 ha
 exact SO.rG (ai:=fun v w'=>v=X) ((h w N (g d) hx hn h1).mono fun f' w' hq=>⟨X,hq.1,hq.2,J⟩) (gk hf.1).1 h2 (gk hf.1).2
theorem lq (hz:Nq zk=true) (Φ:PR) (j:Nat) (hU:aj[j]? =some (d,Ψ)) (hd:o.dst=some d2) (hm:rJ Φ) (hf:(lN n o&&JS ops o aj d)=true) (h:∀w N v,Ext w0 w→Em w0 N w→Ψ N v w→SO P n ops o (b9 f d v) w (fun f' w'=>∃u,f'=cU (b9 f d v) o.dst u∧Ext w w'∧Φ N u w')) (r:PZ P n ops w0 ag K rest ks ((d2,Φ)::aj) f):PZ P n ops w0 ag K (o::rest) (zk::ks) aj f:=by
 rw[eQ] at hf
 refine PZ.of hz<|.inr ⟨d2,Φ,hd,hm,fun w g N hx hn ha=>?_,r⟩
 obtain⟨h1,h2⟩:=RU hU hf.2 ha
 exact SO.rG (ai:=fun v w'=>Φ N v w') (h w N (g d) hx hn h1) (gk hf.1).1 h2 (gk hf.1).2
theorem aad {j i:Nat} (hU:aj[j]? =some (d,Ψ)) (hU':aj[i]? =some (d1,Ψ')) (h:Qo ops o aj d d1=true) {g:aS} {N:Nat→Prop} {w:World} (ha:Yj (o.looksAt ops) aj f g N w):Ψ N (g d) w∧Ψ' N (g d1) w∧∀t∈o.looksAt ops,g t=b9 (b9 f d (g d)) d1 (g d1) t:=by
 unfold Qo at h
 simp only[eQ,anq] at h
 obtain⟨h0,h1,h2,h3⟩:=h
 refine⟨(ha d<|amV.1 h1).2 j Ψ hU,(ha d1<|amV.1 h2).2 i Ψ' hU',fun t ht=>?_⟩
 by_cases e1:t=d1
 ·subst e1;exact(iI _ _ _).symm
 ·rw[jq _ _ e1]
  by_cases e:t=d
  ·subst e;exact(iI _ _ _).symm
  ·rw[jq _ _ e]
   have:=amq.1 h0 t ht
   rcases am'.1 this with h4|h4
   ·exact absurd (ans h4) e
   ·rcases am'.1 h4 with h4|h4
    ·exact absurd (ans h4) e1
    ·exact(ha t ht).1 (by simpa using h4)
theorem yu2 (hz:Nq zk=true) (Φ:PR) (j i:Nat) (hU:aj[j]? =some (d,Ψ)) (hU':aj[i]? =some (d1,Ψ')) (hd:o.dst=some d2) (hm:rJ Φ) (hf:(lN n o&&Qo ops o aj d d1)=true) (h:∀w N v v',Ext w0 w→Em w0 N w→Ψ N v w→Ψ' N v' w→SO P n ops o (b9 (b9 f d v) d1 v') w (fun f' w'=>∃u,f'=cU (b9 (b9 f d v) d1 v') o.dst u∧Ext w w'∧Φ N u w')) (r:PZ P n ops w0 ag K rest ks ((d2,Φ)::aj) f):PZ P n ops w0 ag K (o::rest) (zk::ks) aj f:=by
 rw[eQ] at hf
 refine PZ.of hz<|.inr ⟨d2,Φ,hd,hm,fun w g N hx hn ha=>?_,r⟩
 obtain⟨h1,h2,h3⟩:=aad hU hU' hf.2 ha
 exact SO.rG (ai:=fun v w'=>Φ N v w') (h w N (g d) (g d1) hx hn h1 h2) (gk hf.1).1 h3 (gk hf.1).2
theorem yf (hf:(lN n o&&GJ ops o aj)=true) (h:∀w,ag w→SO P n ops o f w (fun f' w'=>f'=cU f o.dst X∧w'=w)) (r:PZ P n ops w0 ag K rest ks aj (cU f o.dst X)):PZ P n ops w0 ag K (o::rest) (.f::ks) aj f:=by
 rw[eQ] at hf
 refine⟨X,fun w g hI ha=>?_,hf.2,r⟩
 refine(SO.rG (ai:=fun v w'=>v=X∧w'=w) ((h w hI).mono fun f' w' hq=>⟨X,hq.1,by rw[hq.2];exact Ext.refl w,J,hq.2⟩) (gk hf.1).1 (fun t ht=>(ha t ht).2) (gk hf.1).2).mono ?_
 rintro f' w' ⟨v,rfl, -,rfl,rfl⟩
 exact⟨J,J⟩
theorem e3 {f:aS} {w:World}:f=f∧w=w:=⟨rfl,rfl⟩
theorem yn {z:Array Value} {T:TypeId} (hd:o.dst=some d) (hf:(lN n o&&GJ ops o aj)=true) (h:∀w,SO P n ops o f w (fun f' w'=>∃v,f'=cU f o.dst v∧Ext w w'∧MH z T w v w')) (r:PZ P n ops w0 ag K rest ks ((d,Jp w0 z T)::aj) f):PZ P n ops w0 ag K (o::rest) (.n::ks) aj f:=by
 rw[eQ] at hf
 exact⟨d,z,T,hd,hf.2,fun w g hx ha=>SO.rG (ai:=fun v w'=>MH z T w v w') (h w) (gk hf.1).1 ha (gk hf.1).2,r⟩
end
section
variable {P:Program} {n:Nat} {ops:Array Oper} {w w0:World} {ag:World→Prop} {f:aS} {o:Oper} {rest:List Oper} {d:Nat} {T ty:TypeId} {ps:String} {af:Array Edge} {x:Operand} {v z:Value} {size bytes:Nat} {agg:Bool}
theorem OW (F:eh P T size agg bytes z):SO P n ops ⟨some d,.alloc T,ty,ps,af,none⟩ f w (fun f' w'=>∃v,f'=cU f (some d) v∧Ext w w'∧MH z.cells T w v w'):=
 SO.value (v:=.pointer (some ⟨w.heap.size,0,none⟩)) (w':=w.alloc (.cells z.cells T)) (by simp[execOp,Instr.alloc,F.tL,AM]) ⟨_,rfl,Ext.alloc w _,_,rfl,amk _,heap_alloc_new w _⟩
theorem ke {K:aS→World→Prop} (h:SO P n ops o f w (fun f' w'=>ag w'∧WE P n ops ag K rest f' w')):WE P n ops ag K (o::rest) f w:=h
theorem jZ {K:aS→World→Prop} (h:SO P n ops o f w (fun f' w'=>WE P n ops (fun _=>True) K rest f' w')):WE P n ops (fun _=>True) K (o::rest) f w:=h.mono fun _ _ h=>⟨trivial,h⟩
theorem kz {K:aS→World→Prop} (h:K f w):WE P n ops ag K [] f w:=h
end
section
variable {M0:Nat→Prop} {zl w w':World} {l:List Item}
theorem HI.lays (H:HI M0 zl w l) (x:Ext w w') (bs:List (Nat×Array Value×TypeId)) (hb:∀q∈bs,w.heap.size≤q.1∧w'.heap[q.1]? =some (.cells q.2.1 q.2.2 (0,0))) (hn:(bs.map (·.1)).Nodup):
  HI M0 zl w' (bs.map (fun q=>box q.1 q.2.1 q.2.2)++l):=by
 have pq:∀q∈bs,q.1<w'.heap.size:=fun q hq=>(amN.1 (hb q hq).2).1
 have Xu:(bs.map (fun q=>box q.1 q.2.1 q.2.2)).filterMap (·.jx)=bs.map (·.1):=by
  clear hb hn pq
  induction bs with
  |nil=>rfl
  |cons q bs ih=>simp only[amJ,am6,ih];rfl
 refine⟨H.below.trans x,H.m0,?_,?_,?_⟩
 ·intro it hit b By
  rcases amH.1 hit with h|h
  ·obtain⟨q,hq,rfl⟩:=am5.1 h
   cases By
   exact⟨Nat.le_trans H.below.size (hb q hq).1,pq q hq⟩
  ·exact⟨(H.ji it h b By).1,amO (H.ji it h b By).2 x.size⟩
 ·rw[aos,Xu,an_]
  refine⟨hn,H.nodup,?_⟩
  intro b px c hc e
  subst e
  obtain⟨q,hq,rfl⟩:=am5.1 px
  obtain⟨it,hit,Bu⟩:=amK.1 hc
  have:=(H.ji it hit _ Bu).2
  have:=(hb q hq).1
  omega
 ·intro it hit
  rcases amH.1 hit with h|h
  ·obtain⟨q,hq,rfl⟩:=am5.1 h
   exact(hb q hq).2
  ·refine it.lift (H.all it h) ⟨x.size,fun c hc hM=>⟨x.block c hc,?_⟩⟩ fun c hc=>x.block c (H.ji it h c hc).2
   rintro(LQ|⟨j,hj,xa⟩)
   ·exact hM<|.inl LQ
   ·rcases amH.1 hj with hj|hj
    ·obtain⟨q,hq,rfl⟩:=am5.1 hj
     cases xa
     have:=(hb q hq).1
     omega
    ·exact hM<|.inr ⟨j,hj,xa⟩
end
def MN (M N:Nat→Prop) (c:Nat):Prop:=M c∨N c
section
variable {α:Type} [GT α] {M N N':Nat→Prop} {w0 w w':World} {v:Value} {x:α}
theorem j3 (h:RV M w0 v x) (e:Ext w0 w) (hN:∀c,N c→w0.heap.size≤c∧c<w.heap.size):RV (MN M N) w v x:=
 h.lift ⟨e.size,fun c hc hn=>⟨e.block c hc,by
  rintro(h1|h1)
  ·exact hn h1
  ·have:=(hN c h1).1;omega⟩⟩
theorem kx (hM:∀b,M b→b<w0.heap.size) (e:Ext w0 w) (hN:∀c,N c→w0.heap.size≤c∧c<w.heap.size):∀b,MN M N b→b<w.heap.size:=by
 rintro b (h|h)
 ·exact amO (hM b h) e.size
 ·exact(hN b h).2
theorem gR (h:RV (MN M N) w v x) (k:∀b,N' b→N b∨w.heap.size≤b):RV (MN M N') w v x:=
 h.lift ⟨amk _,fun c hc hn=>⟨rfl,by
  rintro(h1|h1)
  ·exact hn<|.inl h1
  ·rcases k c h1 with h2|h2
   ·exact hn<|.inr h2
   ·omega⟩⟩
end
def T7 (w0 w:World) (N:Nat→Prop) (bs:List (Nat×Array Value×TypeId)):Prop:=∀q∈bs,w0.heap.size≤q.1∧w.heap[q.1]? =some (.cells q.2.1 q.2.2 (0,0))∧N q.1
theorem OO {w0 w:World} {N:Nat→Prop}:T7 w0 w N []:=fun _ h=>by cases h
theorem ON {w0 w:World} {N:Nat→Prop} {bs:List (Nat×Array Value×TypeId)} {b:Nat} {z:Array Value} {T:TypeId} (h1:w0.heap.size≤b) (h2:w.heap[b]? =some (.cells z T (0,0))) (h3:N b) (h:T7 w0 w N bs):T7 w0 w N ((b,z,T)::bs):=by
 intro q hq
 rcases amz.1 hq with rfl|hq
 ·exact⟨h1,h2,h3⟩
 ·exact h q hq
theorem N3 {b:Nat}:b∉([]:List Nat):=by simp
theorem N5:([]:List Nat).Nodup:=ao'
theorem N4 {b:Nat} {l:List Nat} (h:b∉l) (h1:l.Nodup):(b::l).Nodup:=anm.2 ⟨h,h1⟩
theorem HI.Dr {M0:Nat→Prop} {zl w w':World} {l:List Item} {N:Nat→Prop} {bs:List (Nat×Array Value×TypeId)} (H:HI M0 zl w l) (x:Ext w w') (hb:T7 w w' N bs) (hn:(bs.map (·.1)).Nodup):HI M0 zl w' (bs.map (fun q=>box q.1 q.2.1 q.2.2)++l):=
 H.lays x bs (fun q hq=>⟨(hb q hq).1,(hb q hq).2.1⟩) hn
theorem YG {α:Type} [GT α] {M0 N:Nat→Prop} {l:List Item} {w:World} {v:Value} {x:α} (bs:List (Nat×Array Value×TypeId)) (h:RV (MN (MS M0 l) N) w v x) (hb:∀q∈bs,N q.1):RV (MS M0 (bs.map (fun q=>box q.1 q.2.1 q.2.2)++l)) w v x:=
 h.lift (Up.less fun c hc hn=>by
  rcases hn with h1|⟨it,hit,Bu⟩
  ·exact .inl (.inl h1)
  ·rcases amH.1 hit with h2|h2
   ·obtain⟨q,hq,rfl⟩:=am5.1 h2
    cases Bu
    exact .inr (hb q hq)
   ·exact .inl (.inr ⟨it,h2,Bu⟩))
theorem rR {α:Type} [GT α] {M0 N:Nat→Prop} {l:List Item} {w0 w:World} {v:Value} {x:α} {bs:List (Nat×Array Value×TypeId)} (h:RV (MN (MS M0 l) N) w v x) (hb:T7 w0 w N bs):RV (MS M0 (bs.map (fun q=>box q.1 q.2.1 q.2.2)++l)) w v x:=
 YG bs h fun q hq=>(hb q hq).2.2
theorem YH {α:Type} [GT α] {M0:Nat→Prop} {l:List Item} {it:Item} {w:World} {v:Value} {x:α} (h:it.jx=none) (r:RV (MS M0 l) w v x):RV (MS M0 (it::l)) w v x:=by rw[aE h];exact r
end Go.Ew
namespace Go.Ew
open Go.RowKit Go.IntWalk
theorem ieq {v:Value} {kk:IntKind} {a b:Int} (h:v=.int kk a) (e:a=b):v=.int kk b:=e▸h
theorem Ny {v:Value} {a b:BitVec 64} (h:v=aj a) (e:a=b):v=aj b:=e▸h
theorem fY {b:Bool} (h:(!b)=true):b=false:=by cases b<;>simp_all
theorem fk {b:Bool} (h:(!b)=false):b=true:=by cases b<;>simp_all
theorem gS.ext {α:Type} [GT α] {M:Nat→Prop} {w w':World} {ad:Addr} {x:α} (h:gS M w ad x) (e:Ext w w'):gS M w' ad x:=by
 obtain⟨cs,h1,h2⟩:=h
 refine⟨cs,GT.lift h1 (Up.ext e),fun j v hv=>?_⟩
 have hc:=h2 j v hv
 exact(World.cell?_of_block<|e.block _<|pC hc).trans hc
theorem F2 {α:Type} [GT α] (M:Nat→Prop) (w:World):RS M w (.slice none 0 0) ([]:List α):=⟨none,0,0,rfl,rfl,amk _,by simp[maxLen],.inl rfl⟩
theorem d_ {α:Type} [GT α] (M:Nat→Prop) (w:World):RV M w (.slice none 0 0) ([]:List α):=RV.list.2 (F2 M w)
theorem bN {M0:Nat→Prop}:MS M0 []=M0:=by funext b;simp[MS]
class Flat (α:Type) [GT α]:Prop where
 flat:∀{M w M' w' cs} {x:α},GT.rep M w cs x→GT.rep M' w' cs x
instance :Flat Int:=⟨fun h=>h⟩
instance :Flat (BitVec 64):=⟨fun h=>h⟩
instance :Flat (BitVec 8):=⟨fun h=>h⟩
instance :Flat Bool:=⟨fun h=>h⟩
instance :Flat ByteArray:=⟨fun h=>h⟩
instance {α β:Type} [GT α] [GT β] [Flat α] [Flat β]:Flat (α×β):=⟨fun h=>by
 obtain⟨c1,c2,h0,h1,h2⟩:=h
 exact⟨c1,c2,h0,Flat.flat h1,Flat.flat h2⟩⟩
theorem bu.flat {α:Type} [GT α] [Flat α] {M M':Nat→Prop} {w w':World}:∀{xs:List α} {cs:List Value},bu M w cs xs→bu M' w' cs xs
 |[],_,h=>h
 |x::xs,cs,⟨c1,c2,h1,h2,h3⟩=>⟨c1,c2,h1,Flat.flat h2,bu.flat h3⟩
section
variable {M0:Nat→Prop} {w0 w w':World} {l l':List Item} {α:Type} [GT α] {v:Value} {xs:List α} {x:α} {e:TypeId} {ad:Addr}
theorem HI.rv (H:HI M0 w0 w l) (i:Nat) (hi:l[i]? =some (sU v x)):RV (MS M0 l) w v x:=H.at_ i hi
theorem HI.atv (H:HI M0 w0 w l) (i:Nat) (hi:l[i]? =some (qJ ad x)):At (MS M0 l) w ad x:=H.at_ i hi
theorem HI.fg (H:HI M0 w0 w l) (i:Nat) (hi:l[i]? =some (sU v x)):RV M0 w v x:=(H.rv i hi).lift H.out
theorem HI.me (H:HI M0 w0 w l) (i:Nat) (hi:l[i]? =some (own w0.heap.size e v xs)):RV M0 w v xs:=H.YU i hi (fun _ _ _ _=>trivial)
theorem xW {β γ:Type} (g:β→Option γ):∀(is:List β),is.Nodup→(∀i∈is,∀j∈is,∀b,g i=some b→g j=some b→i=j)→(is.filterMap g).Nodup
 |[],_,_=>ao'
 |i::is,hn,hg=>by
  have LC:=anm.1 hn
  have ih:=xW g is LC.2<|fun a ha b hb=>hg a (amM _ ha) b (amM _ hb)
  rw[am6]
  cases hgi:g i with
  |none=>exact ih
  |some b=>
   refine anm.2 ⟨fun hm=>?_,ih⟩
   obtain⟨j,hj,hgj⟩:=amK.1 hm
   have:=hg i (am4) j (amM _ hj) b hgi hgj
   exact LC.1<|this▸hj
theorem HI.bT (H:HI M0 w0 w l) (is:List Nat) (hn:is.Nodup) (he:is.filterMap (fun i=>l[i]?)=l'):HI M0 w0 w l':=by
 subst he
 refine H.pick _ (fun it hit=>?_) ?_
 ·obtain⟨i,_,hi⟩:=amK.1 hit
  exact dJ hi
 ·rw[List.filterMap_filterMap]
  refine xW _ is hn fun i _ j _ b hi hj=>?_
  obtain⟨a,ha,I8⟩:=aoP.1 hi
  obtain⟨c,hc,hcb⟩:=aoP.1 hj
  exact gU (·.jx) l H.nodup i j a c ha hc (by rw[I8];rfl)<|by rw[I8,hcb]
end
theorem ma.rest {P:Program} {n:Nat} {l:List Oper} {k:Nat} {Φ:List (Value→World→Prop)} {f0:aS} {w0:World} {i:Nat} (h:Nat.ble k i=true):∀r,ma P n l k Φ f0 w0 i r:=by
 intro r
 induction r generalizing i with
 |nil=>trivial
 |cons o r ih=>
  refine⟨fun hb=>?_,ih ?_⟩
  ·simp at h hb;omega
  ·simp at h ⊢;omega
theorem adC.rv {α:Type} [GT α] {e:TypeId} {w w':World} {xs:List α} {v:Value} {M:Nat→Prop} (h:adC e w xs v w') (hM:∀b,M b→b<w.heap.size):RV M w' v xs:=by
 obtain⟨_,hb,ho⟩:=h
 refine zy ho (fun b _ uP=>.inl (hM b uP))<|fun b vC hMb=>?_
 obtain⟨cs,h1,_⟩:=ho
 have:=(h1.lt b vC).1
 have:=hM b hMb
 omega
section
variable {P:Program} {n:Nat} {fn:Func} {ai:Value→World→Prop} {f:aS} {w w0:World} {M0:Nat→Prop} {l:List Item} {agg:Bool} {bytes:Nat} {z:Value} {k:Nat}
theorem pE {t:Nat} (h:Nat.blt t n=true):(bZ n f).tmps.getD t undef=f t:=Ar h
theorem tM {T:TypeId} {b:Nat} {cs:Array Value} {ty:TypeId} (H:HI M0 w0 w l) (i:Nat) (hi:l[i]? =some (box b cs ty)) (F:eh P T k agg bytes z) (hk:agg=false→k=1) (hl:((cs.toList.drop 0).take k).length=k):
  (loadVar T ⟨b,0,none⟩).run P w=.ok (sc agg ((cs.toList.drop 0).take k)) w:=by
 have hb:w.heap[b]? =some (.cells cs ty (0,0)):=H.at_ i hi
 refine rn F hk hl fun j u hu=>?_
 rw[show (⟨b,0,none⟩:Addr).add j=⟨b,j,none⟩ from by unfold Addr.add;split<;>simp_all,cell_of_row w b j cs ty (0,0) hb]
 have hj:j<k:=by
  have:=(ef.1 hu).1
  omega
 rw[amL,aml hj,amY] at hu
 simpa using hu
theorem oN {T:TypeId} {b:Nat} {cs:Array Value} {ty:TypeId} {p:Nat} (H:HI M0 w0 w l) (i:Nat) (hi:l[i]? =some (box b cs ty)) (F:eh P T k agg bytes z) (hr:fn.results=#[.cell p T]) (hp:Nat.blt p n=true) (hx:f p=.pointer (some ⟨b,0,none⟩)) (hl:((cs.toList.drop 0).take k).length=k) (hk:agg=false→k=1)
  (h:ai (sc agg ((cs.toList.drop 0).take k)) w):rT P n fn ai .ret (bZ n f) w:=by
 refine⟨f,J,_,?_,h⟩
 have h:=tM (P:=P) H i hi F hk hl
 have h0:(bZ n f).tmps.getD p undef=.pointer (some ⟨b,0,none⟩):=by rw[pE hp,hx]
 simp only[results,hr,aoS]
 simp only[apa,api]
 simp[h,h0,asAddr]
theorem ib {T:TypeId} {b:Nat} {cs:Array Value} {ty:TypeId} {p t:Nat} (H:HI M0 w0 w l) (i:Nat) (hi:l[i]? =some (box b cs ty)) (F:eh P T k agg bytes z) (hr:fn.results=#[.cell p T,.tmp t]) (hp:Nat.blt p n=true) (ht:Nat.blt t n=true) (hx:f p=.pointer (some ⟨b,0,none⟩)) (hl:((cs.toList.drop 0).take k).length=k) (hk:agg=false→k=1)
  (h:ai (.tuple #[sc agg ((cs.toList.drop 0).take k),f t]) w):rT P n fn ai .ret (bZ n f) w:=by
 refine⟨f,J,_,?_,h⟩
 have h:=tM (P:=P) H i hi F hk hl
 have h0:(bZ n f).tmps.getD p undef=.pointer (some ⟨b,0,none⟩):=by rw[pE hp,hx]
 have h2:=pE (f:=f) ht
 simp only[results,hr,aoS]
 simp only[apa,api]
 simp[h,h0,asAddr,h2]
theorem rc4 {T:TypeId} {b:Nat} {cs:Array Value} {ty:TypeId} {p t t2 t3:Nat} (H:HI M0 w0 w l) (i:Nat) (hi:l[i]? =some (box b cs ty)) (F:eh P T k agg bytes z) (hr:fn.results=#[.cell p T,.tmp t,.tmp t2,.tmp t3]) (hp:Nat.blt p n=true) (ht:Nat.blt t n=true) (Si:Nat.blt t2 n=true) (ht3:Nat.blt t3 n=true) (hx:f p=.pointer (some ⟨b,0,none⟩)) (hl:((cs.toList.drop 0).take k).length=k) (hk:agg=false→k=1)
  (h:ai (.tuple #[sc agg ((cs.toList.drop 0).take k),f t,f t2,f t3]) w):rT P n fn ai .ret (bZ n f) w:=by
 refine⟨f,J,_,?_,h⟩
 have h:=tM (P:=P) H i hi F hk hl
 have h0:(bZ n f).tmps.getD p undef=.pointer (some ⟨b,0,none⟩):=by rw[pE hp,hx]
 have h2:=pE (f:=f) ht
 have h3:=pE (f:=f) Si
 have h4:=pE (f:=f) ht3
 simp only[results,hr,aoS]
 simp only[apa,api]
 simp[h,h0,asAddr,h2,h3,h4]
theorem r3 {t t2 t3:Nat} (hr:fn.results=#[.tmp t,.tmp t2,.tmp t3]) (ht:Nat.blt t n=true) (Si:Nat.blt t2 n=true) (ht3:Nat.blt t3 n=true)
  (h:ai (.tuple #[f t,f t2,f t3]) w):rT P n fn ai .ret (bZ n f) w:=by
 refine⟨f,J,_,?_,h⟩
 have h2:=pE (f:=f) ht
 have h3:=pE (f:=f) Si
 have h4:=pE (f:=f) ht3
 simp only[results,hr,aoS]
 simp only[apa,api]
 simp[h2,h3,h4]
end
theorem Ht {α:Type} [GT α] {M:Nat→Prop} {w:World} {a:Option Addr} {n c:Nat} {xs:List α} (h:RV M w (.slice a n c) xs) (ha:a.isNone=true):xs=[]:=by
 cases a with
 |some _=>cases ha
 |none=>
  obtain⟨a,m,c',e,h2, -, -,h5⟩:=RV.list.1 h
  injection e with e1 e2 e3
  subst e1
  rcases h5 with h5|⟨ad,h5, -⟩
  ·exact ani.1<|h2.trans h5
  ·cases h5
end Go.Ew
