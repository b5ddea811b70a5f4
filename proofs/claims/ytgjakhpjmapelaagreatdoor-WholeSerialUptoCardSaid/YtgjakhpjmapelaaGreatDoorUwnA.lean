/- Engine, part A: a frame's temporaries as a function; single operations in continuation form; regions, loops, cuts. Independent of any program. -/
import Derived.WalkKit
import Derived.Deep.LoopGhost
import Derived.Maps.AppendAt
set_option linter.unusedVariables false
set_option linter.unusedSimpArgs false
namespace Go.Ew
theorem J.{u}{α:Sort u}{a:α}:a=a:=rfl
abbrev am_:=@congrArg
abbrev am':=@List.length_set
abbrev ana:=@Option.some.inj
abbrev anb:=@decide_eq_true_eq
abbrev anc:=@if_pos
abbrev ane:=@Nat.le_refl
abbrev anf:=@if_neg
abbrev ang:=@List.mem_range
abbrev anh:=@decide_eq_true
abbrev ani:=@List.all_eq_true
abbrev anj:=@List.take_of_length_le
abbrev ank:=@decide_eq_false
abbrev anl:=@List.getElem?_map
abbrev anm:=@Bool.or_eq_true
abbrev ann:=@Option.some.injEq
abbrev ano:=@List.getElem?_set_self
abbrev anp:=@List.getElem?_eq_none
abbrev anq:=@List.getElem?_cons_zero
abbrev anr:=@decide_eq_false_iff_not
abbrev ans:=@List.mem_cons
abbrev ant:=@List.mem_filter
abbrev anu:=@List.mem_iff_getElem?
abbrev anv:=@List.getElem?_cons_succ
abbrev anw:=@Bool.eq_iff_iff
abbrev anx:=@List.mem_append
abbrev anz:=@List.length_drop
abbrev anA:=@List.map_cons
abbrev anB:=@Option.isSome_iff_exists
abbrev anC:=@Option.map_eq_some_iff
abbrev anD:=@List.getElem?_set_ne
abbrev anE:=@List.findIdx?_eq_some_iff_getElem
abbrev anF:=@List.mem_filterMap
abbrev anG:=@List.getElem?_take
abbrev anH:=@List.take_add_one
abbrev anI:=@List.mem_cons_of_mem
abbrev anJ:=@Array.getElem?_eq_some_iff
abbrev anK:=@Nat.lt_of_lt_of_le
abbrev anL:=@List.ext_getElem?
abbrev anM:=@List.append_assoc
abbrev anN:=@List.any_eq_true
abbrev anO:=@List.length_map
abbrev anP:=@Int.toNat_of_nonneg
abbrev anQ:=@List.contains_iff_mem
abbrev anR:=@Nat.add_zero
abbrev anS:=@Prod.mk.injEq
abbrev anT:=@of_decide_eq_true
abbrev anU:=@List.getElem?_drop
abbrev anV:=@Classical.byContradiction
abbrev anW:=@Array.length_toList
abbrev anX:=@Nat.zero_add
abbrev anY:=@List.mem_cons_self
abbrev anZ:=@List.mem_map
abbrev an0:=@List.filterMap_cons
abbrev an1:=@List.mem_or_eq_of_mem_set
abbrev an2:=@Nat.add_mul
abbrev an3:=@if_false
abbrev an4:=@List.replicate_succ
abbrev an5:=@Bool.or_eq_true_iff
abbrev an6:=@List.getElem?_replicate
abbrev an7:=@List.getElem?_set
abbrev an8:=@List.drop_eq_getElem_cons
abbrev an9:=@List.drop_drop
abbrev an_:=@Bool.true_and
abbrev an':=@Nat.sub_self
abbrev aoa:=@List.take_length
abbrev aob:=@List.getElem?_range
abbrev aoc:=@List.length_filter_le
abbrev aod:=@List.length_eq_zero_iff
abbrev aoe:=@Nat.mul_le_mul_right
abbrev aof:=@Nat.min_eq_left
abbrev aog:=@List.nodup_cons
abbrev aoh:=@List.mem_singleton
abbrev aoi:=@List.filter_append
abbrev aoj:=@List.cons.injEq
abbrev aok:=@Nat.zero_le
abbrev aol:=@List.filter_eq_nil_iff
abbrev aom:=@List.take_append_of_le_length
abbrev aon:=@List.map_congr_left
abbrev aoo:=@Bool.not_eq_true'
abbrev aop:=@Nat.le_of_ble_eq_true
abbrev aoq:=@Nat.eq_of_beq_eq_true
abbrev aor:=@List.take_append_drop
abbrev aos:=@List.set_append_right
abbrev aot:=@List.mem_append_right
abbrev aou:=@Array.getElem?_toList
abbrev aov:=@Option.map_some
abbrev aow:=@decide_eq_decide
abbrev aox:=@List.mem_of_mem_take
abbrev aoy:=@List.mem_append_left
abbrev aoz:=@List.map_append
abbrev aoA:=@List.getElem!_eq_getElem?_getD
abbrev aoB:=@List.append_nil
abbrev aoC:=@List.getElem?_zipWith
abbrev aoD:=@List.eq_nil_of_length_eq_zero
abbrev aoE:=@of_decide_eq_false
abbrev aoF:=@Nat.lt_succ_self
abbrev aoG:=@List.getElem?_take_of_lt
abbrev aoH:=@List.find?_eq_none
abbrev aoI:=@Bool.or_false
abbrev aoJ:=@List.take_take
abbrev aoK:=@List.size_toArray
abbrev aoL:=@List.flatMap_cons
abbrev aoM:=@List.range_succ
abbrev aoN:=@List.drop_eq_nil_of_le
abbrev aoO:=@List.ext_getElem
abbrev aoP:=@if_true
abbrev aoQ:=@BitVec.eq_of_toNat_eq
abbrev aoR:=@Nat.not_lt_zero
abbrev aoS:=@Nat.lt_succ_iff_lt_or_eq
abbrev aoT:=@List.mem_of_mem_drop
abbrev aoU:=@Bool.or_eq_false_iff
abbrev aoV:=@Array.eq_empty_of_size_eq_zero
abbrev aoW:=@List.nodup_append
abbrev aoX:=@List.foldl_append
abbrev aoY:=@List.flatten_cons
abbrev aoZ:=@List.any_eq_false
abbrev ao0:=@List.flatMap_append
abbrev ao1:=@Array.getInternal_eq_getElem
abbrev ao2:=@BitVec.toNat_ofInt
abbrev ao3:=@List.length_singleton
abbrev ao4:=@Bool.false_or
abbrev ao5:=@Array.getElem?_append_left
abbrev ao6:=@List.length_range
abbrev ao7:=@Nat.shiftRight_eq_div_pow
abbrev ao8:=@List.mem_iff_getElem
abbrev ao9:=@List.findIdx?_eq_none_iff
abbrev ao':=@List.take_zero
abbrev apa:=@not_true
abbrev apb:=@List.map_toArray
abbrev apc:=@BitVec.toNat_ushiftRight
abbrev apd:=@BitVec.eq_of_getLsbD_eq
abbrev ape:=@Nat.lt_irrefl
abbrev apf:=@Nat.blt_eq
abbrev apg:=@List.set_cons_zero
abbrev aph:=@Bool.not_eq_false'
abbrev api:=@BitVec.getLsbD_and
abbrev apj:=@Nat.mul_one
abbrev apk:=@List.find?_eq_some_iff_append
abbrev apl:=@List.filter_congr
abbrev apm:=@List.filterMap_append
abbrev apn:=@Option.getD_some
abbrev apo:=@Nat.mod_eq_of_lt
abbrev apq:=@Nat.div_eq_of_lt
abbrev apr:=@List.take_append
abbrev aps:=@List.nodup_range
abbrev apt:=@List.getElem_mem
abbrev apu:=@List.getElem?_of_mem
abbrev apv:=@List.contains_eq_mem
abbrev apw:=@List.cons_append
abbrev apx:=@List.findSome?_eq_none_iff
abbrev apy:=@Bool.not_true
abbrev apz:=@BitVec.toInt_eq_toNat_cond
abbrev apA:=@ne_eq
abbrev apC:=@List.take_left'
abbrev apD:=@List.mem_of_find?_eq_some
abbrev apE:=@List.foldl_cons
abbrev apF:=@Int.emod_nonneg
abbrev apG:=@or_false
abbrev apH:=@Nat.zero_mul
abbrev apI:=@Nat.mul_comm
abbrev apJ:=@List.getElem_range
abbrev apK:=@List.Nodup.sublist
abbrev apL:=@Bool.false_ne_true
abbrev apM:=@BitVec.getLsbD_shiftLeft
abbrev apN:=@List.drop_zero
abbrev apO:=@Option.bind_eq_some_iff
abbrev apP:=@Option.isSome_map
abbrev apS:=@Nat.lt_trichotomy
abbrev apT:=@List.mapM_toArray
abbrev apU:=@List.getElem_cons_drop
abbrev apV:=@Nat.add_assoc
abbrev apW:=@List.sum_cons
abbrev apX:=@List.getElem_set
abbrev apY:=@List.all_reverse
abbrev apZ:=@Bool.and_eq_false_iff
abbrev ap0:=@Nat.sub_zero
abbrev ap1:=@Nat.lt_or_ge
abbrev ap2:=@Nat.ble_eq
abbrev ap3:=@List.findIdx?_append
abbrev ap4:=@Array.getElem_toList
abbrev ap5:=@List.drop_append_of_le_length
abbrev ap6:=@List.filter_eq_self
abbrev ap7:=@List.nodup_nil
abbrev ap8:=@List.mapM_cons
abbrev ap9:=@List.drop_take
abbrev ap_:=@Bool.false_and
abbrev ap':=@Bool.and_false
abbrev aqa:=@false_and
abbrev aqb:=@Nat.eq_zero_or_pos
abbrev aqc:=@List.filterMap_map
abbrev aqd:=@Bool.false_eq_true
abbrev aqe:=@List.mapM_nil
abbrev aqf:=@Bool.and_true
abbrev aqg:=@Array.size_append
abbrev aqh:=@true_and
abbrev aqi:=@getElem!_pos
abbrev aqj:=@false_or
abbrev aqk:=@Nat.min_le_right
abbrev aql:=@Nat.lt_trans
abbrev aqm:=@List.not_mem_nil
abbrev aqn:=@List.mem_flatMap
abbrev aqo:=@List.filter_cons
abbrev aqp:=@Eq.trans
abbrev aqq:=@Nat.le_succ
abbrev aqr:=@Int.le_refl
abbrev bt:Type:=BitVec 64
abbrev bf:Type:=ByteArray
abbrev aA:Type:=List Int
abbrev aH:Type:=World
abbrev de:Type:=List Oper
abbrev hG:Type:=Nat→Nat→Bool
abbrev bW:Type:=Nat→Prop
theorem aj {p:Prop} (h:p:=by omega):p:=h
theorem au {p:Prop} (h:p:=by decide):p:=h
theorem bl {p:Prop} (h:p:=by simp):p:=h
theorem bo {p:Prop} (h:p:=by assumption):p:=h
variable {i n t id m:Nat} {b:Bool} {x y:Code} {a:Act} {c:Operand}
theorem eI {α:Type} {l:List α} (h:i<l.length):l[i]? =some l[i]:=List.getElem?_eq_getElem h
theorem ik {α:Type} {l:List α} {a:α}:l.getD i a=(l[i]?).getD a:=List.getD_eq_getElem?_getD
theorem dE {α:Type} {l:List α} {a:α}:l[i]? =some a↔∃h:i<l.length,l[i]=a:=List.getElem?_eq_some_iff
theorem dC {α:Type} {l:List α} {a:α} (h:l[i]? =some a):a∈l:=List.mem_of_getElem? h
theorem eW (a b:Bool):((a&&b)=true)=(a=true∧b=true):=Bool.and_eq_true a b
theorem dP (n:Nat):(n:Int).toNat=n:=Int.toNat_natCast n
theorem fF {α:Type} {a b:List α}:(a++b).length=a.length+b.length:=List.length_append
theorem oG {α:Type} {a:α}:(List.replicate n a).length=n:=List.length_replicate
theorem iB {α:Type} {l:List α}:(l.take i).length=min i l.length:=List.length_take
theorem ny {α:Type} {a b:List α} (h:a.length≤n):(a++b)[n]? =b[n-a.length]?:=List.getElem?_append_right h
theorem iI {α:Type} {a:α} {l:List α}:(a::l).length=l.length+1:=List.length_cons
theorem gj {α:Type}:([]:List α).length=0:=List.length_nil
theorem nM {α:Type} {a b:List α} (h:n<a.length):(a++b)[n]? =a[n]?:=List.getElem?_append_left h
open Go.RowKit
abbrev aN:=Nat→Value
def ck (f:aN) (d:Nat) (v:Value):aN:=fun t=>bif Nat.beq t d then v else f t
def cZ (f:aN):Option Nat→Value→aN
 |some d,v=>ck f d v
 |none,_=>f
def cj (n:Nat) (f:aN):Act:=⟨Array.ofFn (fun i:Fin n=>f i),[]⟩
def ev (f:aN):Operand→Value
 | .tmp t=>f t
 | .const v=>v
 | .global g=>.pointer (some ⟨g,0,none⟩)
 | .func k=>.func (.func k) #[] #[]
def bI (n:Nat):Operand→Bool
 | .tmp t=>Nat.blt t n
 |_=>true
theorem aL {n:Nat} {f:aN} {x:Operand} (h:bI n x=true):(cj n f).eval x=ev f x:=by
 cases x with
 |tmp t=>
  simp only[bI,apf] at h
  simp[Act.eval,cj,ev,h]
 |_=>rfl
theorem iX (f:aN) (d:Nat) (v:Value):ck f d v d=v:=by simp[ck]
theorem jD (f:aN) {d t:Nat} (v:Value) (h:t≠d):ck f d v t=f t:=by
 have:Nat.beq t d=false:=by
  cases hb:Nat.beq t d with
  |false=>rfl
  |true=>exact absurd (aoq hb) h
 simp only[ck,this,cond_false]
theorem qR (n:Nat) (f:aN) (d:Option Nat) (v:Value):(cj n f).put d v=cj n (cZ f d v):=by
 cases d with
 |none=>rfl
 |some d=>
  simp only[Act.put,cj,cZ,Act.mk.injEq,and_true]
  apply Array.ext
  ·simp
  ·intro i h1 h2
   simp only[Array.size_ofFn] at h2
   by_cases hi:i=d
   ·subst hi
    simp[ck]
   ·rw[Array.getElem_setIfInBounds_ne (by simpa using h2) aj]
    simp only[Array.getElem_ofFn]
    exact(jD f v hi).symm
theorem aav (n:Nat) (tmps:Array Value) (h:tmps.size=n):(⟨tmps,[]⟩:Act)=cj n (fun t=>tmps.getD t undef):=by
 simp only[cj,Act.mk.injEq,and_true]
 apply Array.ext
 ·simp[h]
 ·intro i h1 h2
  simp[h1]
def xV (ops:Array Oper) (j:Nat):Option Nat:=(ops[j]?).bind (·.dst)
theorem Ci {f:aN} {ops:Array Oper} {j:Nat} (h:xV ops j=some t) (ht:Nat.blt t n=true) (hv:f t=.bool b):
  yielded ops (cj n f).tmps j=some b:=by
 simp only[apf] at ht
 unfold xV at h
 simp[yielded,h,cj,ht,hv]
def SO (P:Program) (n:Nat) (ops:Array Oper) (o:Oper) (f:aN) (w:aH) (K:aN→aH→Prop):Prop:=
 ∀(Q:Exit→Act→aH→Prop) (rest:de),(∀f' w',K f' w'→wpList P ops Q rest (cj n f') w')→wpList P ops Q (o::rest) (cj n f) w
theorem SO.mono {P:Program} {ops:Array Oper} {o:Oper} {f:aN} {w:aH} {K K':aN→aH→Prop} (h:SO P n ops o f w K) (hk:∀f' w',K f' w'→K' f' w'):SO P n ops o f w K':=
 fun Q rest hr=>h Q rest fun f' w' hK=>hr f' w' (hk f' w' hK)
section
variable {P:Program} {n:Nat} {ops:Array Oper} {f:aN} {w:aH} {K:aN→aH→Prop} {Q:Exit→Act→aH→Prop} {rest:de} {o:Oper}
theorem SO.value {d:Option Nat} {op:Op} {ty:TypeId} {ps:String} {af:Array Edge} {v:Value} {w':aH}
  (hr:(execOp (cj n f).eval ⟨d,op,ty,ps,af,none⟩).run P w=.ok (.value v) w') (h:K (cZ f d v) w'):SO P n ops ⟨d,op,ty,ps,af,none⟩ f w K:=by
 intro Q rest hk
 refine wpList_plain J fun K' Tc=>?_
 simp only[Oper.wp,hr,Oper.upon]
 rw[qR]
 exact Tc _ _<|hk _ _ h
theorem SO.skip {d:Option Nat} {op:Op} {ty:TypeId} {ps:String} {af:Array Edge} {w':aH}
  (hr:(execOp (cj n f).eval ⟨d,op,ty,ps,af,none⟩).run P w=.ok .skip w') (h:K (cZ f d undef) w'):SO P n ops ⟨d,op,ty,ps,af,none⟩ f w K:=by
 intro Q rest hk
 refine wpList_plain J fun K' Tc=>?_
 simp only[Oper.wp,hr,Oper.upon]
 rw[qR]
 exact Tc _ _<|hk _ _ h
theorem SO.enter {d:Option Nat} {op:Op} {ty:TypeId} {ps:String} {af:Array Edge} {g:FuncId} {args:Array Value} {w':aH}
  (hr:(execOp (cj n f).eval ⟨d,op,ty,ps,af,none⟩).run P w=.ok (.enter g args) w')
  (h:Calls P g args w' fun e mJ=>∃v,e=.returned v∧K (cZ f d v) mJ):SO P n ops ⟨d,op,ty,ps,af,none⟩ f w K:=by
 intro Q rest hk
 refine wpList_plain J fun K' Tc=>?_
 simp only[Oper.wp,hr,Oper.upon]
 refine h.mono ?_
 rintro e mJ ⟨v,rfl,hv⟩
 show K' ((cj n f).put d v) mJ
 rw[qR]
 exact Tc _ _<|hk _ _ hv
theorem gy {d:Option Nat} {op:Op} {ty:TypeId} {ps:String} {af:Array Edge} {j t:Nat} {want b:Bool}
  (hj:xV ops j=some t) (ht:Nat.blt t n=true) (hv:f t=.bool b) (hb:b=want)
  (h:SO P n ops ⟨d,op,ty,ps,af,none⟩ f w K):SO P n ops ⟨d,op,ty,ps,af,some (j,want)⟩ f w K:=by
 subst hb
 intro Q rest hk
 have h1:=h Q rest hk
 have hy:=Ci (n:=n) hj ht hv
 unfold wpList at h1 ⊢
 rw[anc (by simp[Region.wanted])] at h1
 rw[anc (by simp[Region.wanted,hy])]
 exact h1
theorem gn {d:Option Nat} {op:Op} {ty:TypeId} {ps:String} {af:Array Edge} {j t:Nat} {want b:Bool}
  (hj:xV ops j=some t) (ht:Nat.blt t n=true) (hv:f t=.bool b) (hb:b=!want)
  (h:K (cZ f d undef) w):SO P n ops ⟨d,op,ty,ps,af,some (j,want)⟩ f w K:=by
 subst hb
 intro Q rest hk
 have hy:=Ci (n:=n) hj ht hv
 unfold wpList
 rw[anf (by simp[Region.wanted,hy])]
 rw[qR]
 exact hk _ _ h
def WL (P:Program) (n:Nat) (ops:Array Oper) (Q:Exit→Act→aH→Prop):de→aN→aH→Prop
 |l,f,w=>wpList P ops Q l (cj n f) w
def WC (P:Program) (n:Nat) (c:Code) (Q:Exit→Act→aH→Prop) (f:aN) (w:aH):Prop:=c.wp P Q (cj n f) w
theorem k (h:SO P n ops o f w (WL P n ops Q rest)):WL P n ops Q (o::rest) f w:=h Q rest fun _ _ h=>h
theorem z (h:Q .normal (cj n f) w):WL P n ops Q [] f w:=wpList_nil (P:=P) (ops:=ops) h
theorem rg {l:de} (h:WL P n l.toArray Q l f w):WC P n (.region id l.toArray false) Q f w:=wp_region_lit h
theorem sq (h:WC P n x (Exit.then (fun a w=>y.wp P Q a w) Q) f w):WC P n (.seq x y) Q f w:=wp_seq h
theorem nx (h:WC P n y Q f w):Exit.then (fun a w=>y.wp P Q a w) Q .normal (cj n f) w:=h
theorem sk (h:Q .normal (cj n f) w):WC P n .skip Q f w:=wp_skip h
theorem rt (h:Q .ret (cj n f) w):WC P n .ret Q f w:=wp_ret h
theorem ex (h:Q (.exit id) (cj n f) w):WC P n (.exit id) Q f w:=wp_exit h
theorem bk {c:Code} (h:WC P n c (Exit.inBlock id Q) f w):WC P n (.block id c) Q f w:=wp_block h
theorem aG (h:Q .normal a w):Exit.inBlock id Q .normal a w:=h
theorem bR (h:Q .ret a w):Exit.inBlock id Q .ret a w:=h
theorem bg (h:Q .normal a w):Exit.inBlock id Q (.exit id) a w:=by
 show (if id=id then _ else _);rw[anc rfl];exact h
theorem VD {XA:Nat} (gA:XA≠id) (h:Q (.exit XA) a w):Exit.inBlock id Q (.exit XA) a w:=by
 show (if XA=id then _ else _);rw[anf gA];exact h
theorem aK {next:Act→aH→Prop} (h:Q .ret a w):Exit.then next Q .ret a w:=h
theorem aV {next:Act→aH→Prop} (h:Q (.exit id) a w):Exit.then next Q (.exit id) a w:=h
theorem cd (hc:bI n c=true) (hv:ev f c=.bool b) (ht:b=true→WC P n x Q f w) (hf:b=false→WC P n y Q f w):WC P n (.cond c x y) Q f w:=
 wp_cond_split (by rw[aL hc,hv]) ht hf
theorem ot (hc:bI n c=true) (hv:ev f c=.bool b) (hb:b=true) (h:WC P n x Q f w):WC P n (.cond c x y) Q f w:=
 wp_cond_true (by rw[aL hc,hv,hb]) h
theorem pB (hc:bI n c=true) (hv:ev f c=.bool b) (hb:b=false) (h:WC P n y Q f w):WC P n (.cond c x y) Q f w:=
 wp_cond_false (by rw[aL hc,hv,hb]) h
def Wn (n:Nat) (R:aN→aH→Prop) (Q:Exit→Act→aH→Prop):Exit→Act→aH→Prop
 | .normal,a,w=>∃f,a=cj n f∧R f w
 |e,a,w=>Q e a w
theorem cut {x y:Code} (R:aN→aH→Prop) (h:WC P n x (Wn n R Q) f w) (h2:∀f' w',R f' w'→WC P n y Q f' w'):WC P n (.seq x y) Q f w:=by
 refine wp_seq<|wp_mono h ?_
 intro e a w' hq
 cases e with
 |normal=>obtain⟨f',rfl,hR⟩:=hq;exact h2 f' w' hR
 |_=>exact hq
theorem ya {R:aN→aH→Prop} (h:R f w):Wn n R Q .normal (cj n f) w:=⟨f,rfl,h⟩
theorem Ik {R:aN→aH→Prop} (h:Q .ret a w):Wn n R Q .ret a w:=h
def Kh (n:Nat) (ae:Nat→aN→aH→Prop) (m:Nat) (Q:Exit→Act→aH→Prop):Exit→Act→aH→Prop
 | .normal,a,w=>∃f m',a=cj n f∧m'<m∧ae m' f w
 |e,a,w=>Q e a w
theorem lp {c:Code} (ae:Nat→aN→aH→Prop) (m0:Nat) (h0:ae m0 f w)
  (hr:∀m f w,ae m f w→WC P n c (Kh n ae m Q) f w):WC P n (.loop c) Q f w:=by
 have key:∀m,∀f w,ae m f w→∀b k cs,
   ∃e a' w',Q e a' w'∧Arrives P (lone (b.at (cj n f) (.code c::.inLoop c::k)) cs w) b k cs e a' w':=by
  intro m
  induction m using Nat.strongRecOn with
  |_ m ih=>
   intro f w hI b k cs
   obtain⟨e,a₁,w₁,hq,Dd⟩:=hr m f w hI b (.inLoop c::k) cs
   cases e with
   |normal=>
    obtain⟨f',m',rfl,eo,Ya⟩:=hq
    obtain⟨e₂,a₂,w₂,afg,ZT⟩:=ih m' eo f' w₁ Ya b k cs
    exact⟨e₂,a₂,w₂,afg,.of_steps (Steps.trans Dd (.one step_inLoop)) ZT⟩
   |exit id=>exact⟨_,a₁,w₁,hq,.pass (x:=.inLoop c) rfl (fun _ _=>.inl (by simp)) Dd⟩
   |goto l=>exact⟨_,a₁,w₁,hq,.pass (x:=.inLoop c) rfl (fun _ _=>.inl (by simp)) Dd⟩
   |ret=>exact⟨_,a₁,w₁,hq,.pass (x:=.inLoop c) rfl (fun _ _=>.inl (by simp)) Dd⟩
   |panic ch=>exact⟨_,a₁,w₁,hq,.pass (x:=.inLoop c) rfl (fun _ _=>.inl (by simp)) Dd⟩
   |outgrown=>exact⟨_,a₁,w₁,hq,.pass (x:=.inLoop c) rfl (fun _ _=>.inl (by simp)) Dd⟩
 intro b k cs
 obtain⟨e,a',w',hq,Dd⟩:=key m0 f w h0 b k cs
 exact⟨e,a',w',hq,.of_steps (.one step_loop) Dd⟩
theorem bF {ae:Nat→aN→aH→Prop} (m':Nat) (hm:m'<m) (h:ae m' f w):Kh n ae m Q .normal (cj n f) w:=⟨f,m',rfl,hm,h⟩
theorem dX {ae:Nat→aN→aH→Prop} (h:Q .ret a w):Kh n ae m Q .ret a w:=h
theorem bc {ae:Nat→aN→aH→Prop} (h:Q (.exit id) a w):Kh n ae m Q (.exit id) a w:=h
end
def sB (P:Program) (n:Nat) (fn:Func) (R:Value→aH→Prop):Exit→Act→aH→Prop
 | .normal,a,w| .ret,a,w=>∃f,a=cj n f∧∃v,(results fn (cj n f).tmps).run P w=.ok v w∧R v w
 |_,_,_=>False
def cp (R:Value→aH→Prop):Ending→aH→Prop:=fun e w=>∃v,e=.returned v∧R v w
theorem enter {P:Program} {g:FuncId} {fn:Func} {c:Code} {args:Array Value} {w:aH} {R:Value→aH→Prop} (n:Nat)
  (hf:P.funcs[g]? =some fn) (hb:fn.body=some c) (hn:fn.ntmps=n) (ha:Nat.ble args.size n=true)
  (h:∀f:aN,(∀i,(_:i<args.size)→f i=args[i])→WC P n c (sB P n fn R) f w):Calls P g args w (cp R):=by
 refine calls_of_wp hf hb ?_
 subst hn
 simp only[ap2] at ha
 rw[aav fn.ntmps (args++Array.replicate (fn.ntmps-args.size) undef) (by simp;omega)]
 have h1:=h (fun t=>(args++Array.replicate (fn.ntmps-args.size) undef).getD t undef) (fun i hi=>by
  simp[ao5,hi])
 refine wp_mono h1 ?_
 intro e a w' hq
 cases e with
 |normal=>obtain⟨f',rfl,v,h1,h2⟩:=hq;exact⟨rfl,v,h1,v,rfl,h2⟩
 |ret=>obtain⟨f',rfl,v,h1,h2⟩:=hq;exact⟨rfl,v,h1,v,rfl,h2⟩
 |_=>exact hq.elim
section
variable {P:Program} {n:Nat} {fn:Func} {R:Value→aH→Prop} {f:aN} {w:aH}
theorem A2 (h:Nat.blt t n=true):(cj n f).tmps.getD t undef=f t:=by
 simp only[apf] at h
 simp[cj,h]
theorem r1 (hr:fn.results=#[.tmp t]) (ht:Nat.blt t n=true) (h:R (f t) w):sB P n fn R .ret (cj n f) w:=
 ⟨f,rfl,f t,by rw[results_tmp hr,A2 ht],h⟩
theorem r2 {u:Nat} (hr:fn.results=#[.tmp t,.tmp u]) (ht:Nat.blt t n=true) (hu:Nat.blt u n=true) (h:R (.tuple #[f t,f u]) w):sB P n fn R .ret (cj n f) w:=
 ⟨f,rfl,_,by rw[results_tmp2 hr,A2 ht,A2 hu],h⟩
theorem r0 (hr:fn.results=#[]) (h:R (.tuple #[]) w):sB P n fn R .ret (cj n f) w:=
 ⟨f,rfl,_,results_none hr _ _ _,h⟩
theorem Em (hr:fn.results=#[]) (h:R (.tuple #[]) w):sB P n fn R .normal (cj n f) w:=
 ⟨f,rfl,_,results_none hr _ _ _,h⟩
end
end Go.Ew
namespace Go.Ew
open Go.RowKit
structure Ext (w w':aH):Prop extends Below w.heap.size w w' where
 drawn:w.drawn≤w'.drawn
theorem Ext.refl (w:aH):Ext w w:=⟨Below.refl _ _,ane _⟩
theorem Ext.trans {a b c:aH} (h:Ext a b) (k:Ext b c):Ext a c:=⟨Below.trans h.toBelow (Below.mono k.toBelow h.size),Nat.le_trans h.drawn k.drawn⟩
theorem Ext.drew (w:aH):Ext w w.drew:=⟨Below.drew (Below.refl _ _),aqq _⟩
theorem Ext.alloc (w:aH) (o:Obj):Ext w (w.alloc o):=⟨Below.alloc (Below.refl _ _) (ane _) o,ane _⟩
theorem Uf {α:Type} (a:Ask α):∀w:aH,w.drawn≤(w.ask a).2.drawn:=by
 induction a with
 |done a=>intro w;simp only[World.ask];exact ane _
 |ask al3 range k ih=>
  intro w
  simp only[World.ask]
  split
  ·exact ih _ w
  ·exact Nat.le_trans (aqq _)<|ih _ {w with drawn:=w.drawn+1}
theorem Rp (w:aH) (c:Sys):w.drawn≤(w.sys c).2.drawn:=by
 have h:=Uf (Kernel.perform c w.os) w
 unfold World.sys
 split
 ·exact ane _
 ·rename_i e;rw[e] at h;exact h
theorem Tw {P:Program} {w w':aH} {a:Addr} {v:Value} {b:Bool} {l:List Addr} (h:w.farStore P a v b=.ok (w',l)):w'.drawn=w.drawn:=by
 unfold World.farStore at h
 split at h
 ·split at h
  ·rename_i e
   simp only[Except.ok.injEq] at h
   subst h
   unfold World.viewStore at e
   simp only[bind,Except.bind,pure,Except.pure] at e
   repeat' (first|cases e|split at e)
   all_goals rfl
  ·cases h
 ·cases h
theorem sN {α:Type} {P:Program} (m:Sem α):∀{w w':aH} {v:α},m.run P w=.ok v w'→w.drawn≤w'.drawn:=by
 induction m with
 |pure a=>intro w w' v h;simp only[Sem.run,Result.ok.injEq] at h;rw[h.2];exact ane _
 |load m a k ih=>
  intro w w' v h
  simp only[Sem.run] at h
  split at h
  ·exact ih _ h
  ·split at h
   ·exact ih _ h
   ·cases h
 |store m a u k ih=>
  intro w w' v h
  cases u<;>simp only[Sem.run] at h<;>(try (cases h;done))<;>
  ·split at h
   ·split at h
    ·cases h
    ·have:=ih h;exact this
   ·split at h
    ·rename_i e
     have:=ih h
     rw[Tw e] at this
     exact this
    ·cases h
 |new o k ih=>intro w w' v h;have:=ih w.heap.size (w:={w with heap:=w.heap.push o}) h;exact this
 |shape r k ih=>intro w w' v h;exact ih (w.shape? r) h
 |freeze a n k ih=>
  intro w w' v h
  have:=ih (w:=w.freeze a n) h
  simp only[World.freeze] at this
  split at this<;>exact this
 |frozen a k ih=>intro w w' v h;exact ih (w.frozen? a) h
 |getObj r k ih=>
  intro w w' v h
  simp only[Sem.run] at h
  split at h
  ·cases h
  ·exact ih _ h
  ·cases h
 |setObj r o k ih=>
  intro w w' v h
  simp only[Sem.run] at h
  split at h
  ·cases h
  ·have:=ih h;exact this
  ·cases h
 |choose q k ih=>
  intro w w' v h
  simp only[Sem.run] at h
  split at h
  ·exact ih _ h
  ·exact Nat.le_trans (aqq _)<|ih _ (w:={w with drawn:=w.drawn+1}) h
 |sys c k ih=>intro w w' v h;exact Nat.le_trans (Rp w c) (ih _ (w:=(w.sys c).2) h)
 |program k ih=>intro w w' v h;exact ih P h
 |mark m k ih=>intro w w' v h;exact ih (w:=w) h
 |halt x=>intro w w' v h;cases h
def kU (o:Oper) (j:Nat):Bool:=o.after.toList.any fun e=>Region.binds .any e&&e.on==j
def jb (l:de) (i:Nat):Nat:=(((l[i]?).bind (·.dst)).getD 0)
def jl (k:Nat) (l:de):List Nat:=(l.take k).filterMap (·.dst)
def nodupB:List Nat→Bool
 |[]=>true
 |x::xs=>!xs.contains x&&nodupB xs
def ry:Nat→de→Bool
 |_,[]=>true
 |i,o::r=>o.after.all (fun e=>!Region.binds .any e||Nat.blt e.on i)&&ry (i+1) r
def oX (l:de):Nat→hG
 |0,_,_=>false
 |n+1,i,m=>match l[i]? with
  |none=>false
  |some o=>kU o m||(List.range i).any fun j=>kU o j&&oX l n j m
def wT (l:de) (k:Nat):Bool:=
 (Nat.ble l.length k||(List.range k).all fun m=>oX l (k+1) k m)&&
  (List.range l.length).all fun i=>Nat.ble i k||match l[i]? with
   |some o=>kU o (i-1)
   |none=>true
def Oy (n k:Nat) (l:de):Bool:=
 ry 0 l&&(l.take k).all (fun o=>o.dst.isSome)&&nodupB (jl k l)&&(jl k l).all (fun d=>Nat.blt d n)&&wT l k&&Nat.ble k l.length
def Af (Φ:List (Value→aH→Prop)) (i:Nat):Value→aH→Prop:=Φ.getD i (fun _ _=>True)
structure DStep (P:Program) (n:Nat) (l:de) (k:Nat) (Φ:List (Value→aH→Prop)) (f0:aN) (w0:aH) (i:Nat) (o:Oper):Prop where
 go:∀f w,(∀t,(jl k l).contains t=false→f t=f0 t)→Ext w0 w→(∀j,kU o j=true→Nat.blt j k=true→Af Φ j (f (jb l j)) w)→
  SO P n l.toArray o f w (fun f' w'=>∃v,f'=cZ f o.dst v∧Ext w w'∧Af Φ i v w')
 mono:∀v w w',Ext w w'→Af Φ i v w→Af Φ i v w'
def mz (P:Program) (n:Nat) (l:de) (k:Nat) (Φ:List (Value→aH→Prop)) (f0:aN) (w0:aH):Nat→de→Prop
 |_,[]=>True
 |i,o::r=>(Nat.blt i k=true→DStep P n l k Φ f0 w0 i o)∧mz P n l k Φ f0 w0 (i+1) r
section
variable {P:Program} {n:Nat} {l:de} {k:Nat} {Φ:List (Value→aH→Prop)} {f0:aN} {w0:aH}
theorem mz.at_:∀(r:de) (i:Nat),mz P n l k Φ f0 w0 i r→∀j o,r[j]? =some o→Nat.blt (i+j) k=true→DStep P n l k Φ f0 w0 (i+j) o
 |[],_,_,j,o,h,_=>by simp at h
 |x::r,i,h,0,o,hj,hk=>by
  simp only[anq,ann] at hj
  subst hj
  exact h.1 hk
 |x::r,i,h,j+1,o,hj,hk=>by
  simp only[anv] at hj
  have:=mz.at_ r (i+1) h.2 j o hj<|by rw[show i+1+j=i+(j+1) from by omega];exact hk
  rwa [show i+1+j=i+(j+1) from by omega] at this
theorem wJ:∀(r:de) (i:Nat),ry i r=true→∀j o,r[j]? =some o→∀e∈o.after,Region.binds .any e=true→e.on<i+j
 |[],_,_,j,o,h,_,_,_=>by simp at h
 |x::r,i,h,j,o,hj,e,he,hb=>by
  simp only[ry,eW,Array.all_eq_true_iff_forall_mem,anm,aoo,apf] at h
  cases j with
  |zero=>
   simp only[anq,ann] at hj
   subst hj
   rcases h.1 e he with h1|h1
   ·rw[hb] at h1;cases h1
   ·omega
  |succ j=>
   simp only[anv] at hj
   have:=wJ r (i+1) h.2 j o hj e he hb
   omega
theorem wS {o:Oper} {j:Nat}:kU o j=true↔∃e∈o.after,Region.binds .any e=true∧e.on=j:=by
 simp only[kU,anN,Array.mem_toList_iff]
 constructor
 ·rintro⟨e,he,h⟩
  simp only[eW,beq_iff_eq] at h
  exact⟨e,he,h.1,h.2⟩
 ·rintro⟨e,he,h1,h2⟩
  exact⟨e,he,by simp[h1,h2]⟩
theorem Am {l:de} {k:Nat} (h:wT l k=true) {i:Nat} {o:Oper} (hk:k<i) (ho:l[i]? =some o):kU o (i-1)=true:=by
 simp only[wT,eW] at h
 have:=ani.1 h.2 i<|by rw[ang];exact(dE.1 ho).1
 rw[ho] at this
 have hf:Nat.ble i k=false:=by
  cases hb:Nat.ble i k with
  |false=>rfl
  |true=>rw[ap2] at hb;omega
 rw[hf] at this
 simpa using this
theorem JX {l:de} {k:Nat} (h:wT l k=true) (hk:k<l.length) {m:Nat} (hm:m<k):oX l (k+1) k m=true:=by
 simp only[wT,eW,anm] at h
 rcases h.1 with h1|h1
 ·rw[ap2] at h1;omega
 ·exact ani.1 h1 m<|by rw[ang];exact hm
theorem CB {l:de} {listed:Array Bool} (hC:∀i o,listed.getD i false=true→l[i]? =some o→∀j,kU o j=true→listed.getD j false=true):
  ∀(n i m:Nat) (o:Oper),l[i]? =some o→(∀j,kU o j=true→listed.getD j false=true)→oX l n i m=true→listed.getD m false=true
 |0,_,_,_,_,_,h=>by cases h
 |n+1,i,m,o,ho,hd,h=>by
  simp only[oX,ho,anm] at h
  rcases h with h|h
  ·exact hd m h
  ·obtain⟨j,_,hj⟩:=anN.1 h
   simp only[eW] at hj
   have hlj:=hd j hj.1
   cases qX:l[j]? with
   |none=>
    have h2:=hj.2
    cases n with
    |zero=>cases h2
    |succ n=>simp[oX,qX] at h2
   |some o'=>exact CB hC n j m o' qX (hC j o' hlj qX) hj.2
theorem pc:∀(l:List Nat),nodupB l=true→l.Nodup
 |[],_=>ap7
 |x::xs,h=>by
  simp only[nodupB,eW,aoo] at h
  refine aog.2 ⟨?_,pc xs h.2⟩
  intro hx
  have:=anQ.2 hx
  rw[h.1] at this
  cases this
theorem Gc {ops:Array Oper} {i:Nat} {o:Oper} {f:aN} {w:aH} {K:aN→aH→Prop} {Q:Exit→Act→aH→Prop} {K':Act→aH→Prop}
  (hi:ops[i]? =some o) (h:SO P n ops o f w K) (hk:∀f' w',K f' w'→K' (cj n f') w'):wpOp P ops Q i K' (cj n f) w:=by
 have h1:=h (fun e a w=>match e with| .normal=>K' a w|e=>Q e a w) []<|fun f' w' hK=>hk f' w' hK
 unfold wpOp
 simp only[hi]
 unfold wpList at h1
 split at h1
 ·rename_i hw
  rw[anc hw]
  refine h1.imp (fun h2=>?_)<|fun h2=>?_
  ·unfold Oper.wp at h2 ⊢
   generalize (execOp (cj n f).eval o).run P w=r at *
   cases r with
   |ok x w'=>
    cases x<;>simp only[Oper.upon] at h2 ⊢<;>first
     |exact h2
     |(refine Calls.mono h2 ?_;intro e mJ he;cases e<;>first|exact he|(obtain⟨a0,w1,hq⟩:=he;exact⟨a0,w1,hq⟩))
   |halt x w'=>cases x<;>simp only[Oper.upon] at h2 ⊢<;>exact h2
  ·obtain⟨ha,a0,w1,hq⟩:=h2
   exact⟨ha,a0,w1,hq⟩
 ·rename_i hw
  rw[anf hw]
  exact h1
def WY (N m:Nat) (listed:Array Bool):Prop:=listed.size=N∧∀i,i<N→listed.getD i false=decide (i<m)
theorem rh {listed:Array Bool} {i:Nat} (h:i<listed.size) (a b:Bool):listed.getD i a=listed.getD i b:=by
 simp[Array.getD,h]
theorem Gd {Q:Exit→Act→aH→Prop} (hE:ry 0 l=true) (hT:wT l k=true):
  ∀(d m:Nat) (listed:Array Bool) (a:Act) (w:aH),l.length-m=d→k≤m→m≤l.length→WY l.length m listed→wpList P l.toArray Q (l.drop m) a w→wpAny P .any l.toArray Q d listed a w:=by
 intro d
 induction d with
 |zero=>
  intro m listed a w hd hk hm hl h
  have ud:m=l.length:=by omega
  subst ud
  rw[aoN (ane _)] at h
  refine⟨?_,h⟩
  unfold Region.ready
  rw[aol]
  intro i hi
  simp only[aoK,ang] at hi
  have:=hl.2 i hi
  rw[show listed.getD i true=listed.getD i false from rh (by rw[hl.1];exact hi) _ _,this]
  simp[hi]
 |succ d ih=>
  intro m listed a w hd hk hm hl h
  have ud:m<l.length:=by omega
  have jk:l[m]? =some l[m]:=eI ud
  have SK:∀i,i∈Region.ready .any l.toArray listed↔i=m:=by
   intro i
   rw[mem_ready]
   constructor
   ·rintro⟨h0,o,ho,pf⟩
    have jN:i<l.length:=by
     have:=(anJ.1 ho).1
     simpa using this
    have hnm:¬i<m:=by
     intro him
     rw[show listed.getD i true=listed.getD i false from rh (by rw[hl.1];exact jN) _ _,hl.2 i jN] at h0
     simp[him] at h0
    by_cases him:i=m
    ·exact him
    ·exfalso
     have hoi:l[i]? =some o:=by simpa using ho
     have hb:=Am hT (i:=i) aj hoi
     obtain⟨e,he,xP,vn⟩:=wS.1 hb
     have:=pf e he xP
     rw[vn,hl.2 (i-1) aj] at this
     simp at this
     omega
   ·rintro rfl
    refine⟨?_,l[i],by simp,?_⟩
    ·rw[show listed.getD i true=listed.getD i false from rh (by rw[hl.1];exact ud) _ _,hl.2 i ud]
     simp
    ·intro e he xP
     have:=wJ l 0 hE i l[i] jk e he xP
     rw[hl.2 e.on aj]
     simp;omega
  have afk:l.drop m=l[m]::l.drop (m+1):=an8 ud
  refine⟨fun h0=>?_,fun i hi=>?_⟩
  ·have:=(SK m).2 rfl
   rw[h0] at this
   cases this
  ·obtain rfl:=(SK i).1 hi
   rw[afk] at h
   have qU:WY l.length (i+1) (listed.setIfInBounds i true):=by
    refine⟨by simp[hl.1],fun j hj=>?_⟩
    by_cases nJ:i=j
    ·subst nJ
     simp[hl.1,ud]
    ·rw[getD_set_ne false nJ,hl.2 j hj]
     simp;omega
   unfold wpOp
   rw[show (l.toArray)[i]? =some l[i] from by simp]
   simp only
   unfold wpList at h
   split at h
   ·rename_i hw
    rw[anc hw]
    refine h.imp (Oper.wp_mono fun a w h'=>ih (i+1) _ a w aj aj aj qU h') id
   ·rename_i hw
    rw[anf hw]
    exact ih (i+1) _ _ w aj aj aj qU h
theorem qT {i:Nat} {o:Oper} (hi:l[i]? =some o) (hk:i<k) {d:Nat} (hd:o.dst=some d):d∈jl k l:=by
 unfold jl
 rw[anF]
 refine⟨o,?_,hd⟩
 have:(l.take k)[i]? =some o:=by rw[anG,anc hk];exact hi
 exact dC this
theorem il {α β:Type} (g:α→Option β):∀(l:List α),(l.filterMap g).Nodup→∀(i j:Nat) (a b:α),l[i]? =some a→l[j]? =some b→(g a).isSome→g a=g b→i=j
 |[],_,i,_,_,_,hi,_,_,_=>by simp at hi
 |x::xs,h,i,j,a,b,hi,hj,hs,he=>by
  have Qk:(xs.filterMap g).Nodup:=by
   rw[an0] at h
   split at h
   ·exact h
   ·exact(aog.1 h).2
  have BA:∀(m:Nat) (c:α),xs[m]? =some c→g x=g c→(g x).isSome→False:=by
   intro m c hm hc hx
   obtain⟨y,hy⟩:=anB.1 hx
   rw[an0,hy] at h
   exact(aog.1 h).1 (anF.2 ⟨c,dC hm,by rw[←hc,hy]⟩)
  cases i with
  |zero=>
   cases j with
   |zero=>rfl
   |succ j=>
    simp only[anq,ann,anv] at hi hj
    subst hi
    exact(BA j b hj he hs).elim
  |succ i=>
   cases j with
   |zero=>
    simp only[anq,ann,anv] at hi hj
    subst hj
    exact(BA i a hi he.symm (he▸hs)).elim
   |succ j=>
    simp only[anv] at hi hj
    rw[il g xs Qk i j a b hi hj hs he]
def DJ (n:Nat) (l:de) (k:Nat) (Φ:List (Value→aH→Prop)) (f0:aN) (w0:aH) (listed:Array Bool) (a:Act) (w:aH):Prop:=
 ∃f,a=cj n f∧(∀t,(jl k l).contains t=false→f t=f0 t)∧Ext w0 w∧(∀i,i<k→listed.getD i false=true→Af Φ i (f (jb l i)) w)∧
  ∀i o,listed.getD i false=true→l[i]? =some o→∀j,kU o j=true→listed.getD j false=true
theorem Nn {Q:Exit→Act→aH→Prop} (qB:Oy n k l=true) (hS:mz P n l k Φ f0 w0 0 l)
  (vZ:∀f w,(∀t,(jl k l).contains t=false→f t=f0 t)→Ext w0 w→(∀i,Nat.blt i k=true→Af Φ i (f (jb l i)) w)→WL P n l.toArray Q (l.drop k) f w):
  ∀(d:Nat) (listed:Array Bool) (a:Act) (w:aH),listed.size=l.length→(∀i,k≤i→listed.getD i false=false)→(listed.toList.filter (fun b=>!b)).length=d→
   DJ n l k Φ f0 w0 listed a w→wpAny P .any l.toArray Q d listed a w:=by
 have acy:=qB
 simp only[Oy,eW] at qB
 obtain⟨⟨⟨⟨⟨hE,hD⟩,hN⟩,hn⟩,hT⟩,Ax⟩:=qB
 simp only[ap2] at Ax
 intro d
 induction d with
 |zero=>
  intro listed a w pQ B_ hd hJ
  have pf:∀i,i<l.length→listed.getD i false=true:=by
   intro i hi
   have h0:=aoD hd
   rw[aol] at h0
   have pR:i<listed.size:=by omega
   have:=h0 listed[i]<|by simp
   simp at this
   simp[Array.getD,pR,this]
  have aio:k=l.length:=by
   rcases ap1 k l.length with h|h
   ·have h1:=pf k h
    rw[B_ k (ane _)] at h1
    cases h1
   ·omega
  obtain⟨f,rfl,hf,hx,hφ,hC⟩:=hJ
  have:=vZ f w hf hx<|fun i hi=>hφ i (by simpa using hi)<|pf i<|by have h9:i<k:=(by simpa using hi);omega
  refine Gd hE hT 0 l.length listed _ w aj aj (ane _) ⟨pQ,fun i hi=>by rw[pf i hi];simp[hi]⟩ ?_
  rw[aio] at this
  exact this
 |succ d ih=>
  intro listed a w pQ B_ hd hJ
  by_cases pf:∀i,i<k→listed.getD i false=true
  ·obtain⟨f,rfl,hf,hx,hφ,hC⟩:=hJ
   have:=vZ f w hf hx<|fun i hi=>hφ i (by simpa using hi)<|pf i<|by simpa using hi
   have qU:WY l.length k listed:=⟨pQ,fun i hi=>by
    by_cases tL:i<k
    ·rw[pf i tL];simp[tL]
    ·rw[B_ i aj];simp;omega⟩
   have S5:d+1=l.length-k:=by
    rw[←hd]
    have hl:listed.toList=List.replicate k true++List.replicate (l.length-k) false:=by
     apply aoO
     ·simp[pQ];omega
     ·intro i h1 h2
      simp only[anW] at h1
      have:=qU.2 i aj
      simp only[Array.getD,h1,dif_pos] at this
      rw[ap4]
      by_cases tL:i<k
      ·rw[List.getElem_append_left (by simpa using tL)]
       simp[ao1,tL] at this ⊢
       exact this
      ·rw[List.getElem_append_right (by simpa using tL)]
       simp[ao1,tL] at this ⊢
       exact this
    rw[hl]
    simp
   exact Gd hE hT (d+1) k listed _ w aj (ane _) Ax qU this
  ·obtain⟨i0,Ji⟩:∃i,i<k∧listed.getD i false=false:=by
    apply anV
    intro GV
    refine pf fun i hi=>?_
    cases hb:listed.getD i false with
    |true=>rfl
    |false=>exact(GV ⟨i,hi,hb⟩).elim
   
   obtain⟨m,SU,SS⟩:=exists_least (p:=fun i=>i<k∧listed.getD i false=false) ⟨i0,Ji⟩
   have ud:m<l.length:=by omega
   have jk:l[m]? =some l[m]:=eI ud
   have B7:m∈Region.ready .any l.toArray listed:=by
    rw[mem_ready]
    refine⟨?_,l[m],by simp,fun e he hb=>?_⟩
    ·rw[show listed.getD m true=listed.getD m false from rh aj _ _];exact SU.2
    ·have eo:=wJ l 0 hE m l[m] jk e he hb
     cases wu:listed.getD e.on false with
     |true=>rfl
     |false=>
      have:=SS e.on ⟨by omega,wu⟩
      omega
   refine⟨fun h0=>(by rw[h0] at B7;cases B7),fun i hi=>?_⟩
   obtain⟨h0,o,ho,AB⟩:=mem_ready.1 hi
   have qA:l[i]? =some o:=by simpa using ho
   have jN:i<l.length:=(dE.1 qA).1
   have Mo:listed.getD i false=false:=by
    rw[show listed.getD i false=listed.getD i true from rh aj _ _];exact h0
   have tL:i<k:=by
    rcases ap1 i k with h|h
    ·exact h
    ·exfalso
     obtain⟨f,rfl,hf,hx,hφ,hC⟩:=hJ
     by_cases aiq:i=k
     ·subst aiq
      have:=CB hC _ i m o qA (fun j hj=>by
       obtain⟨e,he,xP,vn⟩:=wS.1 hj
       rw[←vn];exact AB e he xP) (JX hT jN SU.1)
      rw[SU.2] at this
      cases this
     ·have hb:=Am hT (i:=i) aj qA
      obtain⟨e,he,xP,vn⟩:=wS.1 hb
      have:=AB e he xP
      rw[vn,B_ (i-1) aj] at this
      cases this
   obtain⟨f,rfl,hf,hx,hφ,hC⟩:=hJ
   have D1:=(mz.at_ l 0 hS i o qA<|by simpa using tL)
   simp only[anX] at D1
   have hSO:=D1.go f w hf hx (fun j hj Jg=>by
    obtain⟨e,he,hb,vn⟩:=wS.1 hj
    subst vn
    exact hφ e.on (by simpa using Jg) (AB e he hb))
   obtain⟨di,vt⟩:∃di,o.dst=some di:=by
    rw[ani] at hD
    have:=hD o<|dC (i:=i)<|by rw[anG,anc tL];exact qA
    exact anB.1 this
   refine Gc ho hSO fun f' w' hK=>?_
   obtain⟨v,rfl,hxw,hv⟩:=hK
   refine ih (listed.setIfInBounds i true) _ w' (by simp[pQ]) (fun j hj=>?_) ?_ ?_
   ·rw[getD_set_ne false aj];exact B_ j hj
   ·
    have Mc:i<listed.size:=by omega
    have uH:listed.toList[i]? =some false:=by
     rw[eI (by simpa using Mc)]
     simp only[Array.getD,Mc,dif_pos] at Mo
     simpa [ao1] using Mo
    have key:∀(L:List Bool) (i:Nat),L[i]? =some false→((L.set i true).filter (fun b=>!b)).length+1=(L.filter (fun b=>!b)).length:=by
     intro L
     induction L with
     |nil=>intro i h;simp at h
     |cons b L ihL=>
      intro i h
      cases i with
      |zero=>simp at h;subst h;simp
      |succ i=>
       simp at h
       have:=ihL i h
       cases b<;>simp at this ⊢<;>omega
    have:=key listed.toList i uH
    rw[Array.toList_setIfInBounds]
    omega
   ·refine⟨cZ f o.dst v,J,fun t ht=>?_,hx.trans hxw,fun j Jg hj=>?_,fun j oj hj qX q hq=>?_⟩
    ·rw[vt]
     have gA:t≠di:=by
      rintro rfl
      have:=qT qA tL vt
      rw[←anQ,ht] at this
      cases this
     rw[show cZ f (some di) v=ck f di v from rfl,jD f v gA]
     exact hf t ht
    ·have xN:j<l.length:=by omega
     have qX:l[j]? =some l[j]:=eI xN
     by_cases nJ:i=j
     ·subst nJ
      have:jb l i=di:=by unfold jb;rw[qA];simp[vt]
      rw[this,vt,show cZ f (some di) v=ck f di v from rfl,iX]
      exact hv
     ·rw[getD_set_ne false nJ] at hj
      have ab5:=hφ j Jg hj
      have SI:=(mz.at_ l 0 hS j l[j] qX<|by simpa using Jg)
      simp only[anX] at SI
      obtain⟨dj,EE⟩:∃dj,(l[j]).dst=some dj:=by
       rw[ani] at hD
       have:=hD l[j]<|dC (i:=j)<|by rw[anG,anc Jg];exact qX
       exact anB.1 this
      have hDj:jb l j=dj:=by unfold jb;rw[qX];simp[EE]
      have gA:dj≠di:=by
       rintro rfl
       have lU:=pc _ hN
       unfold jl at lU
       exact nJ<|il (·.dst) (l.take k) lU i j o l[j] (by rw[anG,anc tL];exact qA) (by rw[anG,anc Jg];exact qX) (by simp[vt])<|by simp[vt,EE]
      rw[hDj] at ab5 ⊢
      rw[vt,show cZ f (some di) v=ck f di v from rfl,jD f v gA]
      exact SI.mono _ _ _ hxw ab5
    ·have nI:listed.getD q false=true:=by
      by_cases nJ:i=j
      ·subst nJ
       rw[qA] at qX
       cases qX
       obtain⟨e,he,xP,vn⟩:=wS.1 hq
       rw[←vn];exact AB e he xP
      ·rw[getD_set_ne false nJ] at hj
       exact hC j oj hj qX q hq
     by_cases tJ:i=q
     ·subst tJ;rw[Mo] at nI;cases nI
     ·rw[getD_set_ne false tJ];exact nI
def TA (P:Program) (n:Nat) (l:de) (Q:Exit→Act→aH→Prop) (d:Nat) (S:List Bool) (f:aN) (w:aH):Prop:=wpAny P .any l.toArray Q d S.toArray (cj n f) w
def Q7 (P:Program) (n:Nat) (l:de) (Q:Exit→Act→aH→Prop) (d:Nat) (S:List Bool) (f:aN) (w:aH):List Nat→Prop
 |[]=>True
 |i::r=>(∃o,l[i]? =some o∧SO P n l.toArray o f w (fun f' w'=>TA P n l Q d (S.set i true) f' w'))∧Q7 P n l Q d S f w r
theorem Q7.mem {Q:Exit→Act→aH→Prop} {d:Nat} {S:List Bool} {f:aN} {w:aH}:∀{R:List Nat},Q7 P n l Q d S f w R→∀i∈R,∃o,l[i]? =some o∧SO P n l.toArray o f w (fun f' w'=>TA P n l Q d (S.set i true) f' w')
 |[],_,i,hi=>by cases hi
 |j::r,h,i,hi=>by
  rcases ans.1 hi with rfl|hi
  ·exact h.1
  ·exact Q7.mem h.2 i hi
theorem dr {id:Nat} {Q:Exit→Act→aH→Prop} {f:aN} {w:aH} (k:Nat) (Φ:List (Value→aH→Prop)) (hm:P.follows .mixedOrders=true) (qB:Oy n k l=true)
  (hS:mz P n l k Φ f w 0 l)
  (vZ:∀f' w',(∀t,(jl k l).contains t=false→f' t=f t)→Ext w w'→(∀i,Nat.blt i k=true→Af Φ i (f' (jb l i)) w')→WL P n l.toArray Q (l.drop k) f' w'):
  WC P n (.region id l.toArray true) Q f w:=by
 refine wp_region_any hm ?_
 have h:=Nn (P:=P) (w0:=w) (f0:=f) (Q:=Q) qB hS vZ l.length (Array.replicate l.length false) (cj n f) w.drew (by simp) (fun i _=>by simp[Array.getD]) (by simp) ⟨f,rfl,fun _ _=>rfl,Ext.drew w,fun i hi h=>(by
  have h2:(Array.replicate l.length false).getD i false=false:=by
   simp only[Array.getD];split<;>simp
  rw[h2] at h;cases h),fun i o h _ _ _=>(by
  have h2:(Array.replicate l.length false).getD i false=false:=by
   simp only[Array.getD];split<;>simp
  rw[h2] at h;cases h)⟩
 simpa using h
end
abbrev eV (x:Value):Value→aH→Prop:=fun v _=>v=x
theorem d0 {f' f:aN} {d:Option Nat} {v:Value} {w:aH} {R:Value→aH→Prop} (e:f'=cZ f d v) (h:R v w):∃v,f'=cZ f d v∧Ext w w∧R v w:=⟨v,e,Ext.refl w,h⟩
theorem dc {P:Program} {n:Nat} {l:de} {k:Nat} {Φ:List (Value→aH→Prop)} {f0:aN} {w0:aH} {i:Nat} {o:Oper} {r:de}
  (go:∀f w,(∀t,(jl k l).contains t=false→f t=f0 t)→Ext w0 w→(∀j,kU o j=true→Nat.blt j k=true→Af Φ j (f (jb l j)) w)→SO P n l.toArray o f w (fun f' w'=>∃v,f'=cZ f o.dst v∧Ext w w'∧Af Φ i v w'))
  (rest:mz P n l k Φ f0 w0 (i+1) r) (mono:∀v w w',Ext w w'→Af Φ i v w→Af Φ i v w':=by exact fun _ _ _ _ h=>h):mz P n l k Φ f0 w0 i (o::r):=⟨fun _=>⟨go,mono⟩,rest⟩
abbrev I (x:Int):Value:=.int .i64 x
abbrev pV (b o:Nat):Value:=.pointer (some ⟨b,o,none⟩)
theorem BL:(∀b,(b&&true)=b)∧(∀b,(true&&b)=b)∧(∀b,(b&&false)=false)∧(∀b,(false&&b)=false)∧(∀b,(b||true)=true)∧(∀b,(true||b)=true)∧(∀b,(b||false)=b)∧(∀b,(false||b)=b)∧((!true)=false)∧((!false)=true)∧
  (∀(α:Type) (x y:α),cond true x y=x)∧(∀(α:Type) (x y:α),cond false x y=y)∧(∀(α:Type) (x y:α),(some x).getD y=x)∧(∀(α β:Type) (x:α) (f:α→β),(some x).map f=some (f x))∧(∀(α:Type) (l:List α) (i:Nat) (y:α),l.getD i y=(l[i]?).getD y):=by
 refine⟨?_,?_,?_,?_,?_,?_,?_,?_,J,J,fun _ _ _=>rfl,fun _ _ _=>rfl,fun _ _ _=>rfl,fun _ _ _ _=>rfl,fun _ _ _ _=>ik⟩<;>intro b<;>cases b<;>rfl
end Go.Ew
namespace Go.Ew
open Go.RowKit Go.IntWalk
abbrev ag (x:bt):Value:=.int .u64 (x.toNat:Int)
def aJ (a:Int):Prop:= -9223372036854775808≤a∧a≤9223372036854775807
theorem Rj {a:Int} (h:aJ a):IntKind.i64.wrap a=a:=i64_in a h
theorem zw (a:Int):IntKind.u64.wrap a=((BitVec.ofInt 64 a).toNat:Int):=by
 rw[IntKind.wrap_u64,ao2]
 have h1:(0:Int)≤a%18446744073709551616:=apF _ au
 show a%18446744073709551616=(((a%((2^64:Nat):Int)).toNat:Nat):Int)
 rw[show ((2^64:Nat):Int)=18446744073709551616 from rfl,anP h1]
theorem oB (x:bt):BitVec.ofInt 64 (x.toNat:Int)=x:=by
 apply aoQ
 rw[ao2]
 have:=x.isLt
 omega
section
variable {P:Program} {n:Nat} {ops:Array Oper} {f:aN} {w:aH} {K:aN→aH→Prop} {x y c:Operand} {d:Nat} {ty T T2:TypeId} {ps:String} {af:Array Edge} {v v2:Value} {a b:Int} {p q:Bool} {kk kk2:IntKind} {s t:bt}
theorem mv (ox:bI n x=true) (hx:ev f x=v) (h:K (ck f d v) w):SO P n ops ⟨some d,.move x,ty,ps,af,none⟩ f w K:=
 SO.value (v:=v) (by simp[execOp,aL ox,hx]) h
theorem jO (ox:bI n x=true) (hx:ev f x=v) (h:K (ck f d v) w):SO P n ops ⟨some d,.assign x,ty,ps,af,none⟩ f w K:=
 SO.value (v:=v) (by simp[execOp,aL ox,hx]) h
theorem aP (oc:bI n c=true) (ox:bI n x=true) (oy:bI n y=true) (hc:ev f c=.bool p) (hp:p=true) (hx:ev f x=v) (h:K (ck f d v) w):SO P n ops ⟨some d,.pick c x y,ty,ps,af,none⟩ f w K:=
 SO.value (v:=v) (by simp[execOp,asBool,aL oc,aL ox,aL oy,hc,hp,hx]) h
theorem dA (oc:bI n c=true) (ox:bI n x=true) (oy:bI n y=true) (hc:ev f c=.bool p) (hp:p=false) (hy:ev f y=v) (h:K (ck f d v) w):SO P n ops ⟨some d,.pick c x y,ty,ps,af,none⟩ f w K:=
 SO.value (v:=v) (by simp[execOp,asBool,aL oc,aL ox,aL oy,hc,hp,hy]) h
theorem jY (ox:bI n x=true) (hx:ev f x=.bool p) (h:K (ck f d (.bool (!p))) w):SO P n ops ⟨some d,.unOp .not T x,ty,ps,af,none⟩ f w K:=
 SO.value (v:=.bool (!p)) (by simp[execOp,aL ox,hx,Op.unary]) h
theorem bin {op:BinOp} (ox:bI n x=true) (oy:bI n y=true) (hx:ev f x=.int kk a) (hy:ev f y=.int kk2 b) (hr:(binOp op T (.int kk a) (.int kk2 b)).run P w=.ok v w) (h:K (ck f d v) w):
  SO P n ops ⟨some d,.binOp op T x y T2,ty,ps,af,none⟩ f w K:=
 SO.value (v:=v) (by
  simp only[execOp,aL ox,aL oy,hx,hy]
  have hg:(eqGuard op T x y (.int kk a) (.int kk2 b)).run P w=.ok () w:=by unfold eqGuard;split<;>rfl
  simp[hg,hr,Result.andThen]) h
theorem add (ox:bI n x=true) (oy:bI n y=true) (hx:ev f x=.int .i64 a) (hy:ev f y=.int .i64 b) (hi:aJ (a+b)) (h:K (ck f d (.int .i64 (a+b))) w):SO P n ops ⟨some d,.binOp .add T x y T2,ty,ps,af,none⟩ f w K:=
 bin ox oy hx hy (by simp[binOp,Op.intArith,Rj hi]) h
theorem sub (ox:bI n x=true) (oy:bI n y=true) (hx:ev f x=.int .i64 a) (hy:ev f y=.int .i64 b) (hi:aJ (a-b)) (h:K (ck f d (.int .i64 (a-b))) w):SO P n ops ⟨some d,.binOp .sub T x y T2,ty,ps,af,none⟩ f w K:=
 bin ox oy hx hy (by simp[binOp,Op.intArith,Rj hi]) h
theorem mul (ox:bI n x=true) (oy:bI n y=true) (hx:ev f x=.int .i64 a) (hy:ev f y=.int .i64 b) (hi:aJ (a*b)) (h:K (ck f d (.int .i64 (a*b))) w):SO P n ops ⟨some d,.binOp .mul T x y T2,ty,ps,af,none⟩ f w K:=
 bin ox oy hx hy (by simp[binOp,Op.intArith,Rj hi]) h
theorem quo (ox:bI n x=true) (oy:bI n y=true) (hx:ev f x=.int .i64 a) (hy:ev f y=.int .i64 b) (hi:0≤a∧a≤9223372036854775807∧1≤b) (h:K (ck f d (.int .i64 (a/b))) w):SO P n ops ⟨some d,.binOp .quo T x y T2,ty,ps,af,none⟩ f w K:=
 bin ox oy hx hy (by
  have hb:b≠0:=by omega
  simp[binOp,Op.intDiv,hb];exact i64_quo a b hi) h
theorem rem (ox:bI n x=true) (oy:bI n y=true) (hx:ev f x=.int kk a) (hy:ev f y=.int kk b) (hi:0≤a∧1≤b) (h:K (ck f d (.int kk (a%b))) w):SO P n ops ⟨some d,.binOp .rem T x y T2,ty,ps,af,none⟩ f w K:=
 bin ox oy hx hy (by
  have hb:b≠0:=by omega
  simp[binOp,Op.intDiv,hb,rem_in a b hi.1]) h
theorem lss (ox:bI n x=true) (oy:bI n y=true) (hx:ev f x=.int kk a) (hy:ev f y=.int kk b) (h:K (ck f d (.bool (decide (a<b)))) w):SO P n ops ⟨some d,.binOp .lss T x y T2,ty,ps,af,none⟩ f w K:=
 bin ox oy hx hy (by simp[binOp,Op.intCmp]) h
theorem leq (ox:bI n x=true) (oy:bI n y=true) (hx:ev f x=.int kk a) (hy:ev f y=.int kk b) (h:K (ck f d (.bool (decide (a≤b)))) w):SO P n ops ⟨some d,.binOp .leq T x y T2,ty,ps,af,none⟩ f w K:=
 bin ox oy hx hy (by simp[binOp,Op.intCmp]) h
theorem gtr (ox:bI n x=true) (oy:bI n y=true) (hx:ev f x=.int kk a) (hy:ev f y=.int kk b) (h:K (ck f d (.bool (decide (b<a)))) w):SO P n ops ⟨some d,.binOp .gtr T x y T2,ty,ps,af,none⟩ f w K:=
 bin ox oy hx hy (by simp[binOp,Op.intCmp]) h
theorem geq (ox:bI n x=true) (oy:bI n y=true) (hx:ev f x=.int kk a) (hy:ev f y=.int kk b) (h:K (ck f d (.bool (decide (b≤a)))) w):SO P n ops ⟨some d,.binOp .geq T x y T2,ty,ps,af,none⟩ f w K:=
 bin ox oy hx hy (by simp[binOp,Op.intCmp]) h
theorem eql (ox:bI n x=true) (oy:bI n y=true) (hx:ev f x=.int kk a) (hy:ev f y=.int kk b) (h:K (ck f d (.bool (decide (a=b)))) w):SO P n ops ⟨some d,.binOp .eql T x y T2,ty,ps,af,none⟩ f w K:=
 bin ox oy hx hy (by simp[binOp,Op.intCmp];rfl) h
theorem neq (ox:bI n x=true) (oy:bI n y=true) (hx:ev f x=.int kk a) (hy:ev f y=.int kk b) (h:K (ck f d (.bool (!decide (a=b)))) w):SO P n ops ⟨some d,.binOp .neq T x y T2,ty,ps,af,none⟩ f w K:=
 bin ox oy hx hy (by simp[binOp,Op.intCmp];rfl) h
theorem K8 (ox:bI n x=true) (oy:bI n y=true) (hx:ev f x=.int .i64 a) (hy:ev f y=.int .u64 6) (h:K (ck f d (.int .i64 (a/64))) w):SO P n ops ⟨some d,.binOp .shr T x y T2,ty,ps,af,none⟩ f w K:=
 bin ox oy hx hy (by
  simp[binOp,Op.shift]
  show a.fdiv (2^min 6 64)=_
  rw[show (2:Int)^min 6 64=64 from rfl,Int.fdiv_eq_ediv_of_nonneg _ au]) h
theorem KA (ox:bI n x=true) (oy:bI n y=true) (hx:ev f x=.int .i64 a) (hy:ev f y=.int .i64 63) (h:K (ck f d (.int .i64 (a%64))) w):SO P n ops ⟨some d,.binOp .and T x y T2,ty,ps,af,none⟩ f w K:=
 bin ox oy hx hy (by
  simp only[binOp,Op.intBits,apA,apa,an3,Sem.run_pure]
  have h1:((BitVec.ofInt IntKind.i64.bits a &&& BitVec.ofInt IntKind.i64.bits 63).toNat:Int)=a%64:=by
   show ((BitVec.ofInt 64 a &&& BitVec.ofInt 64 63).toNat:Int)=a%64
   rw[BitVec.toNat_and,ao2,show (BitVec.ofInt 64 63).toNat=2^6-1 from rfl,Nat.and_two_pow_sub_one_eq_mod]
   have:(0:Int)≤a%((2^64:Nat):Int):=apF _ au
   omega
  rw[h1,Rj (by unfold aJ;omega)]) h
theorem HE (r:bt):IntKind.u64.wrap (r.toNat:Int)=(r.toNat:Int):=by rw[zw,oB]
theorem DE (s t:bt) (ox:bI n x=true) (oy:bI n y=true) (hx:ev f x=ag s) (hy:ev f y=ag t) (h:K (ck f d (ag (s &&& t))) w):SO P n ops ⟨some d,.binOp .and T x y T2,ty,ps,af,none⟩ f w K:=
 bin ox oy hx hy (by
  have e1:BitVec.ofInt IntKind.u64.bits (s.toNat:Int)=s:=oB s
  have e2:BitVec.ofInt IntKind.u64.bits (t.toNat:Int)=t:=oB t
  simp only[binOp,Op.intBits,apA,apa,an3,Sem.run_pure,e1,e2];exact am_ (fun z=>Result.ok (Value.int .u64 z) w) (HE (s &&& t))) h
theorem Sc (s t:bt) (ox:bI n x=true) (oy:bI n y=true) (hx:ev f x=ag s) (hy:ev f y=ag t) (h:K (ck f d (ag (s ||| t))) w):SO P n ops ⟨some d,.binOp .or T x y T2,ty,ps,af,none⟩ f w K:=
 bin ox oy hx hy (by
  have e1:BitVec.ofInt IntKind.u64.bits (s.toNat:Int)=s:=oB s
  have e2:BitVec.ofInt IntKind.u64.bits (t.toNat:Int)=t:=oB t
  simp only[binOp,Op.intBits,apA,apa,an3,Sem.run_pure,e1,e2];exact am_ (fun z=>Result.ok (Value.int .u64 z) w) (HE (s ||| t))) h
theorem aar (s t:bt) (ox:bI n x=true) (oy:bI n y=true) (hx:ev f x=ag s) (hy:ev f y=ag t) (h:K (ck f d (ag (s &&& ~~~t))) w):SO P n ops ⟨some d,.binOp .andNot T x y T2,ty,ps,af,none⟩ f w K:=
 bin ox oy hx hy (by
  have e1:BitVec.ofInt IntKind.u64.bits (s.toNat:Int)=s:=oB s
  have e2:BitVec.ofInt IntKind.u64.bits (t.toNat:Int)=t:=oB t
  simp only[binOp,Op.intBits,apA,apa,an3,Sem.run_pure,e1,e2];exact am_ (fun z=>Result.ok (Value.int .u64 z) w) (HE (s &&& ~~~t))) h
theorem Iw (s t:bt) (ox:bI n x=true) (oy:bI n y=true) (hx:ev f x=ag s) (hy:ev f y=ag t) (h:K (ck f d (ag (s+t))) w):SO P n ops ⟨some d,.binOp .add T x y T2,ty,ps,af,none⟩ f w K:=
 bin ox oy hx hy (by
  simp only[binOp,Op.intArith,apA,apa,an3,Sem.run_pure]
  refine am_ (fun z=>Result.ok (Value.int .u64 z) w) ?_
  rw[IntKind.wrap_u64,BitVec.toNat_add];omega) h
theorem aaR (s t:bt) (ox:bI n x=true) (oy:bI n y=true) (hx:ev f x=ag s) (hy:ev f y=ag t) (h:K (ck f d (ag (s-t))) w):SO P n ops ⟨some d,.binOp .sub T x y T2,ty,ps,af,none⟩ f w K:=
 bin ox oy hx hy (by
  simp only[binOp,Op.intArith,apA,apa,an3,Sem.run_pure]
  refine am_ (fun z=>Result.ok (Value.int .u64 z) w) ?_
  have:=t.isLt
  rw[IntKind.wrap_u64,BitVec.toNat_sub];omega) h
theorem abz (s:bt) (ox:bI n x=true) (hx:ev f x=ag s) (h:K (ck f d (ag (-s))) w):SO P n ops ⟨some d,.unOp .neg T x,ty,ps,af,none⟩ f w K:=
 SO.value (v:=ag (-s)) (by
  simp only[execOp,aL ox,hx,Op.unary,Op.intArith,apA,apa,an3]
  have e:IntKind.u64.wrap (0-(s.toNat:Int))=((-s).toNat:Int):=by
   have:=s.isLt
   rw[IntKind.wrap_u64,BitVec.toNat_neg];omega
  rw[e];simp) h
theorem Fx (s t:bt) (ox:bI n x=true) (oy:bI n y=true) (hx:ev f x=ag s) (hy:ev f y=ag t) (h:K (ck f d (ag (s*t))) w):SO P n ops ⟨some d,.binOp .mul T x y T2,ty,ps,af,none⟩ f w K:=
 bin ox oy hx hy (by
  simp only[binOp,Op.intArith,apA,apa,an3,Sem.run_pure]
  refine am_ (fun z=>Result.ok (Value.int .u64 z) w) ?_
  rw[IntKind.wrap_u64,BitVec.toNat_mul];exact(Int.natCast_emod _ _).symm) h
theorem ahQ (s t:bt) (ht:t≠0#64) (ox:bI n x=true) (oy:bI n y=true) (hx:ev f x=ag s) (hy:ev f y=ag t) (h:K (ck f d (ag (s/t))) w):SO P n ops ⟨some d,.binOp .quo T x y T2,ty,ps,af,none⟩ f w K:=
 bin ox oy hx hy (by
  have h0:t.toNat≠0:=fun h=>ht<|aoQ h
  have h1:(t.toNat:Int)≠0:=by omega
  have hs:=s.isLt
  simp only[binOp,Op.intDiv,apA,apa,an3,h1,Sem.run_pure]
  refine am_ (fun z=>Result.ok (Value.int .u64 z) w) ?_
  rw[u64_quo _ _ aj,BitVec.toNat_udiv];rfl) h
theorem aaX (s:bt) (b:Int) (hb:0≤b) (ox:bI n x=true) (oy:bI n y=true) (hx:ev f x=ag s) (hy:ev f y=.int kk b) (h:K (ck f d (ag (s <<< b.toNat))) w):SO P n ops ⟨some d,.binOp .shl T x y T2,ty,ps,af,none⟩ f w K:=
 bin ox oy hx hy (by
  have h0:¬b<0:=by omega
  simp only[binOp,Op.shift,h0,an3,Sem.run_pure]
  refine am_ (fun z=>Result.ok (Value.int .u64 z) w) ?_
  show IntKind.u64.wrap ((s.toNat:Int)*2^min b.toNat 64)=_
  rw[IntKind.wrap_u64,BitVec.toNat_shiftLeft,Nat.shiftLeft_eq]
  rcases ap1 b.toNat 64 with eo|B_
  ·rw[aof aj]
   simp
  ·rw[Nat.min_eq_right B_]
   have e1:s.toNat*2^b.toNat%2^64=0:=by
    rw[show b.toNat=64+(b.toNat-64) from by omega,Nat.pow_add,←Nat.mul_assoc,apI (s.toNat) _,Nat.mul_assoc]
    exact Nat.mul_mod_right _ _
   rw[e1]
   show (s.toNat:Int)*18446744073709551616%18446744073709551616=0
   exact Int.mul_emod_left _ _) h
theorem ahK (s:bt) (b:Int) (hb:0≤b) (ox:bI n x=true) (oy:bI n y=true) (hx:ev f x=ag s) (hy:ev f y=.int kk b) (h:K (ck f d (ag (s >>> b.toNat))) w):SO P n ops ⟨some d,.binOp .shr T x y T2,ty,ps,af,none⟩ f w K:=
 bin ox oy hx hy (by
  have h0:¬b<0:=by omega
  simp only[binOp,Op.shift,h0,an3,Sem.run_pure]
  refine am_ (fun z=>Result.ok (Value.int .u64 z) w) ?_
  show (s.toNat:Int).fdiv (2^min b.toNat 64)=_
  rw[Int.fdiv_eq_ediv_of_nonneg _ (by have:(0:Int)<2^min b.toNat 64:=Int.pow_pos au;omega),apc,ao7]
  rcases ap1 b.toNat 64 with eo|B_
  ·rw[aof aj]
   simp
  ·rw[Nat.min_eq_right B_]
   have hs:=s.isLt
   have e1:s.toNat/2^b.toNat=0:=apq<|anK hs<|Nat.pow_le_pow_right au B_
   rw[e1]
   show (s.toNat:Int)/18446744073709551616=0
   omega) h
theorem DU (s:bt) (k:Nat) (ox:bI n x=true) (oy:bI n y=true) (hx:ev f x=ag s) (hy:ev f y=.int kk ((k:Nat):Int)) (h:K (ck f d (ag (s >>> k))) w):SO P n ops ⟨some d,.binOp .shr T x y T2,ty,ps,af,none⟩ f w K:=
 ahK s ((k:Nat):Int) aj ox oy hx hy (by rw[dP];exact h)
theorem eqU (s t:bt) (ox:bI n x=true) (oy:bI n y=true) (hx:ev f x=ag s) (hy:ev f y=ag t) (h:K (ck f d (.bool (decide (s=t)))) w):SO P n ops ⟨some d,.binOp .eql T x y T2,ty,ps,af,none⟩ f w K:=
 bin ox oy hx hy (by
  simp only[binOp,Op.intCmp,apA,apa,an3,Sem.run_pure]
  refine am_ (fun z=>Result.ok (Value.bool z) w) ?_
  by_cases e:s=t
  ·subst e;simp
  ·have:(s.toNat:Int)≠t.toNat:=fun h=>e<|aoQ aj
   simp[e,this]) h
theorem neU (s t:bt) (ox:bI n x=true) (oy:bI n y=true) (hx:ev f x=ag s) (hy:ev f y=ag t) (h:K (ck f d (.bool (!decide (s=t)))) w):SO P n ops ⟨some d,.binOp .neq T x y T2,ty,ps,af,none⟩ f w K:=
 bin ox oy hx hy (by
  simp only[binOp,Op.intCmp,apA,apa,an3,Sem.run_pure]
  refine am_ (fun z=>Result.ok (Value.bool z) w) ?_
  by_cases e:s=t
  ·subst e;simp
  ·have:(s.toNat:Int)≠t.toNat:=fun h=>e<|aoQ aj
   simp[e,this]) h
theorem Ye (s t:bt) (ox:bI n x=true) (oy:bI n y=true) (hx:ev f x=ag s) (hy:ev f y=ag t) (h:K (ck f d (.bool (decide (t.toNat<s.toNat)))) w):SO P n ops ⟨some d,.binOp .gtr T x y T2,ty,ps,af,none⟩ f w K:=
 bin ox oy hx hy (by
  simp only[binOp,Op.intCmp,apA,apa,an3,Sem.run_pure]
  refine am_ (fun z=>Result.ok (Value.bool z) w) ?_
  simp) h
theorem cv {e:TypeDesc} {k2:IntKind} (ox:bI n x=true) (hx:ev f x=.int kk a) (h1:P.underlying T=some e) (h2:P.underlying T2=some (.int k2)) (h:K (ck f d (.int k2 (k2.wrap a))) w):
  SO P n ops ⟨some d,.convert T T2 x,ty,ps,af,none⟩ f w K:=
 SO.value (v:=.int k2 (k2.wrap a)) (by simp[execOp,aL ox,hx,convert,underlying,h1,h2,Conv.intToInt]) h
theorem Pb {e:TypeDesc} (ox:bI n x=true) (hx:ev f x=.int kk a) (h1:P.underlying T=some e) (h2:P.underlying T2=some (.int .u64)) (h:K (ck f d (ag (BitVec.ofInt 64 a))) w):
  SO P n ops ⟨some d,.convert T T2 x,ty,ps,af,none⟩ f w K:=
 cv ox hx h1 h2 (by rw[zw];exact h)
theorem cvI {e:TypeDesc} (ox:bI n x=true) (hx:ev f x=.int kk a) (hi:aJ a) (h1:P.underlying T=some e) (h2:P.underlying T2=some (.int .i64)) (h:K (ck f d (.int .i64 a)) w):
  SO P n ops ⟨some d,.convert T T2 x,ty,ps,af,none⟩ f w K:=
 cv ox hx h1 h2 (by rw[Rj hi];exact h)
theorem max2 (ox:bI n x=true) (oy:bI n y=true) (hx:ev f x=.int kk a) (hy:ev f y=.int kk b) {pt:Array TypeId} (h:K (ck f d (.int kk (max a b))) w):
  SO P n ops ⟨some d,.call {callee:=.builtin .max,args:=#[x,y],argTypes:=pt},ty,ps,af,none⟩ f w K:=
 SO.value (v:=.int kk (max a b)) (by
  have:(if b>a then b else a)=max a b:=by split<;>omega
  simp[execOp,resolve,invoke,builtin,Builtin.max_,Builtin.max2,aL ox,aL oy,hx,hy,this]) h
theorem xt {i:Nat} {vs:Array Value} (ox:bI n x=true) (hx:ev f x=.tuple vs) (hi:vs[i]? =some v) (h:K (ck f d v) w):SO P n ops ⟨some d,.extract x i,ty,ps,af,none⟩ f w K:=
 SO.value (v:=v) (by simp[execOp,Instr.extract,aL ox,hx,hi]) h
def Gw (n:Nat) (L:List Operand):Bool:=L.all (bI n)
theorem y' {L:List Operand} (h:Gw n L=true):L.map (cj n f).eval=L.map (ev f):=by
 apply aon
 intro x hx
 exact aL<|ani.1 h x hx
theorem mf {fn:Fn} {C:List Operand} (oc:Gw n C=true) (h:K (ck f d (.func fn #[] (C.map (ev f)).toArray)) w):SO P n ops ⟨some d,.makeFunc fn #[] C.toArray,ty,ps,af,none⟩ f w K:=
 SO.value (v:=.func fn #[] (C.map (ev f)).toArray) (by simp[execOp,Instr.makeFunc,y' oc]) h
theorem yg {g:FuncId} {fn:Func} {c:Code} {args:Array Value} (hf:P.funcs[g]? =some fn) (hb:fn.body=some c) (hn:(fn.name== "runtime.NumGoroutine")=false):
  (callFunc g args).run P w=.ok (.enter g args) w:=by
 simp only[beq_eq_false_iff_ne,apA] at hn
 simp[callFunc,hf,hb,hn]
def cA (P:Program) (g:FuncId):Prop:=∃fn c,P.funcs[g]? =some fn∧fn.body=some c∧(fn.name== "runtime.NumGoroutine")=false
theorem e0:([]:List Operand).map (ev f)=[]:=rfl
theorem ec {L:List Operand} {vs:List Value} (h:ev f x=v) (t:L.map (ev f)=vs):(x::L).map (ev f)=v::vs:=by
 rw[anA,h,t]
theorem ca {g:FuncId} {L:List Operand} {vs:List Value} {pt:Array TypeId} {R:Value→aH→Prop} (G:cA P g) (ol:Gw n L=true) (hL:L.map (ev f)=vs)
  (hc:Calls P g vs.toArray w (cp R)) (h:∀v w',R v w'→K (ck f d v) w'):
  SO P n ops ⟨some d,.call {callee:=.value (.func g),args:=L.toArray,argTypes:=pt},ty,ps,af,none⟩ f w K:=by
 obtain⟨fn,c,hf,hb,hn⟩:=G
 subst hL
 exact SO.enter (g:=g) (args:=(L.map (ev f)).toArray) (w':=w) (by
  simp only[execOp,resolve,apb,y' ol]
  show ((Deferred.ofValue (.func (.func g) #[] #[]) (L.map (ev f)).toArray >>=fun d=>invoke d.target d.args).run P w)=_
  simp[Deferred.ofValue,invoke,yg hf hb hn]) (hc.mono fun e w' hr=>by
   obtain⟨v,rfl,hv⟩:=hr
   exact⟨v,rfl,h v w' hv⟩)
theorem cf {fx:Operand} {g:FuncId} {L:List Operand} {vs C:List Value} {pt:Array TypeId} {R:Value→aH→Prop} (G:cA P g)
  (ofx:bI n fx=true) (ol:Gw n L=true) (hfx:ev f fx=.func (.func g) #[] C.toArray) (hL:L.map (ev f)=vs)
  (hc:Calls P g (vs++C).toArray w (cp R)) (h:∀v w',R v w'→K (ck f d v) w'):
  SO P n ops ⟨some d,.call {callee:=.value fx,args:=L.toArray,argTypes:=pt},ty,ps,af,none⟩ f w K:=by
 obtain⟨fn,c,hf,hb,hn⟩:=G
 subst hL
 exact SO.enter (g:=g) (args:=(L.map (ev f)++C).toArray) (w':=w) (by
  simp only[execOp,resolve,apb,y' ol,aL ofx,hfx]
  simp[Deferred.ofValue,invoke,yg hf hb hn]) (hc.mono fun e w' hr=>by
   obtain⟨v,rfl,hv⟩:=hr
   exact⟨v,rfl,h v w' hv⟩)
end
end Go.Ew
namespace Go.Ew
open Go.RowKit
variable {M:bW} {w:aH} {v:Value}
def Up (M:bW) (w:aH) (M':bW) (w':aH):Prop:=
 w.heap.size≤w'.heap.size∧∀b,b<w.heap.size→¬M b→w'.heap[b]? =w.heap[b]?∧¬M' b
theorem Up.refl (M:bW) (w:aH):Up M w M w:=⟨ane _,fun _ _ h=>⟨rfl,h⟩⟩
theorem Up.trans {M M' M'':bW} {w w' mJ:aH} (h:Up M w M' w') (k:Up M' w' M'' mJ):Up M w M'' mJ:=
 ⟨Nat.le_trans h.1 k.1,fun b hb hM=>by
  have h1:=h.2 b hb hM
  have h2:=k.2 b (anK hb h.1) h1.2
  exact⟨h2.1.trans h1.1,h2.2⟩⟩
theorem Up.ext {w':aH} (h:Ext w w'):Up M w M w':=⟨h.size,fun b hb hM=>⟨h.block b hb,hM⟩⟩
theorem Up.less {M':bW} (h:∀b,b<w.heap.size→M' b→M b):Up M w M' w:=⟨ane _,fun b hb hM=>⟨rfl,fun h'=>hM (h b hb h')⟩⟩
theorem pY {ad:Addr} (h:w.cell? ad=some v):ad.block<w.heap.size:=World.block_lt_of_cell? w ad h
theorem Up.cell {M M':bW} {w w':aH} (h:Up M w M' w') {ad:Addr} {v:Value} (hM:¬M ad.block) (hc:w.cell? ad=some v):w'.cell? ad=some v:=
 (World.cell?_of_block (h.2 _ (pY hc) hM).1).trans hc
theorem vH (a:Addr) (j:Nat):(a.add j).block=a.block:=by unfold Addr.add;split<;>rfl
theorem add_add (a:Addr) (i j:Nat):(a.add i).add j=a.add (i+j):=by
 unfold Addr.add
 by_cases hi:i=0
 ·subst hi;simp
 ·by_cases hj:j=0
  ·subst hj;simp
  ·simp[hi,hj,apV]
class GT (α:Type) where
 size:Nat
 agg:Bool
 rep:(bW)→aH→List Value→α→Prop
 len:∀{M w cs x},rep M w cs x→cs.length=size
 one:∀{M w cs x},rep M w cs x→∀c∈cs,c.oneCell'=true
 single:agg=false→size=1
 pos:0<size
 lift:∀{M w M' w' cs x},rep M w cs x→Up M w M' w'→rep M' w' cs x
def sR (agg:Bool) (cs:List Value):Value:=bif agg then .agg cs.toArray else cs.headD undef
theorem TX {agg:Bool} {cs:List Value} (h:agg=false→cs.length=1) (h1:∀c∈cs,c.oneCell'=true):(sR agg cs).cells=cs.toArray:=by
 cases agg with
 |true=>rfl
 |false=>
  match cs,h rfl with
  |[c],_=>
   have:=h1 c<|by simp
   cases c<;>first|rfl|cases this
def RV {α:Type} [GT α] (M:bW) (w:aH) (v:Value) (x:α):Prop:=∃cs,GT.rep M w cs x∧v=sR (GT.agg α) cs
def At {α:Type} [GT α] (M:bW) (w:aH) (ad:Addr) (x:α):Prop:=∃cs,GT.rep M w cs x∧¬M ad.block∧∀j v,cs[j]? =some v→w.cell? (ad.add j)=some v
theorem RV.lift {α:Type} [GT α] {M M':bW} {w w':aH} {v:Value} {x:α} (h:RV M w v x) (u:Up M w M' w'):RV M' w' v x:=
 let ⟨cs,h1,h2⟩:=h;⟨cs,GT.lift h1 u,h2⟩
theorem At.lift {α:Type} [GT α] {M M':bW} {w w':aH} {ad:Addr} {x:α} (h:At M w ad x) (u:Up M w M' w'):At M' w' ad x:=by
 obtain⟨cs,h1,h2,h3⟩:=h
 have gA:0<cs.length:=by rw[GT.len h1];exact GT.pos
 have eo:ad.block<w.heap.size:=by
  have:=h3 0 cs[0]<|eI gA
  have:=pY this
  rwa [vH] at this
 exact⟨cs,GT.lift h1 u,(u.2 _ eo h2).2,fun j v hv=>u.cell (by rw[vH];exact h2) (h3 j v hv)⟩
instance amD:GT Int where
 size:=1
 agg:=false
 rep _ _ cs x:=cs=[.int .i64 x]∧aJ x
 len h:=by rw[h.1];rfl
 one h:=by rw[h.1];simp[Value.oneCell']
 single _:=rfl
 pos:=by decide
 lift h _:=h
instance gBV:GT bt where
 size:=1
 agg:=false
 rep _ _ cs x:=cs=[ag x]
 len h:=by rw[h];rfl
 one h:=by rw[h];simp[Value.oneCell']
 single _:=rfl
 pos:=by decide
 lift h _:=h
abbrev U8 (x:BitVec 8):Value:=.int .u8 (x.toNat:Int)
instance gB8:GT (BitVec 8) where
 size:=1
 agg:=false
 rep _ _ cs x:=cs=[U8 x]
 len h:=by rw[h];rfl
 one h:=by rw[h];simp[Value.oneCell']
 single _:=rfl
 pos:=by decide
 lift h _:=h
instance alV:GT Bool where
 size:=1
 agg:=false
 rep _ _ cs x:=cs=[.bool x]
 len h:=by rw[h];rfl
 one h:=by rw[h];simp[Value.oneCell']
 single _:=rfl
 pos:=by decide
 lift h _:=h
instance amC:GT bf where
 size:=1
 agg:=false
 rep _ _ cs x:=cs=[.string x]∧x.size≤maxLen
 len h:=by rw[h.1];rfl
 one h:=by rw[h.1];simp[Value.oneCell']
 single _:=rfl
 pos:=by decide
 lift h _:=h
instance alT {α β:Type} [GT α] [GT β]:GT (α×β) where
 size:=GT.size α+GT.size β
 agg:=true
 rep M w cs x:=∃c1 c2,cs=c1++c2∧GT.rep M w c1 x.1∧GT.rep M w c2 x.2
 len:=by
  rintro M w cs x ⟨c1,c2,rfl,h1,h2⟩
  rw[fF,GT.len h1,GT.len h2]
 one:=by
  rintro M w cs x ⟨c1,c2,rfl,h1,h2⟩ c hc
  rcases anx.1 hc with h|h
  ·exact GT.one h1 c h
  ·exact GT.one h2 c h
 single h:=by cases h
 pos:=by have:=GT.pos (α:=α);omega
 lift:=by
  rintro M w M' w' cs x ⟨c1,c2,rfl,h1,h2⟩ u
  exact⟨c1,c2,J,GT.lift h1 u,GT.lift h2 u⟩
def Un {α:Type} [GT α] (M:bW) (w:aH) (ad:Addr) (xs:List α):Prop:=
 ∀i x,xs[i]? =some x→At M w (ad.add (i*GT.size α)) x
def RS {α:Type} [GT α] (M:bW) (w:aH) (v:Value) (xs:List α):Prop:=
 ∃a n c,v=.slice a n c∧xs.length=n∧n≤c∧c≤maxLen∧(n=0∨∃ad,a=some ad∧Un M w ad xs)
theorem RS.lift {α:Type} [GT α] {M M':bW} {w w':aH} {v:Value} {xs:List α} (h:RS M w v xs) (u:Up M w M' w'):RS M' w' v xs:=by
 obtain⟨a,n,c,h1,h2,h3,h4,h5⟩:=h
 refine⟨a,n,c,h1,h2,h3,h4,?_⟩
 rcases h5 with h5|⟨ad,h5,h6⟩
 ·exact .inl h5
 ·exact .inr ⟨ad,h5,fun i x hx=>(h6 i x hx).lift u⟩
instance alU {α:Type} [GT α]:GT (List α) where
 size:=1
 agg:=false
 rep M w cs xs:=∃v,cs=[v]∧RS M w v xs
 len:=by rintro M w cs x ⟨v,rfl,_⟩;rfl
 one:=by
  rintro M w cs x ⟨v,rfl,a,n,c,rfl,_⟩ c hc
  simp at hc;subst hc;rfl
 single _:=rfl
 pos:=by decide
 lift:=by
  rintro M w M' w' cs x ⟨v,rfl,h⟩ u
  exact⟨v,J,h.lift u⟩
theorem RV.int {M:bW} {w:aH} {v:Value} {x:Int}:RV M w v x↔v=.int .i64 x∧aJ x:=by
 constructor
 ·rintro⟨cs,⟨rfl,h⟩,rfl⟩;exact⟨rfl,h⟩
 ·rintro⟨rfl,h⟩;exact⟨_,⟨rfl,h⟩,rfl⟩
theorem RV.bv {x:bt}:RV M w v x↔v=ag x:=by
 constructor
 ·rintro⟨cs,rfl,rfl⟩;rfl
 ·rintro rfl;exact⟨_,rfl,rfl⟩
theorem RV.b8 {x:BitVec 8}:RV M w v x↔v=U8 x:=by
 constructor
 ·rintro⟨cs,rfl,rfl⟩;rfl
 ·rintro rfl;exact⟨_,rfl,rfl⟩
theorem RV.bool {M:bW} {w:aH} {v:Value} {x:Bool}:RV M w v x↔v=.bool x:=by
 constructor
 ·rintro⟨cs,rfl,rfl⟩;rfl
 ·rintro rfl;exact⟨_,rfl,rfl⟩
theorem RV.str {x:bf}:RV M w v x↔v=.string x∧x.size≤maxLen:=by
 constructor
 ·rintro⟨cs,⟨rfl,h⟩,rfl⟩;exact⟨rfl,h⟩
 ·rintro⟨rfl,h⟩;exact⟨_,⟨rfl,h⟩,rfl⟩
theorem RV.list {α:Type} [GT α] {M:bW} {w:aH} {v:Value} {xs:List α}:RV M w v xs↔RS M w v xs:=by
 constructor
 ·rintro⟨cs,⟨u,rfl,h⟩,rfl⟩;exact h
 ·intro h;exact⟨[v],⟨v,rfl,h⟩,rfl⟩
structure Item where
 jJ:Option Nat
 holds:(bW)→aH→Prop
 lift:∀{M M' w w'},holds M w→Up M w M' w'→(∀b,jJ=some b→w'.heap[b]? =w.heap[b]?)→holds M' w'
def tH {α:Type} [GT α] (v:Value) (x:α):Item:=⟨none,fun M w=>RV M w v x,fun h u _=>h.lift u⟩
def rm {α:Type} [GT α] (ad:Addr) (x:α):Item:=⟨none,fun M w=>At M w ad x,fun h u _=>h.lift u⟩
def box (b:Nat) (cs:Array Value) (t:TypeId):Item:=⟨some b,fun M w=>w.heap[b]? =some (.cells cs t (0,0)),fun h u hb=>(hb b rfl).trans h⟩
def bA {α:Type} [GT α] (M:bW) (w:aH):List Value→List α→Prop
 |cs,[]=>cs=[]
 |cs,x::xs=>∃c1 c2,cs=c1++c2∧GT.rep M w c1 x∧bA M w c2 xs
theorem bA.lift {α:Type} [GT α] {M M':bW} {w w':aH} (u:Up M w M' w'):∀{xs:List α} {cs:List Value},bA M w cs xs→bA M' w' cs xs
 |[],_,h=>h
 |x::xs,cs,⟨c1,c2,h1,h2,h3⟩=>⟨c1,c2,h1,GT.lift h2 u,bA.lift u h3⟩
theorem bA.length {α:Type} [GT α] {M:bW} {w:aH}:∀{xs:List α} {cs:List Value},bA M w cs xs→cs.length=xs.length*GT.size α
 |[],_,h=>by rw[show _=[] from h];simp
 |x::xs,cs,⟨c1,c2,h1,h2,h3⟩=>by rw[h1,fF,GT.len h2,bA.length h3,iI,an2];omega
theorem bA.append {α:Type} [GT α] {M:bW} {w:aH}:∀{xs ys:List α} {cs ds:List Value},bA M w cs xs→bA M w ds ys→bA M w (cs++ds) (xs++ys)
 |[],ys,cs,ds,h,k=>by rw[show cs=[] from h];exact k
 |x::xs,ys,cs,ds,⟨c1,c2,h1,h2,h3⟩,k=>⟨c1,c2++ds,by rw[h1,anM],h2,bA.append h3 k⟩
theorem bA.Bi {α:Type} [GT α] {M:bW} {w:aH}:∀{xs:List α} {cs:List Value},bA M w cs xs→∀c∈cs,c.oneCell'=true
 |[],_,h,c,hc=>by rw[show _=[] from h] at hc;cases hc
 |x::xs,cs,⟨c1,c2,h1,h2,h3⟩,c,hc=>by
  rw[h1] at hc
  rcases anx.1 hc with h|h
  ·exact GT.one h2 c h
  ·exact bA.Bi h3 c h
theorem bA.at_ {α:Type} [GT α] {M:bW} {w:aH}:∀{xs:List α} {cs:List Value},bA M w cs xs→∀i x,xs[i]? =some x→∃c,GT.rep M w c x∧∀j v,c[j]? =some v→cs[i*GT.size α+j]? =some v
 |[],_,_,i,x,hx=>by simp at hx
 |y::xs,cs,⟨c1,c2,h1,h2,h3⟩,i,x,hx=>by
  cases i with
  |zero=>
   simp at hx;subst hx
   refine⟨c1,h2,fun j v hv=>?_⟩
   have hj:j<c1.length:=(dE.1 hv).1
   rw[h1,apH,anX,nM hj];exact hv
  |succ i=>
   simp at hx
   obtain⟨c,yW,AD⟩:=bA.at_ h3 i x hx
   refine⟨c,yW,fun j v hv=>?_⟩
   have hl:=GT.len h2
   rw[h1,ny (by rw[hl,an2];omega),hl]
   have:=AD j v hv
   rw[show (i+1)*GT.size α+j-GT.size α=i*GT.size α+j from by rw[an2];omega]
   exact this
def own {α:Type} [GT α] (B:Nat) (e:TypeId) (v:Value) (xs:List α):Item:=
 ⟨v.ownBlock,fun M w=>∃cs,w.ownsRow B e (GT.size α) v xs.length cs∧bA M w cs xs,fun {M M' w w'} h u hb=>by
  obtain⟨cs,h1,h2⟩:=h
  refine⟨cs,⟨h1.1,?_⟩,bA.lift u h2⟩
  rcases h1.2 with h3|⟨g,cap,cur,rfl,h4,h5,h6⟩
  ·exact .inl h3
  ·exact .inr ⟨g,cap,cur,rfl,h4,(hb g rfl).trans h5,h6⟩⟩
def MS (M0:bW) (l:List Item) (b:Nat):Prop:=M0 b∨∃it∈l,it.jJ=some b
structure HI (M0:bW) (w0 w:aH) (l:List Item):Prop where
 below:Ext w0 w
 m0:∀b,M0 b→b<w0.heap.size
 ju:∀it∈l,∀b,it.jJ=some b→w0.heap.size≤b∧b<w.heap.size
 nodup:(l.filterMap (·.jJ)).Nodup
 all:∀it∈l,it.holds (MS M0 l) w
abbrev HI.fS {M0:Nat→Prop} {w0 w:aH} {l:List Item} (_:HI M0 w0 w l):Nat→Prop:=MS M0 l
section
variable {M0:bW} {w0 w w':aH} {l:List Item} {it nG:Item}
theorem HI.at_ (h:HI M0 w0 w l) (i:Nat) (hi:l[i]? =some it):it.holds (MS M0 l) w:=h.all it (dC hi)
theorem HI.mb (h:HI M0 w0 w l):∀b,MS M0 l b→b<w.heap.size:=by
 rintro b (hb|⟨it,hit,hb⟩)
 ·exact anK (h.m0 b hb) h.below.size
 ·exact(h.ju it hit b hb).2
theorem HI.start (hM:∀b,M0 b→b<w.heap.size):HI M0 w w []:=
 ⟨Ext.refl w,hM,fun _ h=>(by cases h),ap7,fun _ h=>(by cases h)⟩
theorem HI.ext (h:HI M0 w0 w l) (x:Ext w w'):HI M0 w0 w' l:=
 ⟨h.below.trans x,h.m0,fun it hit b hb=>⟨(h.ju it hit b hb).1,anK (h.ju it hit b hb).2 x.size⟩,h.nodup,
  fun it hit=>it.lift (h.all it hit) (Up.ext x) fun b hb=>x.block b (h.ju it hit b hb).2⟩
theorem aD (hn:it.jJ=none):MS M0 (it::l)=MS M0 l:=by
 funext b
 simp only[MS,ans,eq_iff_iff]
 constructor
 ·rintro(h|⟨i,rfl|hi,hb⟩)
  ·exact .inl h
  ·rw[hn] at hb;cases hb
  ·exact .inr ⟨i,hi,hb⟩
 ·rintro(h|⟨i,hi,hb⟩)
  ·exact .inl h
  ·exact .inr ⟨i,.inr hi,hb⟩
theorem HI.put (h:HI M0 w0 w l) (hn:it.jJ=none) (hh:it.holds (MS M0 l) w):HI M0 w0 w (it::l):=by
 refine⟨h.below,h.m0,?_,by simpa [an0,hn] using h.nodup,?_⟩
 ·intro i hi b hb
  rcases ans.1 hi with rfl|hi
  ·rw[hn] at hb;cases hb
  ·exact h.ju i hi b hb
 ·rw[aD hn]
  intro i hi
  rcases ans.1 hi with rfl|hi
  ·exact hh
  ·exact h.all i hi
theorem HI.new (h:HI M0 w0 w l) (x:Ext w w') (b:Nat) (hn:it.jJ=some b) (hb:w.heap.size≤b) (vu:b<w'.heap.size) (hh:it.holds (MS M0 (it::l)) w'):HI M0 w0 w' (it::l):=by
 refine⟨h.below.trans x,h.m0,?_,?_,?_⟩
 ·intro i hi c hc
  rcases ans.1 hi with rfl|hi
  ·rw[hn] at hc;cases hc;exact⟨Nat.le_trans h.below.size hb,vu⟩
  ·exact⟨(h.ju i hi c hc).1,anK (h.ju i hi c hc).2 x.size⟩
 ·rw[an0,hn]
  refine aog.2 ⟨?_,h.nodup⟩
  intro hm
  obtain⟨i,hi,B9⟩:=anF.1 hm
  have:=(h.ju i hi b B9).2
  omega
 ·intro i hi
  rcases ans.1 hi with rfl|hi
  ·exact hh
  ·refine i.lift (h.all i hi) ⟨x.size,fun c hc hM=>⟨x.block c hc,?_⟩⟩ fun c hc=>x.block c (h.ju i hi c hc).2
   rintro(Mj|⟨j,hj,xO⟩)
   ·exact hM<|.inl Mj
   ·rcases ans.1 hj with rfl|hj
    ·rw[hn] at xO;cases xO;omega
    ·exact hM<|.inr ⟨j,hj,xO⟩
theorem HI.vR (h:HI M0 w0 w l) (i:Nat) (hi:l[i]? =some it) (hos:w'.os=w.os) (hta:w'.tape=w.tape) (hou:w'.output=w.output) (hs:w.heap.size≤w'.heap.size) (hdr:w.drawn≤w'.drawn)
  (hk:∀c,c<w.heap.size→it.jJ≠some c→w'.heap[c]? =w.heap[c]?)
  (hb:∀b,nG.jJ=some b→b<w'.heap.size∧(it.jJ=some b∨w.heap.size≤b))
  (hh:nG.holds (MS M0 (l.set i nG)) w'):HI M0 w0 w' (l.set i nG):=by
 have jN:i<l.length:=(dE.1 hi).1
 have hit:it∈l:=dC hi
 have BA:∀j,j∈l.set i nG→j=nG∨∃m,m≠i∧l[m]? =some j:=by
  intro j hj
  obtain⟨m,hm,rfl⟩:=ao8.1 hj
  rw[apX]
  split
  ·exact .inl rfl
  ·rename_i gA
   exact .inr ⟨m,fun e=>gA e.symm,eI (by simpa using hm)⟩
 
 have Mg:∀m j b,m≠i→l[m]? =some j→j.jJ=some b→it.jJ≠some b:=by
  intro m j b hm hj wq B9
  exact hm<|il (·.jJ) l h.nodup m i j it hj hi (by rw[wq];rfl)<|by rw[wq,B9]
 refine⟨⟨⟨hos.trans h.below.os,hta.trans h.below.tape,hou.trans h.below.output,Nat.le_trans h.below.size hs,fun c hc=>?_⟩,Nat.le_trans h.below.drawn hdr⟩,h.m0,?_,?_,?_⟩
 ·rw[hk c (anK hc h.below.size) (fun e=>by have:=(h.ju it hit c e).1;omega)]
  exact h.below.block c hc
 ·intro j hj b wq
  rcases BA j hj with rfl|⟨m,hm,AA⟩
  ·obtain⟨h1,h2⟩:=hb b wq
   refine⟨?_,h1⟩
   rcases h2 with h2|h2
   ·exact(h.ju it hit b h2).1
   ·exact Nat.le_trans h.below.size h2
  ·have:=h.ju j (dC AA) b wq
   exact⟨this.1,anK this.2 hs⟩
 ·
  have aca:l=l.take i++it::l.drop (i+1):=by
   have h1:=aor i l
   rw[an8 jN] at h1
   have h2:l[i]=it:=by
    have:=eI jN
    rw[hi] at this
    exact(ana this).symm
   rw[h2] at h1
   exact h1.symm
  have ah6:l.set i nG=l.take i++nG::l.drop (i+1):=by
   rw[List.set_eq_take_append_cons_drop,anc jN]
  have lU:=h.nodup
  rw[aca] at lU
  rw[ah6]
  simp only[apm,an0] at lU ⊢
  have L1:((l.take i).filterMap (·.jJ)++(l.drop (i+1)).filterMap (·.jJ)).Nodup:=by
   refine apK ?_ lU
   refine List.Sublist.append (List.Sublist.refl _) ?_
   cases it.jJ with
   |none=>exact List.Sublist.refl _
   |some b=>exact List.sublist_cons_self _ _
  cases Cc:nG.jJ with
  |none=>simpa [Cc] using L1
  |some b=>
   simp only[]
   have acA:∀j,(j∈l.take i∨j∈l.drop (i+1))→j.jJ≠some b:=by
    intro j hj wq
    have AA:∃m,m≠i∧l[m]? =some j:=by
     rcases hj with hj|hj
     ·obtain⟨m,hm,rfl⟩:=ao8.1 hj
      simp only[iB] at hm
      exact⟨m,by omega,by rw[List.getElem_take];exact eI aj⟩
     ·obtain⟨m,hm,rfl⟩:=ao8.1 hj
      simp only[anz] at hm
      exact⟨i+1+m,by omega,by rw[List.getElem_drop];exact eI aj⟩
    obtain⟨m,hm,AA⟩:=AA
    rcases (hb b Cc).2 with h2|h2
    ·exact Mg m j b hm AA wq h2
    ·have:=(h.ju j (dC AA) b wq).2
     omega
   have:((l.take i).filterMap (·.jJ)++b::(l.drop (i+1)).filterMap (·.jJ)).Nodup:=by
    rw[aoW] at L1 ⊢
    refine⟨L1.1,aog.2 ⟨?_,L1.2.1⟩,?_⟩
    ·intro hm
     obtain⟨j,hj,wq⟩:=anF.1 hm
     exact acA j (.inr hj) wq
    ·intro c hc c' Mj he
     subst he
     rcases ans.1 Mj with rfl|Mj
     ·obtain⟨j,hj,wq⟩:=anF.1 hc
      exact acA j (.inl hj) wq
     ·exact L1.2.2 c hc c Mj J
   exact this
 ·intro j hj
  rcases BA j hj with rfl|⟨m,hm,AA⟩
  ·exact hh
  ·have xN:=dC AA
   refine j.lift (h.all j xN) ⟨hs,fun c hc hM=>?_⟩ fun c hc=>hk c (h.ju j xN c hc).2 (Mg m j c hm AA hc)
   refine⟨hk c hc fun e=>hM (.inr ⟨it,hit,e⟩),?_⟩
   rintro(h1|⟨q,hq,hqc⟩)
   ·exact hM<|.inl h1
   ·rcases BA q hq with rfl|⟨m',hm',jg⟩
    ·rcases (hb c hqc).2 with h2|h2
     ·exact hM<|.inr ⟨it,hit,h2⟩
     ·omega
    ·exact hM<|.inr ⟨q,dC jg,hqc⟩
theorem HI.pick (h:HI M0 w0 w l) (l':List Item) (hs:∀it∈l',it∈l) (hn:(l'.filterMap (·.jJ)).Nodup):HI M0 w0 w l':=
 ⟨h.below,h.m0,fun it hit=>h.ju it (hs it hit),hn,fun it hit=>it.lift (h.all it (hs it hit)) (Up.less fun b _ hb=>by
  rcases hb with hb|⟨j,hj,wq⟩
  ·exact .inl hb
  ·exact .inr ⟨j,hs j hj,wq⟩) fun _ _=>rfl⟩
theorem HI.drop (h:HI M0 w0 w l) (i:Nat):HI M0 w0 w (l.eraseIdx i):=
 h.pick _ (fun it hit=>List.mem_of_mem_eraseIdx hit) (h.nodup.sublist ((List.eraseIdx_sublist l i).filterMap _))
theorem HI.tail (h:HI M0 w0 w (it::l)):HI M0 w0 w l:=h.drop 0
theorem HI.out (h:HI M0 w0 w l):Up (MS M0 l) w M0 w:=Up.less fun b _ hb=>.inl hb
end
def YM {α:Type} [GT α] (M:bW) (w0:aH) (x:α) (v:Value) (w:aH):Prop:=Ext w0 w∧RV M w v x
def aeA {α:Type} [GT α] (w0:aH) (x:α) (v:Value) (w:aH):Prop:=Ext w0 w∧RV (fun b=>b<w0.heap.size) w v x
def aez {α:Type} [GT α] (e:TypeId) (w0:aH) (xs:List α) (v:Value) (w:aH):Prop:=
 Ext w0 w∧(∀b,v.ownBlock=some b→b<w.heap.size)∧(own w0.heap.size e v xs).holds (fun b=>b<w0.heap.size∨v.ownBlock=some b) w
theorem bE (b:Bool):b=true∨b=false:=Bool.eq_false_or_eq_true b
theorem dT {p:Prop} [Decidable p] (h:decide p=true):p:=anT h
theorem dF {p:Prop} [Decidable p] (h:decide p=false):¬p:=aoE h
abbrev OA:=Option Addr
abbrev sL {α:Type} (a:Option Addr) (xs:List α) (c:Nat):Value:=.slice a xs.length c
abbrev iL {α:Type} [GT α] (a:Option Addr) (xs:List α) (c:Nat):Item:=tH (.slice a xs.length c) xs
abbrev oL {α:Type} [GT α] (w:aH) (e:TypeId) (a:Option Addr) (xs:List α) (c:Nat):Item:=own w.heap.size e (.slice a xs.length c) xs
end Go.Ew
namespace Go.Ew
open Go.RowKit Go.IntWalk
variable {ao:Option Addr} {m cc:Nat}
def aek (P:Program) (t:TypeId):Option Bool:=(P.underlying t).map fun| .struct _| .array _ _=>true|_=>false
structure ef (P:Program) (t:TypeId) (k:Nat) (agg:Bool) (bytes:Nat) (z:Value):Prop where
 i:(P.info? t).map (fun i=>(i.zero,i.size,i.bytes))=some (some z,k,bytes)
 a:aek P t=some agg
section
variable {P:Program} {t e:TypeId} {k bytes:Nat} {agg:Bool} {z:Value} {w:aH}
theorem ef.info (F:ef P t k agg bytes z):∃i,P.info? t=some i∧i.zero=some z∧i.size=k∧i.bytes=bytes:=info_parts F.i
theorem ef.IM (F:ef P t k agg bytes z) (w:aH):(isAgg t).run P w=.ok agg w:=by
 have h:=F.a
 unfold aek at h
 cases hu:P.underlying t with
 |none=>rw[hu] at h;cases h
 |some d=>
  rw[hu] at h
  simp only[aov,ann] at h
  subst h
  cases d<;>simp[isAgg,underlying,hu]
theorem ef.jr (F:ef P t k agg bytes z) (w:aH):(sizeOf t).run P w=.ok k w:=by
 obtain⟨i,h1,_,h2,_⟩:=F.info
 simp[sizeOf,typeInfo,h1,h2]
theorem ef.uw (F:ef P t k agg bytes z) (w:aH):(zeroValue t).run P w=.ok z w:=by
 obtain⟨i,h1,h2,_⟩:=F.info
 simp[zeroValue,typeInfo,h1,h2]
theorem gP {d:TypeDesc} (h:P.underlying t=some d) (w:aH):(underlying t).run P w=.ok d w:=by simp[underlying,h]
theorem rV (F:ef P t k agg bytes z) (hk:agg=false→k=1) {ad:Addr} {cs:List Value} (hl:cs.length=k) (hc:∀j v,cs[j]? =some v→w.cell? (ad.add j)=some v):
  (loadVar t ad).run P w=.ok (sR agg cs) w:=by
 cases agg with
 |true=>
  subst hl
  simp[loadVar,F.IM,F.jr,run_loadCells_list w ad cs hc,sR]
 |false=>
  match cs,hl,hc with
  |[c],_,hc=>
   have h0:w.cell? ad=some c:=by
    have:=hc 0 c J
    rwa [show ad.add 0=ad from by simp[Addr.add]] at this
   simp[loadVar,F.IM,h0,sR]
  |[],hl,_=>simp at hl;have:=hk rfl;omega
  |_::_::_,hl,_=>simp at hl;have:=hk rfl;omega
end
def hQ {α:Type} [GT α] (M:bW) (w:aH) (ad:Addr) (x:α):Prop:=∃cs,GT.rep M w cs x∧∀j v,cs[j]? =some v→w.cell? (ad.add j)=some v
theorem At.w {α:Type} [GT α] {M:bW} {w:aH} {ad:Addr} {x:α} (h:At M w ad x):hQ M w ad x:=let ⟨cs,h1,_,h3⟩:=h;⟨cs,h1,h3⟩
theorem At.fst {α β:Type} [GT α] [GT β] {M:bW} {w:aH} {ad:Addr} {x:α×β} (h:At M w ad x):At M w ad x.1:=by
 obtain⟨_,⟨c1,c2,rfl,h1,h2⟩,hM,hc⟩:=h
 exact⟨c1,h1,hM,fun j v hv=>hc j v (by rw[nM (dE.1 hv).1];exact hv)⟩
theorem At.snd {α β:Type} [GT α] [GT β] {M:bW} {w:aH} {ad:Addr} {x:α×β} (h:At M w ad x):At M w (ad.add (GT.size α)) x.2:=by
 obtain⟨_,⟨c1,c2,rfl,h1,h2⟩,hM,hc⟩:=h
 refine⟨c2,h2,by rw[vH];exact hM,fun j v hv=>?_⟩
 rw[add_add]
 refine hc _ v ?_
 rw[ny (by rw[GT.len h1];omega),GT.len h1]
 rw[show GT.size α+j-GT.size α=j from by omega]
 exact hv
theorem hQ.fst {α β:Type} [GT α] [GT β] {M:bW} {w:aH} {ad:Addr} {x:α×β} (h:hQ M w ad x):hQ M w ad x.1:=by
 obtain⟨_,⟨c1,c2,rfl,h1,h2⟩,hc⟩:=h
 exact⟨c1,h1,fun j v hv=>hc j v (by rw[nM (dE.1 hv).1];exact hv)⟩
theorem hQ.snd {α β:Type} [GT α] [GT β] {M:bW} {w:aH} {ad:Addr} {x:α×β} (h:hQ M w ad x):hQ M w (ad.add (GT.size α)) x.2:=by
 obtain⟨_,⟨c1,c2,rfl,h1,h2⟩,hc⟩:=h
 refine⟨c2,h2,fun j v hv=>?_⟩
 rw[add_add]
 refine hc _ v ?_
 rw[ny (by rw[GT.len h1];omega),GT.len h1]
 rw[show GT.size α+j-GT.size α=j from by omega]
 exact hv
section
variable {P:Program} {n:Nat} {ops:Array Oper} {f:aN} {w:aH} {K:aN→aH→Prop} {x y c:Operand} {d:Nat} {ty T T2 e:TypeId} {ps:String} {af:Array Edge} {v v2:Value} {a b:Int} {M M0:bW} {w0:aH} {l:List Item} {kk:IntKind} {bytes:Nat} {z:Value} {ad:Addr} {size:Nat} {agg:Bool}
theorem nF {α:Type} [GT α] {xv:α} (hA:hQ M w ad xv) (F:ef P T (GT.size α) (GT.agg α) bytes z) (ox:bI n x=true) (hx:ev f x=.pointer (some ad))
  (h:∀v,RV M w v xv→K (ck f d v) w):SO P n ops ⟨some d,.load T x,ty,ps,af,none⟩ f w K:=by
 obtain⟨cs,h1,h2⟩:=hA
 exact SO.value (v:=sR (GT.agg α) cs) (by
  simp[execOp,aL ox,hx,Instr.loadAt,Instr.sureAddr,rV F GT.single (GT.len h1) h2]) (h _ ⟨cs,h1,rfl⟩)
theorem mw {i:Int} (hA:hQ M w ad i) (F:ef P T 1 false bytes z) (ox:bI n x=true) (hx:ev f x=.pointer (some ad)) (h:aJ i→K (ck f d (.int .i64 i)) w):
  SO P n ops ⟨some d,.load T x,ty,ps,af,none⟩ f w K:=nF hA F ox hx fun v hv=>by obtain⟨rfl,hi⟩:=RV.int.1 hv;exact h hi
theorem yL {u:bt} (hA:hQ M w ad u) (F:ef P T 1 false bytes z) (ox:bI n x=true) (hx:ev f x=.pointer (some ad)) (h:K (ck f d (ag u)) w):
  SO P n ops ⟨some d,.load T x,ty,ps,af,none⟩ f w K:=nF hA F ox hx fun v hv=>by rw[RV.bv.1 hv];exact h
theorem ld8 {u:BitVec 8} (hA:hQ M w ad u) (F:ef P T 1 false bytes z) (ox:bI n x=true) (hx:ev f x=.pointer (some ad)) (h:K (ck f d (U8 u)) w):
  SO P n ops ⟨some d,.load T x,ty,ps,af,none⟩ f w K:=nF hA F ox hx fun v hv=>by rw[RV.b8.1 hv];exact h
theorem ldB {u:Bool} (hA:hQ M w ad u) (F:ef P T 1 false bytes z) (ox:bI n x=true) (hx:ev f x=.pointer (some ad)) (h:K (ck f d (.bool u)) w):
  SO P n ops ⟨some d,.load T x,ty,ps,af,none⟩ f w K:=nF hA F ox hx fun v hv=>by rw[RV.bool.1 hv];exact h
theorem ldS {u:bf} (hA:hQ M w ad u) (F:ef P T 1 false bytes z) (ox:bI n x=true) (hx:ev f x=.pointer (some ad)) (h:u.size≤maxLen→K (ck f d (.string u)) w):
  SO P n ops ⟨some d,.load T x,ty,ps,af,none⟩ f w K:=nF hA F ox hx fun v hv=>by obtain⟨rfl,hi⟩:=RV.str.1 hv;exact h hi
theorem RS.explicit {α:Type} [GT α] {xs:List α} (h:RS M w v xs):∃a c,v=.slice a xs.length c∧RV M w (.slice a xs.length c) xs:=by
 obtain⟨a,n,c,rfl,rfl,h3⟩:=h
 exact⟨a,c,J,RV.list.2 ⟨a,_,c,J,J,h3⟩⟩
theorem wm {α:Type} [GT α] {xs:List α} (hA:hQ M w ad xs) (F:ef P T 1 false bytes z) (ox:bI n x=true) (hx:ev f x=.pointer (some ad))
  (h:∀a c,RV M w (.slice a xs.length c) xs→K (ck f d (.slice a xs.length c)) w):SO P n ops ⟨some d,.load T x,ty,ps,af,none⟩ f w K:=
 nF hA F ox hx fun v hv=>by obtain⟨a,c,rfl,hr⟩:=(RV.list.1 hv).explicit;exact h a c hr
theorem cB {bb off:Nat} {cs:Array Value} {t:TypeId} {k:Nat} (H:HI M0 w0 w l) (i:Nat) (hi:l[i]? =some (box bb cs t)) (F:ef P T k agg bytes z) (ox:bI n x=true) (hx:ev f x=.pointer (some ⟨bb,off,none⟩))
  (hk:agg=false→k=1) (hl:((cs.toList.drop off).take k).length=k) (h:K (ck f d (sR agg ((cs.toList.drop off).take k))) w):SO P n ops ⟨some d,.load T x,ty,ps,af,none⟩ f w K:=by
 have hb:w.heap[bb]? =some (.cells cs t (0,0)):=H.at_ i hi
 refine SO.value (v:=sR agg ((cs.toList.drop off).take k)) ?_ h
 have hc:∀j u,((cs.toList.drop off).take k)[j]? =some u→w.cell? ((⟨bb,off,none⟩:Addr).add j)=some u:=by
  intro j u hu
  rw[show (⟨bb,off,none⟩:Addr).add j=⟨bb,off+j,none⟩ from by unfold Addr.add;split<;>simp_all,cell_of_row w bb (off+j) cs t (0,0) hb]
  have hj:j<k:=by
   have:=(dE.1 hu).1
   omega
  rw[anG,anc hj,anU] at hu
  simpa using hu
 simp[execOp,aL ox,hx,Instr.loadAt,Instr.sureAddr,rV F hk hl hc]
theorem lx {bb off:Nat} {cs:Array Value} {t:TypeId} (H:HI M0 w0 w l) (i:Nat) (hi:l[i]? =some (box bb cs t)) (F:ef P T 1 false bytes z) (ox:bI n x=true) (hx:ev f x=.pointer (some ⟨bb,off,none⟩))
  (hl:((cs.toList.drop off).take 1).length=1) (h:K (ck f d (sR false ((cs.toList.drop off).take 1))) w):SO P n ops ⟨some d,.load T x,ty,ps,af,none⟩ f w K:=cB H i hi F ox hx (fun _=>rfl) hl h
def wr (cs:Array Value) (off:Nat) (vs:List Value):Array Value:=(cs.toList.take off++vs++cs.toList.drop (off+vs.length)).toArray
theorem Cw (F:ef P T size agg bytes z) {g o:Nat} {cs:Array Value} {t:TypeId} (hg:w.heap[g]? =some (.cells cs t (0,0))) (hs:v.cells.size=size) (hf:o+v.cells.toList.length≤cs.size) (h1:∀u∈v.cells.toList,u.oneCell'=true):
  (storeVar T ⟨g,o,none⟩ v).run P w=.ok () (w.setRow g (wr cs o v.cells.toList)):=by
 have qV:=run_storeCells_at P g o t v.cells.toList 0 cs w hg (by simpa using hf) h1
 simp only[anR] at qV
 simp[storeVar,F.jr,hs,qV,wr]
theorem HI.wrote {g:Nat} {cs cs':Array Value} {t:TypeId} (H:HI M0 w0 w l) (i:Nat) (hi:l[i]? =some (box g cs t)):HI M0 w0 (w.setRow g cs') (l.set i (box g cs' t)):=by
 have hb:w.heap[g]? =some (.cells cs t (0,0)):=H.at_ i hi
 refine H.vR i hi J J J (by simp) (ane _) (fun c hc gA=>setRow_other w g c _<|fun e=>gA<|by rw[e];rfl) (fun b vu=>?_)<|setRow_heap w g cs _ t _ hb
 refine⟨?_,.inl vu⟩
 rw[size_setRow]
 exact(H.ju _ (dC hi) b vu).2
theorem bw {dd:Option Nat} {bb off:Nat} {cs:Array Value} {t:TypeId} (H:HI M0 w0 w l) (i:Nat) (hi:l[i]? =some (box bb cs t)) (F:ef P T size agg bytes z) (ox:bI n x=true) (oy:bI n y=true) (hx:ev f x=.pointer (some ⟨bb,off,none⟩)) (hy:ev f y=v)
  (hs:v.cells.size=size) (hf:Nat.ble (off+v.cells.toList.length) cs.size=true) (h1:v.cells.toList.all Value.oneCell'=true)
  (h:∀w',HI M0 w0 w' (l.set i (box bb (wr cs off v.cells.toList) t))→K (cZ f dd undef) w'):SO P n ops ⟨dd,.store T x y,ty,ps,af,none⟩ f w K:=by
 have hb:w.heap[bb]? =some (.cells cs t (0,0)):=H.at_ i hi
 refine SO.skip ?_ (h _<|H.wrote i hi)
 simp[execOp,aL ox,aL oy,hx,hy,Instr.storeAt,Instr.sureAddr,Cw F hb hs (by simpa using hf) (fun u hu=>ani.1 h1 u hu)]
theorem Bl (t:TypeId) (v:Value) (w:aH):(newVar t v).run P w=.ok ⟨w.heap.size,0,none⟩ (w.alloc (.cells v.cells t)):=by simp[newVar,newRow]
theorem HI.adX (H:HI M0 w0 w l) (cs:Array Value) (t:TypeId):HI M0 w0 (w.alloc (.cells cs t)) (box w.heap.size cs t::l):=
 H.new (Ext.alloc w _) w.heap.size rfl (ane _) (by simp) (heap_alloc_new w _)
theorem al (H:HI M0 w0 w l) (F:ef P T size agg bytes z) (h:∀b w',Ext w w'→HI M0 w0 w' (box b z.cells T::l)→K (ck f d (.pointer (some ⟨b,0,none⟩))) w'):
  SO P n ops ⟨some d,.alloc T,ty,ps,af,none⟩ f w K:=
 SO.value (v:=.pointer (some ⟨w.heap.size,0,none⟩)) (w':=w.alloc (.cells z.cells T)) (by simp[execOp,Instr.alloc,F.uw,Bl]) (h _ _ (Ext.alloc w _) (H.adX z.cells T))
theorem bx (H:HI M0 w0 w l) (ox:bI n x=true) (hx:ev f x=v) (h:∀b w',Ext w w'→HI M0 w0 w' (box b v.cells T::l)→K (ck f d (.pointer (some ⟨b,0,none⟩))) w'):
  SO P n ops ⟨some d,.box T x,ty,ps,af,none⟩ f w K:=
 SO.value (v:=.pointer (some ⟨w.heap.size,0,none⟩)) (w':=w.alloc (.cells v.cells T)) (by simp[execOp,Instr.box,aL ox,hx,Bl]) (h _ _ (Ext.alloc w _) (H.adX v.cells T))
structure gR (P:Program) (s:TypeId) (j:Nat) (off:Nat):Prop where
 h:∃fs fd,P.underlying s=some (.struct fs)∧fs[j]? =some fd∧fd.offset=off∧((P.info? fd.type).map fun i=>Nat.beq i.size 0)=some false
theorem fa {j off:Nat} (F:gR P T j off) (ox:bI n x=true) (hx:ev f x=.pointer (some ad)) (h:K (ck f d (.pointer (some (ad.add off)))) w):SO P n ops ⟨some d,.fieldAddr T x j,ty,ps,af,none⟩ f w K:=by
 obtain⟨fs,fd,h1,h2,rfl,h3⟩:=F.h
 obtain⟨i,h4,h6⟩:=anC.1 h3
 have h5:i.size≠0:=by
  intro e
  rw[e] at h6
  cases h6
 exact SO.value (v:=.pointer (some (ad.add fd.offset))) (by
  simp[execOp,aL ox,hx,Instr.fieldAt,gP h1,h2,Instr.sureAddr,fieldPlace,sizeOf,typeInfo,h4,h5]) h
theorem ia {α:Type} [GT α] {xs:List α} {i:Int} (hR:RV M w v xs) (ox:bI n x=true) (oy:bI n y=true) (hx:ev f x=v) (hy:ev f y=.int kk i) (hi:0≤i∧i<xs.length) (hu:P.underlying T=some (.slice e)) (F:ef P e (GT.size α) agg bytes z)
  (h:∀ad xv,xs[i.toNat]? =some xv→At M w ad xv→K (ck f d (.pointer (some ad))) w):SO P n ops ⟨some d,.indexAddr T x y,ty,ps,af,none⟩ f w K:=by
 obtain⟨a,m,c,rfl,h1,h2,h3,h4⟩:=RV.list.1 hR
 rcases h4 with h4|⟨ad,rfl,hs⟩
 ·omega
 ·have eo:i.toNat<xs.length:=by omega
  refine SO.value (v:=.pointer (some<|ad.add<|i.toNat*GT.size α)) ?_<|h _ xs[i.toNat] (eI eo)<|hs _ _<|eI eo
  have hb:0≤i∧i<(m:Int):=by omega
  simp[execOp,aL ox,aL oy,hx,hy,Instr.indexAt,asIntOf,gP hu,hb,F.jr]
theorem gW {α:Type} [GT α] {xs:List α} {B:Nat} {i:Int} (hO:(own B e v xs).holds M w) (ox:bI n x=true) (oy:bI n y=true) (hx:ev f x=v) (hy:ev f y=.int kk i) (hi:0≤i∧i<xs.length) (hu:P.underlying T=some (.slice e)) (F:ef P e (GT.size α) agg bytes z)
  (h:∀g xv,v.ownBlock=some g→xs[i.toNat]? =some xv→hQ M w ⟨g,i.toNat*GT.size α,none⟩ xv→K (ck f d (.pointer (some ⟨g,i.toNat*GT.size α,none⟩))) w):SO P n ops ⟨some d,.indexAddr T x y,ty,ps,af,none⟩ f w K:=by
 obtain⟨cs,h1,h2⟩:=hO
 rcases h1.2 with ⟨_,h3⟩|⟨g,cap,cur,rfl,h3,h4,h5,h6,h7,h8⟩
 ·omega
 ·have eo:i.toNat<xs.length:=by omega
  have lA:(⟨g,0,none⟩:Addr).add (i.toNat*GT.size α)=⟨g,i.toNat*GT.size α,none⟩:=by unfold Addr.add;split<;>simp_all
  refine SO.value (v:=.pointer (some ⟨g,i.toNat*GT.size α,none⟩)) ?_<|h g xs[i.toNat] J (eI eo) ?_
  ·have hb:0≤i∧i<(xs.length:Int):=by omega
   simp[execOp,aL ox,aL oy,hx,hy,Instr.indexAt,asIntOf,gP hu,hb,F.jr,lA]
  ·obtain⟨c,yW,AD⟩:=bA.at_ h2 i.toNat xs[i.toNat] (eI eo)
   refine⟨c,yW,fun j u hu=>?_⟩
   have uU:=h1.cells (g:=g) J (i.toNat*GT.size α+j) u<|AD j u hu
   rwa [←add_add,lA] at uU
theorem bA.set {α:Type} [GT α] {M:bW} {w:aH} {y:α} {c:List Value} (hy:GT.rep M w c y):∀{xs:List α} {cs:List Value} (i:Nat),i<xs.length→bA M w cs xs→
  bA M w (cs.take (i*GT.size α)++c++cs.drop (i*GT.size α+c.length)) (xs.set i y)
 |x::xs,cs,0,_,⟨c1,c2,h1,h2,h3⟩=>by
  refine⟨c,c2,?_,hy,h3⟩
  rw[h1,apH,ao',List.nil_append,anX,GT.len hy,←GT.len h2,List.drop_left]
 |x::xs,cs,i+1,hi,⟨c1,c2,h1,h2,h3⟩=>by
  have:=bA.set hy i (by simpa using hi) h3
  refine⟨c1,_,?_,h2,this⟩
  have hl:=GT.len h2
  rw[h1,show (i+1)*GT.size α=c1.length+i*GT.size α from by rw[hl,an2];omega,apV]
  rw[apr,List.drop_append,anj aj,aoN aj]
  rw[show c1.length+i*GT.size α-c1.length=i*GT.size α from by omega,show c1.length+(i*GT.size α+c.length)-c1.length=i*GT.size α+c.length from by omega]
  simp[anM]
theorem Np {β:Type} (cur cy:List β) (o n:Nat) (h:o+cy.length≤n) (hn:n≤cur.length):
  (cur.take o++cy++cur.drop (o+cy.length)).take n=(cur.take n).take o++cy++(cur.take n).drop (o+cy.length):=by
 rw[apr,apr,ap9,aoJ,aoJ,fF,iB]
 rw[show min n o=o from by omega,show min o n=o from by omega,show min o cur.length=o from by omega,anj (l:=cy) aj]
theorem oQ {dd:Option Nat} {α:Type} [GT α] {xs:List α} {yv:α} {B:Nat} {j g:Nat} {u:Value} (H:HI M0 w0 w l) (i:Nat) (hi:l[i]? =some (own B e v xs)) (hg:v.ownBlock=some g) (hB:B=w0.heap.size) (hj:j<xs.length) (F:ef P T (GT.size α) agg bytes z) (ox:bI n x=true) (oy:bI n y=true)
  (hx:ev f x=.pointer (some ⟨g,j*GT.size α,none⟩)) (hy:ev f y=u) (hR:RV (MS M0 l) w u yv)
  (h:∀w',HI M0 w0 w' (l.set i (own B e v (xs.set j yv)))→K (cZ f dd undef) w'):SO P n ops ⟨dd,.store T x y,ty,ps,af,none⟩ f w K:=by
 subst hB
 obtain⟨cs,h1,h2⟩:=H.at_ i hi
 rcases h1.2 with ⟨rfl,h3⟩|⟨g',cap,cur,rfl,h3,h4,h5,h6,h7,h8⟩
 ·cases hg
 ·have hgg:g'=g:=by simpa [Value.ownBlock] using hg
  subst hgg
  obtain⟨cy,SE,rfl⟩:=hR
  have r5:=TX (agg:=GT.agg α) (cs:=cy) (fun h=>by rw[GT.len SE];exact GT.single h)<|GT.one SE
  have X2:=GT.len SE
  have VR:j*GT.size α+cy.length≤cur.size:=by
   rw[h7,X2]
   have:(j+1)*GT.size α≤cap*GT.size α:=aoe _ aj
   rw[an2] at this
   omega
  have kQ:=Cw (P:=P) (w:=w) F (g:=g') (o:=j*GT.size α) (v:=sR (GT.agg α) cy) h4 (by rw[r5];simpa using X2) (by rw[r5];simpa using VR)<|by rw[r5];simpa using GT.one SE
  rw[r5] at kQ
  simp only[List.toList_toArray] at kQ
  refine SO.skip (w':=w.setRow g' (wr cur (j*GT.size α) cy)) ?_ (h _ ?_)
  ·simp[execOp,aL ox,aL oy,hx,hy,Instr.storeAt,Instr.sureAddr,kQ]
  ·have C8:∀c,c<w.heap.size→(own w0.heap.size e (Value.slice (some ⟨g',0,none⟩) xs.length cap) xs).jJ≠some c→(w.setRow g' (wr cur (j*GT.size α) cy)).heap[c]? =w.heap[c]?:=
    fun c hc gA=>setRow_other w g' c _ (fun e=>gA (by rw[e];rfl))
   have hblk:∀b,(own w0.heap.size e (Value.slice (some ⟨g',0,none⟩) xs.length cap) (xs.set j yv)).jJ=some b→b<(w.setRow g' (wr cur (j*GT.size α) cy)).heap.size∧((own w0.heap.size e (Value.slice (some ⟨g',0,none⟩) xs.length cap) xs).jJ=some b∨w.heap.size≤b):=by
    intro b hb
    refine⟨?_,.inl hb⟩
    rw[size_setRow]
    exact(H.ju _ (dC hi) b hb).2
   refine H.vR i hi J J J (by simp) (ane _) C8 hblk ?_
   refine⟨cs.take (j*GT.size α)++cy++cs.drop (j*GT.size α+cy.length),?_,?_⟩
   ·rw[am']
    have hlen:(cs.take (j*GT.size α)++cy++cs.drop (j*GT.size α+cy.length)).length=xs.length*GT.size α:=by
     have rZ:=h1.1
     have:(j+1)*GT.size α≤xs.length*GT.size α:=aoe _ aj
     rw[an2] at this
     simp only[fF,iB,anz]
     omega
    refine⟨hlen,.inr ⟨g',cap,wr cur (j*GT.size α) cy,J,h3,setRow_heap w g' cur _ e _ h4,h5,h6,?_,?_⟩⟩
    ·simp only[wr,aoK,fF,iB,anz,anW]
     omega
    ·have hle:(j+1)*GT.size α≤xs.length*GT.size α:=aoe _ aj
     rw[an2] at hle
     have rZ:=h1.1
     have pQ:xs.length*GT.size α≤cur.size:=by rw[h7];exact aoe _ h5
     simp only[wr]
     rw[←h8]
     exact Np cur.toList cy (j*GT.size α) (xs.length*GT.size α) aj<|by simpa using pQ
   ·
    have qU:Up (MS M0 l) w (MS M0 (l.set i (own w0.heap.size e (Value.slice (some ⟨g',0,none⟩) xs.length cap) (xs.set j yv)))) (w.setRow g' (wr cur (j*GT.size α) cy)):=by
     refine⟨by simp,fun b hb hM=>⟨setRow_other w g' b _ (fun e=>hM<|.inr ⟨_,dC hi,by rw[e];rfl⟩),?_⟩⟩
     rintro(Df|⟨it,hit,ml⟩)
     ·exact hM<|.inl Df
     ·rcases an1 hit with hit|rfl
      ·exact hM<|.inr ⟨it,hit,ml⟩
      ·exact hM<|.inr ⟨_,dC hi,ml⟩
    exact bA.lift qU<|bA.set SE j hj h2
theorem dD (ox:bI n x=true) (hx:ev f x=.slice ao m cc) (hu:P.underlying T=some (.slice e)) (h:K (ck f d (.int .i64 (m:Int))) w):
  SO P n ops ⟨some d,.call {callee:=.builtin .len,args:=#[x],argTypes:=#[T]},ty,ps,af,none⟩ f w K:=
 SO.value (v:=.int .i64 (m:Int)) (by simp[execOp,resolve,invoke,builtin,Builtin.len_,aL ox,hx,gP hu,goInt]) h
theorem wi {s:bf} (ox:bI n x=true) (hx:ev f x=.string s) (hu:P.underlying T=some .string) (h:K (ck f d (.int .i64 (s.size:Int))) w):
  SO P n ops ⟨some d,.call {callee:=.builtin .len,args:=#[x],argTypes:=#[T]},ty,ps,af,none⟩ f w K:=
 SO.value (v:=.int .i64 (s.size:Int)) (by simp[execOp,resolve,invoke,builtin,Builtin.len_,aL ox,hx,gP hu,goInt]) h
theorem Zc (hu:P.underlying T=some (.slice e)):(binOp .eql T (.slice ao m cc) (.slice none 0 0)).run P w=.ok (.bool ao.isNone) w:=by
 show ((Op.equal T (.slice ao m cc) (.slice none 0 0) >>=fun b=>pure (Value.bool b)):Sem Value).run P w=_
 have h:(Op.equal T (.slice ao m cc) (.slice none 0 0)).run P w=.ok ao.isNone w:=by
  rw[show Op.equal T (.slice ao m cc) (.slice none 0 0)=Op.equalIn (9999+1) T (.slice ao m cc) (.slice none 0 0) from rfl]
  unfold Op.equalIn
  rw[Sem.run_bind,gP hu]
  cases ao<;>rfl
 rw[Sem.run_bind,h];rfl
theorem TB (ox:bI n x=true) (oy:bI n y=true) (hx:ev f x=.slice ao m cc) (hy:ev f y=.slice none 0 0) (hu:P.underlying T=some (.slice e)) (h:K (ck f d (.bool ao.isNone)) w):
  SO P n ops ⟨some d,.binOp .eql T x y T2,ty,ps,af,none⟩ f w K:=
 SO.value (v:=.bool ao.isNone) (by
  have hg:(eqGuard .eql T x y (.slice ao m cc) (.slice none 0 0)).run P w=.ok () w:=by unfold eqGuard;rfl
  have hr:=Zc (P:=P) (w:=w) (ao:=ao) (m:=m) (cc:=cc) hu
  simp only[execOp,aL ox,aL oy,hx,hy,Sem.run_bind,hg,hr,Result.andThen_ok,Sem.run_pure]) h
end
end Go.Ew
namespace Go.Ew
open Go.RowKit Go.IntWalk
variable {B i:Nat} {v u:Value}
theorem Ext.grown {w w':aH} (h:w.grownBy w' none) (hd:w.drawn≤w'.drawn):Ext w w':=⟨⟨h.os,h.tape,h.output,h.size,fun k hk=>h.block k hk (by simp)⟩,hd⟩
def Src {α:Type} [GT α] (M:bW) (w:aH) (v:Value) (ys:List α):Prop:=
 ∃a c,v=.slice a ys.length c∧(ys.length=0∨∃ad,a=some ad∧∃cs,bA M w cs ys∧∀j u,cs[j]? =some u→w.cell? (ad.add j)=some u)
theorem Un.chunks {α:Type} [GT α] {M:bW} {w:aH}:∀{xs:List α} {ad:Addr},Un M w ad xs→∃cs,bA M w cs xs∧∀j u,cs[j]? =some u→w.cell? (ad.add j)=some u
 |[],ad,_=>⟨[],rfl,fun j u h=>by simp at h⟩
 |x::xs,ad,h=>by
  obtain⟨c1,h1,_,h2⟩:=h 0 x rfl
  have Qk:Un M w (ad.add (GT.size α)) xs:=by
   intro i y hy
   have:=h (i+1) y<|by simpa using hy
   rw[add_add]
   rwa [show (i+1)*GT.size α=GT.size α+i*GT.size α from by rw[an2];omega] at this
  obtain⟨c2,h3,h4⟩:=Un.chunks Qk
  refine⟨c1++c2,⟨c1,c2,J,h1,h3⟩,fun j u hu=>?_⟩
  rw[List.getElem?_append] at hu
  have hl:=GT.len h1
  split at hu
  ·have:=h2 j u hu
   rwa [add_add,apH,anX] at this
  ·have:=h4 _ u hu
   rw[add_add,hl] at this
   rwa [show GT.size α+(j-GT.size α)=j from by omega] at this
theorem RV.src {α:Type} [GT α] {M:bW} {w:aH} {v:Value} {ys:List α} (h:RV M w v ys):Src M w v ys:=by
 obtain⟨a,n,c,rfl,rfl,h3,h4,h5⟩:=RV.list.1 h
 refine⟨a,c,J,?_⟩
 rcases h5 with h5|⟨ad,h5,h6⟩
 ·exact .inl h5
 ·exact .inr ⟨ad,h5,h6.chunks⟩
theorem gY {α:Type} [GT α] {M:bW} {w:aH} {v:Value} {ys:List α} {B:Nat} {e:TypeId} (h:(own B e v ys).holds M w):Src M w v ys:=by
 obtain⟨cs,h1,h2⟩:=h
 rcases h1.2 with ⟨rfl,h3⟩|⟨g,cap,cur,rfl,h3,h4,h5,h6,h7,h8⟩
 ·exact⟨none,0,by rw[h3],.inl h3⟩
 ·exact⟨_,cap,J,.inr ⟨_,J,cs,h2,h1.cells (g:=g) rfl⟩⟩
theorem Ah {α:Type} [GT α] {M M':bW} {w:aH} {v:Value} {ys:List α} {B:Nat} {e:TypeId} (h:(own B e v ys).holds M w) (hM:∀b,b<w.heap.size→M' b→M b) (hv:∀b,v.ownBlock=some b→¬M' b):RV M' w v ys:=by
 obtain⟨cs,h1,h2⟩:=h
 refine RV.list.2 ?_
 rcases h1.2 with ⟨rfl,h3⟩|⟨g,cap,cur,rfl,h3,h4,h5,h6,h7,h8⟩
 ·exact⟨none,0,0,J,h3,ane _,by simp[maxLen],.inl rfl⟩
 ·refine⟨_,_,cap,J,J,h5,h6,.inr ⟨_,J,fun i x hx=>?_⟩⟩
  obtain⟨c,yW,AD⟩:=bA.at_ h2 i x hx
  refine⟨c,GT.lift yW (Up.less hM),by rw[vH];exact hv g rfl,fun j u hu=>?_⟩
  rw[add_add]
  exact h1.cells (g:=g) J _ u<|AD j u hu
section
variable {M0:bW} {w0 w w':aH} {l:List Item} {α:Type} [GT α] {v:Value} {xs:List α} {e:TypeId}
theorem wI (H:HI M0 w0 w l) (hi:l[i]? =some (own B e v xs)):∀b,v.ownBlock=some b→w0.heap.size≤b∧b<w.heap.size:=H.ju _ (dC hi)
theorem HI.freeze (H:HI M0 w0 w l) (i:Nat) (hi:l[i]? =some (own B e v xs)):HI M0 w0 w (l.set i (tH v xs)):=by
 refine H.vR i hi J J J (ane _) (ane _) (fun _ _ _=>rfl) (fun b hb=>by cases hb) ?_
 have hO:=H.at_ i hi
 refine Ah hO (fun b hb hM=>?_)<|fun b hb hM=>?_
 ·rcases hM with hM|⟨it,hit,ml⟩
  ·exact .inl hM
  ·rcases an1 hit with hit|rfl
   ·exact .inr ⟨it,hit,ml⟩
   ·cases ml
 ·have Cc:=wI H hi b hb
  rcases hM with hM|⟨it,hit,ml⟩
  ·have:=H.m0 b hM;omega
  ·obtain⟨m,hm,rfl⟩:=ao8.1 hit
   rw[apX] at ml
   split at ml
   ·cases ml
   ·rename_i gA
    have ud:m<l.length:=by simpa using hm
    exact gA<|il (·.jJ) l H.nodup i m _ l[m] hi (eI ud) (by show (v.ownBlock).isSome=true;rw[hb];rfl)<|by rw[ml];exact hb
theorem HI.ql (α:Type) [GT α] (H:HI M0 w0 w l) (e:TypeId):HI M0 w0 w (own w0.heap.size e (.slice none 0 0) ([]:List α)::l):=
 H.put rfl ⟨[],World.ownsRow_nil w _ e _,rfl⟩
theorem HI.afZ (H:HI M0 w0 w l) (h:YM (MS M0 l) w xs v w'):HI M0 w0 w' (tH v xs::l):=(H.ext h.1).put rfl h.2
theorem aeA.afZ {β:Type} [GT β] {y:β} {M:bW} (h:aeA w y v w') (hM:∀b,M b→b<w.heap.size):YM M w y v w':=⟨h.1,h.2.lift (Up.less fun b _ hb=>hM b hb)⟩
theorem HI.Zp (H:HI M0 w0 w l) (i:Nat) (hi:l[i]? =some (own w0.heap.size e v xs)) (aky:∀it∈l,∀b,it.jJ=some b→True):RV M0 w v xs:=by
 have hO:=H.at_ i hi
 refine Ah hO (fun b _ hb=>.inl hb)<|fun b hb hM=>?_
 have:=wI H hi b hb
 have:=H.m0 b hM
 omega
end
section
variable {P:Program} {n:Nat} {ops:Array Oper} {f:aN} {w:aH} {K:aN→aH→Prop} {x y c:Operand} {d:Nat} {ty T T2 e:TypeId} {ps:String} {af:Array Edge} {v v2 u:Value} {a b:Int} {M M0:bW} {w0:aH} {l:List Item} {kk:IntKind} {bytes:Nat} {z:Value} {ad:Addr} {size:Nat} {agg:Bool}
theorem vT {s m:Nat} {cs:List Value} (h:w.ownsRow B e s v m cs):∃a c,v=.slice a m c:=by
 rcases h.2 with ⟨rfl,rfl⟩|⟨g,cap,cur,rfl,_⟩
 ·exact⟨none,0,J⟩
 ·exact⟨_,cap,J⟩
theorem ap {α:Type} [GT α] {xs ys:List α} {B:Nat} (H:HI M0 w0 w l) (i:Nat) (hi:l[i]? =some (own B e v xs)) (hB:B=w0.heap.size) (ox:bI n x=true) (oy:bI n y=true) (hx:ev f x=v) (hy:ev f y=u)
  (hs:Src (MS M0 l) w u ys) (hu:P.underlying T=some (.slice e)) (F:ef P e (GT.size α) agg bytes z) (hz:z.cells.size=GT.size α) (hl:(xs.length+ys.length)*bytes≤140737488355328) (oe:xs.length+ys.length≤9223372036854775807)
  (h:∀a c w',HI M0 w0 w' (l.set i (own B e (.slice a (xs++ys).length c) (xs++ys)))→K (ck f d (.slice a (xs++ys).length c)) w'):
  SO P n ops ⟨some d,.call {callee:=.builtin .append,args:=#[x,y],argTypes:=#[T,T]},ty,ps,af,none⟩ f w K:=by
 subst hB
 obtain⟨cs,h1,h2⟩:=H.at_ i hi
 obtain⟨a0,c0,rfl,FE⟩:=hs
 obtain⟨inf,sW,ug,vo,C'⟩:=F.info
 have eo:∀b,v.ownBlock=some b→w0.heap.size≤b∧b<w.heap.size:=wI H hi
 
 obtain⟨v',w',kQ,zF,rH,Cb⟩:∃v' w',(Builtin.append_ #[T,T] ty #[v,.slice a0 ys.length c0]).run P w=.ok v' w'∧
   (∃ds,w'.ownsRow w0.heap.size e (GT.size α) v' (xs.length+ys.length) (cs++ds)∧bA (MS M0 l) w ds ys)∧w.grownBy w' v.ownBlock∧(v'.ownBlock=v.ownBlock∨∀b,v'.ownBlock=some b→w.heap.size≤b∧b<w'.heap.size):=by
  rcases FE with h0|⟨ad,rfl,ds,uh,Da⟩
  ·have hys:ys=[]:=aoD h0
   subst hys
   have hr:(Builtin.append_ #[T,T] ty #[v,.slice a0 0 c0]).run P w=.ok v w:=by
    rcases h1.2 with ⟨rfl,hn⟩|⟨g,cap,cur,rfl,hb,hg,hnc,_⟩
    ·cases a0<;>simp[Builtin.append_,gP hu,sizeOf,typeInfo,sW,Builtin.lenOf,Builtin.firstCells,loadCells,loadCellsFrom]
    ·have:xs.length≤cap:=hnc
     cases a0<;>simp[Builtin.append_,gP hu,sizeOf,typeInfo,sW,Builtin.lenOf,Builtin.firstCells,loadCells,loadCellsFrom,this,storeCells]
   exact⟨v,w,by simpa using hr,⟨[],by simpa using h1,J⟩,⟨J,J,J,ane _,fun _ _ _=>rfl⟩,.inl rfl⟩
  ·obtain⟨v',w',r1,r2,r3,_,r4⟩:=run_append_own_at (P:=P) w w0.heap.size T ty e inf z (GT.size α) bytes hu sW ug vo C' hz GT.pos v xs.length cs h1 ad ys.length c0 ds (bA.length uh) Da (bA.Bi uh) (by simp only[maxLen];omega) hl H.below.size
   refine⟨v',w',r1,⟨ds,r2,uh⟩,r3,?_⟩
   rcases r4 with hb|hb
   ·exact .inl hb
   ·refine .inr fun b wo=>⟨?_,(r2.lt b wo).2⟩
    rw[hb] at wo
    cases wo
    exact ane _
 obtain⟨ds,ho,S4⟩:=zF
 obtain⟨a',c',rfl⟩:=vT ho
 refine SO.value (v:=.slice a' (xs.length+ys.length) c') (w':=w') ?_ ?_
 ·simp[execOp,resolve,invoke,builtin,aL ox,aL oy,hx,hy,kQ]
 ·have:=h a' c' w'
  rw[fF] at this
  refine this ?_
  have hblk:∀b,(own w0.heap.size e (.slice a' (xs.length+ys.length) c') (xs++ys)).jJ=some b→b<w'.heap.size∧((own w0.heap.size e v xs).jJ=some b∨w.heap.size≤b):=by
   intro b hb
   refine⟨(ho.lt b hb).2,?_⟩
   rcases Cb with Cb|Cb
   ·exact .inl (by rw[←hb];exact Cb.symm)
   ·exact .inr (Cb b hb).1
  refine H.vR i hi rH.os rH.tape rH.output rH.size (sN _ kQ) (fun c hc gA=>rH.block c hc<|fun e=>gA e.symm) hblk ?_
  refine⟨cs++ds,by rw[fF];exact ho,?_⟩
  refine bA.lift ?_<|bA.append h2 S4
  refine⟨rH.size,fun b hb hM=>⟨rH.block b hb (fun e=>hM<|.inr ⟨_,dC hi,e.symm⟩),?_⟩⟩
  rintro(Df|⟨it,hit,ml⟩)
  ·exact hM<|.inl Df
  ·rcases an1 hit with hit|rfl
   ·exact hM<|.inr ⟨it,hit,ml⟩
   ·rcases (hblk b ml).2 with h'|h'
    ·exact hM<|.inr ⟨_,dC hi,h'⟩
    ·omega
theorem lY {α:Type} [GT α] {xs ys:List α} {B:Nat} (H:HI M0 w0 w l) (i:Nat) (hi:l[i]? =some (own B e v xs)) (hB:B=w0.heap.size) (ox:bI n x=true) (oy:bI n y=true) (hx:ev f x=v) (hy:ev f y=u)
  (hs:Src (MS M0 l) w u ys) (hu:P.underlying T=some (.slice e)) (F:ef P e (GT.size α) agg bytes z) (hz:z.cells.size=GT.size α) (hl:(xs.length+ys.length)*bytes≤140737488355328) (og:Nat.ble 1 bytes=true)
  (h:∀a c w',HI M0 w0 w' (l.set i (own B e (.slice a (xs++ys).length c) (xs++ys)))→K (ck f d (.slice a (xs++ys).length c)) w'):
  SO P n ops ⟨some d,.call {callee:=.builtin .append,args:=#[x,y],argTypes:=#[T,T]},ty,ps,af,none⟩ f w K:=
 ap H i hi hB ox oy hx hy hs hu F hz hl (Nat.le_trans (Nat.le_mul_of_pos_right _ (aop og)) (Nat.le_trans hl au)) h
theorem ZE {α:Type} [GT α] {M:bW} {xs:List α} {cells:Array Value} {B:Nat} {w w':aH} (hx:Ext w w') (hB:B≤w.heap.size) (hh:w'.heap[w.heap.size]? =some (.cells cells e (0,0))) (hc:bA M w cells.toList xs) (hl:xs.length≤maxLen) {M':bW} (hM:∀b,b<w.heap.size→M' b→M b):
  (own B e (.slice (some ⟨w.heap.size,0,none⟩) xs.length xs.length) xs).holds M' w':=by
 refine⟨cells.toList,⟨bA.length hc,.inr ⟨w.heap.size,xs.length,cells,J,hB,hh,ane _,hl,?_,?_⟩⟩,bA.lift ⟨hx.size,fun b hb hn=>⟨hx.block b hb,fun h=>hn (hM b hb h)⟩⟩ hc⟩
 ·have:=bA.length hc;simpa using this
 ·rw[anj (by rw[bA.length hc];exact ane _)]
theorem aeB {it:Item} {b:Nat} (hn:it.jJ=some b):∀c,c<b→MS M0 (it::l) c→MS M0 l c:=by
 rintro c hc (h|⟨j,hj,xO⟩)
 ·exact .inl h
 ·rcases ans.1 hj with rfl|hj
  ·rw[hn] at xO;cases xO;omega
  ·exact .inr ⟨j,hj,xO⟩
theorem ew:(([]:List (Nat×Operand)).map fun p=>(p.1,ev f p.2))=[]:=rfl
theorem cm {L:List (Nat×Operand)} {V:List (Nat×Value)} (h:ev f x=v) (t:(L.map fun p=>(p.1,ev f p.2))=V):(((i,x)::L).map fun p=>(p.1,ev f p.2))=(i,v)::V:=by
 rw[anA,t,h]
theorem bs {α:Type} [GT α] {xs:List α} {len:Nat} {L:List (Nat×Operand)} {V:List (Nat×Value)} {cells:Array Value} (H:HI M0 w0 w l) (ol:Gw n (L.map (·.2))=true) (hL:(L.map fun p=>(p.1,ev f p.2))=V)
  (hb:∀w,(Instr.buildSlice T len V.toArray).run P w=.ok (.slice (some ⟨w.heap.size,0,none⟩) len len) (w.alloc (.cells cells e)))
  (hc:bA (MS M0 l) w cells.toList xs) (hl:xs.length=len) (hm:len≤maxLen)
  (h:∀g w',Ext w w'→HI M0 w0 w' (own w0.heap.size e (.slice (some ⟨g,0,none⟩) len len) xs::l)→K (ck f d (.slice (some ⟨g,0,none⟩) len len)) w'):
  SO P n ops ⟨some d,.buildSlice T len L.toArray,ty,ps,af,none⟩ f w K:=by
 subst hl hL
 refine SO.value (v:=.slice (some ⟨w.heap.size,0,none⟩) xs.length xs.length) (w':=w.alloc (.cells cells e)) ?_<|h _ _ (Ext.alloc w _) ?_
 ·have he:(L.map fun p=>(p.1,(cj n f).eval p.2))=L.map fun p=>(p.1,ev f p.2):=by
   apply aon
   intro p hp
   rw[aL (ani.1 ol p.2 (anZ.2 ⟨p,hp,rfl⟩))]
  simp only[execOp,apb]
  have:=hb w
  rw[←he] at this
  simp[this]
 ·refine H.new (Ext.alloc w _) w.heap.size J (ane _) (by simp) ?_
  exact ZE (Ext.alloc w _) H.below.size (heap_alloc_new w _) hc hm<|aeB (b:=w.heap.size) J
theorem mk {α:Type} [GT α] {m:Nat} {zx:α} (H:HI M0 w0 w l) (ox:bI n x=true) (oy:bI n y=true) (hx:ev f x=.int .i64 (m:Int)) (hy:ev f y=.int .i64 (m:Int)) (hu:P.underlying T=some (.slice e)) (F:ef P e (GT.size α) (GT.agg α) bytes z)
  (hz:∀M w,GT.rep (α:=α) M w z.cells.toList zx) (hb:bytes*m≤281474976710656) (hm:m≤9223372036854775807)
  (h:∀g w',Ext w w'→HI M0 w0 w' (own w0.heap.size e (.slice (some ⟨g,0,none⟩) m m) (List.replicate m zx)::l)→K (ck f d (.slice (some ⟨g,0,none⟩) m m)) w'):
  SO P n ops ⟨some d,.makeSlice T x y,ty,ps,af,none⟩ f w K:=by
 obtain⟨inf,sW,ug,vo,C'⟩:=F.info
 obtain⟨w',kQ,zF,rH⟩:=run_make_full (P:=P) w w0.heap.size T e inf z (GT.size α) hu sW ug vo .i64 .i64 m (by rw[C'];exact hb) (by simp only[maxLen];omega) H.below.size
 refine SO.value (v:=.slice (some ⟨w.heap.size,0,none⟩) m m) (w':=w') (by simp[execOp,aL ox,aL oy,hx,hy,kQ])<|h _ _ (Ext.grown rH<|sN _ kQ) ?_
 refine H.new (Ext.grown rH<|sN _ kQ) w.heap.size J (ane _) ((zF.lt _ J).2) ?_
 refine⟨_,by rw[oG];exact zF,?_⟩
 
 have XC:z.cells.toList.length=GT.size α:=GT.len<|hz (fun _=>False) w
 have key:∀k,(madeCells z.cells (k*GT.size α)).toList=(List.replicate k z.cells.toList).flatten:=by
  intro k
  apply aoO
  ·simp[madeCells,XC,apI]
  ·intro i h1 h2
   have tL:i<k*GT.size α:=by simpa [madeCells] using h1
   simp only[madeCells]
   have hs:z.cells.size=GT.size α:=by simpa using XC
   have C6:0<GT.size α:=GT.pos
   have eo:i%GT.size α<z.cells.size:=by rw[hs];exact Nat.mod_lt _ C6
   have e2:((List.replicate k z.cells.toList).flatten)[i]? =z.cells.toList[i%GT.size α]?:=by
    clear h1 h2 eo
    induction k generalizing i with
    |zero=>simp at tL
    |succ k ih=>
     rw[an4,aoY,List.getElem?_append]
     split
     ·rename_i hl
      rw[XC] at hl
      rw[apo hl]
     ·rename_i hl
      rw[XC] at hl ⊢
      rw[ih (i-GT.size α) (by rw[an2] at tL;omega)]
      rw[show i%GT.size α=(i-GT.size α)%GT.size α from by
       rw[Nat.mod_eq_sub_mod aj]]
   have e3:=eI h2
   rw[e2,eI (by simpa using eo)] at e3
   rw[←ana e3]
   simp only[ap4,Array.getElem_map,Array.getElem_range,hs]
   rw[aqi z.cells (i%GT.size α) eo]
 have hcs:∀k M w,bA (α:=α) M w ((List.replicate k z.cells.toList).flatten) (List.replicate k zx):=by
  intro k
  induction k with
  |zero=>intro M w;rfl
  |succ k ih=>intro M w;exact⟨_,_,by rw[an4,aoY],hz M w,ih M w⟩
 rw[key]
 exact hcs _ _ _
theorem mk0 {α:Type} [GT α] {m:Nat} (H:HI M0 w0 w l) (ox:bI n x=true) (oy:bI n y=true) (hx:ev f x=.int .i64 0) (hy:ev f y=.int .i64 (m:Int)) (hu:P.underlying T=some (.slice e)) (F:ef P e (GT.size α) agg bytes z)
  (hb:bytes*m≤281474976710656) (hm:m≤9223372036854775807)
  (h:∀g w',Ext w w'→HI M0 w0 w' (own w0.heap.size e (.slice (some ⟨g,0,none⟩) 0 m) ([]:List α)::l)→K (ck f d (.slice (some ⟨g,0,none⟩) 0 m)) w'):
  SO P n ops ⟨some d,.makeSlice T x y,ty,ps,af,none⟩ f w K:=by
 obtain⟨inf,sW,ug,vo,C'⟩:=F.info
 obtain⟨w',kQ,zF,rH⟩:=run_make_own (P:=P) w w0.heap.size T e inf z (GT.size α) hu sW ug vo .i64 .i64 m (by rw[C'];exact hb) (by simp only[maxLen];omega) H.below.size
 refine SO.value (v:=.slice (some ⟨w.heap.size,0,none⟩) 0 m) (w':=w') (by simp[execOp,aL ox,aL oy,hx,hy,kQ])<|h _ _ (Ext.grown rH<|sN _ kQ) ?_
 exact H.new (Ext.grown rH<|sN _ kQ) w.heap.size J (ane _) ((zF.lt _ J).2) ⟨[],zF,J⟩
theorem RV.cut {α:Type} [GT α] {M:bW} {w:aH} {ao:Option Addr} {m cc:Nat} {xs:List α} (h:RV M w (.slice ao m cc) xs) (lo hi:Nat) (h1:lo≤hi) (h2:hi≤xs.length) (hc:cc=lo→xs.length=lo):
  RV M w (.slice (if cc=lo then ao else ao.map (·.add (lo*GT.size α))) (hi-lo) (cc-lo)) ((xs.drop lo).take (hi-lo)):=by
 obtain⟨a,n,c,he,h3,h4,h5,h6⟩:=RV.list.1 h
 simp only[Value.slice.injEq] at he
 obtain⟨rfl,rfl,rfl⟩:=he
 refine RV.list.2 ⟨_,_,_,J,by simp;omega,by omega,by omega,?_⟩
 by_cases h0:hi-lo=0
 ·exact .inl h0
 ·rcases h6 with h6|⟨ad,rfl,hs⟩
  ·omega
  ·have gA:cc≠lo:=fun e=>by have:=hc e;omega
   refine .inr ⟨ad.add (lo*GT.size α),by simp[gA],fun i x hx=>?_⟩
   rw[anG] at hx
   split at hx
   ·rw[anU] at hx
    have:=hs (lo+i) x hx
    rw[add_add]
    rwa [←an2]
   ·cases hx
theorem Oa {α:Type} [GT α] {xs:List α} {ao:Option Addr} {cc:Nat} {lo:Int} {rD:Operand} (hR:RV M w (.slice ao xs.length cc) xs) (ox:bI n x=true) (ol:bI n rD=true) (hx:ev f x=.slice ao xs.length cc)
  (hl:ev f rD=.int kk lo) (hb:0≤lo∧lo≤xs.length) (hu:P.underlying T=some (.slice e)) (F:ef P e (GT.size α) agg bytes z)
  (h:∀a c,RV M w (.slice a (xs.drop lo.toNat).length c) (xs.drop lo.toNat)→K (ck f d (.slice a (xs.drop lo.toNat).length c)) w):
  SO P n ops ⟨some d,.slice T x (some rD) none none,ty,ps,af,none⟩ f w K:=by
 have hle:xs.length≤cc:=by obtain⟨a',n',c',he,_,h4,_⟩:=RV.list.1 hR;simp only[Value.slice.injEq] at he;omega
 have hc:=hR.cut lo.toNat xs.length aj aj<|fun e=>by omega
 rw[anj (by simp)] at hc
 have hlen:(xs.drop lo.toNat).length=xs.length-lo.toNat:=by simp
 refine SO.value (v:=.slice (if cc=lo.toNat then ao else ao.map (·.add (lo.toNat*GT.size α))) (xs.length-lo.toNat) (cc-lo.toNat)) (w':=w) ?_<|by rw[hlen] at h;exact h _ _ hc
 have vq:P.underlying T=some (.slice (P.elem T)):=by rw[hu];simp[Program.elem,hu]
 have uI:P.elem T=e:=by simp[Program.elem,hu]
 simp[execOp,aL ox,aL ol,hx,hl,Instr.sliceAt,gP hu]
 have:=run_slice_l (P:=P) (w:=w) T ao xs.length cc vq kk lo hb.1 aj
 rw[uI,F.jr] at this
 simp[this,sliced]
theorem Ob {α:Type} [GT α] {xs:List α} {ao:Option Addr} {cc:Nat} {hi:Int} {px:Operand} (hR:RV M w (.slice ao xs.length cc) xs) (ox:bI n x=true) (oh:bI n px=true) (hx:ev f x=.slice ao xs.length cc)
  (hh:ev f px=.int kk hi) (hb:0≤hi∧hi≤xs.length) (hu:P.underlying T=some (.slice e)) (F:ef P e (GT.size α) agg bytes z)
  (h:∀a c,RV M w (.slice a (xs.take hi.toNat).length c) (xs.take hi.toNat)→K (ck f d (.slice a (xs.take hi.toNat).length c)) w):
  SO P n ops ⟨some d,.slice T x none (some px) none,ty,ps,af,none⟩ f w K:=by
 have hle:xs.length≤cc:=by obtain⟨a',n',c',he,_,h4,_⟩:=RV.list.1 hR;simp only[Value.slice.injEq] at he;omega
 have hc:=hR.cut 0 hi.toNat aj aj<|fun e=>by omega
 simp only[apN,ap0] at hc
 have hlen:(xs.take hi.toNat).length=hi.toNat:=by simp;omega
 refine SO.value (v:=.slice (if cc=0 then ao else ao.map (·.add (0*GT.size α))) hi.toNat cc) (w':=w) ?_<|by rw[hlen] at h;exact h _ _ hc
 have vq:P.underlying T=some (.slice (P.elem T)):=by rw[hu];simp[Program.elem,hu]
 have uI:P.elem T=e:=by simp[Program.elem,hu]
 simp[execOp,aL ox,aL oh,hx,hh,Instr.sliceAt,gP hu]
 have:=run_slice_h (P:=P) (w:=w) T ao xs.length cc vq kk hi hb.1 aj
 rw[uI,F.jr] at this
 simp[this,sliced]
theorem bd {L:List (Nat×Operand)} {V:List (Nat×Value)} (ol:Gw n (L.map (·.2))=true) (hL:(L.map fun p=>(p.1,ev f p.2))=V) (hb:∀w,(Instr.build T V.toArray).run P w=.ok v w) (h:K (ck f d v) w):
  SO P n ops ⟨some d,.build T L.toArray,ty,ps,af,none⟩ f w K:=by
 subst hL
 refine SO.value (v:=v) (w':=w) ?_ h
 have he:(L.map fun p=>(p.1,(cj n f).eval p.2))=L.map fun p=>(p.1,ev f p.2):=by
  apply aon
  intro p hp
  rw[aL (ani.1 ol p.2 (anZ.2 ⟨p,hp,rfl⟩))]
 simp only[execOp,apb]
 have:=hb w
 rw[←he] at this
 simp[this]
theorem fd (ox:bI n x=true) (hx:ev f x=u) (hr:∀w,(Instr.field T u i).run P w=.ok v w) (h:K (ck f d v) w):SO P n ops ⟨some d,.field T x i,ty,ps,af,none⟩ f w K:=
 SO.value (v:=v) (by simp[execOp,aL ox,hx,hr w]) h
theorem ix (ox:bI n x=true) (oy:bI n y=true) (hx:ev f x=u) (hy:ev f y=v2) (hr:∀w,(Instr.index T u v2).run P w=.ok v w) (h:K (ck f d v) w):SO P n ops ⟨some d,.index T x y,ty,ps,af,none⟩ f w K:=
 SO.value (v:=v) (by simp[execOp,aL ox,aL oy,hx,hy,hr w]) h
theorem XB {i:Int} {m:Nat} (ox:bI n x=true) (oy:bI n y=true) (hx:ev f x=.pointer (some ad)) (hy:ev f y=.int kk i) (hi:0≤i∧i<(m:Int)) (hu:P.underlying T=some (.array m e)) (F:ef P e size agg bytes z)
  (h:K (ck f d (.pointer (some (ad.add (i.toNat*size))))) w):SO P n ops ⟨some d,.indexAddr T x y,ty,ps,af,none⟩ f w K:=
 SO.value (v:=.pointer (some (ad.add (i.toNat*size)))) (by
  simp[execOp,aL ox,aL oy,hx,hy,Instr.indexAt,asIntOf,gP hu,Instr.sureAddr,hi.1,hi.2,F.jr]) h
theorem ahY {i m:Nat} (ox:bI n x=true) (oy:bI n y=true) (hx:ev f x=.pointer (some ad)) (hy:ev f y=.int kk ((i:Nat):Int)) (hi:i<m) (hu:P.underlying T=some (.array m e)) (F:ef P e size agg bytes z)
  (h:K (ck f d (.pointer (some (ad.add (i*size))))) w):SO P n ops ⟨some d,.indexAddr T x y,ty,ps,af,none⟩ f w K:=
 XB ox oy hx hy aj hu F (by rw[dP];exact h)
theorem ixS {s:bf} {i:Int} (ox:bI n x=true) (oy:bI n y=true) (hx:ev f x=.string s) (hy:ev f y=.int kk i) (hi:0≤i∧i<s.size) (hu:P.underlying T=some .string)
  (h:∀c,s[i.toNat]? =some c→K (ck f d (.int .u8 (c.toNat:Int))) w):SO P n ops ⟨some d,.index T x y,ty,ps,af,none⟩ f w K:=by
 have eo:i.toNat<s.size:=by omega
 have hg:s[i.toNat]? =some s[i.toNat]:=getElem?_pos s i.toNat eo
 exact SO.value (v:=.int .u8 ((s[i.toNat]).toNat:Int)) (by
  simp[execOp,aL ox,aL oy,hx,hy,Instr.index,asIntOf,gP hu,hi.1,hg]) (h _ hg)
theorem Tz {s t:bf} (ox:bI n x=true) (oy:bI n y=true) (hx:ev f x=.string s) (hy:ev f y=.string t) (h:K (ck f d (.bool (decide (s=t)))) w):SO P n ops ⟨some d,.binOp .eql T x y T2,ty,ps,af,none⟩ f w K:=
 SO.value (v:=.bool (decide (s=t))) (by
  have e:(s.toList==t.toList)=decide (s=t):=by
   rw[←beq_toListBytes,anw]
   rcases s with ⟨a⟩
   rcases t with ⟨b⟩
   show (a==b)=true↔_
   simp
  have hg:(eqGuard .eql T x y (.string s) (.string t)).run P w=.ok () w:=by unfold eqGuard;rfl
  simp only[execOp,aL ox,aL oy,hx,hy,Sem.run_bind,hg,Result.andThen_ok]
  simp[binOp,Op.stringOp,e]) h
theorem neS {s t:bf} (ox:bI n x=true) (oy:bI n y=true) (hx:ev f x=.string s) (hy:ev f y=.string t) (h:K (ck f d (.bool (!decide (s=t)))) w):SO P n ops ⟨some d,.binOp .neq T x y T2,ty,ps,af,none⟩ f w K:=
 SO.value (v:=.bool (!decide (s=t))) (by
  have e:(s.toList==t.toList)=decide (s=t):=by
   rw[←beq_toListBytes,anw]
   rcases s with ⟨a⟩
   rcases t with ⟨b⟩
   show (a==b)=true↔_
   simp
  have hg:(eqGuard .neq T x y (.string s) (.string t)).run P w=.ok () w:=by unfold eqGuard;rfl
  simp only[execOp,aL ox,aL oy,hx,hy,Sem.run_bind,hg,Result.andThen_ok]
  simp[binOp,Op.stringOp,e]) h
theorem gz {op:BinOp} (ox:bI n x=true) (oy:bI n y=true) (hx:ev f x=v) (hy:ev f y=v2) (hg:(eqGuard op T x y v v2).run P w=.ok () w) (hr:(binOp op T v v2).run P w=.ok u w) (h:K (ck f d u) w):
  SO P n ops ⟨some d,.binOp op T x y T2,ty,ps,af,none⟩ f w K:=
 SO.value (v:=u) (by simp only[execOp,aL ox,aL oy,hx,hy,Sem.run_bind,hg,hr,Result.andThen_ok,Sem.run_pure]) h
end
end Go.Ew
namespace Go.Ew
open Go.RowKit
variable {v:Value}
def PW (P:Program) (n:Nat) (ops:Array Oper) (w0:aH) (K:aN→Prop):de→aN→Prop
 |[],f=>K f
 |o::r,f=>∃v,(∀w,Ext w0 w→SO P n ops o f w (fun f' w'=>f'=cZ f o.dst v∧Ext w w'))∧PW P n ops w0 K r (cZ f o.dst v)
def Gv (l:de):Nat→de→Bool
 |_,[]=>true
 |i,o::r=>(o.looksAt l.toArray).all (fun t=>!(jl l.length l).contains t||(List.range i).any (fun j=>kU o j&&Nat.beq (jb l j) t&&((l[j]?).bind (·.dst)).isSome))&&
   (match o.op with| .select _ _=>false|_=>true)&&Gv l (i+1) r
def P' (n:Nat) (l:de):Bool:=Oy n l.length l&&Gv l 0 l
section
variable {P:Program} {n:Nat} {ops:Array Oper} {w0:aH} {K:aN→Prop} {o:Oper} {f f2:aN} {w:aH} {v:Value}
theorem DH {x:Operand} (h:∀t,x=.tmp t→f2 t=f t):(cj n f2).eval x=(cj n f).eval x:=by
 cases x with
 |tmp t=>
  by_cases ht:t<n
  ·simp[Act.eval,cj,ht,h t rfl]
  ·simp[Act.eval,cj,ht]
 |_=>rfl
theorem yi (hg:∀j b,o.guard=some (j,b)→∀t,(ops[j]?).bind (·.dst)=some t→f2 t=f t):Region.wanted o (yielded ops (cj n f2).tmps)=Region.wanted o (yielded ops (cj n f).tmps):=by
 unfold Region.wanted
 cases hgd:o.guard with
 |none=>rfl
 |some gw=>
  obtain⟨j,b⟩:=gw
  simp only[]
  have:yielded ops (cj n f2).tmps j=yielded ops (cj n f).tmps j:=by
   unfold yielded
   cases ht:(ops[j]?).bind (·.dst) with
   |none=>rfl
   |some t=>
    have he:=hg j b hgd t ht
    by_cases hn:t<n
    ·simp[cj,hn,he]
    ·simp[cj,hn]
  rw[this]
theorem F' {d:Nat} {u:Value} (hd:d<n) (h:cj n (ck f d u)=cj n (ck f d v)):u=v:=by
 have h1:(cj n (ck f d u)).tmps[d]? =(cj n (ck f d v)).tmps[d]?:=by rw[h]
 simpa [cj,hd,iX] using h1
theorem yD {l:de}:∀(r:de) (i:Nat),Gv l i r=true→∀j o,r[j]? =some o→(∀t∈o.looksAt l.toArray,(jl l.length l).contains t=false∨∃q,q<i+j∧kU o q=true∧jb l q=t∧((l[q]?).bind (·.dst)).isSome=true)∧∀cs b,o.op≠.select cs b
 |[],_,_,j,o,h=>by simp at h
 |x::r,i,h,j,o,hj=>by
  simp only[Gv,eW] at h
  cases j with
  |zero=>
   simp only[anq,ann] at hj
   subst hj
   refine⟨fun t ht=>?_,fun cs b e=>?_⟩
   ·have:=ani.1 h.1.1 t ht
    rcases an5.1 this with h1|h1
    ·exact .inl (by simpa using h1)
    ·obtain⟨q,hq,nI⟩:=anN.1 h1
     simp only[eW,Nat.beq_eq] at nI
     exact .inr ⟨q,by have:=ang.1 hq;omega,nI.1.1,by simpa using nI.1.2,nI.2⟩
   ·have:=h.1.2
    rw[e] at this;cases this
  |succ j=>
   simp only[anv] at hj
   have:=yD r (i+1) h.2 j o hj
   refine⟨fun t ht=>?_,this.2⟩
   rcases this.1 t ht with h1|⟨q,h1,h2⟩
   ·exact .inl h1
   ·exact .inr ⟨q,by omega,h2⟩
end
theorem gu {P:Program} {n:Nat} {ops:Array Oper} {f:aN} {w:aH} {K:aN→aH→Prop} {d:Option Nat} {op:Op} {ty:TypeId} {ps:String} {af:Array Edge} {j t:Nat} {want:Bool}
  (hj:xV ops j=some t) (ht:Nat.blt t n=true) (hv:f t=undef)
  (h:K (cZ f d undef) w):SO P n ops ⟨d,op,ty,ps,af,some (j,want)⟩ f w K:=by
 intro Q rest hk
 have hy:yielded ops (cj n f).tmps j=none:=by
  simp only[apf] at ht
  unfold xV at hj
  simp[yielded,hj,cj,ht,hv,undef]
 unfold wpList
 rw[anf (by simp[Region.wanted,hy])]
 rw[qR]
 exact hk _ _ h
section
variable {P:Program} {n:Nat} {ops:Array Oper} {w0:aH} {K:aN→Prop} {f:aN} {rest:de}
theorem e1 {f:aN} {w:aH}:f=f∧Ext w w:=⟨rfl,Ext.refl w⟩
theorem e2 {f:aN} {d:Nat} {x:Value} {w w':aH} (h:v=x∧Ext w w'):cZ f (some d) v=cZ f (some d) x∧Ext w w':=⟨by rw[h.1],h.2⟩
theorem kq {o:Oper} (h:∀w,Ext w0 w→SO P n ops o f w (fun f' w'=>f'=cZ f o.dst v∧Ext w w')) (r:PW P n ops w0 K rest (cZ f o.dst v)):PW P n ops w0 K (o::rest) f:=⟨v,h,r⟩
theorem zq (h:K f):PW P n ops w0 K [] f:=h
variable {d:Option Nat} {op:Op} {ty:TypeId} {ps:String} {af:Array Edge} {j t:Nat} {want b:Bool}
theorem qy (hj:xV ops j=some t) (ht:Nat.blt t n=true) (hv:f t=.bool b) (hb:b=want)
  (h:PW P n ops w0 K (⟨d,op,ty,ps,af,none⟩::rest) f):PW P n ops w0 K (⟨d,op,ty,ps,af,some (j,want)⟩::rest) f:=by
 obtain⟨v,h1,h2⟩:=h
 exact⟨v,fun w hw=>gy hj ht hv hb (h1 w hw),h2⟩
theorem qn (hj:xV ops j=some t) (ht:Nat.blt t n=true) (hv:f t=.bool b) (hb:b=!want)
  (h:PW P n ops w0 K rest (cZ f d undef)):PW P n ops w0 K (⟨d,op,ty,ps,af,some (j,want)⟩::rest) f:=
 ⟨undef,fun w hw=>gn hj ht hv hb ⟨rfl,Ext.refl w⟩,h⟩
theorem qu (hj:xV ops j=some t) (ht:Nat.blt t n=true) (hv:f t=undef)
  (h:PW P n ops w0 K rest (cZ f d undef)):PW P n ops w0 K (⟨d,op,ty,ps,af,some (j,want)⟩::rest) f:=
 ⟨undef,fun w hw=>gu hj ht hv ⟨rfl,Ext.refl w⟩,h⟩
end
section
variable {P:Program} {n:Nat} {ops:Array Oper} {w0:aH} {K:aN→Prop} {f:aN} {rest:de} {d:Nat} {ty:TypeId} {ps:String} {af:Array Edge} {M:bW} {x y:Operand} {T e:TypeId} {kk:IntKind} {agg:Bool} {bytes:Nat} {z v:Value} {ad:Addr}
theorem rQ {α:Type} [GT α] {xs:List α} {i:Int} (hR:RV M w0 v xs) (ox:bI n x=true) (oy:bI n y=true) (hx:ev f x=v) (hy:ev f y=.int kk i) (hi:0≤i∧i<xs.length) (hu:P.underlying T=some (.slice e)) (F:ef P e (GT.size α) agg bytes z)
  (h:∀ad xv,xs[i.toNat]? =some xv→At M w0 ad xv→PW P n ops w0 K rest (ck f d (.pointer (some ad)))):PW P n ops w0 K (⟨some d,.indexAddr T x y,ty,ps,af,none⟩::rest) f:=by
 obtain⟨a,m,c,rfl,h1,h2,h3,h4⟩:=RV.list.1 hR
 rcases h4 with h4|⟨ad,rfl,hs⟩
 ·omega
 ·have eo:i.toNat<xs.length:=by omega
  refine⟨.pointer (some<|ad.add<|i.toNat*GT.size α),fun w hw=>SO.value (v:=.pointer (some<|ad.add<|i.toNat*GT.size α)) (w':=w) ?_ ⟨J,Ext.refl w⟩,h _ xs[i.toNat] (eI eo) (hs _ _<|eI eo)⟩
  have hb:0≤i∧i<(m:Int):=by omega
  simp[execOp,aL ox,aL oy,hx,hy,Instr.indexAt,asIntOf,gP hu,hb,F.jr]
theorem oK {α:Type} [GT α] {xs:List α} {B:Nat} {i:Int} (hO:(own B e v xs).holds M w0) (ox:bI n x=true) (oy:bI n y=true) (hx:ev f x=v) (hy:ev f y=.int kk i) (hi:0≤i∧i<xs.length) (hu:P.underlying T=some (.slice e)) (F:ef P e (GT.size α) agg bytes z)
  (h:∀ad xv,xs[i.toNat]? =some xv→hQ M w0 ad xv→PW P n ops w0 K rest (ck f d (.pointer (some ad)))):PW P n ops w0 K (⟨some d,.indexAddr T x y,ty,ps,af,none⟩::rest) f:=by
 obtain⟨cs,h1,h2⟩:=hO
 rcases h1.2 with ⟨_,h3⟩|⟨g,cap,cur,rfl,h3,h4,h5,h6,h7,h8⟩
 ·omega
 ·have eo:i.toNat<xs.length:=by omega
  have lA:(⟨g,0,none⟩:Addr).add (i.toNat*GT.size α)=⟨g,i.toNat*GT.size α,none⟩:=by unfold Addr.add;split<;>simp_all
  refine⟨.pointer (some ⟨g,i.toNat*GT.size α,none⟩),fun w hw=>SO.value (v:=.pointer (some ⟨g,i.toNat*GT.size α,none⟩)) (w':=w) ?_ ⟨J,Ext.refl w⟩,h _ xs[i.toNat] (eI eo) ?_⟩
  ·have hb:0≤i∧i<(xs.length:Int):=by omega
   simp[execOp,aL ox,aL oy,hx,hy,Instr.indexAt,asIntOf,gP hu,hb,F.jr,lA]
  ·obtain⟨c,yW,AD⟩:=bA.at_ h2 i.toNat xs[i.toNat] (eI eo)
   refine⟨c,yW,fun j u hu=>?_⟩
   have uU:=h1.cells (g:=g) J (i.toNat*GT.size α+j) u<|AD j u hu
   rwa [←add_add,lA] at uU
theorem tz {α:Type} [GT α] {xv:α} (hA:hQ M w0 ad xv) (F:ef P T (GT.size α) (GT.agg α) bytes z) (ox:bI n x=true) (hx:ev f x=.pointer (some ad))
  (h:∀v,RV M w0 v xv→PW P n ops w0 K rest (ck f d v)):PW P n ops w0 K (⟨some d,.load T x,ty,ps,af,none⟩::rest) f:=by
 obtain⟨cs,h1,h2⟩:=hA
 refine⟨sR (GT.agg α) cs,fun w hw=>SO.value (v:=sR (GT.agg α) cs) (w':=w) ?_ ⟨J,Ext.refl w⟩,h _ ⟨cs,h1,J⟩⟩
 have h3:∀j v,cs[j]? =some v→w.cell? (ad.add j)=some v:=fun j v hv=>(World.cell?_of_block<|hw.block _<|pY<|h2 j v hv).trans (h2 j v hv)
 simp[execOp,aL ox,hx,Instr.loadAt,Instr.sureAddr,rV F GT.single (GT.len h1) h3]
theorem ob {i:Int} (hA:hQ M w0 ad i) (F:ef P T 1 false bytes z) (ox:bI n x=true) (hx:ev f x=.pointer (some ad)) (h:aJ i→PW P n ops w0 K rest (ck f d (.int .i64 i))):
  PW P n ops w0 K (⟨some d,.load T x,ty,ps,af,none⟩::rest) f:=tz hA F ox hx fun v hv=>by obtain⟨rfl,hi⟩:=RV.int.1 hv;exact h hi
theorem ae3 {u:bt} (hA:hQ M w0 ad u) (F:ef P T 1 false bytes z) (ox:bI n x=true) (hx:ev f x=.pointer (some ad)) (h:PW P n ops w0 K rest (ck f d (ag u))):
  PW P n ops w0 K (⟨some d,.load T x,ty,ps,af,none⟩::rest) f:=tz hA F ox hx fun v hv=>by rw[RV.bv.1 hv];exact h
theorem ae5 {u:Bool} (hA:hQ M w0 ad u) (F:ef P T 1 false bytes z) (ox:bI n x=true) (hx:ev f x=.pointer (some ad)) (h:PW P n ops w0 K rest (ck f d (.bool u))):
  PW P n ops w0 K (⟨some d,.load T x,ty,ps,af,none⟩::rest) f:=tz hA F ox hx fun v hv=>by rw[RV.bool.1 hv];exact h
theorem ae4 {u:bf} (hA:hQ M w0 ad u) (F:ef P T 1 false bytes z) (ox:bI n x=true) (hx:ev f x=.pointer (some ad)) (h:u.size≤maxLen→PW P n ops w0 K rest (ck f d (.string u))):
  PW P n ops w0 K (⟨some d,.load T x,ty,ps,af,none⟩::rest) f:=tz hA F ox hx fun v hv=>by obtain⟨rfl,hi⟩:=RV.str.1 hv;exact h hi
theorem Bb {α:Type} [GT α] {xs:List α} (hA:hQ M w0 ad xs) (F:ef P T 1 false bytes z) (ox:bI n x=true) (hx:ev f x=.pointer (some ad))
  (h:∀a c,RV M w0 (.slice a xs.length c) xs→PW P n ops w0 K rest (ck f d (.slice a xs.length c))):PW P n ops w0 K (⟨some d,.load T x,ty,ps,af,none⟩::rest) f:=
 tz hA F ox hx fun v hv=>by obtain⟨a,c,rfl,hr⟩:=(RV.list.1 hv).explicit;exact h a c hr
end
end Go.Ew
namespace Go.Ew
open Go.RowKit
abbrev UT:=List (Nat×(Value→aH→Prop))
def LW (ag:UT) (t:Nat):Bool:=ag.any (fun p=>Nat.beq p.1 t)
section
variable {P:Program} {n:Nat} {ops:Array Oper} {w0:aH} {o:Oper} {f f2:aN} {w:aH} {v:Value} {R:Value→aH→Prop}
theorem SO.sg (h:SO P n ops o f w (fun f' w'=>∃v,f'=cZ f o.dst v∧Ext w w'∧R v w')) (hs:∀cs b,o.op≠.select cs b) (hu:∀t∈o.looksAt ops,f2 t=f t) (hd:∀d,o.dst=some d→d<n):
  SO P n ops o f2 w (fun f' w'=>∃v,f'=cZ f2 o.dst v∧Ext w w'∧R v w'):=by
 intro Q rest hk
 have h1:=h (fun e a w'=>match e with| .normal=>∃v,a=cj n (cZ f o.dst v)∧Ext w w'∧R v w'|_=>False) []<|fun f' w' hK=>wpList_nil<|by obtain⟨v,h1,h2⟩:=hK;exact⟨v,by rw[h1],h2⟩
 have he:execOp (cj n f2).eval o=execOp (cj n f).eval o:=execOp_congr o hs fun x hx=>DH fun t ht=>hu t (by
  subst ht
  exact aoy _ (anF.2 ⟨.tmp t,by simpa using hx,rfl⟩))
 have hw:Region.wanted o (yielded ops (cj n f2).tmps)=Region.wanted o (yielded ops (cj n f).tmps):=yi fun j b hg t ht=>hu t (by
  unfold Oper.looksAt
  rw[hg]
  refine aot _ ?_
  simp[ht])
 have key:∀u w',(∃v,(cj n f).put o.dst u=cj n (cZ f o.dst v)∧Ext w w'∧R v w')→wpList P ops Q rest ((cj n f2).put o.dst u) w':=by
  rintro u w' ⟨v,hq,h2,h3⟩
  rw[qR] at hq ⊢
  cases tN:o.dst with
  |none=>exact hk _ _ ⟨v,by rw[tN];rfl,h2,h3⟩
  |some d=>
   rw[tN] at hq
   have SG:u=v:=F' (hd d tN) hq
   subst SG
   exact hk _ _ ⟨u,by rw[tN],h2,h3⟩
 unfold wpList at h1 ⊢
 rw[hw]
 split at h1
 ·rename_i C1
  rw[anc C1]
  refine .inl ?_
  rcases h1 with h2|⟨_,a0,w1,hq⟩
  ·unfold Oper.wp at h2 ⊢
   rw[he]
   generalize (execOp (cj n f).eval o).run P w=r at *
   cases r with
   |ok x w'=>
    cases x with
    |enter g args=>
     simp only[Oper.upon] at h2 ⊢
     refine Calls.mono h2 ?_
     intro e mJ yU
     cases e with
     |returned u=>exact key u mJ yU
     |panicked c=>exact yU.elim
     |outgrown=>obtain⟨a0,w1,hq⟩:=yU;exact hq.elim
    |row r args=>
     simp only[Oper.upon] at h2 ⊢
     exact Rows.mono h2 fun u mJ yU=>key u mJ yU
    |defer d=>
     simp only[Oper.upon] at h2 ⊢
     obtain⟨v,h3, -⟩:=(show ∃v,_∧_ from h2)
     exfalso
     have h4:=am_ (fun a=>a.defers.length) h3
     cases tN:o.dst<;>rw[tN] at h4<;>simp[Act.put,cj] at h4
    |value u=>
     simp only[Oper.upon] at h2 ⊢
     exact key u w' h2
    |skip=>
     simp only[Oper.upon] at h2 ⊢
     exact key undef w' h2
    |_=>exact(show False from h2).elim
   |halt x w'=>cases x<;>simp only[Oper.upon] at h2 ⊢<;>exact h2.elim
  ·exact hq.elim
 ·rename_i C1
  rw[anf C1]
  exact key undef w h1
def Agr (L:List Nat) (ag:UT) (f g:aN) (w:aH):Prop:=
 ∀t∈L,(LW ag t=false→g t=f t)∧(∀(j:Nat) (Φ:Value→aH→Prop),ag[j]? =some (t,Φ)→Φ (g t) w)
def GO (P:Program) (n:Nat) (ops:Array Oper) (w0:aH) (o:Oper) (ag:UT) (f:aN) (R:Value→aH→Prop):Prop:=
 ∀w g,Ext w0 w→Agr (o.looksAt ops) ag f g w→SO P n ops o g w (fun f' w'=>∃v,f'=cZ g o.dst v∧Ext w w'∧R v w')
def PX (P:Program) (n:Nat) (ops:Array Oper) (w0:aH) (K:UT→aN→Prop):de→UT→aN→Prop
 |[],ag,f=>K ag f
 |o::r,ag,f=>(∃X,GO P n ops w0 o ag f (eV X)∧PX P n ops w0 K r ag (cZ f o.dst X))∨
   (∃d Φ,o.dst=some d∧(∀v w w',Ext w w'→Φ v w→Φ v w')∧GO P n ops w0 o ag f Φ∧PX P n ops w0 K r ((d,Φ)::ag) f)
abbrev EN:=Option Value×(Value→aH→Prop)
def Dr:List (Oper×EN)→aN→aN
 |[],f=>f
 |(o,(some X,_))::r,f=>Dr r (cZ f o.dst X)
 |(_,(none,_))::r,f=>Dr r f
def xZ:List (Oper×EN)→UT→UT
 |[],ag=>ag
 |(_,(some _,_))::r,ag=>xZ r ag
 |(o,(none,Φ))::r,ag=>xZ r ((o.dst.getD 0,Φ)::ag)
theorem PX.values {K:UT→aN→Prop}:∀(l:de) (ag:UT) (f:aN),PX P n ops w0 K l ag f→∃es:List EN,es.length=l.length∧(∀e∈es,∀X,e.1=some X→e.2=eV X)∧(∀e∈es,∀v w w',Ext w w'→e.2 v w→e.2 v w')∧
  (∀i o e,l[i]? =some o→es[i]? =some e→GO P n ops w0 o (xZ (List.zip (l.take i) es) ag) (Dr (List.zip (l.take i) es) f) e.2)∧K (xZ (List.zip l es) ag) (Dr (List.zip l es) f)
 |[],ag,f,h=>⟨[],rfl,by simp,by simp,fun i o e hi=>by simp at hi,h⟩
 |o::r,ag,f,.inl ⟨X,h1,h2⟩=>by
  obtain⟨es,hl,hc,hm,hs,hK⟩:=PX.values r ag _ h2
  refine⟨(some X,eV X)::es,by simp[hl],?_,?_,fun i o' e hi he=>?_,hK⟩
  ·intro e he Y hY
   rcases ans.1 he with rfl|he
   ·cases hY;rfl
   ·exact hc e he Y hY
  ·intro e he
   rcases ans.1 he with rfl|he
   ·exact fun _ _ _ _ h=>h
   ·exact hm e he
  ·cases i with
   |zero=>
    simp only[anq,ann] at hi he
    subst hi;subst he
    exact h1
   |succ i=>
    simp only[anv] at hi he
    exact hs i o' e hi he
 |o::r,ag,f,.inr ⟨d,Φ,hd,SR,h1,h2⟩=>by
  obtain⟨es,hl,hc,hm,hs,hK⟩:=PX.values r _ f h2
  have e0:∀l',xZ ((o,((none,Φ):EN))::l') ag=xZ l' ((d,Φ)::ag):=fun l'=>by show xZ l' ((o.dst.getD 0,Φ)::ag)=_;rw[hd];rfl
  refine⟨(none,Φ)::es,by simp[hl],?_,?_,fun i o' e hi he=>?_,?_⟩
  ·intro e he Y hY
   rcases ans.1 he with rfl|he
   ·cases hY
   ·exact hc e he Y hY
  ·intro e he
   rcases ans.1 he with rfl|he
   ·exact SR
   ·exact hm e he
  ·cases i with
   |zero=>
    simp only[anq,ann] at hi he
    subst hi;subst he
    exact h1
   |succ i=>
    simp only[anv] at hi he
    have:=hs i o' e hi he
    show GO P n ops w0 o' (xZ ((o,((none,Φ):EN))::List.zip (r.take i) es) ag) (Dr (List.zip (r.take i) es) f) e.2
    rw[e0];exact this
  ·show K (xZ ((o,((none,Φ):EN))::List.zip r es) ag) (Dr (List.zip r es) f)
   rw[e0];exact hK
theorem D8:∀(l:de) (es:List EN) (f:aN) (t:Nat),(∀o∈l,o.dst≠some t)→Dr (List.zip l es) f t=f t
 |[],es,f,t,h=>rfl
 |o::l,[],f,t,h=>rfl
 |o::l,(some X,Φ)::es,f,t,h=>by
  show Dr (List.zip l es) (cZ f o.dst X) t=f t
  rw[D8 l es _ t (fun o' ho=>h o' (anI _ ho))]
  have:=h o anY
  cases hd:o.dst with
  |none=>rfl
  |some d=>exact jD f X (fun e=>this (by rw[hd,e]))
 |o::l,(none,Φ)::es,f,t,h=>D8 l es f t (fun o' ho=>h o' (anI _ ho))
theorem My:∀(l:de) (es:List EN) (f:aN) (i:Nat) (o:Oper) (d:Nat) (X:Value) (Φ:Value→aH→Prop),(l.filterMap (·.dst)).Nodup→l[i]? =some o→es[i]? =some (some X,Φ)→o.dst=some d→Dr (List.zip l es) f d=X
 |[],es,f,i,o,d,X,Φ,hn,hi,he,hd=>by simp at hi
 |x::l,[],f,i,o,d,X,Φ,hn,hi,he,hd=>by simp at he
 |x::l,e::es,f,i,o,d,X,Φ,hn,hi,he,hd=>by
  cases i with
  |zero=>
   simp only[anq,ann] at hi he
   subst hi;subst he
   show Dr (List.zip l es) (cZ f x.dst X) d=X
   rw[D8 l es _ d (fun o' ho e=>by
    rw[an0,hd] at hn
    exact(aog.1 hn).1 (anF.2 ⟨o',ho,e⟩)),hd]
   exact iX f d X
  |succ i=>
   simp only[anv] at hi he
   have L8:(l.filterMap (·.dst)).Nodup:=by
    rw[an0] at hn
    split at hn
    ·exact hn
    ·exact(aog.1 hn).2
   obtain⟨a,b⟩:=e
   cases a with
   |none=>exact My l es f i o d X Φ L8 hi he hd
   |some Y=>exact My l es _ i o d X Φ L8 hi he hd
theorem Ii:∀(l:de) (es:List EN) (ag:UT) (p:Nat×(Value→aH→Prop)),p∈xZ (List.zip l es) ag→p∈ag∨∃(i:Nat) (o:Oper),l[i]? =some o∧es[i]? =some (none,p.2)∧o.dst.getD 0=p.1
 |[],es,ag,p,h=>.inl h
 |o::l,[],ag,p,h=>.inl h
 |o::l,(some X,Φ)::es,ag,p,h=>by
  rcases Ii l es ag p h with h1|⟨i,o',h1,h2,h3⟩
  ·exact .inl h1
  ·exact .inr ⟨i+1,o',h1,h2,h3⟩
 |o::l,(none,Φ)::es,ag,p,h=>by
  rcases Ii l es _ p h with h1|⟨i,o',h1,h2,h3⟩
  ·rcases ans.1 h1 with rfl|h1
   ·exact .inr ⟨0,o,J,J,J⟩
   ·exact .inl h1
  ·exact .inr ⟨i+1,o',h1,h2,h3⟩
theorem Z5:∀(l:de) (es:List EN) (ag:UT) (i:Nat) (o:Oper) (Φ:Value→aH→Prop),l[i]? =some o→es[i]? =some (none,Φ)→(o.dst.getD 0,Φ)∈xZ (List.zip l es) ag∧LW (xZ (List.zip l es) ag) (o.dst.getD 0)=true:=by
 have sV:∀(ag:UT) (t:Nat) (Φ:Value→aH→Prop),(t,Φ)∈ag→LW ag t=true:=fun ag t Φ h=>anN.2 ⟨_,h,by simp⟩
 have LR:∀(l:de) (es:List EN) (ag:UT) (p:Nat×(Value→aH→Prop)),p∈ag→p∈xZ (List.zip l es) ag:=by
  intro l
  induction l with
  |nil=>intro es ag p h;exact h
  |cons o l ih=>
   intro es ag p h
   cases es with
   |nil=>exact h
   |cons e es=>
    obtain⟨a,Φ⟩:=e
    cases a with
    |none=>exact ih es _ p (anI _ h)
    |some X=>exact ih es ag p h
 intro l
 induction l with
 |nil=>intro es ag i o Φ hi;simp at hi
 |cons x l ih=>
  intro es ag i o Φ hi he
  cases es with
  |nil=>simp at he
  |cons e es=>
   cases i with
   |zero=>
    simp only[anq,ann] at hi he
    subst hi;subst he
    have:=LR l es ((x.dst.getD 0,Φ)::ag) (x.dst.getD 0,Φ) anY
    exact⟨this,sV _ _ _ this⟩
   |succ i=>
    simp only[anv] at hi he
    obtain⟨a,Ψ⟩:=e
    cases a with
    |none=>exact ih es _ i o Φ hi he
    |some X=>exact ih es ag i o Φ hi he
end
def KX (n:Nat) (Q:Exit→Act→aH→Prop) (w0:aH) (ag:UT) (f:aN):Prop:=
 ∀(w':aH) (g:aN),Ext w0 w'→(∀t,LW ag t=false→g t=f t)→(∀(j t:Nat) (Φ:Value→aH→Prop),ag[j]? =some (t,Φ)→Φ (g t) w')→Q .normal (cj n g) w'
section
variable {P:Program} {n:Nat}
theorem TN {id:Nat} {l:de} {Q:Exit→Act→aH→Prop} {f:aN} {w:aH} (hm:P.follows .mixedOrders=true) (qB:P' n l=true)
  (h:PX P n l.toArray w (KX n Q w) l [] f):WC P n (.region id l.toArray true) Q f w:=by
 obtain⟨es,hl,hc,SR,hs,hK⟩:=PX.values l [] f h
 simp only[P',eW] at qB
 obtain⟨HZ,Qs⟩:=qB
 have acy:=HZ
 simp only[Oy,eW] at HZ
 obtain⟨⟨⟨⟨⟨hE,hD⟩,hN⟩,hn⟩,hT⟩,Ax⟩:=HZ
 have lU:(l.filterMap (·.dst)).Nodup:=by
  have:=pc _ hN
  unfold jl at this
  rwa [aoa] at this
 have eo:∀(i:Nat) (o:Oper) (d:Nat),l[i]? =some o→o.dst=some d→d<n:=by
  intro i o d hi hd
  have:=ani.1 hn d<|qT hi (dE.1 hi).1 hd
  simpa using this
 have tN:∀(i:Nat) (o:Oper),l[i]? =some o→∃d,o.dst=some d:=by
  intro i o hi
  rw[aoa] at hD
  exact anB.1<|ani.1 hD o<|dC hi
 have C6:∀(i:Nat) (o:Oper) (d:Nat),l[i]? =some o→o.dst=some d→jb l i=d:=by
  intro i o d hi hd
  unfold jb
  rw[hi];show (o.dst).getD 0=d
  rw[hd];rfl
 have Ca:∀(i:Nat),i<l.length→∃e,es[i]? =some e:=fun i hi=>⟨_,eI aj⟩
 have Qp:∀(i:Nat) (e:EN) (v:Value) (w':aH),es[i]? =some e→(Af (es.map (·.2)) i v w'↔e.2 v w'):=by
  intro i e v w' he
  unfold Af
  rw[ik,anl,he]
  exact Iff.rfl
 have By:∀(i j:Nat) (o o':Oper),l[i]? =some o→l[j]? =some o'→o.dst.getD 0=o'.dst.getD 0→i=j:=by
  intro i j o o' hi hj he
  obtain⟨d,hd⟩:=tN i o hi
  obtain⟨d',nK⟩:=tN j o' hj
  exact il (·.dst) l lU i j o o' hi hj (by show o.dst.isSome=true;rw[hd];rfl)<|by show o.dst=o'.dst;rw[hd,nK] at he ⊢;rw[show d=d' from he]
 
 have XV:∀(m:Nat),m≤l.length→∀(g:aN) (w':aH) (t:Nat),
   ((jl l.length l).contains t=false→g t=f t)→(∀(q:Nat) (o:Oper) (e:EN),q<m→l[q]? =some o→es[q]? =some e→o.dst=some t→e.2 (g t) w')→
   (∀(q:Nat) (o:Oper),l[q]? =some o→o.dst=some t→q<m)→
   (LW (xZ (List.zip (l.take m) es) []) t=false→g t=Dr (List.zip (l.take m) es) f t)∧∀(j:Nat) (Φ:Value→aH→Prop),(xZ (List.zip (l.take m) es) [])[j]? =some (t,Φ)→Φ (g t) w':=by
  intro m hm g w' t h1 h2 h3
  constructor
  ·intro hu
   by_cases ht:(jl l.length l).contains t=true
   ·have SS:t∈l.filterMap (·.dst):=by
     have:=anQ.1 ht
     unfold jl at this
     rwa [aoa] at this
    obtain⟨o,ho,Aw⟩:=anF.1 SS
    obtain⟨q,hq⟩:=anu.1 ho
    have jg:=h3 q o hq Aw
    obtain⟨e,he⟩:=Ca q (dE.1 hq).1
    have XJ:(l.take m)[q]? =some o:=by rw[anG,anc jg];exact hq
    obtain⟨a,Φ⟩:=e
    cases a with
    |none=>
     have:=(Z5 (l.take m) es [] q o Φ XJ he).2
     rw[Aw] at this
     rw[show (some t).getD 0=t from rfl] at this
     rw[hu] at this;cases this
    |some X=>
     have hv:=h2 q o _ jg hq he Aw
     rw[hc _ (dC he) X rfl] at hv
     rw[My (l.take m) es f q o t X Φ (lU.sublist ((List.take_sublist m l).filterMap _)) XJ he Aw]
     exact hv
   ·rw[h1 (by simpa using ht),D8]
    intro o' lF he
    obtain⟨j,hj⟩:=anu.1 (aox lF)
    exact ht<|anQ.2<|qT hj (dE.1 hj).1 he
  ·intro j Φ hj
   rcases Ii (l.take m) es [] (t,Φ) (dC hj) with h4|⟨q,o,hq,he,hd⟩
   ·cases h4
   ·have jg:q<m:=by have:=(dE.1 hq).1;rw[iB] at this;omega
    rw[anG,anc jg] at hq
    obtain⟨d,Mh⟩:=tN q o hq
    have hdt:d=t:=by have h9:o.dst.getD 0=t:=hd;rw[Mh] at h9;exact h9
    rw[hdt] at Mh
    exact h2 q o _ jg hq he Mh
 have hof:∀(r:de) (i:Nat),(∀j o,r[j]? =some o→DStep P n l l.length (es.map (·.2)) f w (i+j) o)→mz P n l l.length (es.map (·.2)) f w i r:=by
  intro r
  induction r with
  |nil=>intro i _;trivial
  |cons x r ih=>
   intro i hx
   refine⟨fun _=>hx 0 x rfl,ih (i+1) fun j o hj=>?_⟩
   have:=hx (j+1) o<|by simpa using hj
   rwa [show i+(j+1)=i+1+j from by omega] at this
 refine dr l.length (es.map (·.2)) hm acy (hof l 0 fun i o hi=>?_) fun g w' hg hx hp=>?_
 ·rw[anX]
  have jN:=(dE.1 hi).1
  obtain⟨e,he⟩:=Ca i jN
  refine⟨fun g w' hg hx hp=>?_,fun v w1 w2 hx h=>by rw[Qp i e v _ he] at h ⊢;exact SR e (dC he) v w1 w2 hx h⟩
  refine(hs i o e hi he w' g hx fun t ht=>?_).mono ?_
  ·refine XV i (Nat.le_of_lt jN) g w' t (hg t) (fun q o' e' hq uc heq Aw=>?_)<|fun q o' uc Aw=>?_
   ·rcases (yD l 0 Qs i o hi).1 t ht with h1|⟨q',XQ,vn,XP,hqd⟩
    ·have:=qT uc (dE.1 uc).1 Aw
     rw[anQ.2 this] at h1;cases h1
    ·have I9:q'<l.length:=by omega
     obtain⟨d',nK⟩:=tN q' l[q'] (eI I9)
     have:=C6 q' _ d' (eI I9) nK
     have hqq:q'=q:=By q' q _ _ (eI I9) uc<|by rw[nK,Aw];show d'=t;rw[←this,XP]
     subst hqq
     have h5:=hp q' vn<|by simpa using I9
     rw[XP] at h5
     exact(Qp q' e' _ w' heq).1 h5
   ·rcases (yD l 0 Qs i o hi).1 t ht with h1|⟨q',XQ,vn,XP,hqd⟩
    ·have:=qT uc (dE.1 uc).1 Aw
     rw[anQ.2 this] at h1;cases h1
    ·have I9:q'<l.length:=by omega
     obtain⟨d',nK⟩:=tN q' l[q'] (eI I9)
     have:=C6 q' _ d' (eI I9) nK
     have hqq:q'=q:=By q' q _ _ (eI I9) uc<|by rw[nK,Aw];show d'=t;rw[←this,XP]
     omega
  ·rintro EK mJ ⟨v,rfl,jf,hv⟩
   exact⟨v,J,jf,(Qp i e _ _ he).2 hv⟩
 ·rw[aoN (ane _)]
  refine z ?_
  have pf:∀t,_:=fun t=>XV l.length (ane _) g w' t (hg t) (fun q o e hq uc heq Aw=>by
   have h5:=hp q<|by simpa using hq
   rw[C6 q o t uc Aw] at h5
   exact(Qp q e _ w' heq).1 h5) (fun q o uc Aw=>(dE.1 uc).1)
  rw[aoa] at pf
  exact hK w' g hx (fun t ht=>(pf t).1 ht)<|fun j t Φ hj=>(pf t).2 j Φ hj
end
section
variable {P:Program} {n:Nat} {ops:Array Oper} {w0:aH} {K:UT→aN→Prop} {f:aN} {rest:de} {ag:UT} {o:Oper} {v X:Value} {Φ Ψ:Value→aH→Prop} {d d2:Nat}
def Kq (ops:Array Oper) (o:Oper) (ag:UT):Bool:=(o.looksAt ops).all (fun t=>!LW ag t)
def QN (ops:Array Oper) (o:Oper) (ag:UT) (d:Nat):Bool:=(o.looksAt ops).all (fun t=>Nat.beq t d||!LW ag t)
def lu (n:Nat) (o:Oper):Bool:=(match o.op with| .select _ _=>false|_=>true)&&(match o.dst with|some d=>Nat.blt d n|none=>true)
theorem gx (h:lu n o=true):(∀cs b,o.op≠.select cs b)∧∀d,o.dst=some d→d<n:=by
 unfold lu at h
 rw[eW] at h
 refine⟨fun cs b e=>(by rw[e] at h;have h1:=h.1;cases h1),fun d hd=>?_⟩
 have:=h.2
 rw[hd] at this
 simpa using this
theorem Mu (h:Kq ops o ag=true) {g:aN} {w:aH} (ha:Agr (o.looksAt ops) ag f g w):∀t∈o.looksAt ops,g t=f t:=by
 intro t ht
 have:=ani.1 h t ht
 exact(ha t ht).1 (by simpa using this)
theorem xk (hf:(lu n o&&Kq ops o ag)=true) (h:∀w,Ext w0 w→SO P n ops o f w (fun f' w'=>f'=cZ f o.dst X∧Ext w w')) (r:PX P n ops w0 K rest ag (cZ f o.dst X)):PX P n ops w0 K (o::rest) ag f:=by
 rw[eW] at hf
 refine .inl ⟨X,fun w g hx ha=>?_,r⟩
 exact SO.sg ((h w hx).mono fun f' w' hq=>⟨X,hq.1,hq.2,J⟩) (gx hf.1).1 (Mu hf.2 ha) (gx hf.1).2
theorem xu (Φ:Value→aH→Prop) (hd:o.dst=some d) (hm:∀v w w',Ext w w'→Φ v w→Φ v w') (hf:(lu n o&&Kq ops o ag)=true) (h:∀w,Ext w0 w→SO P n ops o f w (fun f' w'=>∃v,f'=cZ f o.dst v∧Ext w w'∧Φ v w')) (r:PX P n ops w0 K rest ((d,Φ)::ag) f):PX P n ops w0 K (o::rest) ag f:=by
 rw[eW] at hf
 exact .inr ⟨d,Φ,hd,hm,fun w g hx ha=>SO.sg (h w hx) (gx hf.1).1 (Mu hf.2 ha) (gx hf.1).2,r⟩
theorem Ow {j:Nat} (hU:ag[j]? =some (d,Ψ)) (h:QN ops o ag d=true) {g:aN} {w:aH} (ha:Agr (o.looksAt ops) ag f g w) (hl:(o.looksAt ops).contains d=true):Ψ (g d) w∧∀t∈o.looksAt ops,g t=ck f d (g d) t:=by
 refine⟨(ha d<|anQ.1 hl).2 j Ψ hU,fun t ht=>?_⟩
 by_cases e:t=d
 ·subst e;exact(iX _ _ _).symm
 ·rw[jD _ _ e]
  have:=ani.1 h t ht
  rcases an5.1 this with h1|h1
  ·exact absurd (aoq h1) e
  ·exact(ha t ht).1 (by simpa using h1)
theorem xk1 (j:Nat) (hU:ag[j]? =some (d,Ψ)) (hf:(lu n o&&QN ops o ag d&&(o.looksAt ops).contains d)=true) (h:∀w v,Ext w0 w→Ψ v w→SO P n ops o (ck f d v) w (fun f' w'=>f'=cZ (ck f d v) o.dst X∧Ext w w')) (r:PX P n ops w0 K rest ag (cZ f o.dst X)):PX P n ops w0 K (o::rest) ag f:=by
 rw[eW,eW] at hf
 refine .inl ⟨X,fun w g hx ha=>?_,r⟩
 obtain⟨h1,h2⟩:=Ow hU hf.1.2 ha hf.2
 exact SO.sg ((h w (g d) hx h1).mono fun f' w' hq=>⟨X,hq.1,hq.2,J⟩) (gx hf.1.1).1 h2 (gx hf.1.1).2
theorem xu1 (Φ:Value→aH→Prop) (j:Nat) (hU:ag[j]? =some (d,Ψ)) (hd:o.dst=some d2) (hm:∀v w w',Ext w w'→Φ v w→Φ v w') (hf:(lu n o&&QN ops o ag d&&(o.looksAt ops).contains d)=true) (h:∀w v,Ext w0 w→Ψ v w→SO P n ops o (ck f d v) w (fun f' w'=>∃u,f'=cZ (ck f d v) o.dst u∧Ext w w'∧Φ u w')) (r:PX P n ops w0 K rest ((d2,Φ)::ag) f):PX P n ops w0 K (o::rest) ag f:=by
 rw[eW,eW] at hf
 refine .inr ⟨d2,Φ,hd,hm,fun w g hx ha=>?_,r⟩
 obtain⟨h1,h2⟩:=Ow hU hf.1.2 ha hf.2
 exact SO.sg (h w (g d) hx h1) (gx hf.1.1).1 h2 (gx hf.1.1).2
theorem zx (h:K ag f):PX P n ops w0 K [] ag f:=h
theorem xq (hf:(lu n o&&Kq ops o ag)=true) (h:PW P n ops w0 (fun f'=>PX P n ops w0 K rest ag f') [o] f):PX P n ops w0 K (o::rest) ag f:=by
 obtain⟨X,h1,h2⟩:=h
 exact xk hf h1 h2
end
section
variable {P:Program} {n:Nat} {ops:Array Oper} {w0:aH}
theorem PW.toX {K:aN→Prop}:∀(l:de) (f:aN),(∀o∈l,(∀cs b,o.op≠.select cs b)∧∀d,o.dst=some d→d<n)→PW P n ops w0 K l f→PX P n ops w0 (fun ag f=>ag=[]∧K f) l [] f
 |[],f,_,h=>⟨rfl,h⟩
 |o::r,f,ho,⟨X,h1,h2⟩=>.inl ⟨X,fun w g hx ha=>SO.sg ((h1 w hx).mono fun f' w' hq=>⟨X,hq.1,hq.2,rfl⟩) (ho o anY).1 (fun t ht=>(ha t ht).1 rfl) (ho o anY).2,PW.toX r _ (fun o' lF=>ho o' (anI _ lF)) h2⟩
theorem PX.mono {K K':UT→aN→Prop} (hK:∀ag f,K ag f→K' ag f):∀(l:de) (ag:UT) (f:aN),PX P n ops w0 K l ag f→PX P n ops w0 K' l ag f
 |[],ag,f,h=>hK ag f h
 |o::r,ag,f,.inl ⟨X,h1,h2⟩=>.inl ⟨X,h1,PX.mono hK r ag _ h2⟩
 |o::r,ag,f,.inr ⟨d,Φ,h0,hm,h1,h2⟩=>.inr ⟨d,Φ,h0,hm,h1,PX.mono hK r _ f h2⟩
theorem zb {id:Nat} {l:de} {Q:Exit→Act→aH→Prop} {f:aN} {w:aH} (hm:P.follows .mixedOrders=true) (qB:P' n l=true)
  (h:PW P n l.toArray w (fun f'=>∀w',Ext w w'→Q .normal (cj n f') w') l f):WC P n (.region id l.toArray true) Q f w:=by
 have acz:=qB
 simp only[P',eW] at acz
 obtain⟨HZ,Qs⟩:=acz
 simp only[Oy,eW] at HZ
 obtain⟨⟨⟨⟨⟨hE,hD⟩,hN⟩,hn⟩,hT⟩,Ax⟩:=HZ
 refine TN hm qB<|PX.mono ?_ l [] f<|PW.toX l f ?_ h
 ·rintro ag g ⟨rfl,hK⟩ w' g' hx hg _
  have e:g'=g:=by funext t;exact hg t rfl
  rw[e];exact hK w' hx
 ·intro o ho
  obtain⟨i,hi⟩:=anu.1 ho
  refine⟨(yD l 0 Qs i o hi).2,fun d hd=>?_⟩
  have:=ani.1 hn d<|qT hi (dE.1 hi).1 hd
  simpa using this
end
end Go.Ew
namespace Go.Ew
open Go.RowKit
section
variable {P:Program} {n:Nat} {l:de}
theorem YV {Q:Exit→Act→aH→Prop} (ab:(Nat→Bool)→aN→aH→Prop) (hE:ry 0 l=true)
  (D1:∀(L:Nat→Bool) (f:aN) (w:aH) (i:Nat) (o:Oper),l[i]? =some o→L i=false→(∀j,L j=true→j<l.length)→(∀j,kU o j=true→L j=true)→ab L f w→SO P n l.toArray o f w (ab (fun k=>L k||decide (k=i))))
  (vZ:∀(f:aN) (w:aH),ab (fun k=>decide (k<l.length)) f w→Q .normal (cj n f) w):
  ∀(d:Nat) (listed:Array Bool) (f:aN) (w:aH),listed.size=l.length→(listed.toList.filter (fun b=>!b)).length=d→ab (fun k=>listed.getD k false) f w→wpAny P .any l.toArray Q d listed (cj n f) w:=by
 intro d
 induction d with
 |zero=>
  intro listed f w pQ hd hJ
  have pf:∀i,i<l.length→listed.getD i false=true:=by
   intro i hi
   have h0:=aoD hd
   rw[aol] at h0
   have pR:i<listed.size:=by omega
   have:=h0 listed[i]<|by simp
   simp at this
   simp[Array.getD,pR,this]
  refine⟨?_,?_⟩
  ·apply List.eq_nil_iff_forall_not_mem.2
   intro i hi
   obtain⟨h0,o,ho, -⟩:=mem_ready.1 hi
   have qA:l[i]? =some o:=by simpa using ho
   have jN:i<l.length:=(dE.1 qA).1
   rw[show listed.getD i true=listed.getD i false from rh aj _ _,pf i jN] at h0
   cases h0
  ·refine vZ f w ?_
   have:(fun k=>decide (k<l.length))=fun k=>listed.getD k false:=by
    funext k
    by_cases hk:k<l.length
    ·rw[pf k hk];exact anh hk
    ·rw[ank hk];simp[Array.getD];omega
   rw[this];exact hJ
 |succ d ih=>
  intro listed f w pQ hd hJ
  obtain⟨i0,Ji⟩:∃i,i<l.length∧listed.getD i false=false:=by
   apply anV
   intro GV
   have:listed.toList.filter (fun b=>!b)=[]:=by
    rw[aol]
    intro b hb
    obtain⟨i,hi,rfl⟩:=ao8.1 hb
    simp only[anW] at hi
    cases wu:listed.toList[i] with
    |true=>simp
    |false=>
     exfalso
     refine GV ⟨i,by omega,?_⟩
     simp only[ap4] at wu
     simp[Array.getD,hi,wu]
   rw[this] at hd;cases hd
  obtain⟨m,SU,SS⟩:=exists_least (p:=fun i=>i<l.length∧listed.getD i false=false) ⟨i0,Ji⟩
  have ud:m<l.length:=by omega
  have jk:l[m]? =some l[m]:=eI ud
  have B7:m∈Region.ready .any l.toArray listed:=by
   rw[mem_ready]
   refine⟨?_,l[m],by simp,fun e he hb=>?_⟩
   ·rw[show listed.getD m true=listed.getD m false from rh aj _ _];exact SU.2
   ·have eo:=wJ l 0 hE m l[m] jk e he hb
    cases wu:listed.getD e.on false with
    |true=>rfl
    |false=>
     have:=SS e.on ⟨by omega,wu⟩
     omega
  refine⟨fun h0=>(by rw[h0] at B7;cases B7),fun i hi=>?_⟩
  obtain⟨h0,o,ho,AB⟩:=mem_ready.1 hi
  have qA:l[i]? =some o:=by simpa using ho
  have jN:i<l.length:=(dE.1 qA).1
  have Mo:listed.getD i false=false:=by
   rw[show listed.getD i false=listed.getD i true from rh aj _ _];exact h0
  have afl:∀j,kU o j=true→listed.getD j false=true:=by
   intro j hj
   obtain⟨e,he,hb,vn⟩:=wS.1 hj
   subst vn
   exact AB e he hb
  have eo:∀j,listed.getD j false=true→j<l.length:=by
   intro j hj
   refine anV fun hn=>?_
   rw[show listed.getD j false=false from by simp[Array.getD];omega] at hj
   cases hj
  have S5:((listed.setIfInBounds i true).toList.filter (fun b=>!b)).length=d:=by
   have Mc:i<listed.size:=by omega
   have uH:listed.toList[i]? =some false:=by
    rw[eI (by simpa using Mc)]
    simp only[Array.getD,Mc,dif_pos] at Mo
    simpa [ao1] using Mo
   have key:∀(L:List Bool) (i:Nat),L[i]? =some false→((L.set i true).filter (fun b=>!b)).length+1=(L.filter (fun b=>!b)).length:=by
    intro L
    induction L with
    |nil=>intro i h;simp at h
    |cons b L ihL=>
     intro i h
     cases i with
     |zero=>simp at h;subst h;simp
     |succ i=>
      simp at h
      have:=ihL i h
      cases b<;>simp at this ⊢<;>omega
   have:=key listed.toList i uH
   rw[Array.toList_setIfInBounds]
   omega
  refine Gc ho (D1 (fun k=>listed.getD k false) f w i o qA Mo eo afl hJ) fun f' w' hK=>?_
  refine ih _ _ _ (by simp[pQ]) S5 ?_
  have:(fun k=>(listed.setIfInBounds i true).getD k false)=fun k=>listed.getD k false||decide (k=i):=by
   funext k
   by_cases hk:k=i
   ·subst hk
    have Mc:k<listed.size:=by omega
    simp[Array.getD,Mc]
   ·rw[ank hk,aoI]
    exact getD_set_ne false fun e=>hk e.symm
  rw[this];exact hK
theorem drj {id:Nat} {Q:Exit→Act→aH→Prop} {f:aN} {w:aH} (ab:(Nat→Bool)→aN→aH→Prop) (hm:P.follows .mixedOrders=true) (hE:ry 0 l=true)
  (h0:ab (fun _=>false) f w.drew)
  (D1:∀(L:Nat→Bool) (f:aN) (w:aH) (i:Nat) (o:Oper),l[i]? =some o→L i=false→(∀j,L j=true→j<l.length)→(∀j,kU o j=true→L j=true)→ab L f w→SO P n l.toArray o f w (ab (fun k=>L k||decide (k=i))))
  (vZ:∀(f:aN) (w:aH),ab (fun k=>decide (k<l.length)) f w→Q .normal (cj n f) w):
  WC P n (.region id l.toArray true) Q f w:=by
 refine wp_region_any hm ?_
 have h3:(fun k=>(Array.replicate l.length false).getD k false)=fun _:Nat=>false:=by
  funext i
  simp only[Array.getD];split<;>simp
 have h:=YV (P:=P) (Q:=Q) ab hE D1 vZ l.length (Array.replicate l.length false) f w.drew (by simp) (by simp)<|by rw[h3];exact h0
 simpa using h
end
end Go.Ew
namespace Go.Ew
open Go.RowKit
inductive ZK|r|f|s|e|n
def zkE:ZK→Bool
 | .e=>true
 |_=>false
def zkR:ZK→Bool
 | .r=>true
 | .n=>true
 |_=>false
def zkN:ZK→Bool
 | .n=>true
 |_=>false
def zkS:ZK→Bool
 | .s=>true
 |_=>false
def vi (Ks:List ZK) (i:Nat):ZK:=Ks.getD i .r
def eL (Ks:List ZK) (i:Nat):Bool:=zkE (vi Ks i)
def xK (Ks:List ZK) (i:Nat):Bool:=zkR (vi Ks i)
def nT (Ks:List ZK) (i:Nat):Bool:=zkN (vi Ks i)
def LU (Ks:List ZK) (i:Nat):Bool:=zkS (vi Ks i)
def tv (o:Oper):Bool:=match o.op with
 | .move _=>true
 | .assign _=>true
 | .extract _ _=>true
 |_=>false
def jR (l:de) (i:Nat):Bool:=match l[i]? with
 |some o=>tv o
 |none=>false
def tG (l:de) (Ks:List ZK) (i:Nat):Bool:=eL Ks i&&jR l i
def Lz (o:Oper):Bool:=match o.op with
 | .select _ _=>false
 |_=>true
def Lv (n:Nat) (l:de) (Ks:List ZK):Nat→de→Bool
 |_,[]=>true
 |i,o::r=>
  (o.looksAt l.toArray).all (fun t=>Nat.blt t n&&(!(l.filterMap (·.dst)).contains t||(List.range i).any (fun j=>kU o j&&(match (l[j]?).bind (·.dst) with|some d=>Nat.beq d t|none=>false)&&(eL Ks i||!eL Ks j))))&&
   (Lz o&&((eL Ks i||o.dst.isSome)&&((!LU Ks i||tv o)&&((!xK Ks i||(List.range l.length).all (fun e=>!eL Ks e||oX l l.length e i))&&((!eL Ks i||(List.range i).all (fun e=>!eL Ks e||(jR l e||oX l l.length i e)))&&((!(eL Ks i&&tv o)||(o.dst.isSome&&(List.range i).any (fun e=>eL Ks e&&!jR l e)))&&Lv n l Ks (i+1) r))))))
def okZ (n:Nat) (l:de) (Ks:List ZK):Bool:=
 ry 0 l&&(nodupB (l.filterMap (·.dst))&&((l.filterMap (·.dst)).all (fun d=>Nat.blt d n)&&Lv n l Ks 0 l))
section
variable {P:Program} {n:Nat} {l:de} {Ks:List ZK} {ops:Array Oper}
structure Z1 (n:Nat) (l:de) (Ks:List ZK) (i:Nat) (o:Oper):Prop where
 look:∀t∈o.looksAt l.toArray,t<n∧((∀(q:Nat) (o':Oper),l[q]? =some o'→o'.dst≠some t)∨∃(j:Nat) (o':Oper),j<i∧kU o j=true∧l[j]? =some o'∧o'.dst=some t∧(eL Ks i=false→eL Ks j=false))
 sel:∀cs b,o.op≠.select cs b
 dst:eL Ks i=false→∃d,o.dst=some d
 slot:LU Ks i=true→tv o=true
 rd:xK Ks i=true→∀e,e<l.length→eL Ks e=true→oX l l.length e i=true
 ord:eL Ks i=true→∀e,e<i→eL Ks e=true→jR l e=false→oX l l.length i e=true
 xd:eL Ks i=true→tv o=true→(∃d,o.dst=some d)∧∃e,e<i∧eL Ks e=true∧jR l e=false
theorem Sn {o:Oper} (h:Lz o=true):∀cs b,o.op≠.select cs b:=fun cs b e=>by unfold Lz at h;rw[e] at h;cases h
theorem Ox:∀(r:de) (i:Nat),Lv n l Ks i r=true→∀j o,r[j]? =some o→Z1 n l Ks (i+j) o
 |[],_,_,j,o,h=>by simp at h
 |x::r,i,h,j+1,o,hj=>by
  simp only[Lv,eW] at h
  have:=Ox r (i+1) h.2.2.2.2.2.2.2 j o<|by simpa using hj
  rwa [show i+1+j=i+(j+1) from by omega] at this
 |x::r,i,h,0,o,hj=>by
  simp only[anq,ann] at hj
  subst hj
  simp only[Lv,eW] at h
  obtain⟨h1,h2,h3,h4,h5,h6,h7, -⟩:=h
  refine⟨fun t ht=>?_,Sn h2,fun hE=>?_,fun hS=>?_,fun hR e he np=>?_,fun hE e he np qW=>?_,fun hE hs=>?_⟩
  ·have:=ani.1 h1 t ht
   simp only[eW,apf,anm,aoo] at this
   refine⟨this.1,this.2.imp (fun h q o' hq hd=>?_) fun h=>?_⟩
   ·have hm:t∈l.filterMap (·.dst):=anF.2 ⟨o',dC hq,hd⟩
    rw[anQ.2 hm] at h;cases h
   ·obtain⟨j,hj,hq⟩:=anN.1 h
    simp only[eW,anm,aoo] at hq
    obtain⟨⟨q1,q2⟩,q3⟩:=hq
    cases hl:l[j]? with
    |none=>rw[hl] at q2;cases q2
    |some o'=>
     rw[hl] at q2
     cases hd:o'.dst with
     |none=>simp[hd] at q2
     |some d=>
      simp[hd] at q2
      refine⟨j,o',by have:=ang.1 hj;omega,q1,hl,by rw[hd,q2],fun hi=>?_⟩
      rcases q3 with q3|q3
      ·rw[anR] at hi;rw[hi] at q3;cases q3
      ·exact q3
  ·rw[anR] at hE
   rw[hE] at h3
   exact anB.1<|by simpa using h3
  ·rw[anR] at hS
   rw[hS] at h4;simpa using h4
  ·rw[anR] at hR ⊢
   rw[hR] at h5
   rw[apy,ao4] at h5
   have:=ani.1 h5 e<|ang.2 he
   rw[np] at this;simpa using this
  ·rw[anR] at hE he ⊢
   rw[hE] at h6
   rw[apy,ao4] at h6
   have:=ani.1 h6 e<|ang.2 he
   rw[np,qW] at this;simpa using this
  ·rw[anR] at hE ⊢
   rw[hE,hs] at h7
   simp only[Bool.and_self,apy,ao4,eW] at h7
   obtain⟨e,he,hq⟩:=anN.1 h7.2
   rw[eW,aoo] at hq
   exact⟨anB.1 h7.1,e,ang.1 he,hq.1,hq.2⟩
theorem IJ {o:Oper} {g:aN} {w:aH} {R:Value→aH→Prop} (hs:tv o=true) (hd:∃d,o.dst=some d∧d<n)
  (h:SO P n ops o g w (fun f' w'=>∃v,f'=cZ g o.dst v∧True∧R v w')):
  ∃v,R v w∧∀g2 w2,(∀t∈o.looksAt ops,g2 t=g t)→SO P n ops o g2 w2 (fun f' w'=>f'=cZ g2 o.dst v∧w'=w2):=by
 obtain⟨d,hd,sX⟩:=hd
 have h1:=h (fun e a w'=>match e with| .normal=>∃v,a=cj n (cZ g o.dst v)∧True∧R v w'|_=>False) []<|fun f' w' hK=>wpList_nil<|by obtain⟨v,h1,h2⟩:=hK;exact⟨v,by rw[h1],h2⟩
 have hw:∀g2:aN,(∀t∈o.looksAt ops,g2 t=g t)→Region.wanted o (yielded ops (cj n g2).tmps)=Region.wanted o (yielded ops (cj n g).tmps):=fun g2 hu=>yi fun j b hg t ht=>hu t (by
  unfold Oper.looksAt
  rw[hg]
  refine aot _ ?_
  simp[ht])
 have ah7:∀cs b,o.op≠.select cs b:=fun cs b e=>by unfold tv at hs;rw[e] at hs;cases hs
 have he:∀g2:aN,(∀t∈o.looksAt ops,g2 t=g t)→execOp (cj n g2).eval o=execOp (cj n g).eval o:=fun g2 hu=>execOp_congr o ah7 fun x hx=>DH fun t ht=>hu t (by
  subst ht
  exact aoy _ (anF.2 ⟨.tmp t,by simpa using hx,rfl⟩))
 have Qo:∀(g2:aN) (u:Value),(cj n g2).put o.dst u=cj n (cZ g2 o.dst u):=fun g2 u=>by rw[qR]
 unfold wpList at h1
 split at h1
 ·rename_i C1
  
  have kQ:(∃u,∀w2,(execOp (cj n g).eval o).run P w2=.ok (.value u) w2)∨∀w2 x w3,(execOp (cj n g).eval o).run P w2≠.ok x w3:=by
   obtain⟨dst,op,ty,ps,af,gd⟩:=o
   unfold tv at hs
   cases op<;>simp only at hs<;>try (cases hs;done)
   ·left;exact⟨_,fun w2=>rfl⟩
   ·left;exact⟨_,fun w2=>rfl⟩
   ·rename_i x i
    cases hx:(cj n g).eval x with
    |tuple vs=>
     cases hi:vs[i]? with
     |some v=>left;exact⟨v,fun w2=>by simp[execOp,Instr.extract,hx,hi]⟩
     |none=>right;intro w2 y w3 hh;simp[execOp,Instr.extract,hx,hi] at hh
    |_=>right;intro w2 y w3 hh;simp[execOp,Instr.extract,hx] at hh
  rcases h1 with h2|⟨_,a0,w1,hq⟩
  ·rcases kQ with ⟨u,hu⟩|GV
   ·unfold Oper.wp at h2
    rw[hu w] at h2
    simp only[Oper.upon] at h2
    obtain⟨v,hv, -,hR⟩:=(show ∃v,_∧_∧_ from h2)
    rw[Qo,hd] at hv
    have SG:u=v:=F' sX hv
    subst SG
    refine⟨u,hR,fun g2 w2 hl Q rest hk=>?_⟩
    unfold wpList
    rw[hw g2 hl,anc C1]
    refine .inl ?_
    unfold Oper.wp
    rw[he g2 hl,hu w2]
    simp only[Oper.upon]
    rw[Qo]
    exact hk _ _ ⟨J,J⟩
   ·exfalso
    unfold Oper.wp at h2
    generalize hr:(execOp (cj n g).eval o).run P w=r at h2
    cases r with
    |ok x w'=>exact GV w x w' hr
    |halt x w'=>cases x<;>simp only[Oper.upon] at h2<;>exact h2.elim
  ·exact hq.elim
 ·rename_i C1
  have h2:=h1
  obtain⟨v,hv, -,hR⟩:=(show ∃v,(cj n g).put o.dst undef=_∧_∧_ from h2)
  rw[Qo,hd] at hv
  have SG:undef=v:=F' sX hv
  subst SG
  refine⟨undef,hR,fun g2 w2 hl Q rest hk=>?_⟩
  unfold wpList
  rw[hw g2 hl,anf C1]
  rw[Qo]
  exact hk _ _ ⟨J,J⟩
theorem UF {o:Oper} {g:aN} {w:aH} {R:Value→aH→Prop} (hs:tv o=true) (hd:∃d,o.dst=some d∧d<n)
  (h:SO P n ops o g w (fun f' w'=>∃v,f'=cZ g o.dst v∧Ext w w'∧R v w')):
  ∃v,R v w∧∀g2 w2,(∀t∈o.looksAt ops,g2 t=g t)→SO P n ops o g2 w2 (fun f' w'=>f'=cZ g2 o.dst v∧w'=w2):=
 IJ hs hd (h.mono fun f' w' ⟨v,h1,_,h2⟩=>⟨v,h1,trivial,h2⟩)
theorem SO.Xh {o:Oper} {f g:aN} {w:aH} {R:aN→aH→Prop} (h:SO P n ops o g w R) (hs:∀cs b,o.op≠.select cs b) (hu:∀t∈o.looksAt ops,f t=g t):
  SO P n ops o f w (fun f' w'=>∃v g',f'=cZ f o.dst v∧cj n g'=cj n (cZ g o.dst v)∧R g' w'):=by
 intro Q rest hk
 have h1:=h (fun e a w'=>match e with| .normal=>∃g',a=cj n g'∧R g' w'|_=>False) []<|fun f' w' hK=>wpList_nil ⟨f',J,hK⟩
 have he:execOp (cj n f).eval o=execOp (cj n g).eval o:=execOp_congr o hs fun x hx=>DH fun t ht=>hu t (by
  subst ht
  exact aoy _ (anF.2 ⟨.tmp t,by simpa using hx,rfl⟩))
 have hw:Region.wanted o (yielded ops (cj n f).tmps)=Region.wanted o (yielded ops (cj n g).tmps):=yi fun j b hg t ht=>hu t (by
  unfold Oper.looksAt
  rw[hg]
  refine aot _ ?_
  simp[ht])
 have key:∀u w',(∃g',(cj n g).put o.dst u=cj n g'∧R g' w')→wpList P ops Q rest ((cj n f).put o.dst u) w':=by
  rintro u w' ⟨g',hq,h2⟩
  rw[qR] at hq ⊢
  exact hk _ _ ⟨u,g',J,hq.symm,h2⟩
 unfold wpList at h1 ⊢
 rw[hw]
 split at h1
 ·rename_i C1
  rw[anc C1]
  refine .inl ?_
  rcases h1 with h2|⟨_,a0,w1,hq⟩
  ·unfold Oper.wp at h2 ⊢
   rw[he]
   generalize (execOp (cj n g).eval o).run P w=r at *
   cases r with
   |ok x w'=>
    cases x with
    |enter c args=>
     simp only[Oper.upon] at h2 ⊢
     refine Calls.mono h2 ?_
     intro e mJ yU
     cases e with
     |returned u=>exact key u mJ yU
     |panicked c=>exact yU.elim
     |outgrown=>obtain⟨a0,w1,hq⟩:=yU;exact hq.elim
    |row r args=>
     simp only[Oper.upon] at h2 ⊢
     exact Rows.mono h2 fun u mJ yU=>key u mJ yU
    |defer dd=>
     simp only[Oper.upon] at h2 ⊢
     obtain⟨g',h3, -⟩:=(show ∃g',_∧_ from h2)
     exfalso
     have h4:=am_ (fun a=>a.defers.length) h3
     cases tN:o.dst<;>rw[tN] at h4<;>simp[Act.put,cj] at h4
    |value u=>
     simp only[Oper.upon] at h2 ⊢
     exact key u w' h2
    |skip=>
     simp only[Oper.upon] at h2 ⊢
     exact key undef w' h2
    |_=>exact(show False from h2).elim
   |halt x w'=>cases x<;>simp only[Oper.upon] at h2 ⊢<;>exact h2.elim
  ·exact hq.elim
 ·rename_i C1
  rw[anf C1]
  exact key undef w h1
end
def WE (P:Program) (n:Nat) (ops:Array Oper) (ae:aH→Prop) (K:aN→aH→Prop):de→aN→aH→Prop
 |[],f,w=>K f w
 |o::r,f,w=>SO P n ops o f w (fun f' w'=>ae w'∧WE P n ops ae K r f' w')
def FV:List ZK→de→de
 |_,[]=>[]
 |ks,o::r=>match ks.headD .r with
  | .e=>o::FV ks.tail r
  |_=>FV ks.tail r
abbrev PR:=(Nat→Prop)→Value→aH→Prop
abbrev UN:=List (Nat×PR)
def xL (ag:UN) (t:Nat):Bool:=ag.any (fun p=>Nat.beq p.1 t)
def eN (X:Value):PR:=fun _ v _=>v=X
structure sj (Φ:PR):Prop where
 ext:∀N v w w',Ext w w'→Φ N v w→Φ N v w'
 grow:∀(N N':bW) v (w:aH),(∀b,N b→N' b)→(∀b,N' b→N b∨w.heap.size≤b)→Φ N v w→Φ N' v w
theorem Xs (X:Value):sj (eN X):=⟨fun _ _ _ _ _ h=>h,fun _ _ _ _ _ _ h=>h⟩
def JN (w0:aH) (z:Array Value) (T:TypeId):PR:=fun N v w=>∃b,v=.pointer (some ⟨b,0,none⟩)∧w0.heap.size≤b∧w.heap[b]? =some (.cells z T (0,0))∧N b
theorem ae_ (w0:aH) (z:Array Value) (T:TypeId):sj (JN w0 z T):=
 ⟨fun N v w w' hx ⟨b,h1,h2,h3,h4⟩=>⟨b,h1,h2,(hx.block b (anJ.1 h3).1).trans h3,h4⟩,fun N N' v w h _ ⟨b,h1,h2,h3,h4⟩=>⟨b,h1,h2,h3,h b h4⟩⟩
def EU (w0:aH) (N:bW) (w:aH):Prop:=∀b,N b→w0.heap.size≤b∧b<w.heap.size
def YN (L:List Nat) (ag:UN) (f g:aN) (N:bW) (w:aH):Prop:=
 ∀t∈L,(xL ag t=false→g t=f t)∧(∀(j:Nat) (Φ:PR),ag[j]? =some (t,Φ)→Φ N (g t) w)
def GN (P:Program) (n:Nat) (ops:Array Oper) (w0:aH) (o:Oper) (ag:UN) (f:aN) (R:PR):Prop:=
 ∀w g N,Ext w0 w→EU w0 N w→YN (o.looksAt ops) ag f g N w→SO P n ops o g w (fun f' w'=>∃v,f'=cZ g o.dst v∧Ext w w'∧R N v w')
def Nf (z:Array Value) (T:TypeId) (w:aH) (v:Value) (w':aH):Prop:=∃b,v=.pointer (some ⟨b,0,none⟩)∧w.heap.size≤b∧w'.heap[b]? =some (.cells z T (0,0))
def PZ (P:Program) (n:Nat) (ops:Array Oper) (w0:aH) (ae:aH→Prop) (K:UN→aN→Prop):de→List ZK→UN→aN→Prop
 |[],_,ag,f=>K ag f
 |o::r,ks,ag,f=>match ks.headD .r with
  | .e=>PZ P n ops w0 ae K r ks.tail ag f
  | .f=>∃X,(∀w g,ae w→(∀t∈o.looksAt ops,xL ag t=false∧g t=f t)→SO P n ops o g w (fun f' w'=>f'=cZ g o.dst X∧w'=w))∧((o.looksAt ops).all (fun t=>!xL ag t))=true∧PZ P n ops w0 ae K r ks.tail ag (cZ f o.dst X)
  | .n=>∃d z T,o.dst=some d∧((o.looksAt ops).all (fun t=>!xL ag t))=true∧(∀w g,Ext w0 w→(∀t∈o.looksAt ops,g t=f t)→SO P n ops o g w (fun f' w'=>∃v,f'=cZ g o.dst v∧Ext w w'∧Nf z T w v w'))∧PZ P n ops w0 ae K r ks.tail ((d,JN w0 z T)::ag) f
  |_=>(∃X,GN P n ops w0 o ag f (eN X)∧PZ P n ops w0 ae K r ks.tail ag (cZ f o.dst X))∨
    (∃d Φ,o.dst=some d∧sj Φ∧GN P n ops w0 o ag f Φ∧PZ P n ops w0 ae K r ks.tail ((d,Φ)::ag) f)
def KZ (P:Program) (n:Nat) (ops:Array Oper) (Q:Exit→Act→aH→Prop) (w0:aH) (ae:aH→Prop) (E:de) (Nd:List Nat) (ag:UN) (f:aN):Prop:=
 ∀(w':aH) (g:aN) (N:bW),Ext w0 w'→EU w0 N w'→(∀d d',d∈Nd→d'∈Nd→d≠d'→g d≠g d')→(∀t,xL ag t=false→g t=f t)→(∀(j t:Nat) (Φ:PR),ag[j]? =some (t,Φ)→Φ N (g t) w')→WE P n ops ae (fun f w=>Q .normal (cj n f) w) E g w'
def Fu:List ZK→de→List Nat
 |_,[]=>[]
 |ks,o::r=>match ks.headD .r with
  | .n=>o.dst.getD 0::Fu ks.tail r
  |_=>Fu ks.tail r
def ns (E:List PR) (i:Nat):PR:=E.getD i (fun _ _ _=>True)
section
variable {P:Program} {n:Nat} {l:de} {Ks:List ZK} {w0:aH} {ae:aH→Prop} {f0:aN}
structure Kn (l:de) (Ks:List ZK) (f0:aN) (E:List PR) (m:Nat) (g:aN) (N:bW) (w:aH) (t:Nat):Prop where
 off:(∀(q:Nat) (o:Oper),l[q]? =some o→o.dst=some t→eL Ks q=true)→g t=f0 t
 AH:∀(q:Nat) (o:Oper),q<m→l[q]? =some o→o.dst=some t→eL Ks q=false→ns E q N (g t) w
def YF (l:de) (Ks:List ZK) (m t:Nat):Prop:=∀(q:Nat) (o:Oper),l[q]? =some o→o.dst=some t→eL Ks q=false→q<m
structure Q_ (l:de) (Ks:List ZK) (f0:aN) (E:List PR) (m:Nat) (ag:UN) (f:aN):Prop where
 is:∀(g:aN) (N:bW) (w:aH) (t:Nat),YF l Ks m t→Kn l Ks f0 E m g N w t→(xL ag t=false→g t=f t)∧∀(j:Nat) (Φ:PR),ag[j]? =some (t,Φ)→Φ N (g t) w
 Hi:∀(j t:Nat) (Φ:PR),ag[j]? =some (t,Φ)→∃(q:Nat) (o:Oper),q<m∧l[q]? =some o∧o.dst=some t
def age (P:Program) (n:Nat) (l:de) (Ks:List ZK) (w0:aH) (f0:aN) (E:List PR) (i:Nat) (o:Oper):Prop:=
 ∀(g:aN) (N:bW) (w:aH),Ext w0 w→EU w0 N w→(∀t∈o.looksAt l.toArray,Kn l Ks f0 E i g N w t)→SO P n l.toArray o g w (fun f' w'=>∃v,f'=cZ g o.dst v∧Ext w w'∧ns E i N v w')
def agf (P:Program) (n:Nat) (l:de) (Ks:List ZK) (w0:aH) (f0:aN) (E:List PR) (i:Nat) (o:Oper):Prop:=
 ∃z T,ns E i=JN w0 z T∧∀(g:aN) (N:bW) (w:aH),Ext w0 w→(∀t∈o.looksAt l.toArray,Kn l Ks f0 E i g N w t)→SO P n l.toArray o g w (fun f' w'=>∃v,f'=cZ g o.dst v∧Ext w w'∧Nf z T w v w')
def agh (P:Program) (n:Nat) (l:de) (Ks:List ZK) (ae:aH→Prop) (f0:aN) (E:List PR) (i:Nat) (o:Oper):Prop:=
 ∃X,ns E i=eN X∧∀(g:aN) (N:bW) (w w1:aH),ae w→(∀t∈o.looksAt l.toArray,Kn l Ks f0 E i g N w1 t)→SO P n l.toArray o g w (fun f' w'=>f'=cZ g o.dst X∧w'=w)
structure Fact (P:Program) (n:Nat) (l:de) (Ks:List ZK) (w0:aH) (ae:aH→Prop) (f0:aN) (E:List PR) (i:Nat) (o:Oper):Prop where
 mono:sj (ns E i)
 go:eL Ks i=false→(age P n l Ks w0 f0 E i o∧nT Ks i=false∧(xK Ks i=true∨LU Ks i=true))∨(agh P n l Ks ae f0 E i o∧nT Ks i=false)∨(agf P n l Ks w0 f0 E i o∧nT Ks i=true)
theorem O6 {E E0:List PR} {m:Nat} (h:E.take m=E0) (hl:E0.length=m) {q:Nat} (hq:q<m):ns E q=ns E0 q:=by
 unfold ns
 rw[←h,ik,ik,anG,anc hq]
theorem Kn.of {E E0:List PR} {m:Nat} {g:aN} {N:bW} {w:aH} {t:Nat} (h:E.take m=E0) (hl:E0.length=m) (k:Kn l Ks f0 E m g N w t):Kn l Ks f0 E0 m g N w t:=
 ⟨k.off,fun q o hq h1 h2 h3=>by rw[←O6 h hl hq];exact k.AH q o hq h1 h2 h3⟩
theorem wY {ag:UN} {t:Nat}:xL ag t=true↔∃(j:Nat) (Φ:PR),ag[j]? =some (t,Φ):=by
 unfold xL
 rw[anN]
 constructor
 ·rintro⟨⟨a,b⟩,h1,h2⟩
  obtain⟨j,hj⟩:=anu.1 h1
  simp at h2
  exact⟨j,b,by rw[hj,h2]⟩
 ·rintro⟨j,Φ,h⟩
  exact⟨_,dC h,by simp⟩
theorem PZ.table (lU:(l.filterMap (·.dst)).Nodup) (hZ:∀(i:Nat) (o:Oper),l[i]? =some o→Z1 n l Ks i o) {K:UN→aN→Prop}:∀(r:de) (ks:List ZK) (m:Nat) (ag:UN) (f:aN) (E0:List PR),
  l.drop m=r→Ks.drop m=ks→E0.length=m→m+r.length=l.length→Q_ l Ks f0 E0 m ag f→PZ P n l.toArray w0 ae K r ks ag f→
  ∃(E:List PR) (U':UN) (f':aN),E.length=l.length∧E.take m=E0∧(∀(i:Nat) (o:Oper),m≤i→l[i]? =some o→Fact P n l Ks w0 ae f0 E i o)∧Q_ l Ks f0 E l.length U' f'∧K U' f'
 |[],ks,m,ag,f,E0,hr,Jf,hl,ud,hL,h=>by
  simp only[gj,anR] at ud
  subst ud
  refine⟨E0,ag,f,hl,by rw[←hl,aoa],fun i o hi ho=>?_,hL,h⟩
  have:=(dE.1 ho).1
  omega
 |o::r,ks,m,ag,f,E0,hr,Jf,hl,ud,hL,h=>by
  have jk:l[m]? =some o:=by
   have:(l.drop m)[0]? =some o:=by rw[hr];rfl
   rwa [anU,anR] at this
  have hr':l.drop (m+1)=r:=by rw[←an9,hr];rfl
  have Ma:Ks.drop (m+1)=ks.tail:=by rw[←an9,Jf];cases ks<;>rfl
  have aih:m+1+r.length=l.length:=by simp only[iI] at ud;omega
  have SY:ks.headD .r=vi Ks m:=by
   unfold vi
   rw[←Jf,ik]
   cases hq:Ks.drop m with
   |nil=>rw[anp (by have:=am_ List.length hq;simp at this;omega)];rfl
   |cons a b=>
    have:(Ks.drop m)[0]? =some a:=by rw[hq];rfl
    rw[anU,anR] at this
    rw[this];rfl
  have z:=hZ m o jk
  have By:∀(q:Nat) (o':Oper) (t:Nat),l[q]? =some o'→o'.dst=some t→o.dst=some t→q=m:=fun q o' t hq hd Da=>
   il (·.dst) l lU q m o' o hq jk (by show o'.dst.isSome=true;rw[hd];rfl) (by show o'.dst=o.dst;rw[hd,Da])
  have Kk:∀t∈o.looksAt l.toArray,eL Ks m=false→YF l Ks m t:=by
   intro t ht hE q o' hq hd Ce
   rcases (z.look t ht).2 with h1|⟨j,tE,hj, -,qC,uf, -⟩
   ·exact absurd hd<|h1 q o' hq
   ·have:q=j:=il (·.dst) l lU q j o' tE hq qC (by show o'.dst.isSome=true;rw[hd];rfl)<|by show o'.dst=tE.dst;rw[hd,uf]
    omega
  have fin:∀(e:PR) (U2:UN) (f2:aN),Q_ l Ks f0 (E0++[e]) (m+1) U2 f2→PZ P n l.toArray w0 ae K r ks.tail U2 f2→
    (∀E:List PR,E.take (m+1)=E0++[e]→Fact P n l Ks w0 ae f0 E m o)→
    ∃(E:List PR) (U':UN) (f':aN),E.length=l.length∧E.take m=E0∧(∀(i:Nat) (o:Oper),m≤i→l[i]? =some o→Fact P n l Ks w0 ae f0 E i o)∧Q_ l Ks f0 E l.length U' f'∧K U' f':=by
   intro e U2 f2 hL2 hP hF
   obtain⟨E,U',f',h1,h2,h3,h4,h5⟩:=PZ.table lU hZ r ks.tail (m+1) U2 f2 (E0++[e]) hr' Ma (by simp[hl]) aih hL2 hP
   refine⟨E,U',f',h1,?_,fun i o' hi lF=>?_,h4,h5⟩
   ·have:=am_ (List.take m) h2
    rw[aoJ,aof aj,aom aj,←hl,aoa] at this
    rw[hl] at this;exact this
   ·by_cases ug:i=m
    ·subst ug
     rw[jk] at lF;cases lF
     exact hF E h2
    ·exact h3 i o' aj lF
  have BH:∀(E:List PR) (e:PR),E.take (m+1)=E0++[e]→ns E m=e:=by
   intro E e h2
   rw[O6 h2 (by simp[hl]) (aoF m)]
   unfold ns
   rw[ik,ny aj,hl,an'];rfl
  have ajq:∀(e:PR) (q:Nat),q<m→ns (E0++[e]) q=ns E0 q:=by
   intro e q hq
   unfold ns
   rw[ik,nM aj,ik]
  have Kc:∀(E:List PR) (e:PR),E.take (m+1)=E0++[e]→E.take m=E0:=by
   intro E e h2
   have:=am_ (List.take m) h2
   rw[aoJ,aof aj,aom aj,←hl,aoa] at this
   rw[hl] at this;exact this
  
  have Sz:∀(e:PR) (g:aN) (N:bW) (w:aH) (t:Nat),Kn l Ks f0 (E0++[e]) (m+1) g N w t→Kn l Ks f0 E0 m g N w t:=fun e g N w t k=>
   ⟨k.off,fun q o' hq h1 h2 h3=>by rw[←ajq e q hq];exact k.AH q o' aj h1 h2 h3⟩
  unfold PZ at h
  rw[SY] at h
  cases hk:vi Ks m with
  |e=>
   rw[hk] at h
   have hE:eL Ks m=true:=by unfold eL;rw[hk];rfl
   refine fin (fun _ _ _=>True) ag f ⟨fun g N w t hV re=>?_,fun j t Φ hj=>?_⟩ h fun E h2=>⟨by rw[BH E _ h2];exact⟨fun _ _ _ _ _ _=>trivial,fun _ _ _ _ _ _ _=>trivial⟩,fun uk=>by rw[hE] at uk;cases uk⟩
   ·exact hL.is g N w t (fun q o' hq hd Ce=>by
     have:=hV q o' hq hd Ce
     by_cases jg:q=m
     ·subst jg;rw[hE] at Ce;cases Ce
     ·omega) (Sz _ g N w t re)
   ·obtain⟨q,o',h1,h2,h3⟩:=hL.Hi j t Φ hj
    exact⟨q,o',by omega,h2,h3⟩
  |f=>
   rw[hk] at h
   obtain⟨X,h1,h1b,h2⟩:=h
   have hE:eL Ks m=false:=by unfold eL;rw[hk];rfl
   obtain⟨d,hd⟩:=z.dst hE
   have hN:nT Ks m=false:=by unfold nT;rw[hk];rfl
   refine fin (eN X) ag (cZ f o.dst X) ⟨fun g N w t hV re=>?_,fun j t Φ hj=>?_⟩ h2 fun E uk=>⟨by rw[BH E _ uk];exact Xs X,fun _=>.inr (.inl ⟨⟨X,BH E _ uk,fun g N w w1 hI re=>?_⟩,hN⟩)⟩
   ·by_cases ht:o.dst=some t
    ·have hv:g t=X:=by
      have:=re.AH m o (aoF m) jk ht hE
      unfold ns at this
      rw[ik,ny aj,hl,an'] at this
      exact this
     refine⟨fun _=>by rw[ht];show g t=ck f t X t;rw[iX];exact hv,fun j Φ hj=>?_⟩
     obtain⟨q,o',h1,h2,h3⟩:=hL.Hi j t Φ hj
     have:=By q o' t h2 h3 ht
     omega
    ·have:=hL.is g N w t (fun q o' hq nK Ce=>by
      have:=hV q o' hq nK Ce
      by_cases jg:q=m
      ·subst jg;rw[jk] at hq;cases hq;exact absurd nK ht
      ·omega) (Sz _ g N w t re)
     refine⟨fun hu=>?_,this.2⟩
     rw[this.1 hu,hd]
     exact(jD f X<|fun e=>ht<|by rw[hd,e]).symm
   ·obtain⟨q,o',h1,h2,h3⟩:=hL.Hi j t Φ hj
    exact⟨q,o',by omega,h2,h3⟩
   ·refine h1 w g hI fun t ht=>?_
    have hu:xL ag t=false:=by
     have:=ani.1 h1b t ht
     simpa using this
    exact⟨hu,(hL.is g N w1 t (Kk t ht hE)<|(re t ht).of (Kc E _ uk) hl).1 hu⟩
  |n=>
   rw[hk] at h
   have hE:eL Ks m=false:=by unfold eL;rw[hk];rfl
   have hN:nT Ks m=true:=by unfold nT;rw[hk];rfl
   obtain⟨d,zz,T,hd,h1b,h1,h2⟩:=h
   refine fin (JN w0 zz T) ((d,JN w0 zz T)::ag) f ⟨fun g N w t hV re=>?_,fun j t Ψ hj=>?_⟩ h2 fun E uk=>⟨by rw[BH E _ uk];exact ae_ w0 zz T,fun _=>.inr (.inr ⟨⟨zz,T,BH E _ uk,fun g N w hx re=>?_⟩,hN⟩)⟩
   ·by_cases ht:d=t
    ·subst ht
     have hv:JN w0 zz T N (g d) w:=by
      have:=re.AH m o (aoF m) jk hd hE
      unfold ns at this
      rw[ik,ny aj,hl,an'] at this
      exact this
     refine⟨fun hu=>?_,fun j Ψ hj=>?_⟩
     ·rw[wY.2 ⟨0,JN w0 zz T,rfl⟩] at hu;cases hu
     ·cases j with
      |zero=>cases hj;exact hv
      |succ j=>
       obtain⟨q,o',h1,h2,h3⟩:=hL.Hi j d Ψ hj
       have:=By q o' d h2 h3 hd
       omega
    ·have Az:=hL.is g N w t (fun q o' hq nK Ce=>by
      have:=hV q o' hq nK Ce
      by_cases jg:q=m
      ·subst jg;rw[jk] at hq;cases hq;rw[hd] at nK;cases nK;exact absurd rfl ht
      ·omega) (Sz _ g N w t re)
     refine⟨fun hu=>Az.1 ?_,fun j Ψ hj=>?_⟩
     ·cases hb:xL ag t with
      |false=>rfl
      |true=>
       obtain⟨j,Ψ,hj⟩:=wY.1 hb
       rw[wY.2 ⟨j+1,Ψ,hj⟩] at hu;cases hu
     ·cases j with
      |zero=>cases hj;exact absurd rfl ht
      |succ j=>exact Az.2 j Ψ hj
   ·cases j with
    |zero=>cases hj;exact⟨m,o,aoF m,jk,hd⟩
    |succ j=>
     obtain⟨q,o',h1,h2,h3⟩:=hL.Hi j t Ψ hj
     exact⟨q,o',by omega,h2,h3⟩
   ·refine h1 w g hx fun t ht=>?_
    have hu:xL ag t=false:=by
     have:=ani.1 h1b t ht
     simpa using this
    exact(hL.is g N w t (Kk t ht hE)<|(re t ht).of (Kc E _ uk) hl).1 hu
  |r|s=>
   all_goals
    rw[hk] at h
    have hE:eL Ks m=false:=by unfold eL;rw[hk];rfl
    have hN:nT Ks m=false:=by unfold nT;rw[hk];rfl
    have hRS:xK Ks m=true∨LU Ks m=true:=by unfold xK LU;rw[hk];first|exact .inl rfl|exact .inr rfl
    obtain⟨d0,Mi⟩:=z.dst hE
    rcases h with ⟨X,h1,h2⟩|⟨d,Φ,hd,SR,h1,h2⟩
    ·refine fin (eN X) ag (cZ f o.dst X) ⟨fun g N w t hV re=>?_,fun j t Φ hj=>?_⟩ h2 fun E uk=>⟨by rw[BH E _ uk];exact Xs X,fun _=>.inl ⟨fun g N w hx hNI re=>?_,hN,hRS⟩⟩
     ·by_cases ht:o.dst=some t
      ·have hv:g t=X:=by
        have:=re.AH m o (aoF m) jk ht hE
        unfold ns at this
        rw[ik,ny aj,hl,an'] at this
        exact this
       refine⟨fun _=>by rw[ht];show g t=ck f t X t;rw[iX];exact hv,fun j Φ hj=>?_⟩
       obtain⟨q,o',h1,h2,h3⟩:=hL.Hi j t Φ hj
       have:=By q o' t h2 h3 ht
       omega
      ·have:=hL.is g N w t (fun q o' hq nK Ce=>by
        have:=hV q o' hq nK Ce
        by_cases jg:q=m
        ·subst jg;rw[jk] at hq;cases hq;exact absurd nK ht
        ·omega) (Sz _ g N w t re)
       refine⟨fun hu=>?_,this.2⟩
       rw[this.1 hu,Mi]
       exact(jD f X<|fun e=>ht<|by rw[Mi,e]).symm
     ·obtain⟨q,o',h1,h2,h3⟩:=hL.Hi j t Φ hj
      exact⟨q,o',by omega,h2,h3⟩
     ·rw[BH E _ uk]
      exact h1 w g N hx hNI fun t ht=>hL.is g N w t (Kk t ht hE) ((re t ht).of (Kc E _ uk) hl)
    ·refine fin Φ ((d,Φ)::ag) f ⟨fun g N w t hV re=>?_,fun j t Ψ hj=>?_⟩ h2 fun E uk=>⟨by rw[BH E _ uk];exact SR,fun _=>.inl ⟨fun g N w hx hNI re=>?_,hN,hRS⟩⟩
     ·by_cases ht:d=t
      ·subst ht
       have hv:Φ N (g d) w:=by
        have:=re.AH m o (aoF m) jk hd hE
        unfold ns at this
        rw[ik,ny aj,hl,an'] at this
        exact this
       refine⟨fun hu=>?_,fun j Ψ hj=>?_⟩
       ·rw[wY.2 ⟨0,Φ,rfl⟩] at hu;cases hu
       ·cases j with
        |zero=>cases hj;exact hv
        |succ j=>
         obtain⟨q,o',h1,h2,h3⟩:=hL.Hi j d Ψ hj
         have:=By q o' d h2 h3 hd
         omega
      ·have Az:=hL.is g N w t (fun q o' hq nK Ce=>by
        have:=hV q o' hq nK Ce
        by_cases jg:q=m
        ·subst jg;rw[jk] at hq;cases hq;rw[hd] at nK;cases nK;exact absurd rfl ht
        ·omega) (Sz _ g N w t re)
       refine⟨fun hu=>Az.1 ?_,fun j Ψ hj=>?_⟩
       ·cases hb:xL ag t with
        |false=>rfl
        |true=>
         obtain⟨j,Ψ,hj⟩:=wY.1 hb
         rw[wY.2 ⟨j+1,Ψ,hj⟩] at hu;cases hu
       ·cases j with
        |zero=>cases hj;exact absurd rfl ht
        |succ j=>exact Az.2 j Ψ hj
     ·cases j with
      |zero=>cases hj;exact⟨m,o,aoF m,jk,hd⟩
      |succ j=>
       obtain⟨q,o',h1,h2,h3⟩:=hL.Hi j t Ψ hj
       exact⟨q,o',by omega,h2,h3⟩
     ·rw[BH E _ uk]
      exact h1 w g N hx hNI fun t ht=>hL.is g N w t (Kk t ht hE) ((re t ht).of (Kc E _ uk) hl)
end
def qO (Ks:List ZK) (L:Nat→Bool):Nat→de→de
 |_,[]=>[]
 |i,o::r=>if eL Ks i&&!L i then o::qO Ks L (i+1) r else qO Ks L (i+1) r
section
variable {Ks:List ZK} {L L':Nat→Bool}
theorem Fk:∀(r:de) (i:Nat) (ks:List ZK),Ks.drop i=ks→qO Ks (fun _=>false) i r=FV ks r
 |[],_,_,_=>rfl
 |o::r,i,ks,h=>by
  have Ma:Ks.drop (i+1)=ks.tail:=by rw[←an9,h];cases ks<;>rfl
  have SY:ks.headD .r=vi Ks i:=by
   unfold vi
   rw[←h,ik]
   cases hq:Ks.drop i with
   |nil=>rw[anp (by have:=am_ List.length hq;simp at this;omega)];rfl
   |cons a b=>
    have:(Ks.drop i)[0]? =some a:=by rw[hq];rfl
    rw[anU,anR] at this
    rw[this];rfl
  unfold qO FV
  rw[SY,Fk r (i+1) ks.tail Ma]
  unfold eL
  cases vi Ks i<;>simp[zkE]
theorem oa:∀(r:de) (i:Nat),(∀k,i≤k→eL Ks k=true→L k=L' k)→qO Ks L i r=qO Ks L' i r
 |[],_,_=>rfl
 |o::r,i,h=>by
  unfold qO
  rw[oa r (i+1) fun k hk=>h k aj]
  cases hE:eL Ks i with
  |false=>simp
  |true=>rw[h i (ane _) hE]
theorem Cz:∀(r:de) (i j:Nat) (o:Oper),r[j]? =some o→eL Ks (i+j)=true→L (i+j)=false→(∀e,i≤e→e<i+j→eL Ks e=true→L e=true)→
  qO Ks L i r=o::qO Ks (fun k=>L k||decide (k=i+j)) i r
 |[],_,_,_,h,_,_,_=>by simp at h
 |x::r,i,0,o,h,hE,hL,_=>by
  simp only[anq,ann] at h
  subst h
  rw[anR] at hE hL
  unfold qO
  rw[hE,hL]
  simp only[anR,Bool.not_false,aqf,decide_true,Bool.or_true,apy,ap',aoP,aqd,an3]
  congr 1
  refine oa r (i+1) fun k hk _=>?_
  rw[ank aj,aoI]
 |x::r,i,j+1,o,h,hE,hL,hb=>by
  have ih:=Cz r (i+1) j o (by simpa using h) (by rw[show i+1+j=i+(j+1) from by omega];exact hE) (by rw[show i+1+j=i+(j+1) from by omega];exact hL) fun e h1 h2 h3=>hb e aj aj h3
  rw[show i+1+j=i+(j+1) from by omega] at ih
  have h0:(eL Ks i&&!L i)=false:=by
   cases xU:eL Ks i with
   |false=>rfl
   |true=>rw[hb i (ane _) aj xU];rfl
  unfold qO
  rw[h0,ank (show ¬i=i+(j+1) by omega),aoI,h0]
  simpa using ih
theorem Fj:∀(r:de) (i:Nat),(∀k,i≤k→k<i+r.length→L k=true)→qO Ks L i r=[]
 |[],_,_=>rfl
 |o::r,i,h=>by
  unfold qO
  rw[h i (ane _) (by simp),Fj r (i+1) fun k h1 h2=>h k aj (by simp only[iI];omega)]
  simp
end
theorem HP {l:de} {L:Nat→Bool} (hC:∀i o,L i=true→l[i]? =some o→∀j,kU o j=true→L j=true):
  ∀(n i m:Nat) (o:Oper),l[i]? =some o→(∀j,kU o j=true→L j=true)→oX l n i m=true→L m=true
 |0,_,_,_,_,_,h=>by cases h
 |n+1,i,m,o,ho,hd,h=>by
  simp only[oX,ho,anm] at h
  rcases h with h|h
  ·exact hd m h
  ·obtain⟨j,_,hj⟩:=anN.1 h
   simp only[eW] at hj
   have hlj:=hd j hj.1
   cases qX:l[j]? with
   |none=>
    have h2:=hj.2
    cases n with
    |zero=>cases h2
    |succ n=>simp[oX,qX] at h2
   |some o'=>exact HP hC n j m o' qX (hC j o' hlj qX) hj.2
section
variable {P:Program} {n:Nat} {l:de} {Ks:List ZK} {w0:aH} {ae:aH→Prop} {f0:aN} {E:List PR} {K:aN→aH→Prop}
def VP (P:Program) (n:Nat) (l:de) (ae:aH→Prop) (o:Oper) (g:aN) (d:Nat):Prop:=∀(w2:aH) (g2:aN),ae w2→(∀t∈o.looksAt l.toArray,g2 t=g t)→SO P n l.toArray o g2 w2 (fun f' w'=>f'=cZ g2 o.dst (g d)∧w'=w2)
structure J1 (l:de) (Ks:List ZK) (w0:aH) (f0:aN) (E:List PR) (L:Nat→Bool) (f:aN) (w:aH) (N:bW):Prop where
 ni:EU w0 N w
 dis:∀(p q:Nat) (o o':Oper) (d d':Nat),L p=true→L q=true→p≠q→l[p]? =some o→l[q]? =some o'→nT Ks p=true→nT Ks q=true→o.dst=some d→o'.dst=some d'→f d≠f d'
 no:∀e,e<l.length→eL Ks e=true→L e=false
 ext:Ext w0 w
 off:∀t,(∀(q:Nat) (o:Oper),l[q]? =some o→o.dst=some t→eL Ks q=true)→f t=f0 t
 AH:∀(q:Nat) (o:Oper) (t:Nat),L q=true→l[q]? =some o→o.dst=some t→eL Ks q=false→ns E q N (f t) w
structure J2 (P:Program) (n:Nat) (l:de) (Ks:List ZK) (ae:aH→Prop) (K:aN→aH→Prop) (L:Nat→Bool) (f:aN) (w:aH) (g:aN) (V:Nat→Bool):Prop where
 rd:∀(q:Nat) (o:Oper),l[q]? =some o→xK Ks q=true→L q=true
 eq:∀t,t<n→(∀(q:Nat) (o:Oper),l[q]? =some o→o.dst=some t→(eL Ks q=false∨V q=true)→L q=true)→g t=f t
 vp:∀(q:Nat) (o:Oper) (d:Nat),l[q]? =some o→o.dst=some d→(eL Ks q=false∨V q=true)→L q=false→VP P n l ae o g d
 i:ae w
 we:WE P n l.toArray ae K (qO Ks (fun k=>L k||V k) 0 l) g w
 vx:∀q,V q=true→tG l Ks q=true
 vl:∀q,V q=true→∀e,e<q→eL Ks e=true→jR l e=false→L e=true
 vd:∀q,V q=true→∀m,m<q→tG l Ks m=true→L m=false→V m=true
def NF (l:de) (Ks:List ZK) (L V:Nat→Bool) (m:Nat):Prop:=∀q,q<m→tG l Ks q=true→L q=false→(∀e,e<q→eL Ks e=true→jR l e=false→L e=true)→V q=true
theorem Ys (lU:(l.filterMap (·.dst)).Nodup) (hZ:∀(i:Nat) (o:Oper),l[i]? =some o→Z1 n l Ks i o) (hF:∀(i:Nat) (o:Oper),l[i]? =some o→Fact P n l Ks w0 ae f0 E i o) {L:Nat→Bool} {f:aN} {w:aH} {N:bW}
  (h:J1 l Ks w0 f0 E L f w N) (hI:∀w',Ext w0 w'→ae w') (hR:∀(q:Nat) (o:Oper),l[q]? =some o→xK Ks q=true→L q=true) (eo:∀(i:Nat) (o:Oper) (d:Nat),l[i]? =some o→o.dst=some d→d<n):∀m,m≤l.length→
  ∃g:aN,(∀t,(∀(q:Nat) (o:Oper),q<m→l[q]? =some o→o.dst=some t→eL Ks q=false→L q=true)→g t=f t)∧
   (∀(q:Nat) (o:Oper) (d:Nat),q<m→l[q]? =some o→o.dst=some d→eL Ks q=false→L q=false→VP P n l ae o g d)∧
   (∀(q:Nat) (o:Oper) (t:Nat),q<m→l[q]? =some o→o.dst=some t→eL Ks q=false→ns E q N (g t) w)
 |0,_=>⟨f,fun _ _=>rfl,fun q o d hq=>absurd hq (aoR _),fun q o t hq=>absurd hq (aoR _)⟩
 |m+1,hm=>by
  obtain⟨g,g1,g2,g3⟩:=Ys lU hZ hF h hI hR eo m aj
  have jk:l[m]? =some l[m]:=eI aj
  generalize l[m]=o at jk
  have z:=hZ m o jk
  have uniq:∀(q q':Nat) (a b:Oper) (t:Nat),l[q]? =some a→l[q']? =some b→a.dst=some t→b.dst=some t→q=q':=fun q q' a b t h1 h2 h3 h4=>
   il (·.dst) l lU q q' a b h1 h2 (by show a.dst.isSome=true;rw[h3];rfl) (by show a.dst=b.dst;rw[h3,h4])
  cases hE:eL Ks m with
  |true=>
   refine⟨g,fun t ht=>g1 t fun q o' hq=>ht q o' aj,fun q o' d hq h1 h2 h3 h4=>?_,fun q o' t hq h1 h2 h3=>?_⟩
   ·by_cases jg:q=m
    ·subst jg;rw[hE] at h3;cases h3
    ·exact g2 q o' d aj h1 h2 h3 h4
   ·by_cases jg:q=m
    ·subst jg;rw[hE] at h3;cases h3
    ·exact g3 q o' t aj h1 h2 h3
  |false=>
   obtain⟨d,hd⟩:=z.dst hE
   have gd:g d=f d:=g1 d fun q o' hq h1 h2 h3=>by have:=uniq q m o' o d h1 jk h2 hd;omega
   cases Ta:L m with
   |true=>
    refine⟨g,fun t ht=>g1 t fun q o' hq=>ht q o' aj,fun q o' d' hq h1 h2 h3 h4=>?_,fun q o' t hq h1 h2 h3=>?_⟩
    ·by_cases jg:q=m
     ·subst jg;rw[Ta] at h4;cases h4
     ·exact g2 q o' d' aj h1 h2 h3 h4
    ·by_cases jg:q=m
     ·subst jg
      rw[jk] at h1;cases h1
      rw[hd] at h2;cases h2
      rw[gd];exact h.AH q o d Ta jk hd hE
     ·exact g3 q o' t aj h1 h2 h3
   |false=>
    
    have SX:∀t∈o.looksAt l.toArray,t≠d∧∀(q:Nat) (o':Oper),l[q]? =some o'→o'.dst=some t→eL Ks q=false→q<m:=by
     intro t ht
     rcases (z.look t ht).2 with h1|⟨j,tE,hj, -,qC,uf, -⟩
     ·exact⟨fun e=>h1 m o jk (by rw[hd,e]),fun q o' hq nK _=>absurd nK (h1 q o' hq)⟩
     ·refine⟨fun e=>?_,fun q o' hq nK _=>?_⟩
      ·have:=uniq j m tE o d qC jk (by rw[uf,e]) hd;omega
      ·have:=uniq q j o' tE t hq qC nK uf;omega
    have yS:∀t∈o.looksAt l.toArray,Kn l Ks f0 E m g N w t:=fun t ht=>⟨fun FF=>by
      rw[g1 t fun q o' hq h1 h2 h3=>absurd h3 (by rw[FF q o' h1 h2];decide)]
      exact h.off t FF,fun q o' hq h1 h2 h3=>g3 q o' t hq h1 h2 h3⟩
    have key:∃v,ns E m N v w∧∀(w2:aH) (g2:aN),ae w2→(∀t∈o.looksAt l.toArray,g2 t=g t)→SO P n l.toArray o g2 w2 (fun f' w'=>f'=cZ g2 o.dst v∧w'=w2):=by
     rcases (hF m o jk).go hE with ⟨hFR, -,hk⟩|⟨⟨X,hX,hFF⟩, -⟩|⟨-,hk⟩
     ·rcases hk with hk|hk
      ·have:=hR m o jk hk;rw[Ta] at this;cases this
      ·obtain⟨v,hv,vk⟩:=UF (z.slot hk) ⟨d,hd,eo m o d jk hd⟩ (hFR g N w h.ext h.ni yS)
       exact⟨v,hv,fun w2 g2 _ hg=>vk g2 w2 hg⟩
     rotate_left
     ·have:=hR m o jk (by unfold nT at hk;unfold xK;cases hq:vi Ks m<;>rw[hq] at hk<;>first|rfl|cases hk);rw[Ta] at this;cases this
     ·refine⟨X,by rw[hX];rfl,fun w2 g2 G1 hg=>hFF g2 N w2 w G1 fun t ht=>?_⟩
      have k:=yS t ht
      exact⟨fun FF=>by rw[hg t ht];exact k.off FF,fun q o' hq h1 h2 h3=>by rw[hg t ht];exact k.AH q o' hq h1 h2 h3⟩
    obtain⟨v,hv,hvp⟩:=key
    have gA:∀t,t≠d→ck g d v t=g t:=fun t ht=>jD g v ht
    refine⟨ck g d v,fun t ht=>?_,fun q o' d' hq h1 h2 h3 h4=>?_,fun q o' t hq h1 h2 h3=>?_⟩
    ·have C4:t≠d:=fun e=>by
      have:=ht m o (aoF m) jk (by rw[hd,e]) hE
      rw[Ta] at this;cases this
     rw[gA t C4]
     exact g1 t fun q o' hq=>ht q o' aj
    ·by_cases jg:q=m
     ·subst jg
      rw[jk] at h1;cases h1
      rw[hd] at h2;cases h2
      intro w2 gg G1 hg
      rw[iX]
      exact hvp w2 gg G1 fun t ht=>by rw[hg t ht,gA t (SX t ht).1]
     ·have Mh:d'≠d:=fun e=>jg<|uniq q m o' o d h1 jk (by rw[h2,e]) hd
      have zq:=hZ q o' h1
      intro w2 gg G1 hg
      rw[gA d' Mh]
      refine g2 q o' d' aj h1 h2 h3 h4 w2 gg G1 fun t ht=>?_
      rw[hg t ht]
      refine gA t fun e=>?_
      rcases (zq.look t ht).2 with h5|⟨j,tE,hj, -,qC,uf, -⟩
      ·exact h5 m o jk<|by rw[hd,e]
      ·have:=uniq j m tE o d qC jk (by rw[uf,e]) hd;omega
    ·by_cases jg:q=m
     ·subst jg
      rw[jk] at h1;cases h1
      rw[hd] at h2;cases h2
      rw[iX];exact hv
     ·rw[gA t fun e=>jg (uniq q m o' o d h1 jk (by rw[h2,e]) hd)]
      exact g3 q o' t aj h1 h2 h3
theorem Sb (a b:Bool) (c:Prop) [Decidable c]:((a||b)||decide c)=(a||(b||decide c)):=by cases a<;>cases b<;>rfl
theorem Yt (lU:(l.filterMap (·.dst)).Nodup) (hZ:∀(i:Nat) (o:Oper),l[i]? =some o→Z1 n l Ks i o) (eo:∀(i:Nat) (o:Oper) (d:Nat),l[i]? =some o→o.dst=some d→d<n) {L:Nat→Bool} {f g0:aN} {w:aH} {V0:Nat→Bool} (h0:J2 P n l Ks ae K L f w g0 V0):∀m,m≤l.length→
  ∃g V,J2 P n l Ks ae K L f w g V∧NF l Ks L V m
 |0,_=>⟨g0,V0,h0,fun q hq=>absurd hq (aoR _)⟩
 |m+1,hm=>by
  obtain⟨g,V,h,hN⟩:=Yt lU hZ eo h0 m aj
  have uniq:∀(q q':Nat) (a b:Oper) (t:Nat),l[q]? =some a→l[q']? =some b→a.dst=some t→b.dst=some t→q=q':=fun q q' a b t h1 h2 h3 h4=>
   il (·.dst) l lU q q' a b h1 h2 (by show a.dst.isSome=true;rw[h3];rfl) (by show a.dst=b.dst;rw[h3,h4])
  by_cases hgo:tG l Ks m=true∧L m=false∧V m=false∧∀e,e<m→eL Ks e=true→jR l e=false→L e=true
  rotate_left
  ·refine⟨g,V,h,fun q hq hx hL hr=>?_⟩
   by_cases jg:q=m
   ·subst jg
    cases hV:V q with
    |true=>rfl
    |false=>exact absurd ⟨hx,hL,hV,hr⟩ hgo
   ·exact hN q aj hx hL hr
  obtain⟨hx,hL,hV,hr⟩:=hgo
  have jk:l[m]? =some l[m]:=eI aj
  generalize l[m]=o at jk
  have z:=hZ m o jk
  have LZ:eL Ks m=true∧jR l m=true:=by
   have:=hx;unfold tG at this;rwa [eW] at this
  have hso:tv o=true:=by have:=LZ.2;unfold jR at this;rwa [jk] at this
  obtain⟨⟨d,hd⟩, -⟩:=z.xd LZ.1 hso
  have sX:=eo m o d jk hd
  have hbV:∀e,e<m→eL Ks e=true→(L e||V e)=true:=by
   intro e he np
   cases qW:jR l e with
   |false=>rw[hr e he np qW];rfl
   |true=>
    cases hLe:L e with
    |true=>rfl
    |false=>rw[hN e he (by unfold tG;rw[np,qW];rfl) hLe fun e' h1 h2 h3=>hr e' aj h2 h3];rfl
  have xM:=h.we
  rw[Cz l 0 m o jk (by rw[anX];exact LZ.1) (by rw[anX,hL,hV];rfl) (fun e _ h2 h3=>hbV e aj h3)] at xM
  simp only[anX] at xM
  have hsr:=SO.Xh (show SO P n l.toArray o g w _ from xM) z.sel<|fun t _=>rfl
  obtain⟨v,⟨g',hg',Ya,B4⟩,kQ⟩:=IJ (P:=P) (n:=n) (ops:=l.toArray) (R:=fun v w'=>∃g',cj n g'=cj n (cZ g o.dst v)∧ae w'∧WE P n l.toArray ae K (qO Ks (fun k=>(L k||V k)||decide (k=m)) 0 l) g' w') hso ⟨d,hd,sX⟩ (hsr.mono fun f' w' ⟨v,g',e1,e2,e3,e4⟩=>⟨v,e1,trivial,g',e2,e3,e4⟩)
  have Jj:∀t,t<n→g' t=ck g d v t:=by
   intro t ht
   have:(cj n g').tmps[t]? =(cj n (cZ g o.dst v)).tmps[t]?:=by rw[hg']
   rw[hd] at this
   simpa [cj,ht,cZ] using this
  have X_:∀q,(V q||decide (q=m))=true→q≠m→V q=true:=fun q h4 jg=>by
   rcases an5.1 h4 with h4|h4
   ·exact h4
   ·exact absurd (by simpa using h4) jg
  
  have afj:∀(q:Nat) (o':Oper),l[q]? =some o'→q≠m→(eL Ks q=false∨V q=true)→∀t∈o'.looksAt l.toArray,t≠d:=by
   intro q o' hq jg C9 t ht e
   subst e
   rcases ((hZ q o' hq).look t ht).2 with h5|⟨j,tE,hj, -,qC,uf,hj4⟩
   ·exact h5 m o jk hd
   ·have:=uniq j m tE o t qC jk uf hd
    subst this
    rcases C9 with h6|h6
    ·rw[hj4 h6] at LZ;cases LZ.1
    ·have:=h.vd q h6 j hj hx hL
     rw[hV] at this;cases this
  refine⟨g',fun k=>V k||decide (k=m),⟨h.rd,fun t ht hq=>?_,fun q o' d' h1 h2 h3 h4=>?_,h.i,?_,fun q hq=>?_,fun q hq e he np qW=>?_,fun q hq m' hm' qx EG=>?_⟩,fun q hq qx EG hr'=>?_⟩
  ·have C4:t≠d:=fun e=>by
    have:=hq m o jk (by rw[hd,e])<|.inr (by simp)
    rw[hL] at this;cases this
   rw[Jj t ht,jD g v C4]
   exact h.eq t ht fun q o' h1 h2 h3=>hq q o' h1 h2 (h3.imp id fun h=>by rw[h];rfl)
  ·by_cases jg:q=m
   ·subst jg
    rw[jk] at h1;cases h1
    rw[hd] at h2;cases h2
    intro w2 gg _ hg
    rw[Jj d sX,iX]
    refine kQ gg w2 fun t ht=>?_
    have hk:=z.look t ht
    rw[hg t ht,Jj t hk.1]
    refine jD g v fun e=>?_
    rcases hk.2 with h5|⟨j,tE,hj, -,qC,uf, -⟩
    ·exact h5 q o jk<|by rw[hd,e]
    ·have:=uniq j q tE o d qC jk (by rw[uf,e]) hd;omega
   ·have C9:eL Ks q=false∨V q=true:=h3.imp id fun h=>X_ q h jg
    have hv:=h.vp q o' d' h1 h2 C9 h4
    have Mh:d'≠d:=fun e=>jg<|uniq q m o' o d h1 jk (by rw[h2,e]) hd
    intro w2 gg G1 hg
    rw[Jj d' (eo q o' d' h1 h2),jD g v Mh]
    refine hv w2 gg G1 fun t ht=>?_
    rw[hg t ht,Jj t ((hZ q o' h1).look t ht).1]
    exact jD g v<|afj q o' h1 jg C9 t ht
  ·rw[oa (L':=fun k=>(L k||V k)||decide (k=m)) l 0 fun k _ _=>(Sb _ _ _).symm]
   exact B4
  ·by_cases jg:q=m
   ·subst jg;exact hx
   ·exact h.vx q<|X_ q hq jg
  ·by_cases jg:q=m
   ·subst jg;exact hr e he np qW
   ·exact h.vl q (X_ q hq jg) e he np qW
  ·show (V m'||decide (m'=m))=true
   by_cases jg:q=m
   ·subst jg
    rw[hN m' hm' qx EG fun e h1 h2 h3=>hr e aj h2 h3];rfl
   ·rw[h.vd q (X_ q hq jg) m' hm' qx EG];rfl
  ·show (V q||decide (q=m))=true
   by_cases jg:q=m
   ·subst jg;simp
   ·rw[hN q aj qx EG hr'];rfl
theorem Rq (lU:(l.filterMap (·.dst)).Nodup) (hZ:∀(i:Nat) (o:Oper),l[i]? =some o→Z1 n l Ks i o) (eo:∀(i:Nat) (o:Oper) (d:Nat),l[i]? =some o→o.dst=some d→d<n) {L:Nat→Bool} {f g:aN} {w:aH} {V:Nat→Bool} (h:J2 P n l Ks ae K L f w g V) (hN:NF l Ks L V l.length) {i:Nat} {o:Oper}
  (ho:l[i]? =some o) (hE:eL Ks i=true) (hS:jR l i=false) (uj:L i=false) (hb:∀e,e<i→eL Ks e=true→jR l e=false→L e=true) (sX:∀j,kU o j=true→L j=true):
  SO P n l.toArray o f w (fun f' w'=>∃g' V',J2 P n l Ks ae K (fun k=>L k||decide (k=i)) f' w' g' V'∧NF l Ks (fun k=>L k||decide (k=i)) V' l.length):=by
 have z:=hZ i o ho
 have jN:=(dE.1 ho).1
 have uniq:∀(q q':Nat) (a b:Oper) (t:Nat),l[q]? =some a→l[q']? =some b→a.dst=some t→b.dst=some t→q=q':=fun q q' a b t h1 h2 h3 h4=>
  il (·.dst) l lU q q' a b h1 h2 (by show a.dst.isSome=true;rw[h3];rfl) (by show a.dst=b.dst;rw[h3,h4])
 have hXi:tG l Ks i=false:=by unfold tG;rw[hS,ap']
 have hVi:V i=false:=by
  cases hq:V i with
  |false=>rfl
  |true=>rw[h.vx i hq] at hXi;cases hXi
 have C9:∀q,(eL Ks q=false∨V q=true)→q≠i:=fun q h3 e=>by
  subst e
  rcases h3 with h3|h3
  ·rw[hE] at h3;cases h3
  ·rw[hVi] at h3;cases h3
 have hbV:∀e,e<i→eL Ks e=true→(L e||V e)=true:=by
  intro e he np
  cases qW:jR l e with
  |false=>rw[hb e he np qW];rfl
  |true=>
   cases hLe:L e with
   |true=>rfl
   |false=>rw[hN e aj (by unfold tG;rw[np,qW];rfl) hLe fun e' h1 h2 h3=>hb e' aj h2 h3];rfl
 have xM:=h.we
 rw[Cz l 0 i o ho (by rw[anX];exact hE) (by rw[anX,uj,hVi];rfl) (fun e _ h2 h3=>hbV e aj h3)] at xM
 simp only[anX] at xM
 have SX:∀t∈o.looksAt l.toArray,f t=g t:=by
  intro t ht
  have q:=z.look t ht
  refine(h.eq t q.1 fun q' o' h1 h2 h3=>?_).symm
  rcases q.2 with h4|⟨j,tE,hj,Mb,qC,uf, -⟩
  ·exact absurd h2<|h4 q' o' h1
  ·rw[uniq q' j o' tE t h1 qC h2 uf];exact sX j Mb
 refine(SO.Xh (show SO P n l.toArray o g w _ from xM) z.sel SX).mono ?_
 rintro f' w' ⟨v,g',rfl,hg',Ya,B4⟩
 have Jj:∀t,t<n→g' t=cZ g o.dst v t:=by
  intro t ht
  have:(cj n g').tmps[t]? =(cj n (cZ g o.dst v)).tmps[t]?:=by rw[hg']
  simpa [cj,ht] using this
 refine Yt (V0:=V) lU hZ eo (L:=fun k=>L k||decide (k=i)) (g0:=g') ⟨fun q o' h1 h2=>by rw[h.rd q o' h1 h2];rfl,fun t ht hq=>?_,fun q o' d h1 h2 h3 h4=>?_,Ya,?_,h.vx,fun q hq e he np qW=>by rw[h.vl q hq e he np qW];rfl,fun q hq m hm hx hL=>h.vd q hq m hm hx ?_⟩ l.length<|ane _
 ·rw[Jj t ht]
  cases hd:o.dst with
  |none=>
   show g t=f t
   refine h.eq t ht fun q o' h1 h2 h3=>?_
   rcases an5.1 (hq q o' h1 h2 h3) with h4|h4
   ·exact h4
   ·exact absurd (by simpa using h4)<|C9 q h3
  |some d=>
   show ck g d v t=ck f d v t
   by_cases C4:t=d
   ·subst C4;rw[iX,iX]
   ·rw[jD g v C4,jD f v C4]
    refine h.eq t ht fun q o' h1 h2 h3=>?_
    rcases an5.1 (hq q o' h1 h2 h3) with h4|h4
    ·exact h4
    ·exact absurd (by simpa using h4)<|C9 q h3
 ·have h4':L q=false:=by
   cases hq:L q with
   |false=>rfl
   |true=>rw[hq] at h4;cases h4
  have hv:=h.vp q o' d h1 h2 h3 h4'
  have gA:∀t,t<n→o.dst≠some t→g' t=g t:=by
   intro t ht hd
   rw[Jj t ht]
   cases nK:o.dst with
   |none=>rfl
   |some d'=>exact jD g v fun e=>hd (by rw[nK,e])
  intro w2 gg G1 hg
  rw[gA d (eo q o' d h1 h2) (fun e=>C9 q h3 (uniq q i o' o d h1 ho h2 e))]
  refine hv w2 gg G1 fun t ht=>?_
  rw[hg t ht]
  have zq:=(hZ q o' h1).look t ht
  refine gA t zq.1 fun e=>?_
  rcases zq.2 with h5|⟨j,tE,hj, -,qC,uf,hj4⟩
  ·exact h5 i o ho e
  ·have:=uniq j i tE o t qC ho uf e
   subst this
   rcases h3 with h3|h3
   ·rw[hj4 h3] at hE;cases hE
   ·rw[h.vl q h3 j hj hE hS] at uj;cases uj
 ·rw[oa (L':=fun k=>(L k||V k)||decide (k=i)) l 0 fun k _ _=>by cases L k<;>cases V k<;>cases decide (k=i)<;>rfl]
  exact B4
 ·cases hq:L m with
  |false=>rfl
  |true=>simp[hq] at hL
theorem LD {Ks:List ZK} {d:Nat}:∀(r:de) (i:Nat) (ks:List ZK),Ks.drop i=ks→d∈Fu ks r→∃(j:Nat) (o:Oper),r[j]? =some o∧nT Ks (i+j)=true∧o.dst.getD 0=d
 |[],_,_,_,h=>by cases h
 |o::r,i,ks,h,hd=>by
  have Ma:Ks.drop (i+1)=ks.tail:=by rw[←an9,h];cases ks<;>rfl
  have SY:ks.headD .r=vi Ks i:=by
   unfold vi
   rw[←h,ik]
   cases hq:Ks.drop i with
   |nil=>rw[anp (by have:=am_ List.length hq;simp at this;omega)];rfl
   |cons a b=>
    have:(Ks.drop i)[0]? =some a:=by rw[hq];rfl
    rw[anU,anR] at this
    rw[this];rfl
  have acp:d∈Fu ks.tail r→∃(j:Nat) (o':Oper),(o::r)[j]? =some o'∧nT Ks (i+j)=true∧o'.dst.getD 0=d:=fun hd=>by
   obtain⟨j,o',h1,h2,h3⟩:=LD r (i+1) ks.tail Ma hd
   exact⟨j+1,o',by simpa using h1,by rw[show i+(j+1)=i+1+j from by omega];exact h2,h3⟩
  unfold Fu at hd
  rw[SY] at hd
  cases hk:vi Ks i with
  |n=>
   rw[hk] at hd
   rcases ans.1 hd with rfl|hd
   ·exact⟨0,o,J,by rw[anR];unfold nT;rw[hk];rfl,J⟩
   ·exact acp hd
  |_=>rw[hk] at hd;exact acp hd
theorem lH {id:Nat} {Q:Exit→Act→aH→Prop} {f:aN} {w:aH} (Ks:List ZK) (ae:aH→Prop) (hm:P.follows .mixedOrders=true) (qB:okZ n l Ks=true) (hI:∀w',Ext w w'→ae w')
  (h:PZ P n l.toArray w ae (KZ P n l.toArray Q w ae (FV Ks l) (Fu Ks l)) l Ks [] f):WC P n (.region id l.toArray true) Q f w:=by
 simp only[okZ,eW] at qB
 obtain⟨hE,hN,hn,h1⟩:=qB
 have lU:(l.filterMap (·.dst)).Nodup:=pc _ hN
 have eo:∀(i:Nat) (o:Oper) (d:Nat),l[i]? =some o→o.dst=some d→d<n:=by
  intro i o d hi hd
  have:=ani.1 hn d<|anF.2 ⟨o,dC hi,hd⟩
  simpa using this
 have hZ:∀(i:Nat) (o:Oper),l[i]? =some o→Z1 n l Ks i o:=fun i o hi=>by
  have:=Ox l 0 h1 i o hi
  rwa [anX] at this
 have uniq:∀(q q':Nat) (a b:Oper) (t:Nat),l[q]? =some a→l[q']? =some b→a.dst=some t→b.dst=some t→q=q':=fun q q' a b t h1 h2 h3 h4=>
  il (·.dst) l lU q q' a b h1 h2 (by show a.dst.isSome=true;rw[h3];rfl) (by show a.dst=b.dst;rw[h3,h4])
 obtain⟨E,U',f',hEl, -,hF0,hL,hK⟩:=PZ.table (f0:=f) lU hZ l Ks 0 [] f [] rfl rfl rfl (by simp)
  ⟨fun g N w t hV re=>⟨fun _=>re.off fun q o h1 h2=>by
   cases hq:eL Ks q with
   |true=>rfl
   |false=>exact absurd (hV q o h1 h2 hq) (aoR _),fun j Φ hj=>by simp at hj⟩,fun j t Φ hj=>by simp at hj⟩ h
 have hF:∀(i:Nat) (o:Oper),l[i]? =some o→Fact P n l Ks w ae f E i o:=fun i o hi=>hF0 i o (aok _) hi
 have FG:∀d,d∈Fu Ks l→∃(q:Nat) (o:Oper),l[q]? =some o∧nT Ks q=true∧o.dst=some d:=fun d hd=>by
  obtain⟨j,o,h2,h3,h4⟩:=LD l 0 Ks rfl hd
  rw[anX] at h3
  have gA:eL Ks j=false:=by unfold nT at h3;unfold eL;cases hq:vi Ks j<;>rw[hq] at h3<;>first|rfl|exact Bool.noConfusion h3
  obtain⟨d',nK⟩:=(hZ j o h2).dst gA
  rw[nK] at h4
  exact⟨j,o,h2,h3,by rw[nK];exact am_ some h4⟩
 have X':∀q,nT Ks q=true→xK Ks q=true:=fun q h3=>by unfold nT at h3;unfold xK;cases hq:vi Ks q<;>rw[hq] at h3<;>first|rfl|exact Bool.noConfusion h3
 refine drj (P:=P) (Q:=Q) (fun L g w'=>(∀(i:Nat) (o:Oper),L i=true→l[i]? =some o→∀j,kU o j=true→L j=true)∧((∃N,J1 l Ks w f E L g w' N)∨∃g2 V,J2 P n l Ks ae (fun f w=>Q .normal (cj n f) w) L g w' g2 V∧NF l Ks L V l.length)) hm hE ?_ ?_ ?_
 ·exact⟨fun i o hi=>Bool.noConfusion hi,.inl ⟨fun _=>False,fun b hb=>hb.elim,fun p q o o' d d' hp=>Bool.noConfusion hp,fun e _ _=>rfl,Ext.drew w,fun t _=>rfl,fun q o t hq=>Bool.noConfusion hq⟩⟩
 ·rintro L g w' i o ho uj hLl sX ⟨hC,hJ⟩
  have z:=hZ i o ho
  have jN:=(dE.1 ho).1
  have Mm:∀(q:Nat) (o':Oper),(L q||decide (q=i))=true→l[q]? =some o'→∀j,kU o' j=true→(L j||decide (j=i))=true:=by
   intro q o' hq uc j hj
   rcases an5.1 hq with h1|h1
   ·rw[hC q o' h1 uc j hj];rfl
   ·have:q=i:=by simpa using h1
    subst this
    rw[ho] at uc;cases uc
    rw[sX j hj];rfl
  have late:∀(g2:aN) (V:Nat→Bool),J2 P n l Ks ae (fun f w=>Q .normal (cj n f) w) L g w' g2 V→NF l Ks L V l.length→∀d,o.dst=some d→(eL Ks i=false∨V i=true)→(eL Ks i=true→tG l Ks i=true)→
    SO P n l.toArray o g w' (fun EK mJ=>∃g2 V,J2 P n l Ks ae (fun f w=>Q .normal (cj n f) w) (fun k=>L k||decide (k=i)) EK mJ g2 V∧NF l Ks (fun k=>L k||decide (k=i)) V l.length):=by
   intro g2 V hJ G0 d hd C9 aff
   have SX:∀t∈o.looksAt l.toArray,g t=g2 t:=by
    intro t ht
    have q:=z.look t ht
    refine(hJ.eq t q.1 fun q' o' h1 h2 h3=>?_).symm
    rcases q.2 with h4|⟨j,tE,hj,Mb,qC,uf, -⟩
    ·exact absurd h2<|h4 q' o' h1
    ·rw[uniq q' j o' tE t h1 qC h2 uf];exact sX j Mb
   have X3:∀q,(L q||decide (q=i))=true→q≠i→L q=true:=fun q h4 tJ=>by
    rcases an5.1 h4 with h4|h4
    ·exact h4
    ·exact absurd (by simpa using h4) tJ
   have hLf:∀q,(L q||decide (q=i))=false→L q=false:=fun q h4=>by
    cases hq:L q with
    |false=>rfl
    |true=>simp[hq] at h4
   refine(hJ.vp i o d ho hd C9 uj w' g hJ.i SX).mono ?_
   rintro EK mJ ⟨rfl,rfl⟩
   refine⟨g2,V,⟨fun q o' h1 h2=>by rw[hJ.rd q o' h1 h2];rfl,fun t ht hq=>?_,fun q o' d' h1 h2 h3 h4=>hJ.vp q o' d' h1 h2 h3 (hLf q h4),hJ.i,?_,hJ.vx,fun q hq e he np qW=>by rw[hJ.vl q hq e he np qW];rfl,fun q hq m hm hx EG=>hJ.vd q hq m hm hx (hLf m EG)⟩,fun q hq hx EG hr=>G0 q hq hx (hLf q EG) fun e he np qW=>X3 e (hr e he np qW) fun e'=>?_⟩
   ·rw[hd]
    show g2 t=ck g d (g2 d) t
    by_cases C4:t=d
    ·subst C4;rw[iX]
    ·rw[jD g _ C4]
     refine hJ.eq t ht fun q o' h1 h2 h3=>X3 q (hq q o' h1 h2 h3) fun e=>?_
     subst e
     rw[ho] at h1;cases h1
     rw[hd] at h2;cases h2
     exact C4 J
   ·rw[oa (L':=fun k=>L k||V k) l 0 fun k _ hk=>?_]
    ·exact hJ.we
    ·by_cases Ay:k=i
     ·subst Ay
      rcases C9 with h1|h1
      ·rw[h1] at hk;cases hk
      ·simp[h1]
     ·rw[ank Ay,aoI]
   ·subst e'
    have:=aff np
    unfold tG at this
    rw[qW,ap'] at this;cases this
  cases xU:eL Ks i with
  |true=>
   have hb:∀e,e<i→eL Ks e=true→jR l e=false→L e=true:=fun e he np qW=>HP hC l.length i e o ho sX<|z.ord xU e he np qW
   have hsl:tv o=jR l i:=by unfold jR;rw[ho]
   have hR:∀(q:Nat) (o':Oper),l[q]? =some o'→xK Ks q=true→L q=true:=fun q o' hq hk=>by
    have:=(hZ q o' hq).rd hk i jN xU
    exact HP hC l.length i q o ho sX this
   rcases hJ with ⟨N,hJ⟩|⟨g2,V,hJ,G0⟩
   ·have Jm:jR l i=false:=by
     cases Jm:jR l i with
     |false=>rfl
     |true=>
      obtain⟨-,e,he,np,qW⟩:=z.xd xU (by rw[hsl,Jm])
      have h1:=hb e he np qW
      rw[hJ.no e aj np] at h1;cases h1
    obtain⟨g2,q1,q2,q3⟩:=Ys lU hZ hF hJ hI hR eo l.length (ane _)
    have yS:∀t,Kn l Ks f E l.length g2 N w' t:=fun t=>⟨fun FF=>by
      rw[q1 t fun q o' _ h1 h2 h3=>absurd h3 (by rw[FF q o' h1 h2];decide)]
      exact hJ.off t FF,fun q o' hq h1 h2 h3=>q3 q o' t hq h1 h2 h3⟩
    have hV:∀t,YF l Ks l.length t:=fun t q o' h1 _ _=>(dE.1 h1).1
    have xM:=hK w' g2 N hJ.ext hJ.ni (fun d d' h1 h2 h3=>by
     obtain⟨p,o1,a1,a2,a3⟩:=FG d h1
     obtain⟨q,o2,b1,b2,b3⟩:=FG d' h2
     have e1:g2 d=g d:=q1 d fun q' o' _ c1 c2 _=>by rw[uniq q' p o' o1 d c1 a1 c2 a3];exact hR p o1 a1 (X' p a2)
     have e2:g2 d'=g d':=q1 d' fun q' o' _ c1 c2 _=>by rw[uniq q' q o' o2 d' c1 b1 c2 b3];exact hR q o2 b1 (X' q b2)
     rw[e1,e2]
     exact hJ.dis p q o1 o2 d d' (hR p o1 a1 (X' p a2)) (hR q o2 b1 (X' q b2)) (fun e=>h3 (by subst e;rw[a1] at b1;cases b1;rw[a3] at b3;exact ana b3)) a1 b1 a2 b2 a3 b3) (fun t ht=>(hL.is g2 N w' t (hV t) (yS t)).1 ht) (fun j t Φ hj=>(hL.is g2 N w' t (hV t) (yS t)).2 j Φ hj)
    have hJ2:J2 P n l Ks ae (fun f w=>Q .normal (cj n f) w) L g w' g2 (fun _=>false):=by
     refine⟨hR,fun t _ ht=>q1 t fun q o' _ h1 h2 h3=>ht q o' h1 h2 (.inl h3),fun q o' d h1 h2 h3=>q2 q o' d (dE.1 h1).1 h1 h2 (h3.resolve_right au),hI w' hJ.ext,?_,fun q hq=>(by cases hq),fun q hq=>(by cases hq),fun q hq=>(by cases hq)⟩
     rw[oa (L':=L) l 0 fun k _ _=>aoI _]
     have:qO Ks L 0 l=FV Ks l:=by
      rw[←Fk l 0 Ks rfl]
      refine oa l 0 fun k _ hk=>?_
      by_cases Ax:k<l.length
      ·exact hJ.no k Ax hk
      ·cases hLk:L k with
       |false=>rfl
       |true=>exact absurd (hLl k hLk) Ax
     rw[this];exact xM
    have G0:NF l Ks L (fun _=>false) l.length:=fun q hq hx _ hr=>by
     have qx:eL Ks q=true∧jR l q=true:=by unfold tG at hx;rwa [eW] at hx
     have uc:l[q]? =some l[q]:=eI hq
     obtain⟨-,e,he,np,qW⟩:=(hZ q _ uc).xd qx.1 (by have:=qx.2;unfold jR at this;rwa [uc] at this)
     have h1:=hr e he np qW
     rw[hJ.no e aj np] at h1;cases h1
    exact(Rq lU hZ eo hJ2 G0 ho xU Jm uj hb sX).mono fun EK mJ h=>⟨Mm,.inr h⟩
   ·cases Jm:jR l i with
    |false=>exact(Rq lU hZ eo hJ G0 ho xU Jm uj hb sX).mono fun EK mJ h=>⟨Mm,.inr h⟩
    |true=>
     obtain⟨⟨d,hd⟩, -⟩:=z.xd xU (by rw[hsl,Jm])
     exact(late g2 V hJ G0 d hd (.inr (G0 i jN (by unfold tG;rw[xU,Jm];rfl) uj hb))<|fun Yb=>by unfold tG;rw[Jm,aqf];exact Yb).mono fun EK mJ h=>⟨Mm,.inr h⟩
  |false=>
   obtain⟨d,hd⟩:=z.dst xU
   rcases hJ with ⟨N,hJ⟩|⟨g2,V,hJ,G0⟩
   ·
    have yS:∀t∈o.looksAt l.toArray,Kn l Ks f E i g N w' t:=by
     intro t ht
     refine⟨hJ.off t,fun q o' hq h1 h2 h3=>?_⟩
     rcases (z.look t ht).2 with h4|⟨j,tE,hj,Mb,qC,uf, -⟩
     ·exact absurd h2<|h4 q o' h1
     ·have hqj:=uniq q j o' tE t h1 qC h2 uf
      subst hqj
      exact hJ.AH q o' t (sX q Mb) h1 h2 h3
    have fin:∀(v:Value) (w2:aH) (N':bW),Ext w' w2→EU w N' w2→(∀b,N b→N' b)→(∀b,N' b→N b∨w'.heap.size≤b)→ns E i N' v w2→
      (nT Ks i=true→∀(q:Nat) (o':Oper) (d':Nat),L q=true→l[q]? =some o'→nT Ks q=true→o'.dst=some d'→g d'≠v)→J1 l Ks w f E (fun k=>L k||decide (k=i)) (cZ g o.dst v) w2 N':=by
     intro v w2 N' hx hni SQ L7 hv Mg
     have Ml:∀q,(L q||decide (q=i))=true→q≠i→L q=true:=fun q h4 tJ=>by
      rcases an5.1 h4 with h4|h4
      ·exact h4
      ·exact absurd (by simpa using h4) tJ
     rw[hd]
     have L6:∀(q:Nat) (o':Oper) (t:Nat),l[q]? =some o'→o'.dst=some t→q≠i→ck g d v t=g t:=fun q o' t h1 h2 tJ=>jD g v<|fun e=>tJ<|uniq q i o' o d h1 ho (by rw[h2,e]) hd
     refine⟨hni,fun p q o1 o2 d1 d2 hp hq GU a1 b1 a2 b2 a3 b3=>?_,fun e he np=>?_,hJ.ext.trans hx,fun t ht=>?_,fun q o' t hq h1 h2 h3=>?_⟩
     ·show ck g d v d1≠ck g d v d2
      by_cases SM:p=i
      ·subst SM
       have tJ:q≠p:=fun e=>GU e.symm
       rw[ho] at a1;cases a1
       rw[hd] at a3;cases a3
       rw[iX,L6 q o2 d2 b1 b3 tJ]
       exact fun e=>Mg a2 q o2 d2 (Ml q hq tJ) b1 b2 b3 e.symm
      ·by_cases tJ:q=i
       ·subst tJ
        rw[ho] at b1;cases b1
        rw[hd] at b3;cases b3
        rw[iX,L6 p o1 d1 a1 a3 SM]
        exact Mg b2 p o1 d1 (Ml p hp SM) a1 a2 a3
       ·rw[L6 p o1 d1 a1 a3 SM,L6 q o2 d2 b1 b3 tJ]
        exact hJ.dis p q o1 o2 d1 d2 (Ml p hp SM) (Ml q hq tJ) GU a1 b1 a2 b2 a3 b3
     ·rw[hJ.no e he np,ank (fun e'=>by rw[e',xU] at np;cases np)];rfl
     ·show ck g d v t=f t
      rw[jD g v (fun e=>by have:=ht i o ho (by rw[hd,e]);rw[xU] at this;cases this)]
      exact hJ.off t ht
     ·by_cases tJ:q=i
      ·subst tJ
       rw[ho] at h1;cases h1
       rw[hd] at h2;cases h2
       show ns E q N' (ck g d v d) w2
       rw[iX];exact hv
      ·show ns E q N' (ck g d v t) w2
       rw[L6 q o' t h1 h2 tJ]
       exact(hF q o' h1).mono.ext _ _ _ _ hx ((hF q o' h1).mono.grow _ _ _ _ SQ L7 (hJ.AH q o' t (Ml q hq tJ) h1 h2 h3))
    have acB:∀w2,Ext w' w2→EU w N w2:=fun w2 hx b hb=>⟨(hJ.ni b hb).1,anK (hJ.ni b hb).2 hx.size⟩
    rcases (hF i o ho).go xU with ⟨hFR,hN, -⟩|⟨⟨X,hX,hFF⟩,hN⟩|⟨⟨zz,T,hX,hFN⟩,hN⟩
    ·refine(hFR g N w' hJ.ext hJ.ni yS).mono ?_
     rintro EK mJ ⟨v,rfl,hx,hv⟩
     exact⟨Mm,.inl ⟨N,fin v mJ N hx (acB mJ hx) (fun _ h=>h) (fun _ h=>.inl h) hv fun h=>by rw[hN] at h;cases h⟩⟩
    ·refine(hFF g N w' w' (hI w' hJ.ext) yS).mono ?_
     rintro EK mJ ⟨rfl,rfl⟩
     exact⟨Mm,.inl ⟨N,fin X mJ N (Ext.refl _) hJ.ni (fun _ h=>h) (fun _ h=>.inl h) (by rw[hX];rfl) fun h=>by rw[hN] at h;cases h⟩⟩
    ·refine(hFN g N w' hJ.ext yS).mono ?_
     rintro EK mJ ⟨v,rfl,hx,b0,og,wu,X4⟩
     have aii:b0<mJ.heap.size:=(anJ.1 X4).1
     refine⟨Mm,.inl ⟨fun b=>N b∨b=b0,fin v mJ _ hx (fun b hb=>?_) (fun _ h=>.inl h) (fun b hb=>?_) (by rw[hX];exact⟨b0,og,Nat.le_trans hJ.ext.size wu,X4,.inr rfl⟩) fun _ q o' d' Ml h1 h2 h3 e=>?_⟩⟩
     ·rcases hb with hb|rfl
      ·exact acB mJ hx b hb
      ·exact⟨Nat.le_trans hJ.ext.size wu,aii⟩
     ·rcases hb with hb|rfl
      ·exact .inl hb
      ·exact .inr wu
     ·have hqE:eL Ks q=false:=by unfold nT at h2;unfold eL;cases hq:vi Ks q<;>rw[hq] at h2<;>first|rfl|exact Bool.noConfusion h2
      rcases (hF q o' h1).go hqE with ⟨-,h9, -⟩|⟨-,h9⟩|⟨⟨z2,T2,hX2, -⟩, -⟩
      ·rw[h2] at h9;cases h9
      ·rw[h2] at h9;cases h9
      ·have:=hJ.AH q o' d' Ml h1 h3 hqE
       rw[hX2] at this
       obtain⟨b1,c1, -,c3, -⟩:=this
       rw[c1,og] at e
       have:b1=b0:=by
        have:=am_ (fun v=>match v with|Value.pointer (some a)=>a.block|_=>0) e
        simpa using this
       have h7:=(anJ.1 c3).1
       omega
   ·exact(late g2 V hJ G0 d hd (.inl xU)<|fun Yb=>by rw[xU] at Yb;cases Yb).mono fun EK mJ h=>⟨Mm,.inr h⟩
 ·rintro g w' ⟨-,hJ⟩
  have hz:qO Ks (fun k=>decide (k<l.length)) 0 l=[]:=Fj l 0 fun k _ hk=>by rw[anh aj]
  rcases hJ with ⟨N,hJ⟩|⟨g2,V,hJ, -⟩
  ·have yS:∀t,Kn l Ks f E l.length g N w' t:=fun t=>⟨hJ.off t,fun q o' hq h1 h2 h3=>hJ.AH q o' t (anh hq) h1 h2 h3⟩
   have hV:∀t,YF l Ks l.length t:=fun t q o' h1 _ _=>(dE.1 h1).1
   have xM:=hK w' g N hJ.ext hJ.ni (fun d d' h1 h2 h3=>by
    obtain⟨p,o1,a1,a2,a3⟩:=FG d h1
    obtain⟨q,o2,b1,b2,b3⟩:=FG d' h2
    exact hJ.dis p q o1 o2 d d' (anh (dE.1 a1).1) (anh (dE.1 b1).1) (fun e=>h3 (by subst e;rw[a1] at b1;cases b1;rw[a3] at b3;exact ana b3)) a1 b1 a2 b2 a3 b3) (fun t ht=>(hL.is g N w' t (hV t) (yS t)).1 ht) (fun j t Φ hj=>(hL.is g N w' t (hV t) (yS t)).2 j Φ hj)
   have:FV Ks l=[]:=by
    rw[←Fk l 0 Ks rfl,←hz]
    refine oa l 0 fun k _ hk=>?_
    by_cases Ax:k<l.length
    ·have:=hJ.no k Ax hk
     rw[anh Ax] at this;cases this
    ·rw[ank Ax]
   rw[this] at xM
   exact xM
  ·have xM:=hJ.we
   rw[Fj l 0 fun k _ hk=>by rw[anh aj];rfl] at xM
   have:cj n g2=cj n g:=by
    unfold cj
    congr 2
    funext t
    exact hJ.eq t t.2 fun q o h3 _ _=>anh (dE.1 h3).1
   have h9:Q .normal (cj n g2) w':=xM
   rwa [this] at h9
end
end Go.Ew
namespace Go.Ew
open Go.RowKit
variable {g:aN} {N:bW} {w:aH} {K:aN→aH→Prop} {b:Nat}
def KC:ZK→Bool
 | .r=>true
 | .s=>true
 |_=>false
def D4 (ops:Array Oper) (o:Oper) (ag:UN):Bool:=(o.looksAt ops).all (fun t=>!xL ag t)
def Kr (ops:Array Oper) (o:Oper) (ag:UN) (d:Nat):Bool:=(o.looksAt ops).all (fun t=>Nat.beq t d||!xL ag t)&&(o.looksAt ops).contains d
def QO (ops:Array Oper) (o:Oper) (ag:UN) (d d1:Nat):Bool:=(o.looksAt ops).all (fun t=>Nat.beq t d||(Nat.beq t d1||!xL ag t))&&((o.looksAt ops).contains d&&((o.looksAt ops).contains d1&&!Nat.beq d d1))
theorem mN {Φ:Value→aH→Prop} (h:∀v w w',Ext w w'→Φ v w→Φ v w'):sj (fun _=>Φ):=⟨fun _ v w w'=>h v w w',fun _ _ _ _ _ _ h=>h⟩
theorem mE {Φ:Value→Prop}:sj (fun _ v _=>Φ v):=⟨fun _ _ _ _ _ h=>h,fun _ _ _ _ _ _ h=>h⟩
section
variable {P:Program} {n:Nat} {ops:Array Oper} {w0:aH} {ae:aH→Prop} {K:UN→aN→Prop} {f:aN} {rest:de} {zk:ZK} {ks:List ZK} {ag:UN} {o:Oper} {v X:Value} {Φ Ψ Ψ':PR} {d d1 d2:Nat}
theorem O0 (h:D4 ops o ag=true) (ha:YN (o.looksAt ops) ag f g N w):∀t∈o.looksAt ops,g t=f t:=by
 intro t ht
 have:=ani.1 h t ht
 exact(ha t ht).1 (by simpa using this)
theorem ye (h:PZ P n ops w0 ae K rest ks ag f):PZ P n ops w0 ae K (o::rest) (.e::ks) ag f:=h
theorem PZ.of (hz:KC zk=true) (h:(∃X,GN P n ops w0 o ag f (eN X)∧PZ P n ops w0 ae K rest ks ag (cZ f o.dst X))∨(∃d Φ,o.dst=some d∧sj Φ∧GN P n ops w0 o ag f Φ∧PZ P n ops w0 ae K rest ks ((d,Φ)::ag) f)):PZ P n ops w0 ae K (o::rest) (zk::ks) ag f:=by
 cases zk with
 |r=>exact h
 |s=>exact h
 |f=>cases hz
 |e=>cases hz
 |n=>cases hz
theorem yz (h:K ag f):PZ P n ops w0 ae K [] ks ag f:=h
theorem yq (hz:KC zk=true) (hf:(lu n o&&D4 ops o ag)=true) (h:PW P n ops w0 (fun f'=>PZ P n ops w0 ae K rest ks ag f') [o] f):PZ P n ops w0 ae K (o::rest) (zk::ks) ag f:=by
 obtain⟨X,h1,h2⟩:=h
 rw[eW] at hf
 exact PZ.of hz<|.inl ⟨X,fun w g N hx _ ha=>SO.sg (R:=fun v w'=>v=X) ((h1 w hx).mono fun f' w' hq=>⟨X,hq.1,hq.2,J⟩) (gx hf.1).1 (O0 hf.2 ha) (gx hf.1).2,h2⟩
theorem yu (hz:KC zk=true) (Φ:PR) (hd:o.dst=some d) (hm:sj Φ) (hf:(lu n o&&D4 ops o ag)=true) (h:∀w N,Ext w0 w→EU w0 N w→SO P n ops o f w (fun f' w'=>∃v,f'=cZ f o.dst v∧Ext w w'∧Φ N v w')) (r:PZ P n ops w0 ae K rest ks ((d,Φ)::ag) f):PZ P n ops w0 ae K (o::rest) (zk::ks) ag f:=by
 rw[eW] at hf
 exact PZ.of hz<|.inr ⟨d,Φ,hd,hm,fun w g N hx hn ha=>SO.sg (R:=fun v w'=>Φ N v w') (h w N hx hn) (gx hf.1).1 (O0 hf.2 ha) (gx hf.1).2,r⟩
theorem Sh {j:Nat} (hU:ag[j]? =some (d,Ψ)) (h:Kr ops o ag d=true) (ha:YN (o.looksAt ops) ag f g N w):Ψ N (g d) w∧∀t∈o.looksAt ops,g t=ck f d (g d) t:=by
 unfold Kr at h
 rw[eW] at h
 refine⟨(ha d<|anQ.1 h.2).2 j Ψ hU,fun t ht=>?_⟩
 by_cases e:t=d
 ·subst e;exact(iX _ _ _).symm
 ·rw[jD _ _ e]
  have:=ani.1 h.1 t ht
  rcases an5.1 this with h1|h1
  ·exact absurd (aoq h1) e
  ·exact(ha t ht).1 (by simpa using h1)
theorem Rc (hz:KC zk=true) (j:Nat) (hU:ag[j]? =some (d,Ψ)) (hf:(lu n o&&Kr ops o ag d)=true) (h:∀w N v,Ext w0 w→EU w0 N w→Ψ N v w→SO P n ops o (ck f d v) w (fun f' w'=>f'=cZ (ck f d v) o.dst X∧Ext w w')) (r:PZ P n ops w0 ae K rest ks ag (cZ f o.dst X)):PZ P n ops w0 ae K (o::rest) (zk::ks) ag f:=by
 rw[eW] at hf
 refine PZ.of hz<|.inl ⟨X,fun w g N hx hn ha=>?_,r⟩
 obtain⟨h1,h2⟩:=Sh hU hf.2 ha
 exact SO.sg (R:=fun v w'=>v=X) ((h w N (g d) hx hn h1).mono fun f' w' hq=>⟨X,hq.1,hq.2,J⟩) (gx hf.1).1 h2 (gx hf.1).2
theorem lL (hz:KC zk=true) (Φ:PR) (j:Nat) (hU:ag[j]? =some (d,Ψ)) (hd:o.dst=some d2) (hm:sj Φ) (hf:(lu n o&&Kr ops o ag d)=true) (h:∀w N v,Ext w0 w→EU w0 N w→Ψ N v w→SO P n ops o (ck f d v) w (fun f' w'=>∃u,f'=cZ (ck f d v) o.dst u∧Ext w w'∧Φ N u w')) (r:PZ P n ops w0 ae K rest ks ((d2,Φ)::ag) f):PZ P n ops w0 ae K (o::rest) (zk::ks) ag f:=by
 rw[eW] at hf
 refine PZ.of hz<|.inr ⟨d2,Φ,hd,hm,fun w g N hx hn ha=>?_,r⟩
 obtain⟨h1,h2⟩:=Sh hU hf.2 ha
 exact SO.sg (R:=fun v w'=>Φ N v w') (h w N (g d) hx hn h1) (gx hf.1).1 h2 (gx hf.1).2
theorem aaM {j i:Nat} (hU:ag[j]? =some (d,Ψ)) (hU':ag[i]? =some (d1,Ψ')) (h:QO ops o ag d d1=true) (ha:YN (o.looksAt ops) ag f g N w):Ψ N (g d) w∧Ψ' N (g d1) w∧∀t∈o.looksAt ops,g t=ck (ck f d (g d)) d1 (g d1) t:=by
 unfold QO at h
 simp only[eW,aoo] at h
 obtain⟨h0,h1,h2,h3⟩:=h
 refine⟨(ha d<|anQ.1 h1).2 j Ψ hU,(ha d1<|anQ.1 h2).2 i Ψ' hU',fun t ht=>?_⟩
 by_cases e1:t=d1
 ·subst e1;exact(iX _ _ _).symm
 ·rw[jD _ _ e1]
  by_cases e:t=d
  ·subst e;exact(iX _ _ _).symm
  ·rw[jD _ _ e]
   have:=ani.1 h0 t ht
   rcases an5.1 this with h4|h4
   ·exact absurd (aoq h4) e
   ·rcases an5.1 h4 with h4|h4
    ·exact absurd (aoq h4) e1
    ·exact(ha t ht).1 (by simpa using h4)
theorem yu2 (hz:KC zk=true) (Φ:PR) (j i:Nat) (hU:ag[j]? =some (d,Ψ)) (hU':ag[i]? =some (d1,Ψ')) (hd:o.dst=some d2) (hm:sj Φ) (hf:(lu n o&&QO ops o ag d d1)=true) (h:∀w N v v',Ext w0 w→EU w0 N w→Ψ N v w→Ψ' N v' w→SO P n ops o (ck (ck f d v) d1 v') w (fun f' w'=>∃u,f'=cZ (ck (ck f d v) d1 v') o.dst u∧Ext w w'∧Φ N u w')) (r:PZ P n ops w0 ae K rest ks ((d2,Φ)::ag) f):PZ P n ops w0 ae K (o::rest) (zk::ks) ag f:=by
 rw[eW] at hf
 refine PZ.of hz<|.inr ⟨d2,Φ,hd,hm,fun w g N hx hn ha=>?_,r⟩
 obtain⟨h1,h2,h3⟩:=aaM hU hU' hf.2 ha
 exact SO.sg (R:=fun v w'=>Φ N v w') (h w N (g d) (g d1) hx hn h1 h2) (gx hf.1).1 h3 (gx hf.1).2
theorem yf (hf:(lu n o&&D4 ops o ag)=true) (h:∀w,ae w→SO P n ops o f w (fun f' w'=>f'=cZ f o.dst X∧w'=w)) (r:PZ P n ops w0 ae K rest ks ag (cZ f o.dst X)):PZ P n ops w0 ae K (o::rest) (.f::ks) ag f:=by
 rw[eW] at hf
 refine⟨X,fun w g hI ha=>?_,hf.2,r⟩
 refine(SO.sg (R:=fun v w'=>v=X∧w'=w) ((h w hI).mono fun f' w' hq=>⟨X,hq.1,by rw[hq.2];exact Ext.refl w,J,hq.2⟩) (gx hf.1).1 (fun t ht=>(ha t ht).2) (gx hf.1).2).mono ?_
 rintro f' w' ⟨v,rfl, -,rfl,rfl⟩
 exact⟨J,J⟩
theorem e3 {f:aN}:f=f∧w=w:=⟨rfl,rfl⟩
theorem yn {z:Array Value} {T:TypeId} (hd:o.dst=some d) (hf:(lu n o&&D4 ops o ag)=true) (h:∀w,SO P n ops o f w (fun f' w'=>∃v,f'=cZ f o.dst v∧Ext w w'∧Nf z T w v w')) (r:PZ P n ops w0 ae K rest ks ((d,JN w0 z T)::ag) f):PZ P n ops w0 ae K (o::rest) (.n::ks) ag f:=by
 rw[eW] at hf
 exact⟨d,z,T,hd,hf.2,fun w g hx ha=>SO.sg (R:=fun v w'=>Nf z T w v w') (h w) (gx hf.1).1 ha (gx hf.1).2,r⟩
end
section
variable {P:Program} {n:Nat} {ops:Array Oper} {w w0:aH} {ae:aH→Prop} {f:aN} {o:Oper} {rest:de} {d:Nat} {T ty:TypeId} {ps:String} {af:Array Edge} {x:Operand} {v z:Value} {size bytes:Nat} {agg:Bool}
theorem M7 (F:ef P T size agg bytes z):SO P n ops ⟨some d,.alloc T,ty,ps,af,none⟩ f w (fun f' w'=>∃v,f'=cZ f (some d) v∧Ext w w'∧Nf z.cells T w v w'):=
 SO.value (v:=.pointer (some ⟨w.heap.size,0,none⟩)) (w':=w.alloc (.cells z.cells T)) (by simp[execOp,Instr.alloc,F.uw,Bl]) ⟨_,rfl,Ext.alloc w _,_,rfl,ane _,heap_alloc_new w _⟩
theorem ke (h:SO P n ops o f w (fun f' w'=>ae w'∧WE P n ops ae K rest f' w')):WE P n ops ae K (o::rest) f w:=h
theorem jw (h:SO P n ops o f w (fun f' w'=>WE P n ops (fun _=>True) K rest f' w')):WE P n ops (fun _=>True) K (o::rest) f w:=h.mono fun _ _ h=>⟨trivial,h⟩
theorem kz (h:K f w):WE P n ops ae K [] f w:=h
end
section
variable {M0:bW} {z6 w w':aH} {l:List Item}
theorem HI.lays (H:HI M0 z6 w l) (x:Ext w w') (bs:List (Nat×Array Value×TypeId)) (hb:∀q∈bs,w.heap.size≤q.1∧w'.heap[q.1]? =some (.cells q.2.1 q.2.2 (0,0))) (hn:(bs.map (·.1)).Nodup):
  HI M0 z6 w' (bs.map (fun q=>box q.1 q.2.1 q.2.2)++l):=by
 have pQ:∀q∈bs,q.1<w'.heap.size:=fun q hq=>(anJ.1 (hb q hq).2).1
 have XY:(bs.map (fun q=>box q.1 q.2.1 q.2.2)).filterMap (·.jJ)=bs.map (·.1):=by
  clear hb hn pQ
  induction bs with
  |nil=>rfl
  |cons q bs ih=>simp only[anA,an0,ih];rfl
 refine⟨H.below.trans x,H.m0,?_,?_,?_⟩
 ·intro it hit b Cc
  rcases anx.1 hit with h|h
  ·obtain⟨q,hq,rfl⟩:=anZ.1 h
   cases Cc
   exact⟨Nat.le_trans H.below.size (hb q hq).1,pQ q hq⟩
  ·exact⟨(H.ju it h b Cc).1,anK (H.ju it h b Cc).2 x.size⟩
 ·rw[apm,XY,aoW]
  refine⟨hn,H.nodup,?_⟩
  intro b og c hc e
  subst e
  obtain⟨q,hq,rfl⟩:=anZ.1 og
  obtain⟨it,hit,B9⟩:=anF.1 hc
  have:=(H.ju it hit _ B9).2
  have:=(hb q hq).1
  omega
 ·intro it hit
  rcases anx.1 hit with h|h
  ·obtain⟨q,hq,rfl⟩:=anZ.1 h
   exact(hb q hq).2
  ·refine it.lift (H.all it h) ⟨x.size,fun c hc hM=>⟨x.block c hc,?_⟩⟩ fun c hc=>x.block c (H.ju it h c hc).2
   rintro(Mj|⟨j,hj,xO⟩)
   ·exact hM<|.inl Mj
   ·rcases anx.1 hj with hj|hj
    ·obtain⟨q,hq,rfl⟩:=anZ.1 hj
     cases xO
     have:=(hb q hq).1
     omega
    ·exact hM<|.inr ⟨j,hj,xO⟩
end
def MN (M N:bW) (c:Nat):Prop:=M c∨N c
section
variable {α:Type} [GT α] {M N N':bW} {w0 w w':aH} {v:Value} {x:α}
theorem km (h:RV M w0 v x) (e:Ext w0 w) (hN:∀c,N c→w0.heap.size≤c∧c<w.heap.size):RV (MN M N) w v x:=
 h.lift ⟨e.size,fun c hc hn=>⟨e.block c hc,by
  rintro(h1|h1)
  ·exact hn h1
  ·have:=(hN c h1).1;omega⟩⟩
theorem kN (hM:∀b,M b→b<w0.heap.size) (e:Ext w0 w) (hN:∀c,N c→w0.heap.size≤c∧c<w.heap.size):∀b,MN M N b→b<w.heap.size:=by
 rintro b (h|h)
 ·exact anK (hM b h) e.size
 ·exact(hN b h).2
theorem ie (h:RV (MN M N) w v x) (k:∀b,N' b→N b∨w.heap.size≤b):RV (MN M N') w v x:=
 h.lift ⟨ane _,fun c hc hn=>⟨rfl,by
  rintro(h1|h1)
  ·exact hn<|.inl h1
  ·rcases k c h1 with h2|h2
   ·exact hn<|.inr h2
   ·omega⟩⟩
end
def Ut (w0 w:aH) (N:bW) (bs:List (Nat×Array Value×TypeId)):Prop:=∀q∈bs,w0.heap.size≤q.1∧w.heap[q.1]? =some (.cells q.2.1 q.2.2 (0,0))∧N q.1
theorem MO {w0:aH}:Ut w0 w N []:=fun _ h=>by cases h
theorem MM {w0:aH} {bs:List (Nat×Array Value×TypeId)} {z:Array Value} {T:TypeId} (h1:w0.heap.size≤b) (h2:w.heap[b]? =some (.cells z T (0,0))) (h3:N b) (h:Ut w0 w N bs):Ut w0 w N ((b,z,T)::bs):=by
 intro q hq
 rcases ans.1 hq with rfl|hq
 ·exact⟨h1,h2,h3⟩
 ·exact h q hq
theorem LC:b∉([]:List Nat):=by simp
theorem LG:([]:List Nat).Nodup:=ap7
theorem LF {l:List Nat} (h:b∉l) (h1:l.Nodup):(b::l).Nodup:=aog.2 ⟨h,h1⟩
theorem HI.Bs {M0:bW} {z6 w':aH} {l:List Item} {bs:List (Nat×Array Value×TypeId)} (H:HI M0 z6 w l) (x:Ext w w') (hb:Ut w w' N bs) (hn:(bs.map (·.1)).Nodup):HI M0 z6 w' (bs.map (fun q=>box q.1 q.2.1 q.2.2)++l):=
 H.lays x bs (fun q hq=>⟨(hb q hq).1,(hb q hq).2.1⟩) hn
theorem Za {α:Type} [GT α] {M0 N:bW} {l:List Item} {w:aH} {v:Value} {x:α} (bs:List (Nat×Array Value×TypeId)) (h:RV (MN (MS M0 l) N) w v x) (hb:∀q∈bs,N q.1):RV (MS M0 (bs.map (fun q=>box q.1 q.2.1 q.2.2)++l)) w v x:=
 h.lift (Up.less fun c hc hn=>by
  rcases hn with h1|⟨it,hit,B9⟩
  ·exact .inl (.inl h1)
  ·rcases anx.1 hit with h2|h2
   ·obtain⟨q,hq,rfl⟩:=anZ.1 h2
    cases B9
    exact .inr (hb q hq)
   ·exact .inl (.inr ⟨it,h2,B9⟩))
theorem sy {α:Type} [GT α] {M0 N:bW} {l:List Item} {w0 w:aH} {v:Value} {x:α} {bs:List (Nat×Array Value×TypeId)} (h:RV (MN (MS M0 l) N) w v x) (hb:Ut w0 w N bs):RV (MS M0 (bs.map (fun q=>box q.1 q.2.1 q.2.2)++l)) w v x:=
 Za bs h fun q hq=>(hb q hq).2.2
theorem Zb {α:Type} [GT α] {M0:bW} {l:List Item} {it:Item} {w:aH} {v:Value} {x:α} (h:it.jJ=none) (r:RV (MS M0 l) w v x):RV (MS M0 (it::l)) w v x:=by rw[aD h];exact r
end Go.Ew
namespace Go.Ew
open Go.RowKit Go.IntWalk
theorem ieq {v:Value} {kk:IntKind} {a b:Int} (h:v=.int kk a) (e:a=b):v=.int kk b:=e▸h
theorem N2 {v:Value} {a b:bt} (h:v=ag a) (e:a=b):v=ag b:=e▸h
theorem gl {b:Bool} (h:(!b)=true):b=false:=by cases b<;>simp_all
theorem fA {b:Bool} (h:(!b)=false):b=true:=by cases b<;>simp_all
theorem hQ.ext {α:Type} [GT α] {M:bW} {w w':aH} {ad:Addr} {x:α} (h:hQ M w ad x) (e:Ext w w'):hQ M w' ad x:=by
 obtain⟨cs,h1,h2⟩:=h
 refine⟨cs,GT.lift h1 (Up.ext e),fun j v hv=>?_⟩
 have hc:=h2 j v hv
 exact(World.cell?_of_block<|e.block _<|pY hc).trans hc
theorem Gn {α:Type} [GT α] (M:bW) (w:aH):RS M w (.slice none 0 0) ([]:List α):=⟨none,0,0,rfl,rfl,ane _,by simp[maxLen],.inl rfl⟩
theorem eF {α:Type} [GT α] (M:bW) (w:aH):RV M w (.slice none 0 0) ([]:List α):=RV.list.2 (Gn M w)
theorem bP {M0:bW}:MS M0 []=M0:=by funext b;simp[MS]
class Flat (α:Type) [GT α]:Prop where
 flat:∀{M w M' w' cs} {x:α},GT.rep M w cs x→GT.rep M' w' cs x
instance :Flat Int:=⟨fun h=>h⟩
instance :Flat bt:=⟨fun h=>h⟩
instance :Flat (BitVec 8):=⟨fun h=>h⟩
instance :Flat Bool:=⟨fun h=>h⟩
instance :Flat bf:=⟨fun h=>h⟩
instance {α β:Type} [GT α] [GT β] [Flat α] [Flat β]:Flat (α×β):=⟨fun h=>by
 obtain⟨c1,c2,h0,h1,h2⟩:=h
 exact⟨c1,c2,h0,Flat.flat h1,Flat.flat h2⟩⟩
theorem bA.flat {α:Type} [GT α] [Flat α] {M M':bW} {w w':aH}:∀{xs:List α} {cs:List Value},bA M w cs xs→bA M' w' cs xs
 |[],_,h=>h
 |x::xs,cs,⟨c1,c2,h1,h2,h3⟩=>⟨c1,c2,h1,Flat.flat h2,bA.flat h3⟩
section
variable {M0:bW} {w0 w w':aH} {l l':List Item} {α:Type} [GT α] {v:Value} {xs:List α} {x:α} {e:TypeId} {ad:Addr}
theorem HI.rv (H:HI M0 w0 w l) (i:Nat) (hi:l[i]? =some (tH v x)):RV (MS M0 l) w v x:=H.at_ i hi
theorem HI.atv (H:HI M0 w0 w l) (i:Nat) (hi:l[i]? =some (rm ad x)):At (MS M0 l) w ad x:=H.at_ i hi
theorem HI.gf (H:HI M0 w0 w l) (i:Nat) (hi:l[i]? =some (tH v x)):RV M0 w v x:=(H.rv i hi).lift H.out
theorem HI.mB (H:HI M0 w0 w l) (i:Nat) (hi:l[i]? =some (own w0.heap.size e v xs)):RV M0 w v xs:=H.Zp i hi (fun _ _ _ _=>trivial)
theorem yG {β γ:Type} (g:β→Option γ):∀(is:List β),is.Nodup→(∀i∈is,∀j∈is,∀b,g i=some b→g j=some b→i=j)→(is.filterMap g).Nodup
 |[],_,_=>ap7
 |i::is,hn,hg=>by
  have L8:=aog.1 hn
  have ih:=yG g is L8.2<|fun a ha b hb=>hg a (anI _ ha) b<|anI _ hb
  rw[an0]
  cases hgi:g i with
  |none=>exact ih
  |some b=>
   refine aog.2 ⟨fun hm=>?_,ih⟩
   obtain⟨j,hj,hgj⟩:=anF.1 hm
   have:=hg i (anY) j (anI _ hj) b hgi hgj
   exact L8.1<|this▸hj
theorem HI.bX (H:HI M0 w0 w l) (is:List Nat) (hn:is.Nodup) (he:is.filterMap (fun i=>l[i]?)=l'):HI M0 w0 w l':=by
 subst he
 refine H.pick _ (fun it hit=>?_) ?_
 ·obtain⟨i,_,hi⟩:=anF.1 hit
  exact dC hi
 ·rw[List.filterMap_filterMap]
  refine yG _ is hn fun i _ j _ b hi hj=>?_
  obtain⟨a,ha,Jl⟩:=apO.1 hi
  obtain⟨c,hc,hcb⟩:=apO.1 hj
  exact il (·.jJ) l H.nodup i j a c ha hc (by rw[Jl];rfl)<|by rw[Jl,hcb]
end
theorem mz.rest {P:Program} {n:Nat} {l:de} {k:Nat} {Φ:List (Value→aH→Prop)} {f0:aN} {w0:aH} {i:Nat} (h:Nat.ble k i=true):∀r,mz P n l k Φ f0 w0 i r:=by
 intro r
 induction r generalizing i with
 |nil=>trivial
 |cons o r ih=>
  refine⟨fun hb=>?_,ih ?_⟩
  ·simp at h hb;omega
  ·simp at h ⊢;omega
theorem aez.rv {α:Type} [GT α] {e:TypeId} {w w':aH} {xs:List α} {v:Value} {M:bW} (h:aez e w xs v w') (hM:∀b,M b→b<w.heap.size):RV M w' v xs:=by
 obtain⟨_,hb,ho⟩:=h
 refine Ah ho (fun b _ vu=>.inl (hM b vu))<|fun b wo hMb=>?_
 obtain⟨cs,h1,_⟩:=ho
 have:=(h1.lt b wo).1
 have:=hM b hMb
 omega
section
variable {P:Program} {n:Nat} {fn:Func} {R:Value→aH→Prop} {f:aN} {w w0:aH} {M0:bW} {l:List Item} {agg:Bool} {bytes:Nat} {z:Value} {k:Nat}
theorem qb {t:Nat} (h:Nat.blt t n=true):(cj n f).tmps.getD t undef=f t:=A2 h
theorem ux {T:TypeId} {b:Nat} {cs:Array Value} {ty:TypeId} (H:HI M0 w0 w l) (i:Nat) (hi:l[i]? =some (box b cs ty)) (F:ef P T k agg bytes z) (hk:agg=false→k=1) (hl:((cs.toList.drop 0).take k).length=k):
  (loadVar T ⟨b,0,none⟩).run P w=.ok (sR agg ((cs.toList.drop 0).take k)) w:=by
 have hb:w.heap[b]? =some (.cells cs ty (0,0)):=H.at_ i hi
 refine rV F hk hl fun j u hu=>?_
 rw[show (⟨b,0,none⟩:Addr).add j=⟨b,j,none⟩ from by unfold Addr.add;split<;>simp_all,cell_of_row w b j cs ty (0,0) hb]
 have hj:j<k:=by
  have:=(dE.1 hu).1
  omega
 rw[anG,anc hj,anU] at hu
 simpa using hu
theorem py {T:TypeId} {b:Nat} {cs:Array Value} {ty:TypeId} {p:Nat} (H:HI M0 w0 w l) (i:Nat) (hi:l[i]? =some (box b cs ty)) (F:ef P T k agg bytes z) (hr:fn.results=#[.cell p T]) (hp:Nat.blt p n=true) (hx:f p=.pointer (some ⟨b,0,none⟩)) (hl:((cs.toList.drop 0).take k).length=k) (hk:agg=false→k=1)
  (h:R (sR agg ((cs.toList.drop 0).take k)) w):sB P n fn R .ret (cj n f) w:=by
 refine⟨f,J,_,?_,h⟩
 have h:=ux (P:=P) H i hi F hk hl
 have h0:(cj n f).tmps.getD p undef=.pointer (some ⟨b,0,none⟩):=by rw[qb hp,hx]
 simp only[results,hr,apT]
 simp only[ap8,aqe]
 simp[h,h0,asAddr]
theorem iH {T:TypeId} {b:Nat} {cs:Array Value} {ty:TypeId} {p t:Nat} (H:HI M0 w0 w l) (i:Nat) (hi:l[i]? =some (box b cs ty)) (F:ef P T k agg bytes z) (hr:fn.results=#[.cell p T,.tmp t]) (hp:Nat.blt p n=true) (ht:Nat.blt t n=true) (hx:f p=.pointer (some ⟨b,0,none⟩)) (hl:((cs.toList.drop 0).take k).length=k) (hk:agg=false→k=1)
  (h:R (.tuple #[sR agg ((cs.toList.drop 0).take k),f t]) w):sB P n fn R .ret (cj n f) w:=by
 refine⟨f,J,_,?_,h⟩
 have h:=ux (P:=P) H i hi F hk hl
 have h0:(cj n f).tmps.getD p undef=.pointer (some ⟨b,0,none⟩):=by rw[qb hp,hx]
 have h2:=qb (f:=f) ht
 simp only[results,hr,apT]
 simp only[ap8,aqe]
 simp[h,h0,asAddr,h2]
theorem rc4 {T:TypeId} {b:Nat} {cs:Array Value} {ty:TypeId} {p t t2 t3:Nat} (H:HI M0 w0 w l) (i:Nat) (hi:l[i]? =some (box b cs ty)) (F:ef P T k agg bytes z) (hr:fn.results=#[.cell p T,.tmp t,.tmp t2,.tmp t3]) (hp:Nat.blt p n=true) (ht:Nat.blt t n=true) (SH:Nat.blt t2 n=true) (ht3:Nat.blt t3 n=true) (hx:f p=.pointer (some ⟨b,0,none⟩)) (hl:((cs.toList.drop 0).take k).length=k) (hk:agg=false→k=1)
  (h:R (.tuple #[sR agg ((cs.toList.drop 0).take k),f t,f t2,f t3]) w):sB P n fn R .ret (cj n f) w:=by
 refine⟨f,J,_,?_,h⟩
 have h:=ux (P:=P) H i hi F hk hl
 have h0:(cj n f).tmps.getD p undef=.pointer (some ⟨b,0,none⟩):=by rw[qb hp,hx]
 have h2:=qb (f:=f) ht
 have h3:=qb (f:=f) SH
 have h4:=qb (f:=f) ht3
 simp only[results,hr,apT]
 simp only[ap8,aqe]
 simp[h,h0,asAddr,h2,h3,h4]
theorem r3 {t t2 t3:Nat} (hr:fn.results=#[.tmp t,.tmp t2,.tmp t3]) (ht:Nat.blt t n=true) (SH:Nat.blt t2 n=true) (ht3:Nat.blt t3 n=true)
  (h:R (.tuple #[f t,f t2,f t3]) w):sB P n fn R .ret (cj n f) w:=by
 refine⟨f,J,_,?_,h⟩
 have h2:=qb (f:=f) ht
 have h3:=qb (f:=f) SH
 have h4:=qb (f:=f) ht3
 simp only[results,hr,apT]
 simp only[ap8,aqe]
 simp[h2,h3,h4]
end
theorem HO {α:Type} [GT α] {M:bW} {w:aH} {a:Option Addr} {n c:Nat} {xs:List α} (h:RV M w (.slice a n c) xs) (ha:a.isNone=true):xs=[]:=by
 cases a with
 |some _=>cases ha
 |none=>
  obtain⟨a,m,c',e,h2, -, -,h5⟩:=RV.list.1 h
  injection e with e1 e2 e3
  subst e1
  rcases h5 with h5|⟨ad,h5, -⟩
  ·exact aod.1<|h2.trans h5
  ·cases h5
end Go.Ew
