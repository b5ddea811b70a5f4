/- Engine, part A: a frame's temporaries as a function; single operations in continuation form; regions, loops, cuts. Independent of any program. -/
import Derived.WalkKit
import Derived.Deep.LoopGhost
import Derived.Maps.AppendAt
set_option linter.unusedVariables false
set_option linter.unusedSimpArgs false
namespace Go.Ew
theorem J.{u}{α:Sort u}{a:α}:a=a:=rfl
abbrev amz:=@congrArg
abbrev amA:=@List.length_set
abbrev amB:=@decide_eq_true_eq
abbrev amC:=@decide_eq_true
abbrev amD:=@Nat.le_refl
abbrev amE:=@Option.some.inj
abbrev amF:=@if_pos
abbrev amG:=@of_decide_eq_false
abbrev amH:=@List.mem_range
abbrev amI:=@if_neg
abbrev amJ:=@decide_eq_false
abbrev amK:=@List.all_eq_true
abbrev amL:=@List.take_of_length_le
abbrev amM:=@Bool.or_eq_true
abbrev amN:=@decide_eq_false_iff_not
abbrev amO:=@Option.some.injEq
abbrev amP:=@Nat.le_trans
abbrev amQ:=@List.getElem?_eq_none
abbrev amR:=@List.getElem?_cons_zero
abbrev amS:=@List.getElem?_map
abbrev amT:=@List.mem_iff_getElem?
abbrev amU:=@Bool.eq_iff_iff
abbrev amV:=@List.mem_cons
abbrev amW:=@List.mem_filter
abbrev amX:=@List.getElem?_set_self
abbrev amY:=@List.getElem?_cons_succ
abbrev amZ:=@List.length_drop
abbrev am0:=@Option.isSome_iff_exists
abbrev am1:=@List.mem_append
abbrev am2:=@Option.map_eq_some_iff
abbrev am3:=@List.findIdx?_eq_some_iff_getElem
abbrev am4:=@List.mem_filterMap
abbrev am5:=@List.getElem?_take
abbrev am6:=@List.mem_cons_of_mem
abbrev am7:=@Array.getElem?_eq_some_iff
abbrev am8:=@Nat.lt_of_lt_of_le
abbrev am9:=@List.take_add_one
abbrev am_:=@List.map_cons
abbrev am':=@of_decide_eq_true
abbrev ana:=@List.ext_getElem?
abbrev anb:=@List.append_assoc
abbrev anc:=@List.any_eq_true
abbrev ane:=@List.length_map
abbrev anf:=@Int.toNat_of_nonneg
abbrev ang:=@Array.length_toList
abbrev anh:=@List.getElem?_set_ne
abbrev ani:=@Nat.add_zero
abbrev anj:=@List.contains_iff_mem
abbrev ank:=@List.getElem?_drop
abbrev anl:=@Classical.byContradiction
abbrev anm:=@Prod.mk.injEq
abbrev ann:=@Nat.zero_add
abbrev ano:=@List.mem_cons_self
abbrev anp:=@List.mem_map
abbrev anq:=@List.filterMap_cons
abbrev anr:=@List.mem_or_eq_of_mem_set
abbrev ans:=@List.drop_eq_getElem_cons
abbrev ant:=@Nat.add_mul
abbrev anu:=@if_false
abbrev anv:=@List.replicate_succ
abbrev anw:=@Bool.or_eq_true_iff
abbrev anx:=@List.drop_drop
abbrev anz:=@Bool.true_and
abbrev anA:=@List.take_length
abbrev anB:=@List.length_filter_le
abbrev anC:=@List.length_eq_zero_iff
abbrev anD:=@Nat.sub_self
abbrev anE:=@Nat.mul_le_mul_right
abbrev anF:=@Nat.min_eq_left
abbrev anG:=@List.nodup_cons
abbrev anH:=@List.filter_append
abbrev anI:=@List.cons.injEq
abbrev anJ:=@List.filter_eq_nil_iff
abbrev anK:=@List.map_congr_left
abbrev anL:=@List.getElem?_range
abbrev anM:=@Bool.not_eq_true'
abbrev anN:=@Nat.le_of_ble_eq_true
abbrev anO:=@Nat.eq_of_beq_eq_true
abbrev anP:=@List.mem_append_right
abbrev anQ:=@List.getElem?_take_of_lt
abbrev anR:=@List.append_nil
abbrev anS:=@List.mem_singleton
abbrev anT:=@decide_eq_decide
abbrev anU:=@List.mem_of_mem_take
abbrev anV:=@List.mem_append_left
abbrev anW:=@List.getElem?_set
abbrev anX:=@Option.map_some
abbrev anY:=@List.getElem!_eq_getElem?_getD
abbrev anZ:=@List.take_append_drop
abbrev an0:=@List.set_append_right
abbrev an1:=@Array.getElem?_toList
abbrev an2:=@List.take_append_of_le_length
abbrev an3:=@List.eq_nil_of_length_eq_zero
abbrev an4:=@Nat.lt_succ_self
abbrev an5:=@List.find?_eq_none
abbrev an6:=@Nat.zero_le
abbrev an7:=@Bool.or_false
abbrev an8:=@List.take_take
abbrev an9:=@List.size_toArray
abbrev an_:=@List.flatten_cons
abbrev an':=@List.flatMap_cons
abbrev aoa:=@List.range_succ
abbrev aob:=@List.drop_eq_nil_of_le
abbrev aoc:=@List.ext_getElem
abbrev aod:=@if_true
abbrev aoe:=@BitVec.eq_of_toNat_eq
abbrev aof:=@Int.le_refl
abbrev aog:=@Nat.lt_succ_iff_lt_or_eq
abbrev aoh:=@List.mem_of_mem_drop
abbrev aoi:=@List.map_append
abbrev aoj:=@Array.eq_empty_of_size_eq_zero
abbrev aok:=@List.nodup_append
abbrev aol:=@List.any_eq_false
abbrev aom:=@List.getElem?_replicate
abbrev aon:=@List.flatMap_append
abbrev aoo:=@Array.getInternal_eq_getElem
abbrev aop:=@BitVec.toNat_ofInt
abbrev aoq:=@Nat.not_lt_zero
abbrev aor:=@List.length_singleton
abbrev aos:=@List.getElem?_zipWith
abbrev aot:=@Bool.false_or
abbrev aou:=@Array.getElem?_append_left
abbrev aov:=@List.foldl_append
abbrev aow:=@Nat.shiftRight_eq_div_pow
abbrev aox:=@List.mem_iff_getElem
abbrev aoy:=@List.findIdx?_eq_none_iff
abbrev aoz:=@Bool.or_eq_false_iff
abbrev aoA:=@List.take_zero
abbrev aoB:=@not_true
abbrev aoC:=@List.map_toArray
abbrev aoD:=@BitVec.toNat_ushiftRight
abbrev aoE:=@BitVec.eq_of_getLsbD_eq
abbrev aoF:=@Nat.lt_irrefl
abbrev aoG:=@Nat.blt_eq
abbrev aoH:=@List.set_cons_zero
abbrev aoI:=@BitVec.getLsbD_and
abbrev aoJ:=@Nat.mul_one
abbrev aoK:=@List.find?_eq_some_iff_append
abbrev aoL:=@List.length_range
abbrev aoM:=@List.filter_congr
abbrev aoN:=@List.filterMap_append
abbrev aoO:=@Nat.mod_eq_of_lt
abbrev aoP:=@Nat.div_eq_of_lt
abbrev aoQ:=@List.take_append
abbrev aoR:=@List.nodup_range
abbrev aoS:=@List.getElem_mem
abbrev aoT:=@List.contains_eq_mem
abbrev aoU:=@List.cons_append
abbrev aoV:=@List.findSome?_eq_none_iff
abbrev aoW:=@Bool.not_true
abbrev aoX:=@BitVec.toInt_eq_toNat_cond
abbrev aoY:=@List.flatten_append
abbrev aoZ:=@ne_eq
abbrev ao0:=@List.mem_of_find?_eq_some
abbrev ao1:=@List.foldl_cons
abbrev ao2:=@or_false
abbrev ao3:=@Nat.zero_mul
abbrev ao4:=@Nat.mul_comm
abbrev ao5:=@List.getElem_range
abbrev ao6:=@List.Nodup.sublist
abbrev ao7:=@Bool.not_eq_false'
abbrev ao8:=@Bool.false_ne_true
abbrev ao9:=@BitVec.getLsbD_shiftLeft
abbrev ao':=@List.drop_zero
abbrev apa:=@Option.isSome_map
abbrev apb:=@Nat.lt_trichotomy
abbrev apc:=@List.mapM_toArray
abbrev apd:=@List.getElem_cons_drop
abbrev ape:=@ByteArray.size_extract
abbrev apf:=@Nat.add_assoc
abbrev apg:=@Bool.and_true
abbrev aph:=@Option.getD_some
abbrev api:=@List.getElem_set
abbrev apj:=@List.filter_cons
abbrev apk:=@List.all_reverse
abbrev apl:=@Bool.and_eq_false_iff
abbrev apm:=@Nat.sub_zero
abbrev apn:=@Nat.lt_or_ge
abbrev apo:=@Nat.ble_eq
abbrev apq:=@List.take_left'
abbrev apr:=@List.getElem?_of_mem
abbrev aps:=@List.findIdx?_append
abbrev apt:=@Array.getElem_toList
abbrev apu:=@List.drop_append_of_le_length
abbrev apv:=@List.filter_eq_self
abbrev apw:=@List.nodup_nil
abbrev apx:=@List.mapM_cons
abbrev apy:=@List.drop_take
abbrev apz:=@Bool.false_and
abbrev apA:=@Bool.and_false
abbrev apC:=@false_and
abbrev apD:=@Nat.eq_zero_or_pos
abbrev apE:=@List.filterMap_map
abbrev apF:=@Bool.false_eq_true
abbrev apG:=@List.mapM_nil
abbrev apH:=@Array.size_append
abbrev apI:=@true_and
abbrev apJ:=@getElem!_pos
abbrev apK:=@false_or
abbrev apL:=@Prod.ext_iff
abbrev apM:=@Nat.min_le_right
abbrev apN:=@Nat.lt_trans
abbrev apO:=@List.not_mem_nil
abbrev apP:=@List.mem_flatMap
abbrev apR:=@List.flatten_nil
abbrev apS:=@Nat.le_succ
abbrev bt:Type:=BitVec 64
abbrev bA:Type:=ByteArray
abbrev aA:Type:=List Int
abbrev aG:Type:=World
abbrev dw:Type:=List Oper
abbrev gU:Type:=Nat→Nat→Bool
abbrev cb:Type:=Nat→Prop
theorem aj {p:Prop} (h:p:=by omega):p:=h
theorem au {p:Prop} (h:p:=by decide):p:=h
theorem bm {p:Prop} (h:p:=by simp):p:=h
theorem bo {p:Prop} (h:p:=by assumption):p:=h
variable {i n t id m:Nat} {b:Bool} {x y:Code} {a:Act} {c:Operand}
theorem eR {α:Type} {l:List α} (h:i<l.length):l[i]? =some l[i]:=List.getElem?_eq_getElem h
theorem im {α:Type} {l:List α} {a:α}:l.getD i a=(l[i]?).getD a:=List.getD_eq_getElem?_getD
theorem dU {α:Type} {l:List α} {a:α}:l[i]? =some a↔∃h:i<l.length,l[i]=a:=List.getElem?_eq_some_iff
theorem dN {α:Type} {l:List α} {a:α} (h:l[i]? =some a):a∈l:=List.mem_of_getElem? h
theorem eW (a b:Bool):((a&&b)=true)=(a=true∧b=true):=Bool.and_eq_true a b
theorem dM (n:Nat):(n:Int).toNat=n:=Int.toNat_natCast n
theorem fN {α:Type} {a b:List α}:(a++b).length=a.length+b.length:=List.length_append
theorem ot {α:Type} {a:α}:(List.replicate n a).length=n:=List.length_replicate
theorem iu {α:Type} {l:List α}:(l.take i).length=min i l.length:=List.length_take
theorem oB {α:Type} {a b:List α} (h:a.length≤n):(a++b)[n]? =b[n-a.length]?:=List.getElem?_append_right h
theorem iB {α:Type} {a:α} {l:List α}:(a::l).length=l.length+1:=List.length_cons
theorem gj {α:Type}:([]:List α).length=0:=List.length_nil
theorem oY {α:Type} {a b:List α} (h:n<a.length):(a++b)[n]? =a[n]?:=List.getElem?_append_left h
open Go.RowKit
abbrev aP:=Nat→Value
def cx (f:aP) (d:Nat) (v:Value):aP:=fun t=>bif Nat.beq t d then v else f t
def dh (f:aP):Option Nat→Value→aP
 |some d,v=>cx f d v
 |none,_=>f
def cw (n:Nat) (f:aP):Act:=⟨Array.ofFn (fun i:Fin n=>f i),[]⟩
def ev (f:aP):Operand→Value
 | .tmp t=>f t
 | .const v=>v
 | .global g=>.pointer (some ⟨g,0,none⟩)
 | .func k=>.func (.func k) #[] #[]
def bJ (n:Nat):Operand→Bool
 | .tmp t=>Nat.blt t n
 |_=>true
theorem aM {n:Nat} {f:aP} {x:Operand} (h:bJ n x=true):(cw n f).eval x=ev f x:=by
 cases x with
 |tmp t=>
  simp only[bJ,aoG] at h
  simp[Act.eval,cw,ev,h]
 |_=>rfl
theorem iP (f:aP) (d:Nat) (v:Value):cx f d v d=v:=by simp[cx]
theorem jA (f:aP) {d t:Nat} (v:Value) (h:t≠d):cx f d v t=f t:=by
 have:Nat.beq t d=false:=by
  cases hb:Nat.beq t d with
  |false=>rfl
  |true=>exact absurd (anO hb) h
 simp only[cx,this,cond_false]
theorem qC (n:Nat) (f:aP) (d:Option Nat) (v:Value):(cw n f).put d v=cw n (dh f d v):=by
 cases d with
 |none=>rfl
 |some d=>
  simp only[Act.put,cw,dh,Act.mk.injEq,and_true]
  apply Array.ext
  ·simp
  ·intro i h1 h2
   simp only[Array.size_ofFn] at h2
   by_cases hi:i=d
   ·subst hi
    simp[cx]
   ·rw[Array.getElem_setIfInBounds_ne (by simpa using h2) aj]
    simp only[Array.getElem_ofFn]
    exact(jA f v hi).symm
theorem aac (n:Nat) (tmps:Array Value) (h:tmps.size=n):(⟨tmps,[]⟩:Act)=cw n (fun t=>tmps.getD t undef):=by
 simp only[cw,Act.mk.injEq,and_true]
 apply Array.ext
 ·simp[h]
 ·intro i h1 h2
  simp[h1]
def xR (ops:Array Oper) (j:Nat):Option Nat:=(ops[j]?).bind (·.dst)
theorem BX {f:aP} {ops:Array Oper} {j:Nat} (h:xR ops j=some t) (ht:Nat.blt t n=true) (hv:f t=.bool b):
  yielded ops (cw n f).tmps j=some b:=by
 simp only[aoG] at ht
 unfold xR at h
 simp[yielded,h,cw,ht,hv]
def SO (P:Program) (n:Nat) (ops:Array Oper) (o:Oper) (f:aP) (w:aG) (K:aP→aG→Prop):Prop:=
 ∀(Q:Exit→Act→aG→Prop) (rest:dw),(∀f' w',K f' w'→wpList P ops Q rest (cw n f') w')→wpList P ops Q (o::rest) (cw n f) w
theorem SO.mono {P:Program} {ops:Array Oper} {o:Oper} {f:aP} {w:aG} {K K':aP→aG→Prop} (h:SO P n ops o f w K) (hk:∀f' w',K f' w'→K' f' w'):SO P n ops o f w K':=
 fun Q rest hr=>h Q rest fun f' w' hK=>hr f' w' (hk f' w' hK)
section
variable {P:Program} {n:Nat} {ops:Array Oper} {f:aP} {w:aG} {K:aP→aG→Prop} {Q:Exit→Act→aG→Prop} {rest:dw} {o:Oper}
theorem SO.value {d:Option Nat} {op:Op} {ty:TypeId} {ps:String} {af:Array Edge} {v:Value} {w':aG}
  (hr:(execOp (cw n f).eval ⟨d,op,ty,ps,af,none⟩).run P w=.ok (.value v) w') (h:K (dh f d v) w'):SO P n ops ⟨d,op,ty,ps,af,none⟩ f w K:=by
 intro Q rest hk
 refine wpList_plain J fun K' SJ=>?_
 simp only[Oper.wp,hr,Oper.upon]
 rw[qC]
 exact SJ _ _<|hk _ _ h
theorem SO.skip {d:Option Nat} {op:Op} {ty:TypeId} {ps:String} {af:Array Edge} {w':aG}
  (hr:(execOp (cw n f).eval ⟨d,op,ty,ps,af,none⟩).run P w=.ok .skip w') (h:K (dh f d undef) w'):SO P n ops ⟨d,op,ty,ps,af,none⟩ f w K:=by
 intro Q rest hk
 refine wpList_plain J fun K' SJ=>?_
 simp only[Oper.wp,hr,Oper.upon]
 rw[qC]
 exact SJ _ _<|hk _ _ h
theorem SO.enter {d:Option Nat} {op:Op} {ty:TypeId} {ps:String} {af:Array Edge} {g:FuncId} {args:Array Value} {w':aG}
  (hr:(execOp (cw n f).eval ⟨d,op,ty,ps,af,none⟩).run P w=.ok (.enter g args) w')
  (h:Calls P g args w' fun e mB=>∃v,e=.returned v∧K (dh f d v) mB):SO P n ops ⟨d,op,ty,ps,af,none⟩ f w K:=by
 intro Q rest hk
 refine wpList_plain J fun K' SJ=>?_
 simp only[Oper.wp,hr,Oper.upon]
 refine h.mono ?_
 rintro e mB ⟨v,rfl,hv⟩
 show K' ((cw n f).put d v) mB
 rw[qC]
 exact SJ _ _<|hk _ _ hv
theorem gy {d:Option Nat} {op:Op} {ty:TypeId} {ps:String} {af:Array Edge} {j t:Nat} {want b:Bool}
  (hj:xR ops j=some t) (ht:Nat.blt t n=true) (hv:f t=.bool b) (hb:b=want)
  (h:SO P n ops ⟨d,op,ty,ps,af,none⟩ f w K):SO P n ops ⟨d,op,ty,ps,af,some (j,want)⟩ f w K:=by
 subst hb
 intro Q rest hk
 have h1:=h Q rest hk
 have hy:=BX (n:=n) hj ht hv
 unfold wpList at h1 ⊢
 rw[amF (by simp[Region.wanted])] at h1
 rw[amF (by simp[Region.wanted,hy])]
 exact h1
theorem gn {d:Option Nat} {op:Op} {ty:TypeId} {ps:String} {af:Array Edge} {j t:Nat} {want b:Bool}
  (hj:xR ops j=some t) (ht:Nat.blt t n=true) (hv:f t=.bool b) (hb:b=!want)
  (h:K (dh f d undef) w):SO P n ops ⟨d,op,ty,ps,af,some (j,want)⟩ f w K:=by
 subst hb
 intro Q rest hk
 have hy:=BX (n:=n) hj ht hv
 unfold wpList
 rw[amI (by simp[Region.wanted,hy])]
 rw[qC]
 exact hk _ _ h
def WL (P:Program) (n:Nat) (ops:Array Oper) (Q:Exit→Act→aG→Prop):dw→aP→aG→Prop
 |l,f,w=>wpList P ops Q l (cw n f) w
def WC (P:Program) (n:Nat) (c:Code) (Q:Exit→Act→aG→Prop) (f:aP) (w:aG):Prop:=c.wp P Q (cw n f) w
theorem k (h:SO P n ops o f w (WL P n ops Q rest)):WL P n ops Q (o::rest) f w:=h Q rest fun _ _ h=>h
theorem z (h:Q .normal (cw n f) w):WL P n ops Q [] f w:=wpList_nil (P:=P) (ops:=ops) h
theorem rg {l:dw} (h:WL P n l.toArray Q l f w):WC P n (.region id l.toArray false) Q f w:=wp_region_lit h
theorem sq (h:WC P n x (Exit.then (fun a w=>y.wp P Q a w) Q) f w):WC P n (.seq x y) Q f w:=wp_seq h
theorem nx (h:WC P n y Q f w):Exit.then (fun a w=>y.wp P Q a w) Q .normal (cw n f) w:=h
theorem sk (h:Q .normal (cw n f) w):WC P n .skip Q f w:=wp_skip h
theorem rt (h:Q .ret (cw n f) w):WC P n .ret Q f w:=wp_ret h
theorem ex (h:Q (.exit id) (cw n f) w):WC P n (.exit id) Q f w:=wp_exit h
theorem bk {c:Code} (h:WC P n c (Exit.inBlock id Q) f w):WC P n (.block id c) Q f w:=wp_block h
theorem aF (h:Q .normal a w):Exit.inBlock id Q .normal a w:=h
theorem bU (h:Q .ret a w):Exit.inBlock id Q .ret a w:=h
theorem bh (h:Q .normal a w):Exit.inBlock id Q (.exit id) a w:=by
 show (if id=id then _ else _);rw[amF rfl];exact h
theorem Vd {Xe:Nat} (gD:Xe≠id) (h:Q (.exit Xe) a w):Exit.inBlock id Q (.exit Xe) a w:=by
 show (if Xe=id then _ else _);rw[amI gD];exact h
theorem aK {next:Act→aG→Prop} (h:Q .ret a w):Exit.then next Q .ret a w:=h
theorem aV {next:Act→aG→Prop} (h:Q (.exit id) a w):Exit.then next Q (.exit id) a w:=h
theorem cd (hc:bJ n c=true) (hv:ev f c=.bool b) (ht:b=true→WC P n x Q f w) (hf:b=false→WC P n y Q f w):WC P n (.cond c x y) Q f w:=
 wp_cond_split (by rw[aM hc,hv]) ht hf
theorem oA (hc:bJ n c=true) (hv:ev f c=.bool b) (hb:b=true) (h:WC P n x Q f w):WC P n (.cond c x y) Q f w:=
 wp_cond_true (by rw[aM hc,hv,hb]) h
theorem nU (hc:bJ n c=true) (hv:ev f c=.bool b) (hb:b=false) (h:WC P n y Q f w):WC P n (.cond c x y) Q f w:=
 wp_cond_false (by rw[aM hc,hv,hb]) h
def VW (n:Nat) (R:aP→aG→Prop) (Q:Exit→Act→aG→Prop):Exit→Act→aG→Prop
 | .normal,a,w=>∃f,a=cw n f∧R f w
 |e,a,w=>Q e a w
theorem cut {x y:Code} (R:aP→aG→Prop) (h:WC P n x (VW n R Q) f w) (h2:∀f' w',R f' w'→WC P n y Q f' w'):WC P n (.seq x y) Q f w:=by
 refine wp_seq<|wp_mono h ?_
 intro e a w' hq
 cases e with
 |normal=>obtain⟨f',rfl,hR⟩:=hq;exact h2 f' w' hR
 |_=>exact hq
theorem Bj {R:aP→aG→Prop} (h:R f w):VW n R Q .normal (cw n f) w:=⟨f,rfl,h⟩
theorem HP {R:aP→aG→Prop} (h:Q .ret a w):VW n R Q .ret a w:=h
def JE (n:Nat) (ae:Nat→aP→aG→Prop) (m:Nat) (Q:Exit→Act→aG→Prop):Exit→Act→aG→Prop
 | .normal,a,w=>∃f m',a=cw n f∧m'<m∧ae m' f w
 |e,a,w=>Q e a w
theorem lp {c:Code} (ae:Nat→aP→aG→Prop) (m0:Nat) (h0:ae m0 f w)
  (hr:∀m f w,ae m f w→WC P n c (JE n ae m Q) f w):WC P n (.loop c) Q f w:=by
 have key:∀m,∀f w,ae m f w→∀b k cs,
   ∃e a' w',Q e a' w'∧Arrives P (lone (b.at (cw n f) (.code c::.inLoop c::k)) cs w) b k cs e a' w':=by
  intro m
  induction m using Nat.strongRecOn with
  |_ m ih=>
   intro f w hI b k cs
   obtain⟨e,a₁,w₁,hq,CS⟩:=hr m f w hI b (.inLoop c::k) cs
   cases e with
   |normal=>
    obtain⟨f',m',rfl,eZ,XN⟩:=hq
    obtain⟨e₂,a₂,w₂,aeC,Zy⟩:=ih m' eZ f' w₁ XN b k cs
    exact⟨e₂,a₂,w₂,aeC,.of_steps (Steps.trans CS (.one step_inLoop)) Zy⟩
   |exit id=>exact⟨_,a₁,w₁,hq,.pass (x:=.inLoop c) rfl (fun _ _=>.inl (by simp)) CS⟩
   |goto l=>exact⟨_,a₁,w₁,hq,.pass (x:=.inLoop c) rfl (fun _ _=>.inl (by simp)) CS⟩
   |ret=>exact⟨_,a₁,w₁,hq,.pass (x:=.inLoop c) rfl (fun _ _=>.inl (by simp)) CS⟩
   |panic ch=>exact⟨_,a₁,w₁,hq,.pass (x:=.inLoop c) rfl (fun _ _=>.inl (by simp)) CS⟩
   |outgrown=>exact⟨_,a₁,w₁,hq,.pass (x:=.inLoop c) rfl (fun _ _=>.inl (by simp)) CS⟩
 intro b k cs
 obtain⟨e,a',w',hq,CS⟩:=key m0 f w h0 b k cs
 exact⟨e,a',w',hq,.of_steps (.one step_loop) CS⟩
theorem bG {ae:Nat→aP→aG→Prop} (m':Nat) (hm:m'<m) (h:ae m' f w):JE n ae m Q .normal (cw n f) w:=⟨f,m',rfl,hm,h⟩
theorem ee {ae:Nat→aP→aG→Prop} (h:Q .ret a w):JE n ae m Q .ret a w:=h
theorem bf {ae:Nat→aP→aG→Prop} (h:Q (.exit id) a w):JE n ae m Q (.exit id) a w:=h
end
def sj (P:Program) (n:Nat) (fn:Func) (R:Value→aG→Prop):Exit→Act→aG→Prop
 | .normal,a,w| .ret,a,w=>∃f,a=cw n f∧∃v,(results fn (cw n f).tmps).run P w=.ok v w∧R v w
 |_,_,_=>False
def cA (R:Value→aG→Prop):Ending→aG→Prop:=fun e w=>∃v,e=.returned v∧R v w
theorem enter {P:Program} {g:FuncId} {fn:Func} {c:Code} {args:Array Value} {w:aG} {R:Value→aG→Prop} (n:Nat)
  (hf:P.funcs[g]? =some fn) (hb:fn.body=some c) (hn:fn.ntmps=n) (ha:Nat.ble args.size n=true)
  (h:∀f:aP,(∀i,(_:i<args.size)→f i=args[i])→WC P n c (sj P n fn R) f w):Calls P g args w (cA R):=by
 refine calls_of_wp hf hb ?_
 subst hn
 simp only[apo] at ha
 rw[aac fn.ntmps (args++Array.replicate (fn.ntmps-args.size) undef) (by simp;omega)]
 have h1:=h (fun t=>(args++Array.replicate (fn.ntmps-args.size) undef).getD t undef) (fun i hi=>by
  simp[aou,hi])
 refine wp_mono h1 ?_
 intro e a w' hq
 cases e with
 |normal=>obtain⟨f',rfl,v,h1,h2⟩:=hq;exact⟨rfl,v,h1,v,rfl,h2⟩
 |ret=>obtain⟨f',rfl,v,h1,h2⟩:=hq;exact⟨rfl,v,h1,v,rfl,h2⟩
 |_=>exact hq.elim
section
variable {P:Program} {n:Nat} {fn:Func} {R:Value→aG→Prop} {f:aP} {w:aG}
theorem AJ (h:Nat.blt t n=true):(cw n f).tmps.getD t undef=f t:=by
 simp only[aoG] at h
 simp[cw,h]
theorem r1 (hr:fn.results=#[.tmp t]) (ht:Nat.blt t n=true) (h:R (f t) w):sj P n fn R .ret (cw n f) w:=
 ⟨f,rfl,f t,by rw[results_tmp hr,AJ ht],h⟩
theorem r2 {u:Nat} (hr:fn.results=#[.tmp t,.tmp u]) (ht:Nat.blt t n=true) (hu:Nat.blt u n=true) (h:R (.tuple #[f t,f u]) w):sj P n fn R .ret (cw n f) w:=
 ⟨f,rfl,_,by rw[results_tmp2 hr,AJ ht,AJ hu],h⟩
theorem r0 (hr:fn.results=#[]) (h:R (.tuple #[]) w):sj P n fn R .ret (cw n f) w:=
 ⟨f,rfl,_,results_none hr _ _ _,h⟩
theorem D9 (hr:fn.results=#[]) (h:R (.tuple #[]) w):sj P n fn R .normal (cw n f) w:=
 ⟨f,rfl,_,results_none hr _ _ _,h⟩
end
end Go.Ew
namespace Go.Ew
open Go.RowKit
structure Ext (w w':aG):Prop extends Below w.heap.size w w' where
 drawn:w.drawn≤w'.drawn
theorem Ext.refl (w:aG):Ext w w:=⟨Below.refl _ _,amD _⟩
theorem Ext.trans {a b c:aG} (h:Ext a b) (k:Ext b c):Ext a c:=⟨Below.trans h.toBelow (Below.mono k.toBelow h.size),amP h.drawn k.drawn⟩
theorem Ext.drew (w:aG):Ext w w.drew:=⟨Below.drew (Below.refl _ _),apS _⟩
theorem Ext.alloc (w:aG) (o:Obj):Ext w (w.alloc o):=⟨Below.alloc (Below.refl _ _) (amD _) o,amD _⟩
theorem TP {α:Type} (a:Ask α):∀w:aG,w.drawn≤(w.ask a).2.drawn:=by
 induction a with
 |done a=>intro w;simp only[World.ask];exact amD _
 |ask alr range k ih=>
  intro w
  simp only[World.ask]
  split
  ·exact ih _ w
  ·exact amP (apS _)<|ih _ {w with drawn:=w.drawn+1}
theorem Q7 (w:aG) (c:Sys):w.drawn≤(w.sys c).2.drawn:=by
 have h:=TP (Kernel.perform c w.os) w
 unfold World.sys
 split
 ·exact amD _
 ·rename_i e;rw[e] at h;exact h
theorem S5 {P:Program} {w w':aG} {a:Addr} {v:Value} {b:Bool} {l:List Addr} (h:w.farStore P a v b=.ok (w',l)):w'.drawn=w.drawn:=by
 unfold World.farStore at h
 split at h
 ·split at h
  ·rename_i e
   simp only[Except.ok.injEq] at h
   subst h
   unfold World.viewStore at e
   simp only[bind,Except.bind,pure,Except.pure] at e
   repeat' (first|cases e|split at e)
   all_goals rfl
  ·cases h
 ·cases h
theorem sC {α:Type} {P:Program} (m:Sem α):∀{w w':aG} {v:α},m.run P w=.ok v w'→w.drawn≤w'.drawn:=by
 induction m with
 |pure a=>intro w w' v h;simp only[Sem.run,Result.ok.injEq] at h;rw[h.2];exact amD _
 |load m a k ih=>
  intro w w' v h
  simp only[Sem.run] at h
  split at h
  ·exact ih _ h
  ·split at h
   ·exact ih _ h
   ·cases h
 |store m a u k ih=>
  intro w w' v h
  cases u<;>simp only[Sem.run] at h<;>(try (cases h;done))<;>
  ·split at h
   ·split at h
    ·cases h
    ·have:=ih h;exact this
   ·split at h
    ·rename_i e
     have:=ih h
     rw[S5 e] at this
     exact this
    ·cases h
 |new o k ih=>intro w w' v h;have:=ih w.heap.size (w:={w with heap:=w.heap.push o}) h;exact this
 |shape r k ih=>intro w w' v h;exact ih (w.shape? r) h
 |freeze a n k ih=>
  intro w w' v h
  have:=ih (w:=w.freeze a n) h
  simp only[World.freeze] at this
  split at this<;>exact this
 |frozen a k ih=>intro w w' v h;exact ih (w.frozen? a) h
 |getObj r k ih=>
  intro w w' v h
  simp only[Sem.run] at h
  split at h
  ·cases h
  ·exact ih _ h
  ·cases h
 |setObj r o k ih=>
  intro w w' v h
  simp only[Sem.run] at h
  split at h
  ·cases h
  ·have:=ih h;exact this
  ·cases h
 |choose q k ih=>
  intro w w' v h
  simp only[Sem.run] at h
  split at h
  ·exact ih _ h
  ·exact amP (apS _)<|ih _ (w:={w with drawn:=w.drawn+1}) h
 |sys c k ih=>intro w w' v h;exact amP (Q7 w c) (ih _ (w:=(w.sys c).2) h)
 |program k ih=>intro w w' v h;exact ih P h
 |mark m k ih=>intro w w' v h;exact ih (w:=w) h
 |halt x=>intro w w' v h;cases h
def kU (o:Oper) (j:Nat):Bool:=o.after.toList.any fun e=>Region.binds .any e&&e.on==j
def iT (l:dw) (i:Nat):Nat:=(((l[i]?).bind (·.dst)).getD 0)
def jf (k:Nat) (l:dw):List Nat:=(l.take k).filterMap (·.dst)
def nodupB:List Nat→Bool
 |[]=>true
 |x::xs=>!xs.contains x&&nodupB xs
def ri:Nat→dw→Bool
 |_,[]=>true
 |i,o::r=>o.after.all (fun e=>!Region.binds .any e||Nat.blt e.on i)&&ri (i+1) r
def oM (l:dw):Nat→gU
 |0,_,_=>false
 |n+1,i,m=>match l[i]? with
  |none=>false
  |some o=>kU o m||(List.range i).any fun j=>kU o j&&oM l n j m
def wT (l:dw) (k:Nat):Bool:=
 (Nat.ble l.length k||(List.range k).all fun m=>oM l (k+1) k m)&&
  (List.range l.length).all fun i=>Nat.ble i k||match l[i]? with
   |some o=>kU o (i-1)
   |none=>true
def N2 (n k:Nat) (l:dw):Bool:=
 ri 0 l&&(l.take k).all (fun o=>o.dst.isSome)&&nodupB (jf k l)&&(jf k l).all (fun d=>Nat.blt d n)&&wT l k&&Nat.ble k l.length
def zT (Φ:List (Value→aG→Prop)) (i:Nat):Value→aG→Prop:=Φ.getD i (fun _ _=>True)
structure DStep (P:Program) (n:Nat) (l:dw) (k:Nat) (Φ:List (Value→aG→Prop)) (f0:aP) (w0:aG) (i:Nat) (o:Oper):Prop where
 go:∀f w,(∀t,(jf k l).contains t=false→f t=f0 t)→Ext w0 w→(∀j,kU o j=true→Nat.blt j k=true→zT Φ j (f (iT l j)) w)→
  SO P n l.toArray o f w (fun f' w'=>∃v,f'=dh f o.dst v∧Ext w w'∧zT Φ i v w')
 mono:∀v w w',Ext w w'→zT Φ i v w→zT Φ i v w'
def mi (P:Program) (n:Nat) (l:dw) (k:Nat) (Φ:List (Value→aG→Prop)) (f0:aP) (w0:aG):Nat→dw→Prop
 |_,[]=>True
 |i,o::r=>(Nat.blt i k=true→DStep P n l k Φ f0 w0 i o)∧mi P n l k Φ f0 w0 (i+1) r
section
variable {P:Program} {n:Nat} {l:dw} {k:Nat} {Φ:List (Value→aG→Prop)} {f0:aP} {w0:aG}
theorem mi.at_:∀(r:dw) (i:Nat),mi P n l k Φ f0 w0 i r→∀j o,r[j]? =some o→Nat.blt (i+j) k=true→DStep P n l k Φ f0 w0 (i+j) o
 |[],_,_,j,o,h,_=>by simp at h
 |x::r,i,h,0,o,hj,hk=>by
  simp only[amR,amO] at hj
  subst hj
  exact h.1 hk
 |x::r,i,h,j+1,o,hj,hk=>by
  simp only[amY] at hj
  have:=mi.at_ r (i+1) h.2 j o hj<|by rw[show i+1+j=i+(j+1) from by omega];exact hk
  rwa [show i+1+j=i+(j+1) from by omega] at this
theorem wI:∀(r:dw) (i:Nat),ri i r=true→∀j o,r[j]? =some o→∀e∈o.after,Region.binds .any e=true→e.on<i+j
 |[],_,_,j,o,h,_,_,_=>by simp at h
 |x::r,i,h,j,o,hj,e,he,hb=>by
  simp only[ri,eW,Array.all_eq_true_iff_forall_mem,amM,anM,aoG] at h
  cases j with
  |zero=>
   simp only[amR,amO] at hj
   subst hj
   rcases h.1 e he with h1|h1
   ·rw[hb] at h1;cases h1
   ·omega
  |succ j=>
   simp only[amY] at hj
   have:=wI r (i+1) h.2 j o hj e he hb
   omega
theorem wS {o:Oper} {j:Nat}:kU o j=true↔∃e∈o.after,Region.binds .any e=true∧e.on=j:=by
 simp only[kU,anc,Array.mem_toList_iff]
 constructor
 ·rintro⟨e,he,h⟩
  simp only[eW,beq_iff_eq] at h
  exact⟨e,he,h.1,h.2⟩
 ·rintro⟨e,he,h1,h2⟩
  exact⟨e,he,by simp[h1,h2]⟩
theorem zY {l:dw} {k:Nat} (h:wT l k=true) {i:Nat} {o:Oper} (hk:k<i) (ho:l[i]? =some o):kU o (i-1)=true:=by
 simp only[wT,eW] at h
 have:=amK.1 h.2 i<|by rw[amH];exact(dU.1 ho).1
 rw[ho] at this
 have hf:Nat.ble i k=false:=by
  cases hb:Nat.ble i k with
  |false=>rfl
  |true=>rw[apo] at hb;omega
 rw[hf] at this
 simpa using this
theorem Js {l:dw} {k:Nat} (h:wT l k=true) (hk:k<l.length) {m:Nat} (hm:m<k):oM l (k+1) k m=true:=by
 simp only[wT,eW,amM] at h
 rcases h.1 with h1|h1
 ·rw[apo] at h1;omega
 ·exact amK.1 h1 m<|by rw[amH];exact hm
theorem Ch {l:dw} {listed:Array Bool} (hC:∀i o,listed.getD i false=true→l[i]? =some o→∀j,kU o j=true→listed.getD j false=true):
  ∀(n i m:Nat) (o:Oper),l[i]? =some o→(∀j,kU o j=true→listed.getD j false=true)→oM l n i m=true→listed.getD m false=true
 |0,_,_,_,_,_,h=>by cases h
 |n+1,i,m,o,ho,hd,h=>by
  simp only[oM,ho,amM] at h
  rcases h with h|h
  ·exact hd m h
  ·obtain⟨j,_,hj⟩:=anc.1 h
   simp only[eW] at hj
   have hlj:=hd j hj.1
   cases qO:l[j]? with
   |none=>
    have h2:=hj.2
    cases n with
    |zero=>cases h2
    |succ n=>simp[oM,qO] at h2
   |some o'=>exact Ch hC n j m o' qO (hC j o' hlj qO) hj.2
theorem oO:∀(l:List Nat),nodupB l=true→l.Nodup
 |[],_=>apw
 |x::xs,h=>by
  simp only[nodupB,eW,anM] at h
  refine anG.2 ⟨?_,oO xs h.2⟩
  intro hx
  have:=anj.2 hx
  rw[h.1] at this
  cases this
theorem FQ {ops:Array Oper} {i:Nat} {o:Oper} {f:aP} {w:aG} {K:aP→aG→Prop} {Q:Exit→Act→aG→Prop} {K':Act→aG→Prop}
  (hi:ops[i]? =some o) (h:SO P n ops o f w K) (hk:∀f' w',K f' w'→K' (cw n f') w'):wpOp P ops Q i K' (cw n f) w:=by
 have h1:=h (fun e a w=>match e with| .normal=>K' a w|e=>Q e a w) []<|fun f' w' hK=>hk f' w' hK
 unfold wpOp
 simp only[hi]
 unfold wpList at h1
 split at h1
 ·rename_i hw
  rw[amF hw]
  refine h1.imp (fun h2=>?_)<|fun h2=>?_
  ·unfold Oper.wp at h2 ⊢
   generalize (execOp (cw n f).eval o).run P w=r at *
   cases r with
   |ok x w'=>
    cases x<;>simp only[Oper.upon] at h2 ⊢<;>first
     |exact h2
     |(refine Calls.mono h2 ?_;intro e mB he;cases e<;>first|exact he|(obtain⟨a0,w1,hq⟩:=he;exact⟨a0,w1,hq⟩))
   |halt x w'=>cases x<;>simp only[Oper.upon] at h2 ⊢<;>exact h2
  ·obtain⟨ha,a0,w1,hq⟩:=h2
   exact⟨ha,a0,w1,hq⟩
 ·rename_i hw
  rw[amI hw]
  exact h1
def Wv (N m:Nat) (listed:Array Bool):Prop:=listed.size=N∧∀i,i<N→listed.getD i false=decide (i<m)
theorem qU {listed:Array Bool} {i:Nat} (h:i<listed.size) (a b:Bool):listed.getD i a=listed.getD i b:=by
 simp[Array.getD,h]
theorem FR {Q:Exit→Act→aG→Prop} (hE:ri 0 l=true) (hT:wT l k=true):
  ∀(d m:Nat) (listed:Array Bool) (a:Act) (w:aG),l.length-m=d→k≤m→m≤l.length→Wv l.length m listed→wpList P l.toArray Q (l.drop m) a w→wpAny P .any l.toArray Q d listed a w:=by
 intro d
 induction d with
 |zero=>
  intro m listed a w hd hk hm hl h
  have tV:m=l.length:=by omega
  subst tV
  rw[aob (amD _)] at h
  refine⟨?_,h⟩
  unfold Region.ready
  rw[anJ]
  intro i hi
  simp only[an9,amH] at hi
  have:=hl.2 i hi
  rw[show listed.getD i true=listed.getD i false from qU (by rw[hl.1];exact hi) _ _,this]
  simp[hi]
 |succ d ih=>
  intro m listed a w hd hk hm hl h
  have tV:m<l.length:=by omega
  have jc:l[m]? =some l[m]:=eR tV
  have Si:∀i,i∈Region.ready .any l.toArray listed↔i=m:=by
   intro i
   rw[mem_ready]
   constructor
   ·rintro⟨h0,o,ho,oR⟩
    have jK:i<l.length:=by
     have:=(am7.1 ho).1
     simpa using this
    have hnm:¬i<m:=by
     intro him
     rw[show listed.getD i true=listed.getD i false from qU (by rw[hl.1];exact jK) _ _,hl.2 i jK] at h0
     simp[him] at h0
    by_cases him:i=m
    ·exact him
    ·exfalso
     have hoi:l[i]? =some o:=by simpa using ho
     have hb:=zY hT (i:=i) aj hoi
     obtain⟨e,he,xL,vh⟩:=wS.1 hb
     have:=oR e he xL
     rw[vh,hl.2 (i-1) aj] at this
     simp at this
     omega
   ·rintro rfl
    refine⟨?_,l[i],by simp,?_⟩
    ·rw[show listed.getD i true=listed.getD i false from qU (by rw[hl.1];exact tV) _ _,hl.2 i tV]
     simp
    ·intro e he xL
     have:=wI l 0 hE i l[i] jc e he xL
     rw[hl.2 e.on aj]
     simp;omega
  have aeG:l.drop m=l[m]::l.drop (m+1):=ans tV
  refine⟨fun h0=>?_,fun i hi=>?_⟩
  ·have:=(Si m).2 rfl
   rw[h0] at this
   cases this
  ·obtain rfl:=(Si i).1 hi
   rw[aeG] at h
   have qJ:Wv l.length (i+1) (listed.setIfInBounds i true):=by
    refine⟨by simp[hl.1],fun j hj=>?_⟩
    by_cases nu:i=j
    ·subst nu
     simp[hl.1,tV]
    ·rw[getD_set_ne false nu,hl.2 j hj]
     simp;omega
   unfold wpOp
   rw[show (l.toArray)[i]? =some l[i] from by simp]
   simp only
   unfold wpList at h
   split at h
   ·rename_i hw
    rw[amF hw]
    refine h.imp (Oper.wp_mono fun a w h'=>ih (i+1) _ a w aj aj aj qJ h') id
   ·rename_i hw
    rw[amI hw]
    exact ih (i+1) _ _ w aj aj aj qJ h
theorem qG {i:Nat} {o:Oper} (hi:l[i]? =some o) (hk:i<k) {d:Nat} (hd:o.dst=some d):d∈jf k l:=by
 unfold jf
 rw[am4]
 refine⟨o,?_,hd⟩
 have:(l.take k)[i]? =some o:=by rw[am5,amF hk];exact hi
 exact dN this
theorem ic {α β:Type} (g:α→Option β):∀(l:List α),(l.filterMap g).Nodup→∀(i j:Nat) (a b:α),l[i]? =some a→l[j]? =some b→(g a).isSome→g a=g b→i=j
 |[],_,i,_,_,_,hi,_,_,_=>by simp at hi
 |x::xs,h,i,j,a,b,hi,hj,hs,he=>by
  have P3:(xs.filterMap g).Nodup:=by
   rw[anq] at h
   split at h
   ·exact h
   ·exact(anG.1 h).2
  have Bb:∀(m:Nat) (c:α),xs[m]? =some c→g x=g c→(g x).isSome→False:=by
   intro m c hm hc hx
   obtain⟨y,hy⟩:=am0.1 hx
   rw[anq,hy] at h
   exact(anG.1 h).1 (am4.2 ⟨c,dN hm,by rw[←hc,hy]⟩)
  cases i with
  |zero=>
   cases j with
   |zero=>rfl
   |succ j=>
    simp only[amR,amO,amY] at hi hj
    subst hi
    exact(Bb j b hj he hs).elim
  |succ i=>
   cases j with
   |zero=>
    simp only[amR,amO,amY] at hi hj
    subst hj
    exact(Bb i a hi he.symm (he▸hs)).elim
   |succ j=>
    simp only[amY] at hi hj
    rw[ic g xs P3 i j a b hi hj hs he]
def DJ (n:Nat) (l:dw) (k:Nat) (Φ:List (Value→aG→Prop)) (f0:aP) (w0:aG) (listed:Array Bool) (a:Act) (w:aG):Prop:=
 ∃f,a=cw n f∧(∀t,(jf k l).contains t=false→f t=f0 t)∧Ext w0 w∧(∀i,i<k→listed.getD i false=true→zT Φ i (f (iT l i)) w)∧
  ∀i o,listed.getD i false=true→l[i]? =some o→∀j,kU o j=true→listed.getD j false=true
theorem MV {Q:Exit→Act→aG→Prop} (rN:N2 n k l=true) (hS:mi P n l k Φ f0 w0 0 l)
  (vV:∀f w,(∀t,(jf k l).contains t=false→f t=f0 t)→Ext w0 w→(∀i,Nat.blt i k=true→zT Φ i (f (iT l i)) w)→WL P n l.toArray Q (l.drop k) f w):
  ∀(d:Nat) (listed:Array Bool) (a:Act) (w:aG),listed.size=l.length→(∀i,k≤i→listed.getD i false=false)→(listed.toList.filter (fun b=>!b)).length=d→
   DJ n l k Φ f0 w0 listed a w→wpAny P .any l.toArray Q d listed a w:=by
 have ab0:=rN
 simp only[N2,eW] at rN
 obtain⟨⟨⟨⟨⟨hE,hD⟩,hN⟩,hn⟩,hT⟩,Ag⟩:=rN
 simp only[apo] at Ag
 intro d
 induction d with
 |zero=>
  intro listed a w oQ BJ hd hJ
  have oR:∀i,i<l.length→listed.getD i false=true:=by
   intro i hi
   have h0:=an3 hd
   rw[anJ] at h0
   have pJ:i<listed.size:=by omega
   have:=h0 listed[i]<|by simp
   simp at this
   simp[Array.getD,pJ,this]
  have ahP:k=l.length:=by
   rcases apn k l.length with h|h
   ·have h1:=oR k h
    rw[BJ k (amD _)] at h1
    cases h1
   ·omega
  obtain⟨f,rfl,hf,hx,hφ,hC⟩:=hJ
  have:=vV f w hf hx<|fun i hi=>hφ i (by simpa using hi)<|oR i<|by have h9:i<k:=(by simpa using hi);omega
  refine FR hE hT 0 l.length listed _ w aj aj (amD _) ⟨oQ,fun i hi=>by rw[oR i hi];simp[hi]⟩ ?_
  rw[ahP] at this
  exact this
 |succ d ih=>
  intro listed a w oQ BJ hd hJ
  by_cases oR:∀i,i<k→listed.getD i false=true
  ·obtain⟨f,rfl,hf,hx,hφ,hC⟩:=hJ
   have:=vV f w hf hx<|fun i hi=>hφ i (by simpa using hi)<|oR i<|by simpa using hi
   have qJ:Wv l.length k listed:=⟨oQ,fun i hi=>by
    by_cases tx:i<k
    ·rw[oR i tx];simp[tx]
    ·rw[BJ i aj];simp;omega⟩
   have SA:d+1=l.length-k:=by
    rw[←hd]
    have hl:listed.toList=List.replicate k true++List.replicate (l.length-k) false:=by
     apply aoc
     ·simp[oQ];omega
     ·intro i h1 h2
      simp only[ang] at h1
      have:=qJ.2 i aj
      simp only[Array.getD,h1,dif_pos] at this
      rw[apt]
      by_cases tx:i<k
      ·rw[List.getElem_append_left (by simpa using tx)]
       simp[aoo,tx] at this ⊢
       exact this
      ·rw[List.getElem_append_right (by simpa using tx)]
       simp[aoo,tx] at this ⊢
       exact this
    rw[hl]
    simp
   exact FR hE hT (d+1) k listed _ w aj (amD _) Ag qJ this
  ·obtain⟨i0,Ox⟩:∃i,i<k∧listed.getD i false=false:=by
    apply anl
    intro Gv
    refine oR fun i hi=>?_
    cases hb:listed.getD i false with
    |true=>rfl
    |false=>exact(Gv ⟨i,hi,hb⟩).elim
   
   obtain⟨m,Sr,Sq⟩:=exists_least (p:=fun i=>i<k∧listed.getD i false=false) ⟨i0,Ox⟩
   have tV:m<l.length:=by omega
   have jc:l[m]? =some l[m]:=eR tV
   have BG:m∈Region.ready .any l.toArray listed:=by
    rw[mem_ready]
    refine⟨?_,l[m],by simp,fun e he hb=>?_⟩
    ·rw[show listed.getD m true=listed.getD m false from qU aj _ _];exact Sr.2
    ·have eZ:=wI l 0 hE m l[m] jc e he hb
     cases wq:listed.getD e.on false with
     |true=>rfl
     |false=>
      have:=Sq e.on ⟨by omega,wq⟩
      omega
   refine⟨fun h0=>(by rw[h0] at BG;cases BG),fun i hi=>?_⟩
   obtain⟨h0,o,ho,Ak⟩:=mem_ready.1 hi
   have qj:l[i]? =some o:=by simpa using ho
   have jK:i<l.length:=(dU.1 qj).1
   have L0:listed.getD i false=false:=by
    rw[show listed.getD i false=listed.getD i true from qU aj _ _];exact h0
   have tx:i<k:=by
    rcases apn i k with h|h
    ·exact h
    ·exfalso
     obtain⟨f,rfl,hf,hx,hφ,hC⟩:=hJ
     by_cases ahR:i=k
     ·subst ahR
      have:=Ch hC _ i m o qj (fun j hj=>by
       obtain⟨e,he,xL,vh⟩:=wS.1 hj
       rw[←vh];exact Ak e he xL) (Js hT jK Sr.1)
      rw[Sr.2] at this
      cases this
     ·have hb:=zY hT (i:=i) aj qj
      obtain⟨e,he,xL,vh⟩:=wS.1 hb
      have:=Ak e he xL
      rw[vh,BJ (i-1) aj] at this
      cases this
   obtain⟨f,rfl,hf,hx,hφ,hC⟩:=hJ
   have DI:=(mi.at_ l 0 hS i o qj<|by simpa using tx)
   simp only[ann] at DI
   have hSO:=DI.go f w hf hx (fun j hj IW=>by
    obtain⟨e,he,hb,vh⟩:=wS.1 hj
    subst vh
    exact hφ e.on (by simpa using IW) (Ak e he hb))
   obtain⟨di,vj⟩:∃di,o.dst=some di:=by
    rw[amK] at hD
    have:=hD o<|dN (i:=i)<|by rw[am5,amF tx];exact qj
    exact am0.1 this
   refine FQ ho hSO fun f' w' hK=>?_
   obtain⟨v,rfl,CE,hv⟩:=hK
   refine ih (listed.setIfInBounds i true) _ w' (by simp[oQ]) (fun j hj=>?_) ?_ ?_
   ·rw[getD_set_ne false aj];exact BJ j hj
   ·
    have LN:i<listed.size:=by omega
    have uC:listed.toList[i]? =some false:=by
     rw[eR (by simpa using LN)]
     simp only[Array.getD,LN,dif_pos] at L0
     simpa [aoo] using L0
    have key:∀(L:List Bool) (i:Nat),L[i]? =some false→((L.set i true).filter (fun b=>!b)).length+1=(L.filter (fun b=>!b)).length:=by
     intro L
     induction L with
     |nil=>intro i h;simp at h
     |cons b L ihL=>
      intro i h
      cases i with
      |zero=>simp at h;subst h;simp
      |succ i=>
       simp at h
       have:=ihL i h
       cases b<;>simp at this ⊢<;>omega
    have:=key listed.toList i uC
    rw[Array.toList_setIfInBounds]
    omega
   ·refine⟨dh f o.dst v,J,fun t ht=>?_,hx.trans CE,fun j IW hj=>?_,fun j oj hj qO q hq=>?_⟩
    ·rw[vj]
     have gD:t≠di:=by
      rintro rfl
      have:=qG qj tx vj
      rw[←anj,ht] at this
      cases this
     rw[show dh f (some di) v=cx f di v from rfl,jA f v gD]
     exact hf t ht
    ·have wm:j<l.length:=by omega
     have qO:l[j]? =some l[j]:=eR wm
     by_cases nu:i=j
     ·subst nu
      have:iT l i=di:=by unfold iT;rw[qj];simp[vj]
      rw[this,vj,show dh f (some di) v=cx f di v from rfl,iP]
      exact hv
     ·rw[getD_set_ne false nu] at hj
      have abB:=hφ j IW hj
      have Sf:=(mi.at_ l 0 hS j l[j] qO<|by simpa using IW)
      simp only[ann] at Sf
      obtain⟨dj,El⟩:∃dj,(l[j]).dst=some dj:=by
       rw[amK] at hD
       have:=hD l[j]<|dN (i:=j)<|by rw[am5,amF IW];exact qO
       exact am0.1 this
      have hDj:iT l j=dj:=by unfold iT;rw[qO];simp[El]
      have gD:dj≠di:=by
       rintro rfl
       have lL:=oO _ hN
       unfold jf at lL
       exact nu<|ic (·.dst) (l.take k) lL i j o l[j] (by rw[am5,amF tx];exact qj) (by rw[am5,amF IW];exact qO) (by simp[vj])<|by simp[vj,El]
      rw[hDj] at abB ⊢
      rw[vj,show dh f (some di) v=cx f di v from rfl,jA f v gD]
      exact Sf.mono _ _ _ CE abB
    ·have nt:listed.getD q false=true:=by
      by_cases nu:i=j
      ·subst nu
       rw[qj] at qO
       cases qO
       obtain⟨e,he,xL,vh⟩:=wS.1 hq
       rw[←vh];exact Ak e he xL
      ·rw[getD_set_ne false nu] at hj
       exact hC j oj hj qO q hq
     by_cases tw:i=q
     ·subst tw;rw[L0] at nt;cases nt
     ·rw[getD_set_ne false tw];exact nt
theorem dr {id:Nat} {Q:Exit→Act→aG→Prop} {f:aP} {w:aG} (k:Nat) (Φ:List (Value→aG→Prop)) (hm:P.follows .mixedOrders=true) (rN:N2 n k l=true)
  (hS:mi P n l k Φ f w 0 l)
  (vV:∀f' w',(∀t,(jf k l).contains t=false→f' t=f t)→Ext w w'→(∀i,Nat.blt i k=true→zT Φ i (f' (iT l i)) w')→WL P n l.toArray Q (l.drop k) f' w'):
  WC P n (.region id l.toArray true) Q f w:=by
 refine wp_region_any hm ?_
 have h:=MV (P:=P) (w0:=w) (f0:=f) (Q:=Q) rN hS vV l.length (Array.replicate l.length false) (cw n f) w.drew (by simp) (fun i _=>by simp[Array.getD]) (by simp) ⟨f,rfl,fun _ _=>rfl,Ext.drew w,fun i hi h=>(by
  have h2:(Array.replicate l.length false).getD i false=false:=by
   simp only[Array.getD];split<;>simp
  rw[h2] at h;cases h),fun i o h _ _ _=>(by
  have h2:(Array.replicate l.length false).getD i false=false:=by
   simp only[Array.getD];split<;>simp
  rw[h2] at h;cases h)⟩
 simpa using h
end
abbrev eV (x:Value):Value→aG→Prop:=fun v _=>v=x
theorem d0 {f' f:aP} {d:Option Nat} {v:Value} {w:aG} {R:Value→aG→Prop} (e:f'=dh f d v) (h:R v w):∃v,f'=dh f d v∧Ext w w∧R v w:=⟨v,e,Ext.refl w,h⟩
theorem dc {P:Program} {n:Nat} {l:dw} {k:Nat} {Φ:List (Value→aG→Prop)} {f0:aP} {w0:aG} {i:Nat} {o:Oper} {r:dw}
  (go:∀f w,(∀t,(jf k l).contains t=false→f t=f0 t)→Ext w0 w→(∀j,kU o j=true→Nat.blt j k=true→zT Φ j (f (iT l j)) w)→SO P n l.toArray o f w (fun f' w'=>∃v,f'=dh f o.dst v∧Ext w w'∧zT Φ i v w'))
  (rest:mi P n l k Φ f0 w0 (i+1) r) (mono:∀v w w',Ext w w'→zT Φ i v w→zT Φ i v w':=by exact fun _ _ _ _ h=>h):mi P n l k Φ f0 w0 i (o::r):=⟨fun _=>⟨go,mono⟩,rest⟩
abbrev I (x:Int):Value:=.int .i64 x
abbrev pV (b o:Nat):Value:=.pointer (some ⟨b,o,none⟩)
theorem BL:(∀b,(b&&true)=b)∧(∀b,(true&&b)=b)∧(∀b,(b&&false)=false)∧(∀b,(false&&b)=false)∧(∀b,(b||true)=true)∧(∀b,(true||b)=true)∧(∀b,(b||false)=b)∧(∀b,(false||b)=b)∧((!true)=false)∧((!false)=true)∧
  (∀(α:Type) (x y:α),cond true x y=x)∧(∀(α:Type) (x y:α),cond false x y=y)∧(∀(α:Type) (x y:α),(some x).getD y=x)∧(∀(α β:Type) (x:α) (f:α→β),(some x).map f=some (f x))∧(∀(α:Type) (l:List α) (i:Nat) (y:α),l.getD i y=(l[i]?).getD y):=by
 refine⟨?_,?_,?_,?_,?_,?_,?_,?_,J,J,fun _ _ _=>rfl,fun _ _ _=>rfl,fun _ _ _=>rfl,fun _ _ _ _=>rfl,fun _ _ _ _=>im⟩<;>intro b<;>cases b<;>rfl
end Go.Ew
namespace Go.Ew
open Go.RowKit Go.IntWalk
abbrev ag (x:bt):Value:=.int .u64 (x.toNat:Int)
def aL (a:Int):Prop:= -9223372036854775808≤a∧a≤9223372036854775807
theorem Q0 {a:Int} (h:aL a):IntKind.i64.wrap a=a:=i64_in a h
theorem zg (a:Int):IntKind.u64.wrap a=((BitVec.ofInt 64 a).toNat:Int):=by
 rw[IntKind.wrap_u64,aop]
 have h1:(0:Int)≤a%18446744073709551616:=Int.emod_nonneg _ au
 show a%18446744073709551616=(((a%((2^64:Nat):Int)).toNat:Nat):Int)
 rw[show ((2^64:Nat):Int)=18446744073709551616 from rfl,anf h1]
theorem oa (x:bt):BitVec.ofInt 64 (x.toNat:Int)=x:=by
 apply aoe
 rw[aop]
 have:=x.isLt
 omega
section
variable {P:Program} {n:Nat} {ops:Array Oper} {f:aP} {w:aG} {K:aP→aG→Prop} {x y c:Operand} {d:Nat} {ty T T2:TypeId} {ps:String} {af:Array Edge} {v v2:Value} {a b:Int} {p q:Bool} {kk kk2:IntKind} {s t:bt}
theorem mv (ox:bJ n x=true) (hx:ev f x=v) (h:K (cx f d v) w):SO P n ops ⟨some d,.move x,ty,ps,af,none⟩ f w K:=
 SO.value (v:=v) (by simp[execOp,aM ox,hx]) h
theorem jy (ox:bJ n x=true) (hx:ev f x=v) (h:K (cx f d v) w):SO P n ops ⟨some d,.assign x,ty,ps,af,none⟩ f w K:=
 SO.value (v:=v) (by simp[execOp,aM ox,hx]) h
theorem aN (oc:bJ n c=true) (ox:bJ n x=true) (oy:bJ n y=true) (hc:ev f c=.bool p) (hp:p=true) (hx:ev f x=v) (h:K (cx f d v) w):SO P n ops ⟨some d,.pick c x y,ty,ps,af,none⟩ f w K:=
 SO.value (v:=v) (by simp[execOp,asBool,aM oc,aM ox,aM oy,hc,hp,hx]) h
theorem cZ (oc:bJ n c=true) (ox:bJ n x=true) (oy:bJ n y=true) (hc:ev f c=.bool p) (hp:p=false) (hy:ev f y=v) (h:K (cx f d v) w):SO P n ops ⟨some d,.pick c x y,ty,ps,af,none⟩ f w K:=
 SO.value (v:=v) (by simp[execOp,asBool,aM oc,aM ox,aM oy,hc,hp,hy]) h
theorem kg (ox:bJ n x=true) (hx:ev f x=.bool p) (h:K (cx f d (.bool (!p))) w):SO P n ops ⟨some d,.unOp .not T x,ty,ps,af,none⟩ f w K:=
 SO.value (v:=.bool (!p)) (by simp[execOp,aM ox,hx,Op.unary]) h
theorem bin {op:BinOp} (ox:bJ n x=true) (oy:bJ n y=true) (hx:ev f x=.int kk a) (hy:ev f y=.int kk2 b) (hr:(binOp op T (.int kk a) (.int kk2 b)).run P w=.ok v w) (h:K (cx f d v) w):
  SO P n ops ⟨some d,.binOp op T x y T2,ty,ps,af,none⟩ f w K:=
 SO.value (v:=v) (by
  simp only[execOp,aM ox,aM oy,hx,hy]
  have hg:(eqGuard op T x y (.int kk a) (.int kk2 b)).run P w=.ok () w:=by unfold eqGuard;split<;>rfl
  simp[hg,hr,Result.andThen]) h
theorem add (ox:bJ n x=true) (oy:bJ n y=true) (hx:ev f x=.int .i64 a) (hy:ev f y=.int .i64 b) (hi:aL (a+b)) (h:K (cx f d (.int .i64 (a+b))) w):SO P n ops ⟨some d,.binOp .add T x y T2,ty,ps,af,none⟩ f w K:=
 bin ox oy hx hy (by simp[binOp,Op.intArith,Q0 hi]) h
theorem sub (ox:bJ n x=true) (oy:bJ n y=true) (hx:ev f x=.int .i64 a) (hy:ev f y=.int .i64 b) (hi:aL (a-b)) (h:K (cx f d (.int .i64 (a-b))) w):SO P n ops ⟨some d,.binOp .sub T x y T2,ty,ps,af,none⟩ f w K:=
 bin ox oy hx hy (by simp[binOp,Op.intArith,Q0 hi]) h
theorem mul (ox:bJ n x=true) (oy:bJ n y=true) (hx:ev f x=.int .i64 a) (hy:ev f y=.int .i64 b) (hi:aL (a*b)) (h:K (cx f d (.int .i64 (a*b))) w):SO P n ops ⟨some d,.binOp .mul T x y T2,ty,ps,af,none⟩ f w K:=
 bin ox oy hx hy (by simp[binOp,Op.intArith,Q0 hi]) h
theorem quo (ox:bJ n x=true) (oy:bJ n y=true) (hx:ev f x=.int .i64 a) (hy:ev f y=.int .i64 b) (hi:0≤a∧a≤9223372036854775807∧1≤b) (h:K (cx f d (.int .i64 (a/b))) w):SO P n ops ⟨some d,.binOp .quo T x y T2,ty,ps,af,none⟩ f w K:=
 bin ox oy hx hy (by
  have hb:b≠0:=by omega
  simp[binOp,Op.intDiv,hb];exact i64_quo a b hi) h
theorem lss (ox:bJ n x=true) (oy:bJ n y=true) (hx:ev f x=.int kk a) (hy:ev f y=.int kk b) (h:K (cx f d (.bool (decide (a<b)))) w):SO P n ops ⟨some d,.binOp .lss T x y T2,ty,ps,af,none⟩ f w K:=
 bin ox oy hx hy (by simp[binOp,Op.intCmp]) h
theorem leq (ox:bJ n x=true) (oy:bJ n y=true) (hx:ev f x=.int kk a) (hy:ev f y=.int kk b) (h:K (cx f d (.bool (decide (a≤b)))) w):SO P n ops ⟨some d,.binOp .leq T x y T2,ty,ps,af,none⟩ f w K:=
 bin ox oy hx hy (by simp[binOp,Op.intCmp]) h
theorem gtr (ox:bJ n x=true) (oy:bJ n y=true) (hx:ev f x=.int kk a) (hy:ev f y=.int kk b) (h:K (cx f d (.bool (decide (b<a)))) w):SO P n ops ⟨some d,.binOp .gtr T x y T2,ty,ps,af,none⟩ f w K:=
 bin ox oy hx hy (by simp[binOp,Op.intCmp]) h
theorem geq (ox:bJ n x=true) (oy:bJ n y=true) (hx:ev f x=.int kk a) (hy:ev f y=.int kk b) (h:K (cx f d (.bool (decide (b≤a)))) w):SO P n ops ⟨some d,.binOp .geq T x y T2,ty,ps,af,none⟩ f w K:=
 bin ox oy hx hy (by simp[binOp,Op.intCmp]) h
theorem eql (ox:bJ n x=true) (oy:bJ n y=true) (hx:ev f x=.int kk a) (hy:ev f y=.int kk b) (h:K (cx f d (.bool (decide (a=b)))) w):SO P n ops ⟨some d,.binOp .eql T x y T2,ty,ps,af,none⟩ f w K:=
 bin ox oy hx hy (by simp[binOp,Op.intCmp];rfl) h
theorem neq (ox:bJ n x=true) (oy:bJ n y=true) (hx:ev f x=.int kk a) (hy:ev f y=.int kk b) (h:K (cx f d (.bool (!decide (a=b)))) w):SO P n ops ⟨some d,.binOp .neq T x y T2,ty,ps,af,none⟩ f w K:=
 bin ox oy hx hy (by simp[binOp,Op.intCmp];rfl) h
theorem KC (ox:bJ n x=true) (oy:bJ n y=true) (hx:ev f x=.int .i64 a) (hy:ev f y=.int .u64 6) (h:K (cx f d (.int .i64 (a/64))) w):SO P n ops ⟨some d,.binOp .shr T x y T2,ty,ps,af,none⟩ f w K:=
 bin ox oy hx hy (by
  simp[binOp,Op.shift]
  show a.fdiv (2^min 6 64)=_
  rw[show (2:Int)^min 6 64=64 from rfl,Int.fdiv_eq_ediv_of_nonneg _ au]) h
theorem JY (ox:bJ n x=true) (oy:bJ n y=true) (hx:ev f x=.int .i64 a) (hy:ev f y=.int .i64 63) (h:K (cx f d (.int .i64 (a%64))) w):SO P n ops ⟨some d,.binOp .and T x y T2,ty,ps,af,none⟩ f w K:=
 bin ox oy hx hy (by
  simp only[binOp,Op.intBits,aoZ,aoB,anu,Sem.run_pure]
  have h1:((BitVec.ofInt IntKind.i64.bits a &&& BitVec.ofInt IntKind.i64.bits 63).toNat:Int)=a%64:=by
   show ((BitVec.ofInt 64 a &&& BitVec.ofInt 64 63).toNat:Int)=a%64
   rw[BitVec.toNat_and,aop,show (BitVec.ofInt 64 63).toNat=2^6-1 from rfl,Nat.and_two_pow_sub_one_eq_mod]
   have:(0:Int)≤a%((2^64:Nat):Int):=Int.emod_nonneg _ au
   omega
  rw[h1,Q0 (by unfold aL;omega)]) h
theorem Hg (r:bt):IntKind.u64.wrap (r.toNat:Int)=(r.toNat:Int):=by rw[zg,oa]
theorem Dc (s t:bt) (ox:bJ n x=true) (oy:bJ n y=true) (hx:ev f x=ag s) (hy:ev f y=ag t) (h:K (cx f d (ag (s &&& t))) w):SO P n ops ⟨some d,.binOp .and T x y T2,ty,ps,af,none⟩ f w K:=
 bin ox oy hx hy (by
  have e1:BitVec.ofInt IntKind.u64.bits (s.toNat:Int)=s:=oa s
  have e2:BitVec.ofInt IntKind.u64.bits (t.toNat:Int)=t:=oa t
  simp only[binOp,Op.intBits,aoZ,aoB,anu,Sem.run_pure,e1,e2];exact amz (fun z=>Result.ok (Value.int .u64 z) w) (Hg (s &&& t))) h
theorem RM (s t:bt) (ox:bJ n x=true) (oy:bJ n y=true) (hx:ev f x=ag s) (hy:ev f y=ag t) (h:K (cx f d (ag (s ||| t))) w):SO P n ops ⟨some d,.binOp .or T x y T2,ty,ps,af,none⟩ f w K:=
 bin ox oy hx hy (by
  have e1:BitVec.ofInt IntKind.u64.bits (s.toNat:Int)=s:=oa s
  have e2:BitVec.ofInt IntKind.u64.bits (t.toNat:Int)=t:=oa t
  simp only[binOp,Op.intBits,aoZ,aoB,anu,Sem.run_pure,e1,e2];exact amz (fun z=>Result.ok (Value.int .u64 z) w) (Hg (s ||| t))) h
theorem Z_ (s t:bt) (ox:bJ n x=true) (oy:bJ n y=true) (hx:ev f x=ag s) (hy:ev f y=ag t) (h:K (cx f d (ag (s &&& ~~~t))) w):SO P n ops ⟨some d,.binOp .andNot T x y T2,ty,ps,af,none⟩ f w K:=
 bin ox oy hx hy (by
  have e1:BitVec.ofInt IntKind.u64.bits (s.toNat:Int)=s:=oa s
  have e2:BitVec.ofInt IntKind.u64.bits (t.toNat:Int)=t:=oa t
  simp only[binOp,Op.intBits,aoZ,aoB,anu,Sem.run_pure,e1,e2];exact amz (fun z=>Result.ok (Value.int .u64 z) w) (Hg (s &&& ~~~t))) h
theorem Ia (s t:bt) (ox:bJ n x=true) (oy:bJ n y=true) (hx:ev f x=ag s) (hy:ev f y=ag t) (h:K (cx f d (ag (s+t))) w):SO P n ops ⟨some d,.binOp .add T x y T2,ty,ps,af,none⟩ f w K:=
 bin ox oy hx hy (by
  simp only[binOp,Op.intArith,aoZ,aoB,anu,Sem.run_pure]
  refine amz (fun z=>Result.ok (Value.int .u64 z) w) ?_
  rw[IntKind.wrap_u64,BitVec.toNat_add];omega) h
theorem aax (s t:bt) (ox:bJ n x=true) (oy:bJ n y=true) (hx:ev f x=ag s) (hy:ev f y=ag t) (h:K (cx f d (ag (s-t))) w):SO P n ops ⟨some d,.binOp .sub T x y T2,ty,ps,af,none⟩ f w K:=
 bin ox oy hx hy (by
  simp only[binOp,Op.intArith,aoZ,aoB,anu,Sem.run_pure]
  refine amz (fun z=>Result.ok (Value.int .u64 z) w) ?_
  have:=t.isLt
  rw[IntKind.wrap_u64,BitVec.toNat_sub];omega) h
theorem aa_ (s:bt) (ox:bJ n x=true) (hx:ev f x=ag s) (h:K (cx f d (ag (-s))) w):SO P n ops ⟨some d,.unOp .neg T x,ty,ps,af,none⟩ f w K:=
 SO.value (v:=ag (-s)) (by
  simp only[execOp,aM ox,hx,Op.unary,Op.intArith,aoZ,aoB,anu]
  have e:IntKind.u64.wrap (0-(s.toNat:Int))=((-s).toNat:Int):=by
   have:=s.isLt
   rw[IntKind.wrap_u64,BitVec.toNat_neg];omega
  rw[e];simp) h
theorem Fc (s t:bt) (ox:bJ n x=true) (oy:bJ n y=true) (hx:ev f x=ag s) (hy:ev f y=ag t) (h:K (cx f d (ag (s*t))) w):SO P n ops ⟨some d,.binOp .mul T x y T2,ty,ps,af,none⟩ f w K:=
 bin ox oy hx hy (by
  simp only[binOp,Op.intArith,aoZ,aoB,anu,Sem.run_pure]
  refine amz (fun z=>Result.ok (Value.int .u64 z) w) ?_
  rw[IntKind.wrap_u64,BitVec.toNat_mul];exact(Int.natCast_emod _ _).symm) h
theorem ahf (s t:bt) (ht:t≠0#64) (ox:bJ n x=true) (oy:bJ n y=true) (hx:ev f x=ag s) (hy:ev f y=ag t) (h:K (cx f d (ag (s/t))) w):SO P n ops ⟨some d,.binOp .quo T x y T2,ty,ps,af,none⟩ f w K:=
 bin ox oy hx hy (by
  have h0:t.toNat≠0:=fun h=>ht<|aoe h
  have h1:(t.toNat:Int)≠0:=by omega
  have hs:=s.isLt
  simp only[binOp,Op.intDiv,aoZ,aoB,anu,h1,Sem.run_pure]
  refine amz (fun z=>Result.ok (Value.int .u64 z) w) ?_
  rw[u64_quo _ _ aj,BitVec.toNat_udiv];rfl) h
theorem aaE (s:bt) (b:Int) (hb:0≤b) (ox:bJ n x=true) (oy:bJ n y=true) (hx:ev f x=ag s) (hy:ev f y=.int kk b) (h:K (cx f d (ag (s <<< b.toNat))) w):SO P n ops ⟨some d,.binOp .shl T x y T2,ty,ps,af,none⟩ f w K:=
 bin ox oy hx hy (by
  have h0:¬b<0:=by omega
  simp only[binOp,Op.shift,h0,anu,Sem.run_pure]
  refine amz (fun z=>Result.ok (Value.int .u64 z) w) ?_
  show IntKind.u64.wrap ((s.toNat:Int)*2^min b.toNat 64)=_
  rw[IntKind.wrap_u64,BitVec.toNat_shiftLeft,Nat.shiftLeft_eq]
  rcases apn b.toNat 64 with eZ|BJ
  ·rw[anF aj]
   simp
  ·rw[Nat.min_eq_right BJ]
   have e1:s.toNat*2^b.toNat%2^64=0:=by
    rw[show b.toNat=64+(b.toNat-64) from by omega,Nat.pow_add,←Nat.mul_assoc,ao4 (s.toNat) _,Nat.mul_assoc]
    exact Nat.mul_mod_right _ _
   rw[e1]
   show (s.toNat:Int)*18446744073709551616%18446744073709551616=0
   exact Int.mul_emod_left _ _) h
theorem aha (s:bt) (b:Int) (hb:0≤b) (ox:bJ n x=true) (oy:bJ n y=true) (hx:ev f x=ag s) (hy:ev f y=.int kk b) (h:K (cx f d (ag (s >>> b.toNat))) w):SO P n ops ⟨some d,.binOp .shr T x y T2,ty,ps,af,none⟩ f w K:=
 bin ox oy hx hy (by
  have h0:¬b<0:=by omega
  simp only[binOp,Op.shift,h0,anu,Sem.run_pure]
  refine amz (fun z=>Result.ok (Value.int .u64 z) w) ?_
  show (s.toNat:Int).fdiv (2^min b.toNat 64)=_
  rw[Int.fdiv_eq_ediv_of_nonneg _ (by have:(0:Int)<2^min b.toNat 64:=Int.pow_pos au;omega),aoD,aow]
  rcases apn b.toNat 64 with eZ|BJ
  ·rw[anF aj]
   simp
  ·rw[Nat.min_eq_right BJ]
   have hs:=s.isLt
   have e1:s.toNat/2^b.toNat=0:=aoP<|am8 hs<|Nat.pow_le_pow_right au BJ
   rw[e1]
   show (s.toNat:Int)/18446744073709551616=0
   omega) h
theorem Dw (s:bt) (k:Nat) (ox:bJ n x=true) (oy:bJ n y=true) (hx:ev f x=ag s) (hy:ev f y=.int kk ((k:Nat):Int)) (h:K (cx f d (ag (s >>> k))) w):SO P n ops ⟨some d,.binOp .shr T x y T2,ty,ps,af,none⟩ f w K:=
 aha s ((k:Nat):Int) aj ox oy hx hy (by rw[dM];exact h)
theorem eqU (s t:bt) (ox:bJ n x=true) (oy:bJ n y=true) (hx:ev f x=ag s) (hy:ev f y=ag t) (h:K (cx f d (.bool (decide (s=t)))) w):SO P n ops ⟨some d,.binOp .eql T x y T2,ty,ps,af,none⟩ f w K:=
 bin ox oy hx hy (by
  simp only[binOp,Op.intCmp,aoZ,aoB,anu,Sem.run_pure]
  refine amz (fun z=>Result.ok (Value.bool z) w) ?_
  by_cases e:s=t
  ·subst e;simp
  ·have:(s.toNat:Int)≠t.toNat:=fun h=>e<|aoe aj
   simp[e,this]) h
theorem neU (s t:bt) (ox:bJ n x=true) (oy:bJ n y=true) (hx:ev f x=ag s) (hy:ev f y=ag t) (h:K (cx f d (.bool (!decide (s=t)))) w):SO P n ops ⟨some d,.binOp .neq T x y T2,ty,ps,af,none⟩ f w K:=
 bin ox oy hx hy (by
  simp only[binOp,Op.intCmp,aoZ,aoB,anu,Sem.run_pure]
  refine amz (fun z=>Result.ok (Value.bool z) w) ?_
  by_cases e:s=t
  ·subst e;simp
  ·have:(s.toNat:Int)≠t.toNat:=fun h=>e<|aoe aj
   simp[e,this]) h
theorem XR (s t:bt) (ox:bJ n x=true) (oy:bJ n y=true) (hx:ev f x=ag s) (hy:ev f y=ag t) (h:K (cx f d (.bool (decide (t.toNat<s.toNat)))) w):SO P n ops ⟨some d,.binOp .gtr T x y T2,ty,ps,af,none⟩ f w K:=
 bin ox oy hx hy (by
  simp only[binOp,Op.intCmp,aoZ,aoB,anu,Sem.run_pure]
  refine amz (fun z=>Result.ok (Value.bool z) w) ?_
  simp) h
theorem cv {e:TypeDesc} {k2:IntKind} (ox:bJ n x=true) (hx:ev f x=.int kk a) (h1:P.underlying T=some e) (h2:P.underlying T2=some (.int k2)) (h:K (cx f d (.int k2 (k2.wrap a))) w):
  SO P n ops ⟨some d,.convert T T2 x,ty,ps,af,none⟩ f w K:=
 SO.value (v:=.int k2 (k2.wrap a)) (by simp[execOp,aM ox,hx,convert,underlying,h1,h2,Conv.intToInt]) h
theorem OP {e:TypeDesc} (ox:bJ n x=true) (hx:ev f x=.int kk a) (h1:P.underlying T=some e) (h2:P.underlying T2=some (.int .u64)) (h:K (cx f d (ag (BitVec.ofInt 64 a))) w):
  SO P n ops ⟨some d,.convert T T2 x,ty,ps,af,none⟩ f w K:=
 cv ox hx h1 h2 (by rw[zg];exact h)
theorem cvI {e:TypeDesc} (ox:bJ n x=true) (hx:ev f x=.int kk a) (hi:aL a) (h1:P.underlying T=some e) (h2:P.underlying T2=some (.int .i64)) (h:K (cx f d (.int .i64 a)) w):
  SO P n ops ⟨some d,.convert T T2 x,ty,ps,af,none⟩ f w K:=
 cv ox hx h1 h2 (by rw[Q0 hi];exact h)
theorem max2 (ox:bJ n x=true) (oy:bJ n y=true) (hx:ev f x=.int kk a) (hy:ev f y=.int kk b) {MC:Array TypeId} (h:K (cx f d (.int kk (max a b))) w):
  SO P n ops ⟨some d,.call {callee:=.builtin .max,args:=#[x,y],argTypes:=MC},ty,ps,af,none⟩ f w K:=
 SO.value (v:=.int kk (max a b)) (by
  have:(if b>a then b else a)=max a b:=by split<;>omega
  simp[execOp,resolve,invoke,builtin,Builtin.max_,Builtin.max2,aM ox,aM oy,hx,hy,this]) h
theorem xt {i:Nat} {vs:Array Value} (ox:bJ n x=true) (hx:ev f x=.tuple vs) (hi:vs[i]? =some v) (h:K (cx f d v) w):SO P n ops ⟨some d,.extract x i,ty,ps,af,none⟩ f w K:=
 SO.value (v:=v) (by simp[execOp,Instr.extract,aM ox,hx,hi]) h
def F' (n:Nat) (L:List Operand):Bool:=L.all (bJ n)
theorem yR {L:List Operand} (h:F' n L=true):L.map (cw n f).eval=L.map (ev f):=by
 apply anK
 intro x hx
 exact aM<|amK.1 h x hx
theorem mf {fn:Fn} {C:List Operand} (oc:F' n C=true) (h:K (cx f d (.func fn #[] (C.map (ev f)).toArray)) w):SO P n ops ⟨some d,.makeFunc fn #[] C.toArray,ty,ps,af,none⟩ f w K:=
 SO.value (v:=.func fn #[] (C.map (ev f)).toArray) (by simp[execOp,Instr.makeFunc,yR oc]) h
theorem xZ {g:FuncId} {fn:Func} {c:Code} {args:Array Value} (hf:P.funcs[g]? =some fn) (hb:fn.body=some c) (hn:(fn.name== "runtime.NumGoroutine")=false):
  (callFunc g args).run P w=.ok (.enter g args) w:=by
 simp only[beq_eq_false_iff_ne,aoZ] at hn
 simp[callFunc,hf,hb,hn]
def cH (P:Program) (g:FuncId):Prop:=∃fn c,P.funcs[g]? =some fn∧fn.body=some c∧(fn.name== "runtime.NumGoroutine")=false
theorem e0:([]:List Operand).map (ev f)=[]:=rfl
theorem ec {L:List Operand} {vs:List Value} (h:ev f x=v) (t:L.map (ev f)=vs):(x::L).map (ev f)=v::vs:=by
 rw[am_,h,t]
theorem ca {g:FuncId} {L:List Operand} {vs:List Value} {MC:Array TypeId} {R:Value→aG→Prop} (G:cH P g) (ol:F' n L=true) (hL:L.map (ev f)=vs)
  (hc:Calls P g vs.toArray w (cA R)) (h:∀v w',R v w'→K (cx f d v) w'):
  SO P n ops ⟨some d,.call {callee:=.value (.func g),args:=L.toArray,argTypes:=MC},ty,ps,af,none⟩ f w K:=by
 obtain⟨fn,c,hf,hb,hn⟩:=G
 subst hL
 exact SO.enter (g:=g) (args:=(L.map (ev f)).toArray) (w':=w) (by
  simp only[execOp,resolve,aoC,yR ol]
  show ((Deferred.ofValue (.func (.func g) #[] #[]) (L.map (ev f)).toArray >>=fun d=>invoke d.target d.args).run P w)=_
  simp[Deferred.ofValue,invoke,xZ hf hb hn]) (hc.mono fun e w' hr=>by
   obtain⟨v,rfl,hv⟩:=hr
   exact⟨v,rfl,h v w' hv⟩)
theorem cf {fx:Operand} {g:FuncId} {L:List Operand} {vs C:List Value} {MC:Array TypeId} {R:Value→aG→Prop} (G:cH P g)
  (ofx:bJ n fx=true) (ol:F' n L=true) (hfx:ev f fx=.func (.func g) #[] C.toArray) (hL:L.map (ev f)=vs)
  (hc:Calls P g (vs++C).toArray w (cA R)) (h:∀v w',R v w'→K (cx f d v) w'):
  SO P n ops ⟨some d,.call {callee:=.value fx,args:=L.toArray,argTypes:=MC},ty,ps,af,none⟩ f w K:=by
 obtain⟨fn,c,hf,hb,hn⟩:=G
 subst hL
 exact SO.enter (g:=g) (args:=(L.map (ev f)++C).toArray) (w':=w) (by
  simp only[execOp,resolve,aoC,yR ol,aM ofx,hfx]
  simp[Deferred.ofValue,invoke,xZ hf hb hn]) (hc.mono fun e w' hr=>by
   obtain⟨v,rfl,hv⟩:=hr
   exact⟨v,rfl,h v w' hv⟩)
end
end Go.Ew
namespace Go.Ew
open Go.RowKit
variable {M:cb} {w:aG} {v:Value}
def Up (M:cb) (w:aG) (M':cb) (w':aG):Prop:=
 w.heap.size≤w'.heap.size∧∀b,b<w.heap.size→¬M b→w'.heap[b]? =w.heap[b]?∧¬M' b
theorem Up.refl (M:cb) (w:aG):Up M w M w:=⟨amD _,fun _ _ h=>⟨rfl,h⟩⟩
theorem Up.trans {M M' M'':cb} {w w' mB:aG} (h:Up M w M' w') (k:Up M' w' M'' mB):Up M w M'' mB:=
 ⟨amP h.1 k.1,fun b hb hM=>by
  have h1:=h.2 b hb hM
  have h2:=k.2 b (am8 hb h.1) h1.2
  exact⟨h2.1.trans h1.1,h2.2⟩⟩
theorem Up.ext {w':aG} (h:Ext w w'):Up M w M w':=⟨h.size,fun b hb hM=>⟨h.block b hb,hM⟩⟩
theorem Up.less {M':cb} (h:∀b,b<w.heap.size→M' b→M b):Up M w M' w:=⟨amD _,fun b hb hM=>⟨rfl,fun h'=>hM (h b hb h')⟩⟩
theorem pQ {ad:Addr} (h:w.cell? ad=some v):ad.block<w.heap.size:=World.block_lt_of_cell? w ad h
theorem Up.cell {M M':cb} {w w':aG} (h:Up M w M' w') {ad:Addr} {v:Value} (hM:¬M ad.block) (hc:w.cell? ad=some v):w'.cell? ad=some v:=
 (World.cell?_of_block (h.2 _ (pQ hc) hM).1).trans hc
theorem vD (a:Addr) (j:Nat):(a.add j).block=a.block:=by unfold Addr.add;split<;>rfl
theorem add_add (a:Addr) (i j:Nat):(a.add i).add j=a.add (i+j):=by
 unfold Addr.add
 by_cases hi:i=0
 ·subst hi;simp
 ·by_cases hj:j=0
  ·subst hj;simp
  ·simp[hi,hj,apf]
class GT (α:Type) where
 size:Nat
 agg:Bool
 rep:(cb)→aG→List Value→α→Prop
 len:∀{M w cs x},rep M w cs x→cs.length=size
 one:∀{M w cs x},rep M w cs x→∀c∈cs,c.oneCell'=true
 single:agg=false→size=1
 pos:0<size
 lift:∀{M w M' w' cs x},rep M w cs x→Up M w M' w'→rep M' w' cs x
def sG (agg:Bool) (cs:List Value):Value:=bif agg then .agg cs.toArray else cs.headD undef
theorem Tu {agg:Bool} {cs:List Value} (h:agg=false→cs.length=1) (h1:∀c∈cs,c.oneCell'=true):(sG agg cs).cells=cs.toArray:=by
 cases agg with
 |true=>rfl
 |false=>
  match cs,h rfl with
  |[c],_=>
   have:=h1 c<|by simp
   cases c<;>first|rfl|cases this
def RV {α:Type} [GT α] (M:cb) (w:aG) (v:Value) (x:α):Prop:=∃cs,GT.rep M w cs x∧v=sG (GT.agg α) cs
def At {α:Type} [GT α] (M:cb) (w:aG) (ad:Addr) (x:α):Prop:=∃cs,GT.rep M w cs x∧¬M ad.block∧∀j v,cs[j]? =some v→w.cell? (ad.add j)=some v
theorem RV.lift {α:Type} [GT α] {M M':cb} {w w':aG} {v:Value} {x:α} (h:RV M w v x) (u:Up M w M' w'):RV M' w' v x:=
 let ⟨cs,h1,h2⟩:=h;⟨cs,GT.lift h1 u,h2⟩
theorem At.lift {α:Type} [GT α] {M M':cb} {w w':aG} {ad:Addr} {x:α} (h:At M w ad x) (u:Up M w M' w'):At M' w' ad x:=by
 obtain⟨cs,h1,h2,h3⟩:=h
 have gD:0<cs.length:=by rw[GT.len h1];exact GT.pos
 have eZ:ad.block<w.heap.size:=by
  have:=h3 0 cs[0]<|eR gD
  have:=pQ this
  rwa [vD] at this
 exact⟨cs,GT.lift h1 u,(u.2 _ eZ h2).2,fun j v hv=>u.cell (by rw[vD];exact h2) (h3 j v hv)⟩
instance al2:GT Int where
 size:=1
 agg:=false
 rep _ _ cs x:=cs=[.int .i64 x]∧aL x
 len h:=by rw[h.1];rfl
 one h:=by rw[h.1];simp[Value.oneCell']
 single _:=rfl
 pos:=by decide
 lift h _:=h
instance gBV:GT bt where
 size:=1
 agg:=false
 rep _ _ cs x:=cs=[ag x]
 len h:=by rw[h];rfl
 one h:=by rw[h];simp[Value.oneCell']
 single _:=rfl
 pos:=by decide
 lift h _:=h
abbrev U8 (x:BitVec 8):Value:=.int .u8 (x.toNat:Int)
instance gB8:GT (BitVec 8) where
 size:=1
 agg:=false
 rep _ _ cs x:=cs=[U8 x]
 len h:=by rw[h];rfl
 one h:=by rw[h];simp[Value.oneCell']
 single _:=rfl
 pos:=by decide
 lift h _:=h
instance alk:GT Bool where
 size:=1
 agg:=false
 rep _ _ cs x:=cs=[.bool x]
 len h:=by rw[h];rfl
 one h:=by rw[h];simp[Value.oneCell']
 single _:=rfl
 pos:=by decide
 lift h _:=h
instance al1:GT bA where
 size:=1
 agg:=false
 rep _ _ cs x:=cs=[.string x]∧x.size≤maxLen
 len h:=by rw[h.1];rfl
 one h:=by rw[h.1];simp[Value.oneCell']
 single _:=rfl
 pos:=by decide
 lift h _:=h
instance ali {α β:Type} [GT α] [GT β]:GT (α×β) where
 size:=GT.size α+GT.size β
 agg:=true
 rep M w cs x:=∃c1 c2,cs=c1++c2∧GT.rep M w c1 x.1∧GT.rep M w c2 x.2
 len:=by
  rintro M w cs x ⟨c1,c2,rfl,h1,h2⟩
  rw[fN,GT.len h1,GT.len h2]
 one:=by
  rintro M w cs x ⟨c1,c2,rfl,h1,h2⟩ c hc
  rcases am1.1 hc with h|h
  ·exact GT.one h1 c h
  ·exact GT.one h2 c h
 single h:=by cases h
 pos:=by have:=GT.pos (α:=α);omega
 lift:=by
  rintro M w M' w' cs x ⟨c1,c2,rfl,h1,h2⟩ u
  exact⟨c1,c2,J,GT.lift h1 u,GT.lift h2 u⟩
def TZ {α:Type} [GT α] (M:cb) (w:aG) (ad:Addr) (xs:List α):Prop:=
 ∀i x,xs[i]? =some x→At M w (ad.add (i*GT.size α)) x
def RS {α:Type} [GT α] (M:cb) (w:aG) (v:Value) (xs:List α):Prop:=
 ∃a n c,v=.slice a n c∧xs.length=n∧n≤c∧c≤maxLen∧(n=0∨∃ad,a=some ad∧TZ M w ad xs)
theorem RS.lift {α:Type} [GT α] {M M':cb} {w w':aG} {v:Value} {xs:List α} (h:RS M w v xs) (u:Up M w M' w'):RS M' w' v xs:=by
 obtain⟨a,n,c,h1,h2,h3,h4,h5⟩:=h
 refine⟨a,n,c,h1,h2,h3,h4,?_⟩
 rcases h5 with h5|⟨ad,h5,h6⟩
 ·exact .inl h5
 ·exact .inr ⟨ad,h5,fun i x hx=>(h6 i x hx).lift u⟩
instance alj {α:Type} [GT α]:GT (List α) where
 size:=1
 agg:=false
 rep M w cs xs:=∃v,cs=[v]∧RS M w v xs
 len:=by rintro M w cs x ⟨v,rfl,_⟩;rfl
 one:=by
  rintro M w cs x ⟨v,rfl,a,n,c,rfl,_⟩ c hc
  simp at hc;subst hc;rfl
 single _:=rfl
 pos:=by decide
 lift:=by
  rintro M w M' w' cs x ⟨v,rfl,h⟩ u
  exact⟨v,J,h.lift u⟩
theorem RV.int {M:cb} {w:aG} {v:Value} {x:Int}:RV M w v x↔v=.int .i64 x∧aL x:=by
 constructor
 ·rintro⟨cs,⟨rfl,h⟩,rfl⟩;exact⟨rfl,h⟩
 ·rintro⟨rfl,h⟩;exact⟨_,⟨rfl,h⟩,rfl⟩
theorem RV.bv {x:bt}:RV M w v x↔v=ag x:=by
 constructor
 ·rintro⟨cs,rfl,rfl⟩;rfl
 ·rintro rfl;exact⟨_,rfl,rfl⟩
theorem RV.b8 {x:BitVec 8}:RV M w v x↔v=U8 x:=by
 constructor
 ·rintro⟨cs,rfl,rfl⟩;rfl
 ·rintro rfl;exact⟨_,rfl,rfl⟩
theorem RV.bool {M:cb} {w:aG} {v:Value} {x:Bool}:RV M w v x↔v=.bool x:=by
 constructor
 ·rintro⟨cs,rfl,rfl⟩;rfl
 ·rintro rfl;exact⟨_,rfl,rfl⟩
theorem RV.str {x:bA}:RV M w v x↔v=.string x∧x.size≤maxLen:=by
 constructor
 ·rintro⟨cs,⟨rfl,h⟩,rfl⟩;exact⟨rfl,h⟩
 ·rintro⟨rfl,h⟩;exact⟨_,⟨rfl,h⟩,rfl⟩
theorem RV.list {α:Type} [GT α] {M:cb} {w:aG} {v:Value} {xs:List α}:RV M w v xs↔RS M w v xs:=by
 constructor
 ·rintro⟨cs,⟨u,rfl,h⟩,rfl⟩;exact h
 ·intro h;exact⟨[v],⟨v,rfl,h⟩,rfl⟩
structure Item where
 jG:Option Nat
 holds:(cb)→aG→Prop
 lift:∀{M M' w w'},holds M w→Up M w M' w'→(∀b,jG=some b→w'.heap[b]? =w.heap[b]?)→holds M' w'
def tv {α:Type} [GT α] (v:Value) (x:α):Item:=⟨none,fun M w=>RV M w v x,fun h u _=>h.lift u⟩
def ra {α:Type} [GT α] (ad:Addr) (x:α):Item:=⟨none,fun M w=>At M w ad x,fun h u _=>h.lift u⟩
def box (b:Nat) (cs:Array Value) (t:TypeId):Item:=⟨some b,fun M w=>w.heap[b]? =some (.cells cs t (0,0)),fun h u hb=>(hb b rfl).trans h⟩
def bB {α:Type} [GT α] (M:cb) (w:aG):List Value→List α→Prop
 |cs,[]=>cs=[]
 |cs,x::xs=>∃c1 c2,cs=c1++c2∧GT.rep M w c1 x∧bB M w c2 xs
theorem bB.lift {α:Type} [GT α] {M M':cb} {w w':aG} (u:Up M w M' w'):∀{xs:List α} {cs:List Value},bB M w cs xs→bB M' w' cs xs
 |[],_,h=>h
 |x::xs,cs,⟨c1,c2,h1,h2,h3⟩=>⟨c1,c2,h1,GT.lift h2 u,bB.lift u h3⟩
theorem bB.length {α:Type} [GT α] {M:cb} {w:aG}:∀{xs:List α} {cs:List Value},bB M w cs xs→cs.length=xs.length*GT.size α
 |[],_,h=>by rw[show _=[] from h];simp
 |x::xs,cs,⟨c1,c2,h1,h2,h3⟩=>by rw[h1,fN,GT.len h2,bB.length h3,iB,ant];omega
theorem bB.append {α:Type} [GT α] {M:cb} {w:aG}:∀{xs ys:List α} {cs ds:List Value},bB M w cs xs→bB M w ds ys→bB M w (cs++ds) (xs++ys)
 |[],ys,cs,ds,h,k=>by rw[show cs=[] from h];exact k
 |x::xs,ys,cs,ds,⟨c1,c2,h1,h2,h3⟩,k=>⟨c1,c2++ds,by rw[h1,anb],h2,bB.append h3 k⟩
theorem bB.AY {α:Type} [GT α] {M:cb} {w:aG}:∀{xs:List α} {cs:List Value},bB M w cs xs→∀c∈cs,c.oneCell'=true
 |[],_,h,c,hc=>by rw[show _=[] from h] at hc;cases hc
 |x::xs,cs,⟨c1,c2,h1,h2,h3⟩,c,hc=>by
  rw[h1] at hc
  rcases am1.1 hc with h|h
  ·exact GT.one h2 c h
  ·exact bB.AY h3 c h
theorem bB.at_ {α:Type} [GT α] {M:cb} {w:aG}:∀{xs:List α} {cs:List Value},bB M w cs xs→∀i x,xs[i]? =some x→∃c,GT.rep M w c x∧∀j v,c[j]? =some v→cs[i*GT.size α+j]? =some v
 |[],_,_,i,x,hx=>by simp at hx
 |y::xs,cs,⟨c1,c2,h1,h2,h3⟩,i,x,hx=>by
  cases i with
  |zero=>
   simp at hx;subst hx
   refine⟨c1,h2,fun j v hv=>?_⟩
   have hj:j<c1.length:=(dU.1 hv).1
   rw[h1,ao3,ann,oY hj];exact hv
  |succ i=>
   simp at hx
   obtain⟨c,yN,Al⟩:=bB.at_ h3 i x hx
   refine⟨c,yN,fun j v hv=>?_⟩
   have hl:=GT.len h2
   rw[h1,oB (by rw[hl,ant];omega),hl]
   have:=Al j v hv
   rw[show (i+1)*GT.size α+j-GT.size α=i*GT.size α+j from by rw[ant];omega]
   exact this
def own {α:Type} [GT α] (B:Nat) (e:TypeId) (v:Value) (xs:List α):Item:=
 ⟨v.ownBlock,fun M w=>∃cs,w.ownsRow B e (GT.size α) v xs.length cs∧bB M w cs xs,fun {M M' w w'} h u hb=>by
  obtain⟨cs,h1,h2⟩:=h
  refine⟨cs,⟨h1.1,?_⟩,bB.lift u h2⟩
  rcases h1.2 with h3|⟨g,cap,cur,rfl,h4,h5,h6⟩
  ·exact .inl h3
  ·exact .inr ⟨g,cap,cur,rfl,h4,(hb g rfl).trans h5,h6⟩⟩
def MS (M0:cb) (l:List Item) (b:Nat):Prop:=M0 b∨∃it∈l,it.jG=some b
structure HI (M0:cb) (w0 w:aG) (l:List Item):Prop where
 below:Ext w0 w
 m0:∀b,M0 b→b<w0.heap.size
 jq:∀it∈l,∀b,it.jG=some b→w0.heap.size≤b∧b<w.heap.size
 nodup:(l.filterMap (·.jG)).Nodup
 all:∀it∈l,it.holds (MS M0 l) w
abbrev HI.gh {M0:Nat→Prop} {w0 w:aG} {l:List Item} (_:HI M0 w0 w l):Nat→Prop:=MS M0 l
section
variable {M0:cb} {w0 w w':aG} {l:List Item} {it ns:Item}
theorem HI.at_ (h:HI M0 w0 w l) (i:Nat) (hi:l[i]? =some it):it.holds (MS M0 l) w:=h.all it (dN hi)
theorem HI.mb (h:HI M0 w0 w l):∀b,MS M0 l b→b<w.heap.size:=by
 rintro b (hb|⟨it,hit,hb⟩)
 ·exact am8 (h.m0 b hb) h.below.size
 ·exact(h.jq it hit b hb).2
theorem HI.start (hM:∀b,M0 b→b<w.heap.size):HI M0 w w []:=
 ⟨Ext.refl w,hM,fun _ h=>(by cases h),apw,fun _ h=>(by cases h)⟩
theorem HI.ext (h:HI M0 w0 w l) (x:Ext w w'):HI M0 w0 w' l:=
 ⟨h.below.trans x,h.m0,fun it hit b hb=>⟨(h.jq it hit b hb).1,am8 (h.jq it hit b hb).2 x.size⟩,h.nodup,
  fun it hit=>it.lift (h.all it hit) (Up.ext x) fun b hb=>x.block b (h.jq it hit b hb).2⟩
theorem aH (hn:it.jG=none):MS M0 (it::l)=MS M0 l:=by
 funext b
 simp only[MS,amV,eq_iff_iff]
 constructor
 ·rintro(h|⟨i,rfl|hi,hb⟩)
  ·exact .inl h
  ·rw[hn] at hb;cases hb
  ·exact .inr ⟨i,hi,hb⟩
 ·rintro(h|⟨i,hi,hb⟩)
  ·exact .inl h
  ·exact .inr ⟨i,.inr hi,hb⟩
theorem HI.put (h:HI M0 w0 w l) (hn:it.jG=none) (hh:it.holds (MS M0 l) w):HI M0 w0 w (it::l):=by
 refine⟨h.below,h.m0,?_,by simpa [anq,hn] using h.nodup,?_⟩
 ·intro i hi b hb
  rcases amV.1 hi with rfl|hi
  ·rw[hn] at hb;cases hb
  ·exact h.jq i hi b hb
 ·rw[aH hn]
  intro i hi
  rcases amV.1 hi with rfl|hi
  ·exact hh
  ·exact h.all i hi
theorem HI.new (h:HI M0 w0 w l) (x:Ext w w') (b:Nat) (hn:it.jG=some b) (hb:w.heap.size≤b) (vk:b<w'.heap.size) (hh:it.holds (MS M0 (it::l)) w'):HI M0 w0 w' (it::l):=by
 refine⟨h.below.trans x,h.m0,?_,?_,?_⟩
 ·intro i hi c hc
  rcases amV.1 hi with rfl|hi
  ·rw[hn] at hc;cases hc;exact⟨amP h.below.size hb,vk⟩
  ·exact⟨(h.jq i hi c hc).1,am8 (h.jq i hi c hc).2 x.size⟩
 ·rw[anq,hn]
  refine anG.2 ⟨?_,h.nodup⟩
  intro hm
  obtain⟨i,hi,BI⟩:=am4.1 hm
  have:=(h.jq i hi b BI).2
  omega
 ·intro i hi
  rcases amV.1 hi with rfl|hi
  ·exact hh
  ·refine i.lift (h.all i hi) ⟨x.size,fun c hc hM=>⟨x.block c hc,?_⟩⟩ fun c hc=>x.block c (h.jq i hi c hc).2
   rintro(LV|⟨j,hj,xJ⟩)
   ·exact hM<|.inl LV
   ·rcases amV.1 hj with rfl|hj
    ·rw[hn] at xJ;cases xJ;omega
    ·exact hM<|.inr ⟨j,hj,xJ⟩
theorem HI.vL (h:HI M0 w0 w l) (i:Nat) (hi:l[i]? =some it) (hos:w'.os=w.os) (hta:w'.tape=w.tape) (hou:w'.output=w.output) (hs:w.heap.size≤w'.heap.size) (hdr:w.drawn≤w'.drawn)
  (hk:∀c,c<w.heap.size→it.jG≠some c→w'.heap[c]? =w.heap[c]?)
  (hb:∀b,ns.jG=some b→b<w'.heap.size∧(it.jG=some b∨w.heap.size≤b))
  (hh:ns.holds (MS M0 (l.set i ns)) w'):HI M0 w0 w' (l.set i ns):=by
 have jK:i<l.length:=(dU.1 hi).1
 have hit:it∈l:=dN hi
 have Bb:∀j,j∈l.set i ns→j=ns∨∃m,m≠i∧l[m]? =some j:=by
  intro j hj
  obtain⟨m,hm,rfl⟩:=aox.1 hj
  rw[api]
  split
  ·exact .inl rfl
  ·rename_i gD
   exact .inr ⟨m,fun e=>gD e.symm,eR (by simpa using hm)⟩
 
 have LR:∀m j b,m≠i→l[m]? =some j→j.jG=some b→it.jG≠some b:=by
  intro m j b hm hj wo BI
  exact hm<|ic (·.jG) l h.nodup m i j it hj hi (by rw[wo];rfl)<|by rw[wo,BI]
 refine⟨⟨⟨hos.trans h.below.os,hta.trans h.below.tape,hou.trans h.below.output,amP h.below.size hs,fun c hc=>?_⟩,amP h.below.drawn hdr⟩,h.m0,?_,?_,?_⟩
 ·rw[hk c (am8 hc h.below.size) (fun e=>by have:=(h.jq it hit c e).1;omega)]
  exact h.below.block c hc
 ·intro j hj b wo
  rcases Bb j hj with rfl|⟨m,hm,Aj⟩
  ·obtain⟨h1,h2⟩:=hb b wo
   refine⟨?_,h1⟩
   rcases h2 with h2|h2
   ·exact(h.jq it hit b h2).1
   ·exact amP h.below.size h2
  ·have:=h.jq j (dN Aj) b wo
   exact⟨this.1,am8 this.2 hs⟩
 ·
  have abH:l=l.take i++it::l.drop (i+1):=by
   have h1:=anZ i l
   rw[ans jK] at h1
   have h2:l[i]=it:=by
    have:=eR jK
    rw[hi] at this
    exact(amE this).symm
   rw[h2] at h1
   exact h1.symm
  have ahv:l.set i ns=l.take i++ns::l.drop (i+1):=by
   rw[List.set_eq_take_append_cons_drop,amF jK]
  have lL:=h.nodup
  rw[abH] at lL
  rw[ahv]
  simp only[aoN,anq] at lL ⊢
  have LB:((l.take i).filterMap (·.jG)++(l.drop (i+1)).filterMap (·.jG)).Nodup:=by
   refine ao6 ?_ lL
   refine List.Sublist.append (List.Sublist.refl _) ?_
   cases it.jG with
   |none=>exact List.Sublist.refl _
   |some b=>exact List.sublist_cons_self _ _
  cases BN:ns.jG with
  |none=>simpa [BN] using LB
  |some b=>
   simp only[]
   have ab2:∀j,(j∈l.take i∨j∈l.drop (i+1))→j.jG≠some b:=by
    intro j hj wo
    have Aj:∃m,m≠i∧l[m]? =some j:=by
     rcases hj with hj|hj
     ·obtain⟨m,hm,rfl⟩:=aox.1 hj
      simp only[iu] at hm
      exact⟨m,by omega,by rw[List.getElem_take];exact eR aj⟩
     ·obtain⟨m,hm,rfl⟩:=aox.1 hj
      simp only[amZ] at hm
      exact⟨i+1+m,by omega,by rw[List.getElem_drop];exact eR aj⟩
    obtain⟨m,hm,Aj⟩:=Aj
    rcases (hb b BN).2 with h2|h2
    ·exact LR m j b hm Aj wo h2
    ·have:=(h.jq j (dN Aj) b wo).2
     omega
   have:((l.take i).filterMap (·.jG)++b::(l.drop (i+1)).filterMap (·.jG)).Nodup:=by
    rw[aok] at LB ⊢
    refine⟨LB.1,anG.2 ⟨?_,LB.2.1⟩,?_⟩
    ·intro hm
     obtain⟨j,hj,wo⟩:=am4.1 hm
     exact ab2 j (.inr hj) wo
    ·intro c hc c' LV he
     subst he
     rcases amV.1 LV with rfl|LV
     ·obtain⟨j,hj,wo⟩:=am4.1 hc
      exact ab2 j (.inl hj) wo
     ·exact LB.2.2 c hc c LV J
   exact this
 ·intro j hj
  rcases Bb j hj with rfl|⟨m,hm,Aj⟩
  ·exact hh
  ·have wm:=dN Aj
   refine j.lift (h.all j wm) ⟨hs,fun c hc hM=>?_⟩ fun c hc=>hk c (h.jq j wm c hc).2 (LR m j c hm Aj hc)
   refine⟨hk c hc fun e=>hM (.inr ⟨it,hit,e⟩),?_⟩
   rintro(h1|⟨q,hq,hqc⟩)
   ·exact hM<|.inl h1
   ·rcases Bb q hq with rfl|⟨m',hm',iX⟩
    ·rcases (hb c hqc).2 with h2|h2
     ·exact hM<|.inr ⟨it,hit,h2⟩
     ·omega
    ·exact hM<|.inr ⟨q,dN iX,hqc⟩
theorem HI.pick (h:HI M0 w0 w l) (l':List Item) (hs:∀it∈l',it∈l) (hn:(l'.filterMap (·.jG)).Nodup):HI M0 w0 w l':=
 ⟨h.below,h.m0,fun it hit=>h.jq it (hs it hit),hn,fun it hit=>it.lift (h.all it (hs it hit)) (Up.less fun b _ hb=>by
  rcases hb with hb|⟨j,hj,wo⟩
  ·exact .inl hb
  ·exact .inr ⟨j,hs j hj,wo⟩) fun _ _=>rfl⟩
theorem HI.drop (h:HI M0 w0 w l) (i:Nat):HI M0 w0 w (l.eraseIdx i):=
 h.pick _ (fun it hit=>List.mem_of_mem_eraseIdx hit) (h.nodup.sublist ((List.eraseIdx_sublist l i).filterMap _))
theorem HI.tail (h:HI M0 w0 w (it::l)):HI M0 w0 w l:=h.drop 0
theorem HI.out (h:HI M0 w0 w l):Up (MS M0 l) w M0 w:=Up.less fun b _ hb=>.inl hb
end
def Yo {α:Type} [GT α] (M:cb) (w0:aG) (x:α) (v:Value) (w:aG):Prop:=Ext w0 w∧RV M w v x
def adX {α:Type} [GT α] (w0:aG) (x:α) (v:Value) (w:aG):Prop:=Ext w0 w∧RV (fun b=>b<w0.heap.size) w v x
def adW {α:Type} [GT α] (e:TypeId) (w0:aG) (xs:List α) (v:Value) (w:aG):Prop:=
 Ext w0 w∧(∀b,v.ownBlock=some b→b<w.heap.size)∧(own w0.heap.size e v xs).holds (fun b=>b<w0.heap.size∨v.ownBlock=some b) w
theorem bE (b:Bool):b=true∨b=false:=Bool.eq_false_or_eq_true b
theorem dT {p:Prop} [Decidable p] (h:decide p=true):p:=am' h
theorem dF {p:Prop} [Decidable p] (h:decide p=false):¬p:=amG h
abbrev OA:=Option Addr
abbrev sL {α:Type} (a:Option Addr) (xs:List α) (c:Nat):Value:=.slice a xs.length c
abbrev iL {α:Type} [GT α] (a:Option Addr) (xs:List α) (c:Nat):Item:=tv (.slice a xs.length c) xs
abbrev oL {α:Type} [GT α] (w:aG) (e:TypeId) (a:Option Addr) (xs:List α) (c:Nat):Item:=own w.heap.size e (.slice a xs.length c) xs
end Go.Ew
namespace Go.Ew
open Go.RowKit Go.IntWalk
variable {ao:Option Addr} {m cc:Nat}
def adG (P:Program) (t:TypeId):Option Bool:=(P.underlying t).map fun| .struct _| .array _ _=>true|_=>false
structure ey (P:Program) (t:TypeId) (k:Nat) (agg:Bool) (bytes:Nat) (z:Value):Prop where
 i:(P.info? t).map (fun i=>(i.zero,i.size,i.bytes))=some (some z,k,bytes)
 a:adG P t=some agg
section
variable {P:Program} {t e:TypeId} {k bytes:Nat} {agg:Bool} {z:Value} {w:aG}
theorem ey.info (F:ey P t k agg bytes z):∃i,P.info? t=some i∧i.zero=some z∧i.size=k∧i.bytes=bytes:=info_parts F.i
theorem ey.Is (F:ey P t k agg bytes z) (w:aG):(isAgg t).run P w=.ok agg w:=by
 have h:=F.a
 unfold adG at h
 cases hu:P.underlying t with
 |none=>rw[hu] at h;cases h
 |some d=>
  rw[hu] at h
  simp only[anX,amO] at h
  subst h
  cases d<;>simp[isAgg,underlying,hu]
theorem ey.jm (F:ey P t k agg bytes z) (w:aG):(sizeOf t).run P w=.ok k w:=by
 obtain⟨i,h1,_,h2,_⟩:=F.info
 simp[sizeOf,typeInfo,h1,h2]
theorem ey.uk (F:ey P t k agg bytes z) (w:aG):(zeroValue t).run P w=.ok z w:=by
 obtain⟨i,h1,h2,_⟩:=F.info
 simp[zeroValue,typeInfo,h1,h2]
theorem gK {d:TypeDesc} (h:P.underlying t=some d) (w:aG):(underlying t).run P w=.ok d w:=by simp[underlying,h]
theorem rJ (F:ey P t k agg bytes z) (hk:agg=false→k=1) {ad:Addr} {cs:List Value} (hl:cs.length=k) (hc:∀j v,cs[j]? =some v→w.cell? (ad.add j)=some v):
  (loadVar t ad).run P w=.ok (sG agg cs) w:=by
 cases agg with
 |true=>
  subst hl
  simp[loadVar,F.Is,F.jm,run_loadCells_list w ad cs hc,sG]
 |false=>
  match cs,hl,hc with
  |[c],_,hc=>
   have h0:w.cell? ad=some c:=by
    have:=hc 0 c J
    rwa [show ad.add 0=ad from by simp[Addr.add]] at this
   simp[loadVar,F.Is,h0,sG]
  |[],hl,_=>simp at hl;have:=hk rfl;omega
  |_::_::_,hl,_=>simp at hl;have:=hk rfl;omega
end
def hQ {α:Type} [GT α] (M:cb) (w:aG) (ad:Addr) (x:α):Prop:=∃cs,GT.rep M w cs x∧∀j v,cs[j]? =some v→w.cell? (ad.add j)=some v
theorem At.w {α:Type} [GT α] {M:cb} {w:aG} {ad:Addr} {x:α} (h:At M w ad x):hQ M w ad x:=let ⟨cs,h1,_,h3⟩:=h;⟨cs,h1,h3⟩
theorem At.fst {α β:Type} [GT α] [GT β] {M:cb} {w:aG} {ad:Addr} {x:α×β} (h:At M w ad x):At M w ad x.1:=by
 obtain⟨_,⟨c1,c2,rfl,h1,h2⟩,hM,hc⟩:=h
 exact⟨c1,h1,hM,fun j v hv=>hc j v (by rw[oY (dU.1 hv).1];exact hv)⟩
theorem At.snd {α β:Type} [GT α] [GT β] {M:cb} {w:aG} {ad:Addr} {x:α×β} (h:At M w ad x):At M w (ad.add (GT.size α)) x.2:=by
 obtain⟨_,⟨c1,c2,rfl,h1,h2⟩,hM,hc⟩:=h
 refine⟨c2,h2,by rw[vD];exact hM,fun j v hv=>?_⟩
 rw[add_add]
 refine hc _ v ?_
 rw[oB (by rw[GT.len h1];omega),GT.len h1]
 rw[show GT.size α+j-GT.size α=j from by omega]
 exact hv
theorem hQ.fst {α β:Type} [GT α] [GT β] {M:cb} {w:aG} {ad:Addr} {x:α×β} (h:hQ M w ad x):hQ M w ad x.1:=by
 obtain⟨_,⟨c1,c2,rfl,h1,h2⟩,hc⟩:=h
 exact⟨c1,h1,fun j v hv=>hc j v (by rw[oY (dU.1 hv).1];exact hv)⟩
theorem hQ.snd {α β:Type} [GT α] [GT β] {M:cb} {w:aG} {ad:Addr} {x:α×β} (h:hQ M w ad x):hQ M w (ad.add (GT.size α)) x.2:=by
 obtain⟨_,⟨c1,c2,rfl,h1,h2⟩,hc⟩:=h
 refine⟨c2,h2,fun j v hv=>?_⟩
 rw[add_add]
 refine hc _ v ?_
 rw[oB (by rw[GT.len h1];omega),GT.len h1]
 rw[show GT.size α+j-GT.size α=j from by omega]
 exact hv
section
variable {P:Program} {n:Nat} {ops:Array Oper} {f:aP} {w:aG} {K:aP→aG→Prop} {x y c:Operand} {d:Nat} {ty T T2 e:TypeId} {ps:String} {af:Array Edge} {v v2:Value} {a b:Int} {M M0:cb} {w0:aG} {l:List Item} {kk:IntKind} {bytes:Nat} {z:Value} {ad:Addr} {size:Nat} {agg:Bool}
theorem nr {α:Type} [GT α] {xv:α} (hA:hQ M w ad xv) (F:ey P T (GT.size α) (GT.agg α) bytes z) (ox:bJ n x=true) (hx:ev f x=.pointer (some ad))
  (h:∀v,RV M w v xv→K (cx f d v) w):SO P n ops ⟨some d,.load T x,ty,ps,af,none⟩ f w K:=by
 obtain⟨cs,h1,h2⟩:=hA
 exact SO.value (v:=sG (GT.agg α) cs) (by
  simp[execOp,aM ox,hx,Instr.loadAt,Instr.sureAddr,rJ F GT.single (GT.len h1) h2]) (h _ ⟨cs,h1,rfl⟩)
theorem mV {i:Int} (hA:hQ M w ad i) (F:ey P T 1 false bytes z) (ox:bJ n x=true) (hx:ev f x=.pointer (some ad)) (h:aL i→K (cx f d (.int .i64 i)) w):
  SO P n ops ⟨some d,.load T x,ty,ps,af,none⟩ f w K:=nr hA F ox hx fun v hv=>by obtain⟨rfl,hi⟩:=RV.int.1 hv;exact h hi
theorem yF {u:bt} (hA:hQ M w ad u) (F:ey P T 1 false bytes z) (ox:bJ n x=true) (hx:ev f x=.pointer (some ad)) (h:K (cx f d (ag u)) w):
  SO P n ops ⟨some d,.load T x,ty,ps,af,none⟩ f w K:=nr hA F ox hx fun v hv=>by rw[RV.bv.1 hv];exact h
theorem ld8 {u:BitVec 8} (hA:hQ M w ad u) (F:ey P T 1 false bytes z) (ox:bJ n x=true) (hx:ev f x=.pointer (some ad)) (h:K (cx f d (U8 u)) w):
  SO P n ops ⟨some d,.load T x,ty,ps,af,none⟩ f w K:=nr hA F ox hx fun v hv=>by rw[RV.b8.1 hv];exact h
theorem ldB {u:Bool} (hA:hQ M w ad u) (F:ey P T 1 false bytes z) (ox:bJ n x=true) (hx:ev f x=.pointer (some ad)) (h:K (cx f d (.bool u)) w):
  SO P n ops ⟨some d,.load T x,ty,ps,af,none⟩ f w K:=nr hA F ox hx fun v hv=>by rw[RV.bool.1 hv];exact h
theorem ldS {u:bA} (hA:hQ M w ad u) (F:ey P T 1 false bytes z) (ox:bJ n x=true) (hx:ev f x=.pointer (some ad)) (h:u.size≤maxLen→K (cx f d (.string u)) w):
  SO P n ops ⟨some d,.load T x,ty,ps,af,none⟩ f w K:=nr hA F ox hx fun v hv=>by obtain⟨rfl,hi⟩:=RV.str.1 hv;exact h hi
theorem RS.explicit {α:Type} [GT α] {xs:List α} (h:RS M w v xs):∃a c,v=.slice a xs.length c∧RV M w (.slice a xs.length c) xs:=by
 obtain⟨a,n,c,rfl,rfl,h3⟩:=h
 exact⟨a,c,J,RV.list.2 ⟨a,_,c,J,J,h3⟩⟩
theorem wg {α:Type} [GT α] {xs:List α} (hA:hQ M w ad xs) (F:ey P T 1 false bytes z) (ox:bJ n x=true) (hx:ev f x=.pointer (some ad))
  (h:∀a c,RV M w (.slice a xs.length c) xs→K (cx f d (.slice a xs.length c)) w):SO P n ops ⟨some d,.load T x,ty,ps,af,none⟩ f w K:=
 nr hA F ox hx fun v hv=>by obtain⟨a,c,rfl,hr⟩:=(RV.list.1 hv).explicit;exact h a c hr
theorem cI {bb off:Nat} {cs:Array Value} {t:TypeId} {k:Nat} (H:HI M0 w0 w l) (i:Nat) (hi:l[i]? =some (box bb cs t)) (F:ey P T k agg bytes z) (ox:bJ n x=true) (hx:ev f x=.pointer (some ⟨bb,off,none⟩))
  (hk:agg=false→k=1) (hl:((cs.toList.drop off).take k).length=k) (h:K (cx f d (sG agg ((cs.toList.drop off).take k))) w):SO P n ops ⟨some d,.load T x,ty,ps,af,none⟩ f w K:=by
 have hb:w.heap[bb]? =some (.cells cs t (0,0)):=H.at_ i hi
 refine SO.value (v:=sG agg ((cs.toList.drop off).take k)) ?_ h
 have hc:∀j u,((cs.toList.drop off).take k)[j]? =some u→w.cell? ((⟨bb,off,none⟩:Addr).add j)=some u:=by
  intro j u hu
  rw[show (⟨bb,off,none⟩:Addr).add j=⟨bb,off+j,none⟩ from by unfold Addr.add;split<;>simp_all,cell_of_row w bb (off+j) cs t (0,0) hb]
  have hj:j<k:=by
   have:=(dU.1 hu).1
   omega
  rw[am5,amF hj,ank] at hu
  simpa using hu
 simp[execOp,aM ox,hx,Instr.loadAt,Instr.sureAddr,rJ F hk hl hc]
theorem lx {bb off:Nat} {cs:Array Value} {t:TypeId} (H:HI M0 w0 w l) (i:Nat) (hi:l[i]? =some (box bb cs t)) (F:ey P T 1 false bytes z) (ox:bJ n x=true) (hx:ev f x=.pointer (some ⟨bb,off,none⟩))
  (hl:((cs.toList.drop off).take 1).length=1) (h:K (cx f d (sG false ((cs.toList.drop off).take 1))) w):SO P n ops ⟨some d,.load T x,ty,ps,af,none⟩ f w K:=cI H i hi F ox hx (fun _=>rfl) hl h
def wr (cs:Array Value) (off:Nat) (vs:List Value):Array Value:=(cs.toList.take off++vs++cs.toList.drop (off+vs.length)).toArray
theorem Cc (F:ey P T size agg bytes z) {g o:Nat} {cs:Array Value} {t:TypeId} (hg:w.heap[g]? =some (.cells cs t (0,0))) (hs:v.cells.size=size) (hf:o+v.cells.toList.length≤cs.size) (h1:∀u∈v.cells.toList,u.oneCell'=true):
  (storeVar T ⟨g,o,none⟩ v).run P w=.ok () (w.setRow g (wr cs o v.cells.toList)):=by
 have qK:=run_storeCells_at P g o t v.cells.toList 0 cs w hg (by simpa using hf) h1
 simp only[ani] at qK
 simp[storeVar,F.jm,hs,qK,wr]
theorem HI.wrote {g:Nat} {cs cs':Array Value} {t:TypeId} (H:HI M0 w0 w l) (i:Nat) (hi:l[i]? =some (box g cs t)):HI M0 w0 (w.setRow g cs') (l.set i (box g cs' t)):=by
 have hb:w.heap[g]? =some (.cells cs t (0,0)):=H.at_ i hi
 refine H.vL i hi J J J (by simp) (amD _) (fun c hc gD=>setRow_other w g c _<|fun e=>gD<|by rw[e];rfl) (fun b vk=>?_)<|setRow_heap w g cs _ t _ hb
 refine⟨?_,.inl vk⟩
 rw[size_setRow]
 exact(H.jq _ (dN hi) b vk).2
theorem bw {dd:Option Nat} {bb off:Nat} {cs:Array Value} {t:TypeId} (H:HI M0 w0 w l) (i:Nat) (hi:l[i]? =some (box bb cs t)) (F:ey P T size agg bytes z) (ox:bJ n x=true) (oy:bJ n y=true) (hx:ev f x=.pointer (some ⟨bb,off,none⟩)) (hy:ev f y=v)
  (hs:v.cells.size=size) (hf:Nat.ble (off+v.cells.toList.length) cs.size=true) (h1:v.cells.toList.all Value.oneCell'=true)
  (h:∀w',HI M0 w0 w' (l.set i (box bb (wr cs off v.cells.toList) t))→K (dh f dd undef) w'):SO P n ops ⟨dd,.store T x y,ty,ps,af,none⟩ f w K:=by
 have hb:w.heap[bb]? =some (.cells cs t (0,0)):=H.at_ i hi
 refine SO.skip ?_ (h _<|H.wrote i hi)
 simp[execOp,aM ox,aM oy,hx,hy,Instr.storeAt,Instr.sureAddr,Cc F hb hs (by simpa using hf) (fun u hu=>amK.1 h1 u hu)]
theorem A1 (t:TypeId) (v:Value) (w:aG):(newVar t v).run P w=.ok ⟨w.heap.size,0,none⟩ (w.alloc (.cells v.cells t)):=by simp[newVar,newRow]
theorem HI.ado (H:HI M0 w0 w l) (cs:Array Value) (t:TypeId):HI M0 w0 (w.alloc (.cells cs t)) (box w.heap.size cs t::l):=
 H.new (Ext.alloc w _) w.heap.size rfl (amD _) (by simp) (heap_alloc_new w _)
theorem al (H:HI M0 w0 w l) (F:ey P T size agg bytes z) (h:∀b w',Ext w w'→HI M0 w0 w' (box b z.cells T::l)→K (cx f d (.pointer (some ⟨b,0,none⟩))) w'):
  SO P n ops ⟨some d,.alloc T,ty,ps,af,none⟩ f w K:=
 SO.value (v:=.pointer (some ⟨w.heap.size,0,none⟩)) (w':=w.alloc (.cells z.cells T)) (by simp[execOp,Instr.alloc,F.uk,A1]) (h _ _ (Ext.alloc w _) (H.ado z.cells T))
theorem bx (H:HI M0 w0 w l) (ox:bJ n x=true) (hx:ev f x=v) (h:∀b w',Ext w w'→HI M0 w0 w' (box b v.cells T::l)→K (cx f d (.pointer (some ⟨b,0,none⟩))) w'):
  SO P n ops ⟨some d,.box T x,ty,ps,af,none⟩ f w K:=
 SO.value (v:=.pointer (some ⟨w.heap.size,0,none⟩)) (w':=w.alloc (.cells v.cells T)) (by simp[execOp,Instr.box,aM ox,hx,A1]) (h _ _ (Ext.alloc w _) (H.ado v.cells T))
structure gv (P:Program) (s:TypeId) (j:Nat) (off:Nat):Prop where
 h:∃fs fd,P.underlying s=some (.struct fs)∧fs[j]? =some fd∧fd.offset=off∧((P.info? fd.type).map fun i=>Nat.beq i.size 0)=some false
theorem fa {j off:Nat} (F:gv P T j off) (ox:bJ n x=true) (hx:ev f x=.pointer (some ad)) (h:K (cx f d (.pointer (some (ad.add off)))) w):SO P n ops ⟨some d,.fieldAddr T x j,ty,ps,af,none⟩ f w K:=by
 obtain⟨fs,fd,h1,h2,rfl,h3⟩:=F.h
 obtain⟨i,h4,h6⟩:=am2.1 h3
 have h5:i.size≠0:=by
  intro e
  rw[e] at h6
  cases h6
 exact SO.value (v:=.pointer (some (ad.add fd.offset))) (by
  simp[execOp,aM ox,hx,Instr.fieldAt,gK h1,h2,Instr.sureAddr,fieldPlace,sizeOf,typeInfo,h4,h5]) h
theorem ia {α:Type} [GT α] {xs:List α} {i:Int} (hR:RV M w v xs) (ox:bJ n x=true) (oy:bJ n y=true) (hx:ev f x=v) (hy:ev f y=.int kk i) (hi:0≤i∧i<xs.length) (hu:P.underlying T=some (.slice e)) (F:ey P e (GT.size α) agg bytes z)
  (h:∀ad xv,xs[i.toNat]? =some xv→At M w ad xv→K (cx f d (.pointer (some ad))) w):SO P n ops ⟨some d,.indexAddr T x y,ty,ps,af,none⟩ f w K:=by
 obtain⟨a,m,c,rfl,h1,h2,h3,h4⟩:=RV.list.1 hR
 rcases h4 with h4|⟨ad,rfl,hs⟩
 ·omega
 ·have eZ:i.toNat<xs.length:=by omega
  refine SO.value (v:=.pointer (some<|ad.add<|i.toNat*GT.size α)) ?_<|h _ xs[i.toNat] (eR eZ)<|hs _ _<|eR eZ
  have hb:0≤i∧i<(m:Int):=by omega
  simp[execOp,aM ox,aM oy,hx,hy,Instr.indexAt,asIntOf,gK hu,hb,F.jm]
theorem iq {α:Type} [GT α] {xs:List α} {B:Nat} {i:Int} (hO:(own B e v xs).holds M w) (ox:bJ n x=true) (oy:bJ n y=true) (hx:ev f x=v) (hy:ev f y=.int kk i) (hi:0≤i∧i<xs.length) (hu:P.underlying T=some (.slice e)) (F:ey P e (GT.size α) agg bytes z)
  (h:∀g xv,v.ownBlock=some g→xs[i.toNat]? =some xv→hQ M w ⟨g,i.toNat*GT.size α,none⟩ xv→K (cx f d (.pointer (some ⟨g,i.toNat*GT.size α,none⟩))) w):SO P n ops ⟨some d,.indexAddr T x y,ty,ps,af,none⟩ f w K:=by
 obtain⟨cs,h1,h2⟩:=hO
 rcases h1.2 with ⟨_,h3⟩|⟨g,cap,cur,rfl,h3,h4,h5,h6,h7,h8⟩
 ·omega
 ·have eZ:i.toNat<xs.length:=by omega
  have lk:(⟨g,0,none⟩:Addr).add (i.toNat*GT.size α)=⟨g,i.toNat*GT.size α,none⟩:=by unfold Addr.add;split<;>simp_all
  refine SO.value (v:=.pointer (some ⟨g,i.toNat*GT.size α,none⟩)) ?_<|h g xs[i.toNat] J (eR eZ) ?_
  ·have hb:0≤i∧i<(xs.length:Int):=by omega
   simp[execOp,aM ox,aM oy,hx,hy,Instr.indexAt,asIntOf,gK hu,hb,F.jm,lk]
  ·obtain⟨c,yN,Al⟩:=bB.at_ h2 i.toNat xs[i.toNat] (eR eZ)
   refine⟨c,yN,fun j u hu=>?_⟩
   have uR:=h1.cells (g:=g) J (i.toNat*GT.size α+j) u<|Al j u hu
   rwa [←add_add,lk] at uR
theorem bB.set {α:Type} [GT α] {M:cb} {w:aG} {y:α} {c:List Value} (hy:GT.rep M w c y):∀{xs:List α} {cs:List Value} (i:Nat),i<xs.length→bB M w cs xs→
  bB M w (cs.take (i*GT.size α)++c++cs.drop (i*GT.size α+c.length)) (xs.set i y)
 |x::xs,cs,0,_,⟨c1,c2,h1,h2,h3⟩=>by
  refine⟨c,c2,?_,hy,h3⟩
  rw[h1,ao3,aoA,List.nil_append,ann,GT.len hy,←GT.len h2,List.drop_left]
 |x::xs,cs,i+1,hi,⟨c1,c2,h1,h2,h3⟩=>by
  have:=bB.set hy i (by simpa using hi) h3
  refine⟨c1,_,?_,h2,this⟩
  have hl:=GT.len h2
  rw[h1,show (i+1)*GT.size α=c1.length+i*GT.size α from by rw[hl,ant];omega,apf]
  rw[aoQ,List.drop_append,amL aj,aob aj]
  rw[show c1.length+i*GT.size α-c1.length=i*GT.size α from by omega,show c1.length+(i*GT.size α+c.length)-c1.length=i*GT.size α+c.length from by omega]
  simp[anb]
theorem MX {β:Type} (cur cy:List β) (o n:Nat) (h:o+cy.length≤n) (hn:n≤cur.length):
  (cur.take o++cy++cur.drop (o+cy.length)).take n=(cur.take n).take o++cy++(cur.take n).drop (o+cy.length):=by
 rw[aoQ,aoQ,apy,an8,an8,fN,iu]
 rw[show min n o=o from by omega,show min o n=o from by omega,show min o cur.length=o from by omega,amL (l:=cy) aj]
theorem qf {dd:Option Nat} {α:Type} [GT α] {xs:List α} {yv:α} {B:Nat} {j g:Nat} {u:Value} (H:HI M0 w0 w l) (i:Nat) (hi:l[i]? =some (own B e v xs)) (hg:v.ownBlock=some g) (hB:B=w0.heap.size) (hj:j<xs.length) (F:ey P T (GT.size α) agg bytes z) (ox:bJ n x=true) (oy:bJ n y=true)
  (hx:ev f x=.pointer (some ⟨g,j*GT.size α,none⟩)) (hy:ev f y=u) (hR:RV (MS M0 l) w u yv)
  (h:∀w',HI M0 w0 w' (l.set i (own B e v (xs.set j yv)))→K (dh f dd undef) w'):SO P n ops ⟨dd,.store T x y,ty,ps,af,none⟩ f w K:=by
 subst hB
 obtain⟨cs,h1,h2⟩:=H.at_ i hi
 rcases h1.2 with ⟨rfl,h3⟩|⟨g',cap,cur,rfl,h3,h4,h5,h6,h7,h8⟩
 ·cases hg
 ·have hgg:g'=g:=by simpa [Value.ownBlock] using hg
  subst hgg
  obtain⟨cy,R',rfl⟩:=hR
  have rP:=Tu (agg:=GT.agg α) (cs:=cy) (fun h=>by rw[GT.len R'];exact GT.single h)<|GT.one R'
  have XD:=GT.len R'
  have Vq:j*GT.size α+cy.length≤cur.size:=by
   rw[h7,XD]
   have:(j+1)*GT.size α≤cap*GT.size α:=anE _ aj
   rw[ant] at this
   omega
  have kO:=Cc (P:=P) (w:=w) F (g:=g') (o:=j*GT.size α) (v:=sG (GT.agg α) cy) h4 (by rw[rP];simpa using XD) (by rw[rP];simpa using Vq)<|by rw[rP];simpa using GT.one R'
  rw[rP] at kO
  simp only[List.toList_toArray] at kO
  refine SO.skip (w':=w.setRow g' (wr cur (j*GT.size α) cy)) ?_ (h _ ?_)
  ·simp[execOp,aM ox,aM oy,hx,hy,Instr.storeAt,Instr.sureAddr,kO]
  ·have CK:∀c,c<w.heap.size→(own w0.heap.size e (Value.slice (some ⟨g',0,none⟩) xs.length cap) xs).jG≠some c→(w.setRow g' (wr cur (j*GT.size α) cy)).heap[c]? =w.heap[c]?:=
    fun c hc gD=>setRow_other w g' c _ (fun e=>gD (by rw[e];rfl))
   have hblk:∀b,(own w0.heap.size e (Value.slice (some ⟨g',0,none⟩) xs.length cap) (xs.set j yv)).jG=some b→b<(w.setRow g' (wr cur (j*GT.size α) cy)).heap.size∧((own w0.heap.size e (Value.slice (some ⟨g',0,none⟩) xs.length cap) xs).jG=some b∨w.heap.size≤b):=by
    intro b hb
    refine⟨?_,.inl hb⟩
    rw[size_setRow]
    exact(H.jq _ (dN hi) b hb).2
   refine H.vL i hi J J J (by simp) (amD _) CK hblk ?_
   refine⟨cs.take (j*GT.size α)++cy++cs.drop (j*GT.size α+cy.length),?_,?_⟩
   ·rw[amA]
    have hlen:(cs.take (j*GT.size α)++cy++cs.drop (j*GT.size α+cy.length)).length=xs.length*GT.size α:=by
     have rO:=h1.1
     have:(j+1)*GT.size α≤xs.length*GT.size α:=anE _ aj
     rw[ant] at this
     simp only[fN,iu,amZ]
     omega
    refine⟨hlen,.inr ⟨g',cap,wr cur (j*GT.size α) cy,J,h3,setRow_heap w g' cur _ e _ h4,h5,h6,?_,?_⟩⟩
    ·simp only[wr,an9,fN,iu,amZ,ang]
     omega
    ·have hle:(j+1)*GT.size α≤xs.length*GT.size α:=anE _ aj
     rw[ant] at hle
     have rO:=h1.1
     have oQ:xs.length*GT.size α≤cur.size:=by rw[h7];exact anE _ h5
     simp only[wr]
     rw[←h8]
     exact MX cur.toList cy (j*GT.size α) (xs.length*GT.size α) aj<|by simpa using oQ
   ·
    have qJ:Up (MS M0 l) w (MS M0 (l.set i (own w0.heap.size e (Value.slice (some ⟨g',0,none⟩) xs.length cap) (xs.set j yv)))) (w.setRow g' (wr cur (j*GT.size α) cy)):=by
     refine⟨by simp,fun b hb hM=>⟨setRow_other w g' b _ (fun e=>hM<|.inr ⟨_,dN hi,by rw[e];rfl⟩),?_⟩⟩
     rintro(CU|⟨it,hit,lZ⟩)
     ·exact hM<|.inl CU
     ·rcases anr hit with hit|rfl
      ·exact hM<|.inr ⟨it,hit,lZ⟩
      ·exact hM<|.inr ⟨_,dN hi,lZ⟩
    exact bB.lift qJ<|bB.set R' j hj h2
theorem ef (ox:bJ n x=true) (hx:ev f x=.slice ao m cc) (hu:P.underlying T=some (.slice e)) (h:K (cx f d (.int .i64 (m:Int))) w):
  SO P n ops ⟨some d,.call {callee:=.builtin .len,args:=#[x],argTypes:=#[T]},ty,ps,af,none⟩ f w K:=
 SO.value (v:=.int .i64 (m:Int)) (by simp[execOp,resolve,invoke,builtin,Builtin.len_,aM ox,hx,gK hu,goInt]) h
theorem tq {s:bA} (ox:bJ n x=true) (hx:ev f x=.string s) (hu:P.underlying T=some .string) (h:K (cx f d (.int .i64 (s.size:Int))) w):
  SO P n ops ⟨some d,.call {callee:=.builtin .len,args:=#[x],argTypes:=#[T]},ty,ps,af,none⟩ f w K:=
 SO.value (v:=.int .i64 (s.size:Int)) (by simp[execOp,resolve,invoke,builtin,Builtin.len_,aM ox,hx,gK hu,goInt]) h
theorem YQ (hu:P.underlying T=some (.slice e)):(binOp .eql T (.slice ao m cc) (.slice none 0 0)).run P w=.ok (.bool ao.isNone) w:=by
 show ((Op.equal T (.slice ao m cc) (.slice none 0 0) >>=fun b=>pure (Value.bool b)):Sem Value).run P w=_
 have h:(Op.equal T (.slice ao m cc) (.slice none 0 0)).run P w=.ok ao.isNone w:=by
  rw[show Op.equal T (.slice ao m cc) (.slice none 0 0)=Op.equalIn (9999+1) T (.slice ao m cc) (.slice none 0 0) from rfl]
  unfold Op.equalIn
  rw[Sem.run_bind,gK hu]
  cases ao<;>rfl
 rw[Sem.run_bind,h];rfl
theorem S9 (ox:bJ n x=true) (oy:bJ n y=true) (hx:ev f x=.slice ao m cc) (hy:ev f y=.slice none 0 0) (hu:P.underlying T=some (.slice e)) (h:K (cx f d (.bool ao.isNone)) w):
  SO P n ops ⟨some d,.binOp .eql T x y T2,ty,ps,af,none⟩ f w K:=
 SO.value (v:=.bool ao.isNone) (by
  have hg:(eqGuard .eql T x y (.slice ao m cc) (.slice none 0 0)).run P w=.ok () w:=by unfold eqGuard;rfl
  have hr:=YQ (P:=P) (w:=w) (ao:=ao) (m:=m) (cc:=cc) hu
  simp only[execOp,aM ox,aM oy,hx,hy,Sem.run_bind,hg,hr,Result.andThen_ok,Sem.run_pure]) h
end
end Go.Ew
namespace Go.Ew
open Go.RowKit Go.IntWalk
variable {B i:Nat} {v u:Value}
theorem Ext.grown {w w':aG} (h:w.grownBy w' none) (hd:w.drawn≤w'.drawn):Ext w w':=⟨⟨h.os,h.tape,h.output,h.size,fun k hk=>h.block k hk (by simp)⟩,hd⟩
def Src {α:Type} [GT α] (M:cb) (w:aG) (v:Value) (ys:List α):Prop:=
 ∃a c,v=.slice a ys.length c∧(ys.length=0∨∃ad,a=some ad∧∃cs,bB M w cs ys∧∀j u,cs[j]? =some u→w.cell? (ad.add j)=some u)
theorem TZ.chunks {α:Type} [GT α] {M:cb} {w:aG}:∀{xs:List α} {ad:Addr},TZ M w ad xs→∃cs,bB M w cs xs∧∀j u,cs[j]? =some u→w.cell? (ad.add j)=some u
 |[],ad,_=>⟨[],rfl,fun j u h=>by simp at h⟩
 |x::xs,ad,h=>by
  obtain⟨c1,h1,_,h2⟩:=h 0 x rfl
  have P3:TZ M w (ad.add (GT.size α)) xs:=by
   intro i y hy
   have:=h (i+1) y<|by simpa using hy
   rw[add_add]
   rwa [show (i+1)*GT.size α=GT.size α+i*GT.size α from by rw[ant];omega] at this
  obtain⟨c2,h3,h4⟩:=TZ.chunks P3
  refine⟨c1++c2,⟨c1,c2,J,h1,h3⟩,fun j u hu=>?_⟩
  rw[List.getElem?_append] at hu
  have hl:=GT.len h1
  split at hu
  ·have:=h2 j u hu
   rwa [add_add,ao3,ann] at this
  ·have:=h4 _ u hu
   rw[add_add,hl] at this
   rwa [show GT.size α+(j-GT.size α)=j from by omega] at this
theorem RV.src {α:Type} [GT α] {M:cb} {w:aG} {v:Value} {ys:List α} (h:RV M w v ys):Src M w v ys:=by
 obtain⟨a,n,c,rfl,rfl,h3,h4,h5⟩:=RV.list.1 h
 refine⟨a,c,J,?_⟩
 rcases h5 with h5|⟨ad,h5,h6⟩
 ·exact .inl h5
 ·exact .inr ⟨ad,h5,h6.chunks⟩
theorem ib {α:Type} [GT α] {M:cb} {w:aG} {v:Value} {ys:List α} {B:Nat} {e:TypeId} (h:(own B e v ys).holds M w):Src M w v ys:=by
 obtain⟨cs,h1,h2⟩:=h
 rcases h1.2 with ⟨rfl,h3⟩|⟨g,cap,cur,rfl,h3,h4,h5,h6,h7,h8⟩
 ·exact⟨none,0,by rw[h3],.inl h3⟩
 ·exact⟨_,cap,J,.inr ⟨_,J,cs,h2,h1.cells (g:=g) rfl⟩⟩
theorem zV {α:Type} [GT α] {M M':cb} {w:aG} {v:Value} {ys:List α} {B:Nat} {e:TypeId} (h:(own B e v ys).holds M w) (hM:∀b,b<w.heap.size→M' b→M b) (hv:∀b,v.ownBlock=some b→¬M' b):RV M' w v ys:=by
 obtain⟨cs,h1,h2⟩:=h
 refine RV.list.2 ?_
 rcases h1.2 with ⟨rfl,h3⟩|⟨g,cap,cur,rfl,h3,h4,h5,h6,h7,h8⟩
 ·exact⟨none,0,0,J,h3,amD _,by simp[maxLen],.inl rfl⟩
 ·refine⟨_,_,cap,J,J,h5,h6,.inr ⟨_,J,fun i x hx=>?_⟩⟩
  obtain⟨c,yN,Al⟩:=bB.at_ h2 i x hx
  refine⟨c,GT.lift yN (Up.less hM),by rw[vD];exact hv g rfl,fun j u hu=>?_⟩
  rw[add_add]
  exact h1.cells (g:=g) J _ u<|Al j u hu
section
variable {M0:cb} {w0 w w':aG} {l:List Item} {α:Type} [GT α] {v:Value} {xs:List α} {e:TypeId}
theorem wH (H:HI M0 w0 w l) (hi:l[i]? =some (own B e v xs)):∀b,v.ownBlock=some b→w0.heap.size≤b∧b<w.heap.size:=H.jq _ (dN hi)
theorem HI.freeze (H:HI M0 w0 w l) (i:Nat) (hi:l[i]? =some (own B e v xs)):HI M0 w0 w (l.set i (tv v xs)):=by
 refine H.vL i hi J J J (amD _) (amD _) (fun _ _ _=>rfl) (fun b hb=>by cases hb) ?_
 have hO:=H.at_ i hi
 refine zV hO (fun b hb hM=>?_)<|fun b hb hM=>?_
 ·rcases hM with hM|⟨it,hit,lZ⟩
  ·exact .inl hM
  ·rcases anr hit with hit|rfl
   ·exact .inr ⟨it,hit,lZ⟩
   ·cases lZ
 ·have BN:=wH H hi b hb
  rcases hM with hM|⟨it,hit,lZ⟩
  ·have:=H.m0 b hM;omega
  ·obtain⟨m,hm,rfl⟩:=aox.1 hit
   rw[api] at lZ
   split at lZ
   ·cases lZ
   ·rename_i gD
    have tV:m<l.length:=by simpa using hm
    exact gD<|ic (·.jG) l H.nodup i m _ l[m] hi (eR tV) (by show (v.ownBlock).isSome=true;rw[hb];rfl)<|by rw[lZ];exact hb
theorem HI.rB (α:Type) [GT α] (H:HI M0 w0 w l) (e:TypeId):HI M0 w0 w (own w0.heap.size e (.slice none 0 0) ([]:List α)::l):=
 H.put rfl ⟨[],World.ownsRow_nil w _ e _,rfl⟩
theorem HI.afj (H:HI M0 w0 w l) (h:Yo (MS M0 l) w xs v w'):HI M0 w0 w' (tv v xs::l):=(H.ext h.1).put rfl h.2
theorem adX.afj {β:Type} [GT β] {y:β} {M:cb} (h:adX w y v w') (hM:∀b,M b→b<w.heap.size):Yo M w y v w':=⟨h.1,h.2.lift (Up.less fun b _ hb=>hM b hb)⟩
theorem HI.Y2 (H:HI M0 w0 w l) (i:Nat) (hi:l[i]? =some (own w0.heap.size e v xs)) (aj5:∀it∈l,∀b,it.jG=some b→True):RV M0 w v xs:=by
 have hO:=H.at_ i hi
 refine zV hO (fun b _ hb=>.inl hb)<|fun b hb hM=>?_
 have:=wH H hi b hb
 have:=H.m0 b hM
 omega
end
section
variable {P:Program} {n:Nat} {ops:Array Oper} {f:aP} {w:aG} {K:aP→aG→Prop} {x y c:Operand} {d:Nat} {ty T T2 e:TypeId} {ps:String} {af:Array Edge} {v v2 u:Value} {a b:Int} {M M0:cb} {w0:aG} {l:List Item} {kk:IntKind} {bytes:Nat} {z:Value} {ad:Addr} {size:Nat} {agg:Bool}
theorem vN {s m:Nat} {cs:List Value} (h:w.ownsRow B e s v m cs):∃a c,v=.slice a m c:=by
 rcases h.2 with ⟨rfl,rfl⟩|⟨g,cap,cur,rfl,_⟩
 ·exact⟨none,0,J⟩
 ·exact⟨_,cap,J⟩
theorem ap {α:Type} [GT α] {xs ys:List α} {B:Nat} (H:HI M0 w0 w l) (i:Nat) (hi:l[i]? =some (own B e v xs)) (hB:B=w0.heap.size) (ox:bJ n x=true) (oy:bJ n y=true) (hx:ev f x=v) (hy:ev f y=u)
  (hs:Src (MS M0 l) w u ys) (hu:P.underlying T=some (.slice e)) (F:ey P e (GT.size α) agg bytes z) (hz:z.cells.size=GT.size α) (hl:(xs.length+ys.length)*bytes≤140737488355328) (pj:xs.length+ys.length≤9223372036854775807)
  (h:∀a c w',HI M0 w0 w' (l.set i (own B e (.slice a (xs++ys).length c) (xs++ys)))→K (cx f d (.slice a (xs++ys).length c)) w'):
  SO P n ops ⟨some d,.call {callee:=.builtin .append,args:=#[x,y],argTypes:=#[T,T]},ty,ps,af,none⟩ f w K:=by
 subst hB
 obtain⟨cs,h1,h2⟩:=H.at_ i hi
 obtain⟨a0,c0,rfl,Fk⟩:=hs
 obtain⟨inf,sK,tZ,vi,CN⟩:=F.info
 have eZ:∀b,v.ownBlock=some b→w0.heap.size≤b∧b<w.heap.size:=wH H hi
 
 obtain⟨v',w',kO,zo,rq,BM⟩:∃v' w',(Builtin.append_ #[T,T] ty #[v,.slice a0 ys.length c0]).run P w=.ok v' w'∧
   (∃ds,w'.ownsRow w0.heap.size e (GT.size α) v' (xs.length+ys.length) (cs++ds)∧bB (MS M0 l) w ds ys)∧w.grownBy w' v.ownBlock∧(v'.ownBlock=v.ownBlock∨∀b,v'.ownBlock=some b→w.heap.size≤b∧b<w'.heap.size):=by
  rcases Fk with h0|⟨ad,rfl,ds,t',CO⟩
  ·have hys:ys=[]:=an3 h0
   subst hys
   have hr:(Builtin.append_ #[T,T] ty #[v,.slice a0 0 c0]).run P w=.ok v w:=by
    rcases h1.2 with ⟨rfl,hn⟩|⟨g,cap,cur,rfl,hb,hg,hnc,_⟩
    ·cases a0<;>simp[Builtin.append_,gK hu,sizeOf,typeInfo,sK,Builtin.lenOf,Builtin.firstCells,loadCells,loadCellsFrom]
    ·have:xs.length≤cap:=hnc
     cases a0<;>simp[Builtin.append_,gK hu,sizeOf,typeInfo,sK,Builtin.lenOf,Builtin.firstCells,loadCells,loadCellsFrom,this,storeCells]
   exact⟨v,w,by simpa using hr,⟨[],by simpa using h1,J⟩,⟨J,J,J,amD _,fun _ _ _=>rfl⟩,.inl rfl⟩
  ·obtain⟨v',w',r1,r2,r3,_,r4⟩:=run_append_own_at (P:=P) w w0.heap.size T ty e inf z (GT.size α) bytes hu sK tZ vi CN hz GT.pos v xs.length cs h1 ad ys.length c0 ds (bB.length t') CO (bB.AY t') (by simp only[maxLen];omega) hl H.below.size
   refine⟨v',w',r1,⟨ds,r2,t'⟩,r3,?_⟩
   rcases r4 with hb|hb
   ·exact .inl hb
   ·refine .inr fun b wh=>⟨?_,(r2.lt b wh).2⟩
    rw[hb] at wh
    cases wh
    exact amD _
 obtain⟨ds,ho,Sz⟩:=zo
 obtain⟨a',c',rfl⟩:=vN ho
 refine SO.value (v:=.slice a' (xs.length+ys.length) c') (w':=w') ?_ ?_
 ·simp[execOp,resolve,invoke,builtin,aM ox,aM oy,hx,hy,kO]
 ·have:=h a' c' w'
  rw[fN] at this
  refine this ?_
  have hblk:∀b,(own w0.heap.size e (.slice a' (xs.length+ys.length) c') (xs++ys)).jG=some b→b<w'.heap.size∧((own w0.heap.size e v xs).jG=some b∨w.heap.size≤b):=by
   intro b hb
   refine⟨(ho.lt b hb).2,?_⟩
   rcases BM with BM|BM
   ·exact .inl (by rw[←hb];exact BM.symm)
   ·exact .inr (BM b hb).1
  refine H.vL i hi rq.os rq.tape rq.output rq.size (sC _ kO) (fun c hc gD=>rq.block c hc<|fun e=>gD e.symm) hblk ?_
  refine⟨cs++ds,by rw[fN];exact ho,?_⟩
  refine bB.lift ?_<|bB.append h2 Sz
  refine⟨rq.size,fun b hb hM=>⟨rq.block b hb (fun e=>hM<|.inr ⟨_,dN hi,e.symm⟩),?_⟩⟩
  rintro(CU|⟨it,hit,lZ⟩)
  ·exact hM<|.inl CU
  ·rcases anr hit with hit|rfl
   ·exact hM<|.inr ⟨it,hit,lZ⟩
   ·rcases (hblk b lZ).2 with h'|h'
    ·exact hM<|.inr ⟨_,dN hi,h'⟩
    ·omega
theorem me {α:Type} [GT α] {xs ys:List α} {B:Nat} (H:HI M0 w0 w l) (i:Nat) (hi:l[i]? =some (own B e v xs)) (hB:B=w0.heap.size) (ox:bJ n x=true) (oy:bJ n y=true) (hx:ev f x=v) (hy:ev f y=u)
  (hs:Src (MS M0 l) w u ys) (hu:P.underlying T=some (.slice e)) (F:ey P e (GT.size α) agg bytes z) (hz:z.cells.size=GT.size α) (hl:(xs.length+ys.length)*bytes≤140737488355328) (pL:Nat.ble 1 bytes=true)
  (h:∀a c w',HI M0 w0 w' (l.set i (own B e (.slice a (xs++ys).length c) (xs++ys)))→K (cx f d (.slice a (xs++ys).length c)) w'):
  SO P n ops ⟨some d,.call {callee:=.builtin .append,args:=#[x,y],argTypes:=#[T,T]},ty,ps,af,none⟩ f w K:=
 ap H i hi hB ox oy hx hy hs hu F hz hl (amP (Nat.le_mul_of_pos_right _ (anN pL)) (amP hl au)) h
theorem Zj {α:Type} [GT α] {M:cb} {xs:List α} {cells:Array Value} {B:Nat} {w w':aG} (hx:Ext w w') (hB:B≤w.heap.size) (hh:w'.heap[w.heap.size]? =some (.cells cells e (0,0))) (hc:bB M w cells.toList xs) (hl:xs.length≤maxLen) {M':cb} (hM:∀b,b<w.heap.size→M' b→M b):
  (own B e (.slice (some ⟨w.heap.size,0,none⟩) xs.length xs.length) xs).holds M' w':=by
 refine⟨cells.toList,⟨bB.length hc,.inr ⟨w.heap.size,xs.length,cells,J,hB,hh,amD _,hl,?_,?_⟩⟩,bB.lift ⟨hx.size,fun b hb hn=>⟨hx.block b hb,fun h=>hn (hM b hb h)⟩⟩ hc⟩
 ·have:=bB.length hc;simpa using this
 ·rw[amL (by rw[bB.length hc];exact amD _)]
theorem adY {it:Item} {b:Nat} (hn:it.jG=some b):∀c,c<b→MS M0 (it::l) c→MS M0 l c:=by
 rintro c hc (h|⟨j,hj,xJ⟩)
 ·exact .inl h
 ·rcases amV.1 hj with rfl|hj
  ·rw[hn] at xJ;cases xJ;omega
  ·exact .inr ⟨j,hj,xJ⟩
theorem eI:(([]:List (Nat×Operand)).map fun p=>(p.1,ev f p.2))=[]:=rfl
theorem cz {L:List (Nat×Operand)} {V:List (Nat×Value)} (h:ev f x=v) (t:(L.map fun p=>(p.1,ev f p.2))=V):(((i,x)::L).map fun p=>(p.1,ev f p.2))=(i,v)::V:=by
 rw[am_,t,h]
theorem bs {α:Type} [GT α] {xs:List α} {len:Nat} {L:List (Nat×Operand)} {V:List (Nat×Value)} {cells:Array Value} (H:HI M0 w0 w l) (ol:F' n (L.map (·.2))=true) (hL:(L.map fun p=>(p.1,ev f p.2))=V)
  (hb:∀w,(Instr.buildSlice T len V.toArray).run P w=.ok (.slice (some ⟨w.heap.size,0,none⟩) len len) (w.alloc (.cells cells e)))
  (hc:bB (MS M0 l) w cells.toList xs) (hl:xs.length=len) (hm:len≤maxLen)
  (h:∀g w',Ext w w'→HI M0 w0 w' (own w0.heap.size e (.slice (some ⟨g,0,none⟩) len len) xs::l)→K (cx f d (.slice (some ⟨g,0,none⟩) len len)) w'):
  SO P n ops ⟨some d,.buildSlice T len L.toArray,ty,ps,af,none⟩ f w K:=by
 subst hl hL
 refine SO.value (v:=.slice (some ⟨w.heap.size,0,none⟩) xs.length xs.length) (w':=w.alloc (.cells cells e)) ?_<|h _ _ (Ext.alloc w _) ?_
 ·have he:(L.map fun p=>(p.1,(cw n f).eval p.2))=L.map fun p=>(p.1,ev f p.2):=by
   apply anK
   intro p hp
   rw[aM (amK.1 ol p.2 (anp.2 ⟨p,hp,rfl⟩))]
  simp only[execOp,aoC]
  have:=hb w
  rw[←he] at this
  simp[this]
 ·refine H.new (Ext.alloc w _) w.heap.size J (amD _) (by simp) ?_
  exact Zj (Ext.alloc w _) H.below.size (heap_alloc_new w _) hc hm<|adY (b:=w.heap.size) J
theorem mk {α:Type} [GT α] {m:Nat} {zx:α} (H:HI M0 w0 w l) (ox:bJ n x=true) (oy:bJ n y=true) (hx:ev f x=.int .i64 (m:Int)) (hy:ev f y=.int .i64 (m:Int)) (hu:P.underlying T=some (.slice e)) (F:ey P e (GT.size α) (GT.agg α) bytes z)
  (hz:∀M w,GT.rep (α:=α) M w z.cells.toList zx) (hb:bytes*m≤281474976710656) (hm:m≤9223372036854775807)
  (h:∀g w',Ext w w'→HI M0 w0 w' (own w0.heap.size e (.slice (some ⟨g,0,none⟩) m m) (List.replicate m zx)::l)→K (cx f d (.slice (some ⟨g,0,none⟩) m m)) w'):
  SO P n ops ⟨some d,.makeSlice T x y,ty,ps,af,none⟩ f w K:=by
 obtain⟨inf,sK,tZ,vi,CN⟩:=F.info
 obtain⟨w',kO,zo,rq⟩:=run_make_full (P:=P) w w0.heap.size T e inf z (GT.size α) hu sK tZ vi .i64 .i64 m (by rw[CN];exact hb) (by simp only[maxLen];omega) H.below.size
 refine SO.value (v:=.slice (some ⟨w.heap.size,0,none⟩) m m) (w':=w') (by simp[execOp,aM ox,aM oy,hx,hy,kO])<|h _ _ (Ext.grown rq<|sC _ kO) ?_
 refine H.new (Ext.grown rq<|sC _ kO) w.heap.size J (amD _) ((zo.lt _ J).2) ?_
 refine⟨_,by rw[ot];exact zo,?_⟩
 
 have Xg:z.cells.toList.length=GT.size α:=GT.len<|hz (fun _=>False) w
 have key:∀k,(madeCells z.cells (k*GT.size α)).toList=(List.replicate k z.cells.toList).flatten:=by
  intro k
  apply aoc
  ·simp[madeCells,Xg,ao4]
  ·intro i h1 h2
   have tx:i<k*GT.size α:=by simpa [madeCells] using h1
   simp only[madeCells]
   have hs:z.cells.size=GT.size α:=by simpa using Xg
   have CI:0<GT.size α:=GT.pos
   have eZ:i%GT.size α<z.cells.size:=by rw[hs];exact Nat.mod_lt _ CI
   have e2:((List.replicate k z.cells.toList).flatten)[i]? =z.cells.toList[i%GT.size α]?:=by
    clear h1 h2 eZ
    induction k generalizing i with
    |zero=>simp at tx
    |succ k ih=>
     rw[anv,an_,List.getElem?_append]
     split
     ·rename_i hl
      rw[Xg] at hl
      rw[aoO hl]
     ·rename_i hl
      rw[Xg] at hl ⊢
      rw[ih (i-GT.size α) (by rw[ant] at tx;omega)]
      rw[show i%GT.size α=(i-GT.size α)%GT.size α from by
       rw[Nat.mod_eq_sub_mod aj]]
   have e3:=eR h2
   rw[e2,eR (by simpa using eZ)] at e3
   rw[←amE e3]
   simp only[apt,Array.getElem_map,Array.getElem_range,hs]
   rw[apJ z.cells (i%GT.size α) eZ]
 have hcs:∀k M w,bB (α:=α) M w ((List.replicate k z.cells.toList).flatten) (List.replicate k zx):=by
  intro k
  induction k with
  |zero=>intro M w;rfl
  |succ k ih=>intro M w;exact⟨_,_,by rw[anv,an_],hz M w,ih M w⟩
 rw[key]
 exact hcs _ _ _
theorem mk0 {α:Type} [GT α] {m:Nat} (H:HI M0 w0 w l) (ox:bJ n x=true) (oy:bJ n y=true) (hx:ev f x=.int .i64 0) (hy:ev f y=.int .i64 (m:Int)) (hu:P.underlying T=some (.slice e)) (F:ey P e (GT.size α) agg bytes z)
  (hb:bytes*m≤281474976710656) (hm:m≤9223372036854775807)
  (h:∀g w',Ext w w'→HI M0 w0 w' (own w0.heap.size e (.slice (some ⟨g,0,none⟩) 0 m) ([]:List α)::l)→K (cx f d (.slice (some ⟨g,0,none⟩) 0 m)) w'):
  SO P n ops ⟨some d,.makeSlice T x y,ty,ps,af,none⟩ f w K:=by
 obtain⟨inf,sK,tZ,vi,CN⟩:=F.info
 obtain⟨w',kO,zo,rq⟩:=run_make_own (P:=P) w w0.heap.size T e inf z (GT.size α) hu sK tZ vi .i64 .i64 m (by rw[CN];exact hb) (by simp only[maxLen];omega) H.below.size
 refine SO.value (v:=.slice (some ⟨w.heap.size,0,none⟩) 0 m) (w':=w') (by simp[execOp,aM ox,aM oy,hx,hy,kO])<|h _ _ (Ext.grown rq<|sC _ kO) ?_
 exact H.new (Ext.grown rq<|sC _ kO) w.heap.size J (amD _) ((zo.lt _ J).2) ⟨[],zo,J⟩
theorem RV.cut {α:Type} [GT α] {M:cb} {w:aG} {ao:Option Addr} {m cc:Nat} {xs:List α} (h:RV M w (.slice ao m cc) xs) (lo hi:Nat) (h1:lo≤hi) (h2:hi≤xs.length) (hc:cc=lo→xs.length=lo):
  RV M w (.slice (if cc=lo then ao else ao.map (·.add (lo*GT.size α))) (hi-lo) (cc-lo)) ((xs.drop lo).take (hi-lo)):=by
 obtain⟨a,n,c,he,h3,h4,h5,h6⟩:=RV.list.1 h
 simp only[Value.slice.injEq] at he
 obtain⟨rfl,rfl,rfl⟩:=he
 refine RV.list.2 ⟨_,_,_,J,by simp;omega,by omega,by omega,?_⟩
 by_cases h0:hi-lo=0
 ·exact .inl h0
 ·rcases h6 with h6|⟨ad,rfl,hs⟩
  ·omega
  ·have gD:cc≠lo:=fun e=>by have:=hc e;omega
   refine .inr ⟨ad.add (lo*GT.size α),by simp[gD],fun i x hx=>?_⟩
   rw[am5] at hx
   split at hx
   ·rw[ank] at hx
    have:=hs (lo+i) x hx
    rw[add_add]
    rwa [←ant]
   ·cases hx
theorem NH {α:Type} [GT α] {xs:List α} {ao:Option Addr} {cc:Nat} {lo:Int} {rm:Operand} (hR:RV M w (.slice ao xs.length cc) xs) (ox:bJ n x=true) (ol:bJ n rm=true) (hx:ev f x=.slice ao xs.length cc)
  (hl:ev f rm=.int kk lo) (hb:0≤lo∧lo≤xs.length) (hu:P.underlying T=some (.slice e)) (F:ey P e (GT.size α) agg bytes z)
  (h:∀a c,RV M w (.slice a (xs.drop lo.toNat).length c) (xs.drop lo.toNat)→K (cx f d (.slice a (xs.drop lo.toNat).length c)) w):
  SO P n ops ⟨some d,.slice T x (some rm) none none,ty,ps,af,none⟩ f w K:=by
 have hle:xs.length≤cc:=by obtain⟨a',n',c',he,_,h4,_⟩:=RV.list.1 hR;simp only[Value.slice.injEq] at he;omega
 have hc:=hR.cut lo.toNat xs.length aj aj<|fun e=>by omega
 rw[amL (by simp)] at hc
 have hlen:(xs.drop lo.toNat).length=xs.length-lo.toNat:=by simp
 refine SO.value (v:=.slice (if cc=lo.toNat then ao else ao.map (·.add (lo.toNat*GT.size α))) (xs.length-lo.toNat) (cc-lo.toNat)) (w':=w) ?_<|by rw[hlen] at h;exact h _ _ hc
 have xK:P.underlying T=some (.slice (P.elem T)):=by rw[hu];simp[Program.elem,hu]
 have uD:P.elem T=e:=by simp[Program.elem,hu]
 simp[execOp,aM ox,aM ol,hx,hl,Instr.sliceAt,gK hu]
 have:=run_slice_l (P:=P) (w:=w) T ao xs.length cc xK kk lo hb.1 aj
 rw[uD,F.jm] at this
 simp[this,sliced]
theorem NI {α:Type} [GT α] {xs:List α} {ao:Option Addr} {cc:Nat} {hi:Int} {pe:Operand} (hR:RV M w (.slice ao xs.length cc) xs) (ox:bJ n x=true) (oh:bJ n pe=true) (hx:ev f x=.slice ao xs.length cc)
  (hh:ev f pe=.int kk hi) (hb:0≤hi∧hi≤xs.length) (hu:P.underlying T=some (.slice e)) (F:ey P e (GT.size α) agg bytes z)
  (h:∀a c,RV M w (.slice a (xs.take hi.toNat).length c) (xs.take hi.toNat)→K (cx f d (.slice a (xs.take hi.toNat).length c)) w):
  SO P n ops ⟨some d,.slice T x none (some pe) none,ty,ps,af,none⟩ f w K:=by
 have hle:xs.length≤cc:=by obtain⟨a',n',c',he,_,h4,_⟩:=RV.list.1 hR;simp only[Value.slice.injEq] at he;omega
 have hc:=hR.cut 0 hi.toNat aj aj<|fun e=>by omega
 simp only[ao',apm] at hc
 have hlen:(xs.take hi.toNat).length=hi.toNat:=by simp;omega
 refine SO.value (v:=.slice (if cc=0 then ao else ao.map (·.add (0*GT.size α))) hi.toNat cc) (w':=w) ?_<|by rw[hlen] at h;exact h _ _ hc
 have xK:P.underlying T=some (.slice (P.elem T)):=by rw[hu];simp[Program.elem,hu]
 have uD:P.elem T=e:=by simp[Program.elem,hu]
 simp[execOp,aM ox,aM oh,hx,hh,Instr.sliceAt,gK hu]
 have:=run_slice_h (P:=P) (w:=w) T ao xs.length cc xK kk hi hb.1 aj
 rw[uD,F.jm] at this
 simp[this,sliced]
theorem bd {L:List (Nat×Operand)} {V:List (Nat×Value)} (ol:F' n (L.map (·.2))=true) (hL:(L.map fun p=>(p.1,ev f p.2))=V) (hb:∀w,(Instr.build T V.toArray).run P w=.ok v w) (h:K (cx f d v) w):
  SO P n ops ⟨some d,.build T L.toArray,ty,ps,af,none⟩ f w K:=by
 subst hL
 refine SO.value (v:=v) (w':=w) ?_ h
 have he:(L.map fun p=>(p.1,(cw n f).eval p.2))=L.map fun p=>(p.1,ev f p.2):=by
  apply anK
  intro p hp
  rw[aM (amK.1 ol p.2 (anp.2 ⟨p,hp,rfl⟩))]
 simp only[execOp,aoC]
 have:=hb w
 rw[←he] at this
 simp[this]
theorem fd (ox:bJ n x=true) (hx:ev f x=u) (hr:∀w,(Instr.field T u i).run P w=.ok v w) (h:K (cx f d v) w):SO P n ops ⟨some d,.field T x i,ty,ps,af,none⟩ f w K:=
 SO.value (v:=v) (by simp[execOp,aM ox,hx,hr w]) h
theorem ix (ox:bJ n x=true) (oy:bJ n y=true) (hx:ev f x=u) (hy:ev f y=v2) (hr:∀w,(Instr.index T u v2).run P w=.ok v w) (h:K (cx f d v) w):SO P n ops ⟨some d,.index T x y,ty,ps,af,none⟩ f w K:=
 SO.value (v:=v) (by simp[execOp,aM ox,aM oy,hx,hy,hr w]) h
theorem Xf {i:Int} {m:Nat} (ox:bJ n x=true) (oy:bJ n y=true) (hx:ev f x=.pointer (some ad)) (hy:ev f y=.int kk i) (hi:0≤i∧i<(m:Int)) (hu:P.underlying T=some (.array m e)) (F:ey P e size agg bytes z)
  (h:K (cx f d (.pointer (some (ad.add (i.toNat*size))))) w):SO P n ops ⟨some d,.indexAddr T x y,ty,ps,af,none⟩ f w K:=
 SO.value (v:=.pointer (some (ad.add (i.toNat*size)))) (by
  simp[execOp,aM ox,aM oy,hx,hy,Instr.indexAt,asIntOf,gK hu,Instr.sureAddr,hi.1,hi.2,F.jm]) h
theorem ahn {i m:Nat} (ox:bJ n x=true) (oy:bJ n y=true) (hx:ev f x=.pointer (some ad)) (hy:ev f y=.int kk ((i:Nat):Int)) (hi:i<m) (hu:P.underlying T=some (.array m e)) (F:ey P e size agg bytes z)
  (h:K (cx f d (.pointer (some (ad.add (i*size))))) w):SO P n ops ⟨some d,.indexAddr T x y,ty,ps,af,none⟩ f w K:=
 Xf ox oy hx hy aj hu F (by rw[dM];exact h)
theorem Xc {s:bA} {i:Int} (ox:bJ n x=true) (oy:bJ n y=true) (hx:ev f x=.string s) (hy:ev f y=.int kk i) (hi:0≤i∧i<s.size) (hu:P.underlying T=some .string)
  (h:∀c,s[i.toNat]? =some c→K (cx f d (.int .u8 (c.toNat:Int))) w):SO P n ops ⟨some d,.index T x y,ty,ps,af,none⟩ f w K:=by
 have eZ:i.toNat<s.size:=by omega
 have hg:s[i.toNat]? =some s[i.toNat]:=getElem?_pos s i.toNat eZ
 exact SO.value (v:=.int .u8 ((s[i.toNat]).toNat:Int)) (by
  simp[execOp,aM ox,aM oy,hx,hy,Instr.index,asIntOf,gK hu,hi.1,hg]) (h _ hg)
theorem X7 {s t:bA} (ox:bJ n x=true) (oy:bJ n y=true) (hx:ev f x=.string s) (hy:ev f y=.string t) (h:K (cx f d (.bool (decide (s=t)))) w):SO P n ops ⟨some d,.binOp .eql T x y T2,ty,ps,af,none⟩ f w K:=
 SO.value (v:=.bool (decide (s=t))) (by
  have e:(s.toList==t.toList)=decide (s=t):=by
   rw[←beq_toListBytes,amU]
   rcases s with ⟨a⟩
   rcases t with ⟨b⟩
   show (a==b)=true↔_
   simp
  have hg:(eqGuard .eql T x y (.string s) (.string t)).run P w=.ok () w:=by unfold eqGuard;rfl
  simp only[execOp,aM ox,aM oy,hx,hy,Sem.run_bind,hg,Result.andThen_ok]
  simp[binOp,Op.stringOp,e]) h
theorem neS {s t:bA} (ox:bJ n x=true) (oy:bJ n y=true) (hx:ev f x=.string s) (hy:ev f y=.string t) (h:K (cx f d (.bool (!decide (s=t)))) w):SO P n ops ⟨some d,.binOp .neq T x y T2,ty,ps,af,none⟩ f w K:=
 SO.value (v:=.bool (!decide (s=t))) (by
  have e:(s.toList==t.toList)=decide (s=t):=by
   rw[←beq_toListBytes,amU]
   rcases s with ⟨a⟩
   rcases t with ⟨b⟩
   show (a==b)=true↔_
   simp
  have hg:(eqGuard .neq T x y (.string s) (.string t)).run P w=.ok () w:=by unfold eqGuard;rfl
  simp only[execOp,aM ox,aM oy,hx,hy,Sem.run_bind,hg,Result.andThen_ok]
  simp[binOp,Op.stringOp,e]) h
theorem eqB {p q:Bool} (ox:bJ n x=true) (oy:bJ n y=true) (hx:ev f x=.bool p) (hy:ev f y=.bool q) (hu:P.underlying T=some .bool) (h:K (cx f d (.bool (p==q))) w):SO P n ops ⟨some d,.binOp .eql T x y T2,ty,ps,af,none⟩ f w K:=
 SO.value (v:=.bool (p==q)) (by
  have hg:(eqGuard .eql T x y (.bool p) (.bool q)).run P w=.ok () w:=by unfold eqGuard;rfl
  have hr:(binOp .eql T (.bool p) (.bool q)).run P w=.ok (.bool (p==q)) w:=by
   show ((Op.equal T (.bool p) (.bool q) >>=fun b=>pure (Value.bool b)):Sem Value).run P w=_
   have h:(Op.equal T (.bool p) (.bool q)).run P w=.ok (p==q) w:=by
    rw[show Op.equal T (.bool p) (.bool q)=Op.equalIn (9999+1) T (.bool p) (.bool q) from rfl]
    unfold Op.equalIn
    rw[Sem.run_bind,gK hu];rfl
   rw[Sem.run_bind,h];rfl
  simp only[execOp,aM ox,aM oy,hx,hy,Sem.run_bind,hg,hr,Result.andThen_ok,Sem.run_pure]) h
theorem gA {op:BinOp} (ox:bJ n x=true) (oy:bJ n y=true) (hx:ev f x=v) (hy:ev f y=v2) (hg:(eqGuard op T x y v v2).run P w=.ok () w) (hr:(binOp op T v v2).run P w=.ok u w) (h:K (cx f d u) w):
  SO P n ops ⟨some d,.binOp op T x y T2,ty,ps,af,none⟩ f w K:=
 SO.value (v:=u) (by simp only[execOp,aM ox,aM oy,hx,hy,Sem.run_bind,hg,hr,Result.andThen_ok,Sem.run_pure]) h
end
end Go.Ew
namespace Go.Ew
open Go.RowKit
variable {v:Value}
def PW (P:Program) (n:Nat) (ops:Array Oper) (w0:aG) (K:aP→Prop):dw→aP→Prop
 |[],f=>K f
 |o::r,f=>∃v,(∀w,Ext w0 w→SO P n ops o f w (fun f' w'=>f'=dh f o.dst v∧Ext w w'))∧PW P n ops w0 K r (dh f o.dst v)
def F_ (l:dw):Nat→dw→Bool
 |_,[]=>true
 |i,o::r=>(o.looksAt l.toArray).all (fun t=>!(jf l.length l).contains t||(List.range i).any (fun j=>kU o j&&Nat.beq (iT l j) t&&((l[j]?).bind (·.dst)).isSome))&&
   (match o.op with| .select _ _=>false|_=>true)&&F_ l (i+1) r
def PM (n:Nat) (l:dw):Bool:=N2 n l.length l&&F_ l 0 l
section
variable {P:Program} {n:Nat} {ops:Array Oper} {w0:aG} {K:aP→Prop} {o:Oper} {f f2:aP} {w:aG} {v:Value}
theorem Dd {x:Operand} (h:∀t,x=.tmp t→f2 t=f t):(cw n f2).eval x=(cw n f).eval x:=by
 cases x with
 |tmp t=>
  by_cases ht:t<n
  ·simp[Act.eval,cw,ht,h t rfl]
  ·simp[Act.eval,cw,ht]
 |_=>rfl
theorem yb (hg:∀j b,o.guard=some (j,b)→∀t,(ops[j]?).bind (·.dst)=some t→f2 t=f t):Region.wanted o (yielded ops (cw n f2).tmps)=Region.wanted o (yielded ops (cw n f).tmps):=by
 unfold Region.wanted
 cases hgd:o.guard with
 |none=>rfl
 |some gw=>
  obtain⟨j,b⟩:=gw
  simp only[]
  have:yielded ops (cw n f2).tmps j=yielded ops (cw n f).tmps j:=by
   unfold yielded
   cases ht:(ops[j]?).bind (·.dst) with
   |none=>rfl
   |some t=>
    have he:=hg j b hgd t ht
    by_cases hn:t<n
    ·simp[cw,hn,he]
    ·simp[cw,hn]
  rw[this]
theorem FM {d:Nat} {u:Value} (hd:d<n) (h:cw n (cx f d u)=cw n (cx f d v)):u=v:=by
 have h1:(cw n (cx f d u)).tmps[d]? =(cw n (cx f d v)).tmps[d]?:=by rw[h]
 simpa [cw,hd,iP] using h1
theorem yy {l:dw}:∀(r:dw) (i:Nat),F_ l i r=true→∀j o,r[j]? =some o→(∀t∈o.looksAt l.toArray,(jf l.length l).contains t=false∨∃q,q<i+j∧kU o q=true∧iT l q=t∧((l[q]?).bind (·.dst)).isSome=true)∧∀cs b,o.op≠.select cs b
 |[],_,_,j,o,h=>by simp at h
 |x::r,i,h,j,o,hj=>by
  simp only[F_,eW] at h
  cases j with
  |zero=>
   simp only[amR,amO] at hj
   subst hj
   refine⟨fun t ht=>?_,fun cs b e=>?_⟩
   ·have:=amK.1 h.1.1 t ht
    rcases anw.1 this with h1|h1
    ·exact .inl (by simpa using h1)
    ·obtain⟨q,hq,nt⟩:=anc.1 h1
     simp only[eW,Nat.beq_eq] at nt
     exact .inr ⟨q,by have:=amH.1 hq;omega,nt.1.1,by simpa using nt.1.2,nt.2⟩
   ·have:=h.1.2
    rw[e] at this;cases this
  |succ j=>
   simp only[amY] at hj
   have:=yy r (i+1) h.2 j o hj
   refine⟨fun t ht=>?_,this.2⟩
   rcases this.1 t ht with h1|⟨q,h1,h2⟩
   ·exact .inl h1
   ·exact .inr ⟨q,by omega,h2⟩
end
theorem gu {P:Program} {n:Nat} {ops:Array Oper} {f:aP} {w:aG} {K:aP→aG→Prop} {d:Option Nat} {op:Op} {ty:TypeId} {ps:String} {af:Array Edge} {j t:Nat} {want:Bool}
  (hj:xR ops j=some t) (ht:Nat.blt t n=true) (hv:f t=undef)
  (h:K (dh f d undef) w):SO P n ops ⟨d,op,ty,ps,af,some (j,want)⟩ f w K:=by
 intro Q rest hk
 have hy:yielded ops (cw n f).tmps j=none:=by
  simp only[aoG] at ht
  unfold xR at hj
  simp[yielded,hj,cw,ht,hv,undef]
 unfold wpList
 rw[amI (by simp[Region.wanted,hy])]
 rw[qC]
 exact hk _ _ h
section
variable {P:Program} {n:Nat} {ops:Array Oper} {w0:aG} {K:aP→Prop} {f:aP} {rest:dw}
theorem e1 {f:aP} {w:aG}:f=f∧Ext w w:=⟨rfl,Ext.refl w⟩
theorem e2 {f:aP} {d:Nat} {x:Value} {w w':aG} (h:v=x∧Ext w w'):dh f (some d) v=dh f (some d) x∧Ext w w':=⟨by rw[h.1],h.2⟩
theorem kq {o:Oper} (h:∀w,Ext w0 w→SO P n ops o f w (fun f' w'=>f'=dh f o.dst v∧Ext w w')) (r:PW P n ops w0 K rest (dh f o.dst v)):PW P n ops w0 K (o::rest) f:=⟨v,h,r⟩
theorem zq (h:K f):PW P n ops w0 K [] f:=h
variable {d:Option Nat} {op:Op} {ty:TypeId} {ps:String} {af:Array Edge} {j t:Nat} {want b:Bool}
theorem qy (hj:xR ops j=some t) (ht:Nat.blt t n=true) (hv:f t=.bool b) (hb:b=want)
  (h:PW P n ops w0 K (⟨d,op,ty,ps,af,none⟩::rest) f):PW P n ops w0 K (⟨d,op,ty,ps,af,some (j,want)⟩::rest) f:=by
 obtain⟨v,h1,h2⟩:=h
 exact⟨v,fun w hw=>gy hj ht hv hb (h1 w hw),h2⟩
theorem qn (hj:xR ops j=some t) (ht:Nat.blt t n=true) (hv:f t=.bool b) (hb:b=!want)
  (h:PW P n ops w0 K rest (dh f d undef)):PW P n ops w0 K (⟨d,op,ty,ps,af,some (j,want)⟩::rest) f:=
 ⟨undef,fun w hw=>gn hj ht hv hb ⟨rfl,Ext.refl w⟩,h⟩
theorem qu (hj:xR ops j=some t) (ht:Nat.blt t n=true) (hv:f t=undef)
  (h:PW P n ops w0 K rest (dh f d undef)):PW P n ops w0 K (⟨d,op,ty,ps,af,some (j,want)⟩::rest) f:=
 ⟨undef,fun w hw=>gu hj ht hv ⟨rfl,Ext.refl w⟩,h⟩
end
section
variable {P:Program} {n:Nat} {ops:Array Oper} {w0:aG} {K:aP→Prop} {f:aP} {rest:dw} {d:Nat} {ty:TypeId} {ps:String} {af:Array Edge} {M:cb} {x y:Operand} {T e:TypeId} {kk:IntKind} {agg:Bool} {bytes:Nat} {z v:Value} {ad:Addr}
theorem mR {α:Type} [GT α] {xs:List α} {i:Int} (hR:RV M w0 v xs) (ox:bJ n x=true) (oy:bJ n y=true) (hx:ev f x=v) (hy:ev f y=.int kk i) (hi:0≤i∧i<xs.length) (hu:P.underlying T=some (.slice e)) (F:ey P e (GT.size α) agg bytes z)
  (h:∀ad xv,xs[i.toNat]? =some xv→At M w0 ad xv→PW P n ops w0 K rest (cx f d (.pointer (some ad)))):PW P n ops w0 K (⟨some d,.indexAddr T x y,ty,ps,af,none⟩::rest) f:=by
 obtain⟨a,m,c,rfl,h1,h2,h3,h4⟩:=RV.list.1 hR
 rcases h4 with h4|⟨ad,rfl,hs⟩
 ·omega
 ·have eZ:i.toNat<xs.length:=by omega
  refine⟨.pointer (some<|ad.add<|i.toNat*GT.size α),fun w hw=>SO.value (v:=.pointer (some<|ad.add<|i.toNat*GT.size α)) (w':=w) ?_ ⟨J,Ext.refl w⟩,h _ xs[i.toNat] (eR eZ) (hs _ _<|eR eZ)⟩
  have hb:0≤i∧i<(m:Int):=by omega
  simp[execOp,aM ox,aM oy,hx,hy,Instr.indexAt,asIntOf,gK hu,hb,F.jm]
theorem th {α:Type} [GT α] {xs:List α} {B:Nat} {i:Int} (hO:(own B e v xs).holds M w0) (ox:bJ n x=true) (oy:bJ n y=true) (hx:ev f x=v) (hy:ev f y=.int kk i) (hi:0≤i∧i<xs.length) (hu:P.underlying T=some (.slice e)) (F:ey P e (GT.size α) agg bytes z)
  (h:∀ad xv,xs[i.toNat]? =some xv→hQ M w0 ad xv→PW P n ops w0 K rest (cx f d (.pointer (some ad)))):PW P n ops w0 K (⟨some d,.indexAddr T x y,ty,ps,af,none⟩::rest) f:=by
 obtain⟨cs,h1,h2⟩:=hO
 rcases h1.2 with ⟨_,h3⟩|⟨g,cap,cur,rfl,h3,h4,h5,h6,h7,h8⟩
 ·omega
 ·have eZ:i.toNat<xs.length:=by omega
  have lk:(⟨g,0,none⟩:Addr).add (i.toNat*GT.size α)=⟨g,i.toNat*GT.size α,none⟩:=by unfold Addr.add;split<;>simp_all
  refine⟨.pointer (some ⟨g,i.toNat*GT.size α,none⟩),fun w hw=>SO.value (v:=.pointer (some ⟨g,i.toNat*GT.size α,none⟩)) (w':=w) ?_ ⟨J,Ext.refl w⟩,h _ xs[i.toNat] (eR eZ) ?_⟩
  ·have hb:0≤i∧i<(xs.length:Int):=by omega
   simp[execOp,aM ox,aM oy,hx,hy,Instr.indexAt,asIntOf,gK hu,hb,F.jm,lk]
  ·obtain⟨c,yN,Al⟩:=bB.at_ h2 i.toNat xs[i.toNat] (eR eZ)
   refine⟨c,yN,fun j u hu=>?_⟩
   have uR:=h1.cells (g:=g) J (i.toNat*GT.size α+j) u<|Al j u hu
   rwa [←add_add,lk] at uR
theorem rZ {α:Type} [GT α] {xv:α} (hA:hQ M w0 ad xv) (F:ey P T (GT.size α) (GT.agg α) bytes z) (ox:bJ n x=true) (hx:ev f x=.pointer (some ad))
  (h:∀v,RV M w0 v xv→PW P n ops w0 K rest (cx f d v)):PW P n ops w0 K (⟨some d,.load T x,ty,ps,af,none⟩::rest) f:=by
 obtain⟨cs,h1,h2⟩:=hA
 refine⟨sG (GT.agg α) cs,fun w hw=>SO.value (v:=sG (GT.agg α) cs) (w':=w) ?_ ⟨J,Ext.refl w⟩,h _ ⟨cs,h1,J⟩⟩
 have h3:∀j v,cs[j]? =some v→w.cell? (ad.add j)=some v:=fun j v hv=>(World.cell?_of_block<|hw.block _<|pQ<|h2 j v hv).trans (h2 j v hv)
 simp[execOp,aM ox,hx,Instr.loadAt,Instr.sureAddr,rJ F GT.single (GT.len h1) h3]
theorem nP {i:Int} (hA:hQ M w0 ad i) (F:ey P T 1 false bytes z) (ox:bJ n x=true) (hx:ev f x=.pointer (some ad)) (h:aL i→PW P n ops w0 K rest (cx f d (.int .i64 i))):
  PW P n ops w0 K (⟨some d,.load T x,ty,ps,af,none⟩::rest) f:=rZ hA F ox hx fun v hv=>by obtain⟨rfl,hi⟩:=RV.int.1 hv;exact h hi
theorem aeq {u:bt} (hA:hQ M w0 ad u) (F:ey P T 1 false bytes z) (ox:bJ n x=true) (hx:ev f x=.pointer (some ad)) (h:PW P n ops w0 K rest (cx f d (ag u))):
  PW P n ops w0 K (⟨some d,.load T x,ty,ps,af,none⟩::rest) f:=rZ hA F ox hx fun v hv=>by rw[RV.bv.1 hv];exact h
theorem F4 {u:Bool} (hA:hQ M w0 ad u) (F:ey P T 1 false bytes z) (ox:bJ n x=true) (hx:ev f x=.pointer (some ad)) (h:PW P n ops w0 K rest (cx f d (.bool u))):
  PW P n ops w0 K (⟨some d,.load T x,ty,ps,af,none⟩::rest) f:=rZ hA F ox hx fun v hv=>by rw[RV.bool.1 hv];exact h
theorem F3 {α:Type} [GT α] {xs:List α} (hA:hQ M w0 ad xs) (F:ey P T 1 false bytes z) (ox:bJ n x=true) (hx:ev f x=.pointer (some ad))
  (h:∀a c,RV M w0 (.slice a xs.length c) xs→PW P n ops w0 K rest (cx f d (.slice a xs.length c))):PW P n ops w0 K (⟨some d,.load T x,ty,ps,af,none⟩::rest) f:=
 rZ hA F ox hx fun v hv=>by obtain⟨a,c,rfl,hr⟩:=(RV.list.1 hv).explicit;exact h a c hr
end
end Go.Ew
namespace Go.Ew
open Go.RowKit
abbrev UT:=List (Nat×(Value→aG→Prop))
def Lv (ag:UT) (t:Nat):Bool:=ag.any (fun p=>Nat.beq p.1 t)
section
variable {P:Program} {n:Nat} {ops:Array Oper} {w0:aG} {o:Oper} {f f2:aP} {w:aG} {v:Value} {R:Value→aG→Prop}
theorem SO.rY (h:SO P n ops o f w (fun f' w'=>∃v,f'=dh f o.dst v∧Ext w w'∧R v w')) (hs:∀cs b,o.op≠.select cs b) (hu:∀t∈o.looksAt ops,f2 t=f t) (hd:∀d,o.dst=some d→d<n):
  SO P n ops o f2 w (fun f' w'=>∃v,f'=dh f2 o.dst v∧Ext w w'∧R v w'):=by
 intro Q rest hk
 have h1:=h (fun e a w'=>match e with| .normal=>∃v,a=cw n (dh f o.dst v)∧Ext w w'∧R v w'|_=>False) []<|fun f' w' hK=>wpList_nil<|by obtain⟨v,h1,h2⟩:=hK;exact⟨v,by rw[h1],h2⟩
 have he:execOp (cw n f2).eval o=execOp (cw n f).eval o:=execOp_congr o hs fun x hx=>Dd fun t ht=>hu t (by
  subst ht
  exact anV _ (am4.2 ⟨.tmp t,by simpa using hx,rfl⟩))
 have hw:Region.wanted o (yielded ops (cw n f2).tmps)=Region.wanted o (yielded ops (cw n f).tmps):=yb fun j b hg t ht=>hu t (by
  unfold Oper.looksAt
  rw[hg]
  refine anP _ ?_
  simp[ht])
 have key:∀u w',(∃v,(cw n f).put o.dst u=cw n (dh f o.dst v)∧Ext w w'∧R v w')→wpList P ops Q rest ((cw n f2).put o.dst u) w':=by
  rintro u w' ⟨v,hq,h2,h3⟩
  rw[qC] at hq ⊢
  cases tA:o.dst with
  |none=>exact hk _ _ ⟨v,by rw[tA];rfl,h2,h3⟩
  |some d=>
   rw[tA] at hq
   have Sd:u=v:=FM (hd d tA) hq
   subst Sd
   exact hk _ _ ⟨u,by rw[tA],h2,h3⟩
 unfold wpList at h1 ⊢
 rw[hw]
 split at h1
 ·rename_i CF
  rw[amF CF]
  refine .inl ?_
  rcases h1 with h2|⟨_,a0,w1,hq⟩
  ·unfold Oper.wp at h2 ⊢
   rw[he]
   generalize (execOp (cw n f).eval o).run P w=r at *
   cases r with
   |ok x w'=>
    cases x with
    |enter g args=>
     simp only[Oper.upon] at h2 ⊢
     refine Calls.mono h2 ?_
     intro e mB yL
     cases e with
     |returned u=>exact key u mB yL
     |panicked c=>exact yL.elim
     |outgrown=>obtain⟨a0,w1,hq⟩:=yL;exact hq.elim
    |row r args=>
     simp only[Oper.upon] at h2 ⊢
     exact Rows.mono h2 fun u mB yL=>key u mB yL
    |defer d=>
     simp only[Oper.upon] at h2 ⊢
     obtain⟨v,h3, -⟩:=(show ∃v,_∧_ from h2)
     exfalso
     have h4:=amz (fun a=>a.defers.length) h3
     cases tA:o.dst<;>rw[tA] at h4<;>simp[Act.put,cw] at h4
    |value u=>
     simp only[Oper.upon] at h2 ⊢
     exact key u w' h2
    |skip=>
     simp only[Oper.upon] at h2 ⊢
     exact key undef w' h2
    |_=>exact(show False from h2).elim
   |halt x w'=>cases x<;>simp only[Oper.upon] at h2 ⊢<;>exact h2.elim
  ·exact hq.elim
 ·rename_i CF
  rw[amI CF]
  exact key undef w h1
def Agr (L:List Nat) (ag:UT) (f g:aP) (w:aG):Prop:=
 ∀t∈L,(Lv ag t=false→g t=f t)∧(∀(j:Nat) (Φ:Value→aG→Prop),ag[j]? =some (t,Φ)→Φ (g t) w)
def GO (P:Program) (n:Nat) (ops:Array Oper) (w0:aG) (o:Oper) (ag:UT) (f:aP) (R:Value→aG→Prop):Prop:=
 ∀w g,Ext w0 w→Agr (o.looksAt ops) ag f g w→SO P n ops o g w (fun f' w'=>∃v,f'=dh g o.dst v∧Ext w w'∧R v w')
def PX (P:Program) (n:Nat) (ops:Array Oper) (w0:aG) (K:UT→aP→Prop):dw→UT→aP→Prop
 |[],ag,f=>K ag f
 |o::r,ag,f=>(∃X,GO P n ops w0 o ag f (eV X)∧PX P n ops w0 K r ag (dh f o.dst X))∨
   (∃d Φ,o.dst=some d∧(∀v w w',Ext w w'→Φ v w→Φ v w')∧GO P n ops w0 o ag f Φ∧PX P n ops w0 K r ((d,Φ)::ag) f)
abbrev EN:=Option Value×(Value→aG→Prop)
def C3:List (Oper×EN)→aP→aP
 |[],f=>f
 |(o,(some X,_))::r,f=>C3 r (dh f o.dst X)
 |(_,(none,_))::r,f=>C3 r f
def xV:List (Oper×EN)→UT→UT
 |[],ag=>ag
 |(_,(some _,_))::r,ag=>xV r ag
 |(o,(none,Φ))::r,ag=>xV r ((o.dst.getD 0,Φ)::ag)
theorem PX.values {K:UT→aP→Prop}:∀(l:dw) (ag:UT) (f:aP),PX P n ops w0 K l ag f→∃es:List EN,es.length=l.length∧(∀e∈es,∀X,e.1=some X→e.2=eV X)∧(∀e∈es,∀v w w',Ext w w'→e.2 v w→e.2 v w')∧
  (∀i o e,l[i]? =some o→es[i]? =some e→GO P n ops w0 o (xV (List.zip (l.take i) es) ag) (C3 (List.zip (l.take i) es) f) e.2)∧K (xV (List.zip l es) ag) (C3 (List.zip l es) f)
 |[],ag,f,h=>⟨[],rfl,by simp,by simp,fun i o e hi=>by simp at hi,h⟩
 |o::r,ag,f,.inl ⟨X,h1,h2⟩=>by
  obtain⟨es,hl,hc,hm,hs,hK⟩:=PX.values r ag _ h2
  refine⟨(some X,eV X)::es,by simp[hl],?_,?_,fun i o' e hi he=>?_,hK⟩
  ·intro e he Y hY
   rcases amV.1 he with rfl|he
   ·cases hY;rfl
   ·exact hc e he Y hY
  ·intro e he
   rcases amV.1 he with rfl|he
   ·exact fun _ _ _ _ h=>h
   ·exact hm e he
  ·cases i with
   |zero=>
    simp only[amR,amO] at hi he
    subst hi;subst he
    exact h1
   |succ i=>
    simp only[amY] at hi he
    exact hs i o' e hi he
 |o::r,ag,f,.inr ⟨d,Φ,hd,Sp,h1,h2⟩=>by
  obtain⟨es,hl,hc,hm,hs,hK⟩:=PX.values r _ f h2
  have e0:∀l',xV ((o,((none,Φ):EN))::l') ag=xV l' ((d,Φ)::ag):=fun l'=>by show xV l' ((o.dst.getD 0,Φ)::ag)=_;rw[hd];rfl
  refine⟨(none,Φ)::es,by simp[hl],?_,?_,fun i o' e hi he=>?_,?_⟩
  ·intro e he Y hY
   rcases amV.1 he with rfl|he
   ·cases hY
   ·exact hc e he Y hY
  ·intro e he
   rcases amV.1 he with rfl|he
   ·exact Sp
   ·exact hm e he
  ·cases i with
   |zero=>
    simp only[amR,amO] at hi he
    subst hi;subst he
    exact h1
   |succ i=>
    simp only[amY] at hi he
    have:=hs i o' e hi he
    show GO P n ops w0 o' (xV ((o,((none,Φ):EN))::List.zip (r.take i) es) ag) (C3 (List.zip (r.take i) es) f) e.2
    rw[e0];exact this
  ·show K (xV ((o,((none,Φ):EN))::List.zip r es) ag) (C3 (List.zip r es) f)
   rw[e0];exact hK
theorem DV:∀(l:dw) (es:List EN) (f:aP) (t:Nat),(∀o∈l,o.dst≠some t)→C3 (List.zip l es) f t=f t
 |[],es,f,t,h=>rfl
 |o::l,[],f,t,h=>rfl
 |o::l,(some X,Φ)::es,f,t,h=>by
  show C3 (List.zip l es) (dh f o.dst X) t=f t
  rw[DV l es _ t (fun o' ho=>h o' (am6 _ ho))]
  have:=h o ano
  cases hd:o.dst with
  |none=>rfl
  |some d=>exact jA f X (fun e=>this (by rw[hd,e]))
 |o::l,(none,Φ)::es,f,t,h=>DV l es f t (fun o' ho=>h o' (am6 _ ho))
theorem Mb:∀(l:dw) (es:List EN) (f:aP) (i:Nat) (o:Oper) (d:Nat) (X:Value) (Φ:Value→aG→Prop),(l.filterMap (·.dst)).Nodup→l[i]? =some o→es[i]? =some (some X,Φ)→o.dst=some d→C3 (List.zip l es) f d=X
 |[],es,f,i,o,d,X,Φ,hn,hi,he,hd=>by simp at hi
 |x::l,[],f,i,o,d,X,Φ,hn,hi,he,hd=>by simp at he
 |x::l,e::es,f,i,o,d,X,Φ,hn,hi,he,hd=>by
  cases i with
  |zero=>
   simp only[amR,amO] at hi he
   subst hi;subst he
   show C3 (List.zip l es) (dh f x.dst X) d=X
   rw[DV l es _ d (fun o' ho e=>by
    rw[anq,hd] at hn
    exact(anG.1 hn).1 (am4.2 ⟨o',ho,e⟩)),hd]
   exact iP f d X
  |succ i=>
   simp only[amY] at hi he
   have LI:(l.filterMap (·.dst)).Nodup:=by
    rw[anq] at hn
    split at hn
    ·exact hn
    ·exact(anG.1 hn).2
   obtain⟨a,b⟩:=e
   cases a with
   |none=>exact Mb l es f i o d X Φ LI hi he hd
   |some Y=>exact Mb l es _ i o d X Φ LI hi he hd
theorem HM:∀(l:dw) (es:List EN) (ag:UT) (p:Nat×(Value→aG→Prop)),p∈xV (List.zip l es) ag→p∈ag∨∃(i:Nat) (o:Oper),l[i]? =some o∧es[i]? =some (none,p.2)∧o.dst.getD 0=p.1
 |[],es,ag,p,h=>.inl h
 |o::l,[],ag,p,h=>.inl h
 |o::l,(some X,Φ)::es,ag,p,h=>by
  rcases HM l es ag p h with h1|⟨i,o',h1,h2,h3⟩
  ·exact .inl h1
  ·exact .inr ⟨i+1,o',h1,h2,h3⟩
 |o::l,(none,Φ)::es,ag,p,h=>by
  rcases HM l es _ p h with h1|⟨i,o',h1,h2,h3⟩
  ·rcases amV.1 h1 with rfl|h1
   ·exact .inr ⟨0,o,J,J,J⟩
   ·exact .inl h1
  ·exact .inr ⟨i+1,o',h1,h2,h3⟩
theorem ZI:∀(l:dw) (es:List EN) (ag:UT) (i:Nat) (o:Oper) (Φ:Value→aG→Prop),l[i]? =some o→es[i]? =some (none,Φ)→(o.dst.getD 0,Φ)∈xV (List.zip l es) ag∧Lv (xV (List.zip l es) ag) (o.dst.getD 0)=true:=by
 have sJ:∀(ag:UT) (t:Nat) (Φ:Value→aG→Prop),(t,Φ)∈ag→Lv ag t=true:=fun ag t Φ h=>anc.2 ⟨_,h,by simp⟩
 have Lr:∀(l:dw) (es:List EN) (ag:UT) (p:Nat×(Value→aG→Prop)),p∈ag→p∈xV (List.zip l es) ag:=by
  intro l
  induction l with
  |nil=>intro es ag p h;exact h
  |cons o l ih=>
   intro es ag p h
   cases es with
   |nil=>exact h
   |cons e es=>
    obtain⟨a,Φ⟩:=e
    cases a with
    |none=>exact ih es _ p (am6 _ h)
    |some X=>exact ih es ag p h
 intro l
 induction l with
 |nil=>intro es ag i o Φ hi;simp at hi
 |cons x l ih=>
  intro es ag i o Φ hi he
  cases es with
  |nil=>simp at he
  |cons e es=>
   cases i with
   |zero=>
    simp only[amR,amO] at hi he
    subst hi;subst he
    have:=Lr l es ((x.dst.getD 0,Φ)::ag) (x.dst.getD 0,Φ) ano
    exact⟨this,sJ _ _ _ this⟩
   |succ i=>
    simp only[amY] at hi he
    obtain⟨a,Ψ⟩:=e
    cases a with
    |none=>exact ih es _ i o Φ hi he
    |some X=>exact ih es ag i o Φ hi he
end
def KX (n:Nat) (Q:Exit→Act→aG→Prop) (w0:aG) (ag:UT) (f:aP):Prop:=
 ∀(w':aG) (g:aP),Ext w0 w'→(∀t,Lv ag t=false→g t=f t)→(∀(j t:Nat) (Φ:Value→aG→Prop),ag[j]? =some (t,Φ)→Φ (g t) w')→Q .normal (cw n g) w'
section
variable {P:Program} {n:Nat}
theorem Tj {id:Nat} {l:dw} {Q:Exit→Act→aG→Prop} {f:aP} {w:aG} (hm:P.follows .mixedOrders=true) (rN:PM n l=true)
  (h:PX P n l.toArray w (KX n Q w) l [] f):WC P n (.region id l.toArray true) Q f w:=by
 obtain⟨es,hl,hc,Sp,hs,hK⟩:=PX.values l [] f h
 simp only[PM,eW] at rN
 obtain⟨HC,Qb⟩:=rN
 have ab0:=HC
 simp only[N2,eW] at HC
 obtain⟨⟨⟨⟨⟨hE,hD⟩,hN⟩,hn⟩,hT⟩,Ag⟩:=HC
 have lL:(l.filterMap (·.dst)).Nodup:=by
  have:=oO _ hN
  unfold jf at this
  rwa [anA] at this
 have eZ:∀(i:Nat) (o:Oper) (d:Nat),l[i]? =some o→o.dst=some d→d<n:=by
  intro i o d hi hd
  have:=amK.1 hn d<|qG hi (dU.1 hi).1 hd
  simpa using this
 have tA:∀(i:Nat) (o:Oper),l[i]? =some o→∃d,o.dst=some d:=by
  intro i o hi
  rw[anA] at hD
  exact am0.1<|amK.1 hD o<|dN hi
 have CI:∀(i:Nat) (o:Oper) (d:Nat),l[i]? =some o→o.dst=some d→iT l i=d:=by
  intro i o d hi hd
  unfold iT
  rw[hi];show (o.dst).getD 0=d
  rw[hd];rfl
 have BK:∀(i:Nat),i<l.length→∃e,es[i]? =some e:=fun i hi=>⟨_,eR aj⟩
 have P_:∀(i:Nat) (e:EN) (v:Value) (w':aG),es[i]? =some e→(zT (es.map (·.2)) i v w'↔e.2 v w'):=by
  intro i e v w' he
  unfold zT
  rw[im,amS,he]
  exact Iff.rfl
 have A':∀(i j:Nat) (o o':Oper),l[i]? =some o→l[j]? =some o'→o.dst.getD 0=o'.dst.getD 0→i=j:=by
  intro i j o o' hi hj he
  obtain⟨d,hd⟩:=tA i o hi
  obtain⟨d',nw⟩:=tA j o' hj
  exact ic (·.dst) l lL i j o o' hi hj (by show o.dst.isSome=true;rw[hd];rfl)<|by show o.dst=o'.dst;rw[hd,nw] at he ⊢;rw[show d=d' from he]
 
 have Xw:∀(m:Nat),m≤l.length→∀(g:aP) (w':aG) (t:Nat),
   ((jf l.length l).contains t=false→g t=f t)→(∀(q:Nat) (o:Oper) (e:EN),q<m→l[q]? =some o→es[q]? =some e→o.dst=some t→e.2 (g t) w')→
   (∀(q:Nat) (o:Oper),l[q]? =some o→o.dst=some t→q<m)→
   (Lv (xV (List.zip (l.take m) es) []) t=false→g t=C3 (List.zip (l.take m) es) f t)∧∀(j:Nat) (Φ:Value→aG→Prop),(xV (List.zip (l.take m) es) [])[j]? =some (t,Φ)→Φ (g t) w':=by
  intro m hm g w' t h1 h2 h3
  constructor
  ·intro hu
   by_cases ht:(jf l.length l).contains t=true
   ·have Sq:t∈l.filterMap (·.dst):=by
     have:=anj.1 ht
     unfold jf at this
     rwa [anA] at this
    obtain⟨o,ho,Af⟩:=am4.1 Sq
    obtain⟨q,hq⟩:=amT.1 ho
    have iX:=h3 q o hq Af
    obtain⟨e,he⟩:=BK q (dU.1 hq).1
    have Xm:(l.take m)[q]? =some o:=by rw[am5,amF iX];exact hq
    obtain⟨a,Φ⟩:=e
    cases a with
    |none=>
     have:=(ZI (l.take m) es [] q o Φ Xm he).2
     rw[Af] at this
     rw[show (some t).getD 0=t from rfl] at this
     rw[hu] at this;cases this
    |some X=>
     have hv:=h2 q o _ iX hq he Af
     rw[hc _ (dN he) X rfl] at hv
     rw[Mb (l.take m) es f q o t X Φ (lL.sublist ((List.take_sublist m l).filterMap _)) Xm he Af]
     exact hv
   ·rw[h1 (by simpa using ht),DV]
    intro o' LG he
    obtain⟨j,hj⟩:=amT.1 (anU LG)
    exact ht<|anj.2<|qG hj (dU.1 hj).1 he
  ·intro j Φ hj
   rcases HM (l.take m) es [] (t,Φ) (dN hj) with h4|⟨q,o,hq,he,hd⟩
   ·cases h4
   ·have iX:q<m:=by have:=(dU.1 hq).1;rw[iu] at this;omega
    rw[am5,amF iX] at hq
    obtain⟨d,LS⟩:=tA q o hq
    have hdt:d=t:=by have h9:o.dst.getD 0=t:=hd;rw[LS] at h9;exact h9
    rw[hdt] at LS
    exact h2 q o _ iX hq he LS
 have hof:∀(r:dw) (i:Nat),(∀j o,r[j]? =some o→DStep P n l l.length (es.map (·.2)) f w (i+j) o)→mi P n l l.length (es.map (·.2)) f w i r:=by
  intro r
  induction r with
  |nil=>intro i _;trivial
  |cons x r ih=>
   intro i hx
   refine⟨fun _=>hx 0 x rfl,ih (i+1) fun j o hj=>?_⟩
   have:=hx (j+1) o<|by simpa using hj
   rwa [show i+(j+1)=i+1+j from by omega] at this
 refine dr l.length (es.map (·.2)) hm ab0 (hof l 0 fun i o hi=>?_) fun g w' hg hx hp=>?_
 ·rw[ann]
  have jK:=(dU.1 hi).1
  obtain⟨e,he⟩:=BK i jK
  refine⟨fun g w' hg hx hp=>?_,fun v w1 w2 hx h=>by rw[P_ i e v _ he] at h ⊢;exact Sp e (dN he) v w1 w2 hx h⟩
  refine(hs i o e hi he w' g hx fun t ht=>?_).mono ?_
  ·refine Xw i (Nat.le_of_lt jK) g w' t (hg t) (fun q o' e' hq tU heq Af=>?_)<|fun q o' tU Af=>?_
   ·rcases (yy l 0 Qb i o hi).1 t ht with h1|⟨q',hq',vh,Xr,hqd⟩
    ·have:=qG tU (dU.1 tU).1 Af
     rw[anj.2 this] at h1;cases h1
    ·have IM:q'<l.length:=by omega
     obtain⟨d',nw⟩:=tA q' l[q'] (eR IM)
     have:=CI q' _ d' (eR IM) nw
     have hqq:q'=q:=A' q' q _ _ (eR IM) tU<|by rw[nw,Af];show d'=t;rw[←this,Xr]
     subst hqq
     have h5:=hp q' vh<|by simpa using IM
     rw[Xr] at h5
     exact(P_ q' e' _ w' heq).1 h5
   ·rcases (yy l 0 Qb i o hi).1 t ht with h1|⟨q',hq',vh,Xr,hqd⟩
    ·have:=qG tU (dU.1 tU).1 Af
     rw[anj.2 this] at h1;cases h1
    ·have IM:q'<l.length:=by omega
     obtain⟨d',nw⟩:=tA q' l[q'] (eR IM)
     have:=CI q' _ d' (eR IM) nw
     have hqq:q'=q:=A' q' q _ _ (eR IM) tU<|by rw[nw,Af];show d'=t;rw[←this,Xr]
     omega
  ·rintro Et mB ⟨v,rfl,jb,hv⟩
   exact⟨v,J,jb,(P_ i e _ _ he).2 hv⟩
 ·rw[aob (amD _)]
  refine z ?_
  have oR:∀t,_:=fun t=>Xw l.length (amD _) g w' t (hg t) (fun q o e hq tU heq Af=>by
   have h5:=hp q<|by simpa using hq
   rw[CI q o t tU Af] at h5
   exact(P_ q e _ w' heq).1 h5) (fun q o tU Af=>(dU.1 tU).1)
  rw[anA] at oR
  exact hK w' g hx (fun t ht=>(oR t).1 ht)<|fun j t Φ hj=>(oR t).2 j Φ hj
end
section
variable {P:Program} {n:Nat} {ops:Array Oper} {w0:aG} {K:UT→aP→Prop} {f:aP} {rest:dw} {ag:UT} {o:Oper} {v X:Value} {Φ Ψ:Value→aG→Prop} {d d2:Nat}
def JM (ops:Array Oper) (o:Oper) (ag:UT):Bool:=(o.looksAt ops).all (fun t=>!Lv ag t)
def Qv (ops:Array Oper) (o:Oper) (ag:UT) (d:Nat):Bool:=(o.looksAt ops).all (fun t=>Nat.beq t d||!Lv ag t)
def lg (n:Nat) (o:Oper):Bool:=(match o.op with| .select _ _=>false|_=>true)&&(match o.dst with|some d=>Nat.blt d n|none=>true)
theorem gC (h:lg n o=true):(∀cs b,o.op≠.select cs b)∧∀d,o.dst=some d→d<n:=by
 unfold lg at h
 rw[eW] at h
 refine⟨fun cs b e=>(by rw[e] at h;have h1:=h.1;cases h1),fun d hd=>?_⟩
 have:=h.2
 rw[hd] at this
 simpa using this
theorem L6 (h:JM ops o ag=true) {g:aP} {w:aG} (ha:Agr (o.looksAt ops) ag f g w):∀t∈o.looksAt ops,g t=f t:=by
 intro t ht
 have:=amK.1 h t ht
 exact(ha t ht).1 (by simpa using this)
theorem xk (hf:(lg n o&&JM ops o ag)=true) (h:∀w,Ext w0 w→SO P n ops o f w (fun f' w'=>f'=dh f o.dst X∧Ext w w')) (r:PX P n ops w0 K rest ag (dh f o.dst X)):PX P n ops w0 K (o::rest) ag f:=by
 rw[eW] at hf
 refine .inl ⟨X,fun w g hx ha=>?_,r⟩
 exact SO.rY ((h w hx).mono fun f' w' hq=>⟨X,hq.1,hq.2,J⟩) (gC hf.1).1 (L6 hf.2 ha) (gC hf.1).2
theorem xu (Φ:Value→aG→Prop) (hd:o.dst=some d) (hm:∀v w w',Ext w w'→Φ v w→Φ v w') (hf:(lg n o&&JM ops o ag)=true) (h:∀w,Ext w0 w→SO P n ops o f w (fun f' w'=>∃v,f'=dh f o.dst v∧Ext w w'∧Φ v w')) (r:PX P n ops w0 K rest ((d,Φ)::ag) f):PX P n ops w0 K (o::rest) ag f:=by
 rw[eW] at hf
 exact .inr ⟨d,Φ,hd,hm,fun w g hx ha=>SO.rY (h w hx) (gC hf.1).1 (L6 hf.2 ha) (gC hf.1).2,r⟩
theorem NZ {j:Nat} (hU:ag[j]? =some (d,Ψ)) (h:Qv ops o ag d=true) {g:aP} {w:aG} (ha:Agr (o.looksAt ops) ag f g w) (hl:(o.looksAt ops).contains d=true):Ψ (g d) w∧∀t∈o.looksAt ops,g t=cx f d (g d) t:=by
 refine⟨(ha d<|anj.1 hl).2 j Ψ hU,fun t ht=>?_⟩
 by_cases e:t=d
 ·subst e;exact(iP _ _ _).symm
 ·rw[jA _ _ e]
  have:=amK.1 h t ht
  rcases anw.1 this with h1|h1
  ·exact absurd (anO h1) e
  ·exact(ha t ht).1 (by simpa using h1)
theorem xk1 (j:Nat) (hU:ag[j]? =some (d,Ψ)) (hf:(lg n o&&Qv ops o ag d&&(o.looksAt ops).contains d)=true) (h:∀w v,Ext w0 w→Ψ v w→SO P n ops o (cx f d v) w (fun f' w'=>f'=dh (cx f d v) o.dst X∧Ext w w')) (r:PX P n ops w0 K rest ag (dh f o.dst X)):PX P n ops w0 K (o::rest) ag f:=by
 rw[eW,eW] at hf
 refine .inl ⟨X,fun w g hx ha=>?_,r⟩
 obtain⟨h1,h2⟩:=NZ hU hf.1.2 ha hf.2
 exact SO.rY ((h w (g d) hx h1).mono fun f' w' hq=>⟨X,hq.1,hq.2,J⟩) (gC hf.1.1).1 h2 (gC hf.1.1).2
theorem xu1 (Φ:Value→aG→Prop) (j:Nat) (hU:ag[j]? =some (d,Ψ)) (hd:o.dst=some d2) (hm:∀v w w',Ext w w'→Φ v w→Φ v w') (hf:(lg n o&&Qv ops o ag d&&(o.looksAt ops).contains d)=true) (h:∀w v,Ext w0 w→Ψ v w→SO P n ops o (cx f d v) w (fun f' w'=>∃u,f'=dh (cx f d v) o.dst u∧Ext w w'∧Φ u w')) (r:PX P n ops w0 K rest ((d2,Φ)::ag) f):PX P n ops w0 K (o::rest) ag f:=by
 rw[eW,eW] at hf
 refine .inr ⟨d2,Φ,hd,hm,fun w g hx ha=>?_,r⟩
 obtain⟨h1,h2⟩:=NZ hU hf.1.2 ha hf.2
 exact SO.rY (h w (g d) hx h1) (gC hf.1.1).1 h2 (gC hf.1.1).2
theorem zx (h:K ag f):PX P n ops w0 K [] ag f:=h
theorem xq (hf:(lg n o&&JM ops o ag)=true) (h:PW P n ops w0 (fun f'=>PX P n ops w0 K rest ag f') [o] f):PX P n ops w0 K (o::rest) ag f:=by
 obtain⟨X,h1,h2⟩:=h
 exact xk hf h1 h2
end
section
variable {P:Program} {n:Nat} {ops:Array Oper} {w0:aG}
theorem PW.toX {K:aP→Prop}:∀(l:dw) (f:aP),(∀o∈l,(∀cs b,o.op≠.select cs b)∧∀d,o.dst=some d→d<n)→PW P n ops w0 K l f→PX P n ops w0 (fun ag f=>ag=[]∧K f) l [] f
 |[],f,_,h=>⟨rfl,h⟩
 |o::r,f,ho,⟨X,h1,h2⟩=>.inl ⟨X,fun w g hx ha=>SO.rY ((h1 w hx).mono fun f' w' hq=>⟨X,hq.1,hq.2,rfl⟩) (ho o ano).1 (fun t ht=>(ha t ht).1 rfl) (ho o ano).2,PW.toX r _ (fun o' LG=>ho o' (am6 _ LG)) h2⟩
theorem PX.mono {K K':UT→aP→Prop} (hK:∀ag f,K ag f→K' ag f):∀(l:dw) (ag:UT) (f:aP),PX P n ops w0 K l ag f→PX P n ops w0 K' l ag f
 |[],ag,f,h=>hK ag f h
 |o::r,ag,f,.inl ⟨X,h1,h2⟩=>.inl ⟨X,h1,PX.mono hK r ag _ h2⟩
 |o::r,ag,f,.inr ⟨d,Φ,h0,hm,h1,h2⟩=>.inr ⟨d,Φ,h0,hm,h1,PX.mono hK r _ f h2⟩
theorem yT {id:Nat} {l:dw} {Q:Exit→Act→aG→Prop} {f:aP} {w:aG} (hm:P.follows .mixedOrders=true) (rN:PM n l=true)
  (h:PW P n l.toArray w (fun f'=>∀w',Ext w w'→Q .normal (cw n f') w') l f):WC P n (.region id l.toArray true) Q f w:=by
 have ab1:=rN
 simp only[PM,eW] at ab1
 obtain⟨HC,Qb⟩:=ab1
 simp only[N2,eW] at HC
 obtain⟨⟨⟨⟨⟨hE,hD⟩,hN⟩,hn⟩,hT⟩,Ag⟩:=HC
 refine Tj hm rN<|PX.mono ?_ l [] f<|PW.toX l f ?_ h
 ·rintro ag g ⟨rfl,hK⟩ w' g' hx hg _
  have e:g'=g:=by funext t;exact hg t rfl
  rw[e];exact hK w' hx
 ·intro o ho
  obtain⟨i,hi⟩:=amT.1 ho
  refine⟨(yy l 0 Qb i o hi).2,fun d hd=>?_⟩
  have:=amK.1 hn d<|qG hi (dU.1 hi).1 hd
  simpa using this
end
end Go.Ew
namespace Go.Ew
open Go.RowKit
section
variable {P:Program} {n:Nat} {l:dw}
theorem Yv {Q:Exit→Act→aG→Prop} (ab:(Nat→Bool)→aP→aG→Prop) (hE:ri 0 l=true)
  (DI:∀(L:Nat→Bool) (f:aP) (w:aG) (i:Nat) (o:Oper),l[i]? =some o→L i=false→(∀j,L j=true→j<l.length)→(∀j,kU o j=true→L j=true)→ab L f w→SO P n l.toArray o f w (ab (fun k=>L k||decide (k=i))))
  (vV:∀(f:aP) (w:aG),ab (fun k=>decide (k<l.length)) f w→Q .normal (cw n f) w):
  ∀(d:Nat) (listed:Array Bool) (f:aP) (w:aG),listed.size=l.length→(listed.toList.filter (fun b=>!b)).length=d→ab (fun k=>listed.getD k false) f w→wpAny P .any l.toArray Q d listed (cw n f) w:=by
 intro d
 induction d with
 |zero=>
  intro listed f w oQ hd hJ
  have oR:∀i,i<l.length→listed.getD i false=true:=by
   intro i hi
   have h0:=an3 hd
   rw[anJ] at h0
   have pJ:i<listed.size:=by omega
   have:=h0 listed[i]<|by simp
   simp at this
   simp[Array.getD,pJ,this]
  refine⟨?_,?_⟩
  ·apply List.eq_nil_iff_forall_not_mem.2
   intro i hi
   obtain⟨h0,o,ho, -⟩:=mem_ready.1 hi
   have qj:l[i]? =some o:=by simpa using ho
   have jK:i<l.length:=(dU.1 qj).1
   rw[show listed.getD i true=listed.getD i false from qU aj _ _,oR i jK] at h0
   cases h0
  ·refine vV f w ?_
   have:(fun k=>decide (k<l.length))=fun k=>listed.getD k false:=by
    funext k
    by_cases hk:k<l.length
    ·rw[oR k hk];exact amC hk
    ·rw[amJ hk];simp[Array.getD];omega
   rw[this];exact hJ
 |succ d ih=>
  intro listed f w oQ hd hJ
  obtain⟨i0,Ox⟩:∃i,i<l.length∧listed.getD i false=false:=by
   apply anl
   intro Gv
   have:listed.toList.filter (fun b=>!b)=[]:=by
    rw[anJ]
    intro b hb
    obtain⟨i,hi,rfl⟩:=aox.1 hb
    simp only[ang] at hi
    cases wq:listed.toList[i] with
    |true=>simp
    |false=>
     exfalso
     refine Gv ⟨i,by omega,?_⟩
     simp only[apt] at wq
     simp[Array.getD,hi,wq]
   rw[this] at hd;cases hd
  obtain⟨m,Sr,Sq⟩:=exists_least (p:=fun i=>i<l.length∧listed.getD i false=false) ⟨i0,Ox⟩
  have tV:m<l.length:=by omega
  have jc:l[m]? =some l[m]:=eR tV
  have BG:m∈Region.ready .any l.toArray listed:=by
   rw[mem_ready]
   refine⟨?_,l[m],by simp,fun e he hb=>?_⟩
   ·rw[show listed.getD m true=listed.getD m false from qU aj _ _];exact Sr.2
   ·have eZ:=wI l 0 hE m l[m] jc e he hb
    cases wq:listed.getD e.on false with
    |true=>rfl
    |false=>
     have:=Sq e.on ⟨by omega,wq⟩
     omega
  refine⟨fun h0=>(by rw[h0] at BG;cases BG),fun i hi=>?_⟩
  obtain⟨h0,o,ho,Ak⟩:=mem_ready.1 hi
  have qj:l[i]? =some o:=by simpa using ho
  have jK:i<l.length:=(dU.1 qj).1
  have L0:listed.getD i false=false:=by
   rw[show listed.getD i false=listed.getD i true from qU aj _ _];exact h0
  have aeH:∀j,kU o j=true→listed.getD j false=true:=by
   intro j hj
   obtain⟨e,he,hb,vh⟩:=wS.1 hj
   subst vh
   exact Ak e he hb
  have eZ:∀j,listed.getD j false=true→j<l.length:=by
   intro j hj
   refine anl fun hn=>?_
   rw[show listed.getD j false=false from by simp[Array.getD];omega] at hj
   cases hj
  have SA:((listed.setIfInBounds i true).toList.filter (fun b=>!b)).length=d:=by
   have LN:i<listed.size:=by omega
   have uC:listed.toList[i]? =some false:=by
    rw[eR (by simpa using LN)]
    simp only[Array.getD,LN,dif_pos] at L0
    simpa [aoo] using L0
   have key:∀(L:List Bool) (i:Nat),L[i]? =some false→((L.set i true).filter (fun b=>!b)).length+1=(L.filter (fun b=>!b)).length:=by
    intro L
    induction L with
    |nil=>intro i h;simp at h
    |cons b L ihL=>
     intro i h
     cases i with
     |zero=>simp at h;subst h;simp
     |succ i=>
      simp at h
      have:=ihL i h
      cases b<;>simp at this ⊢<;>omega
   have:=key listed.toList i uC
   rw[Array.toList_setIfInBounds]
   omega
  refine FQ ho (DI (fun k=>listed.getD k false) f w i o qj L0 eZ aeH hJ) fun f' w' hK=>?_
  refine ih _ _ _ (by simp[oQ]) SA ?_
  have:(fun k=>(listed.setIfInBounds i true).getD k false)=fun k=>listed.getD k false||decide (k=i):=by
   funext k
   by_cases hk:k=i
   ·subst hk
    have LN:k<listed.size:=by omega
    simp[Array.getD,LN]
   ·rw[amJ hk,an7]
    exact getD_set_ne false fun e=>hk e.symm
  rw[this];exact hK
theorem drj {id:Nat} {Q:Exit→Act→aG→Prop} {f:aP} {w:aG} (ab:(Nat→Bool)→aP→aG→Prop) (hm:P.follows .mixedOrders=true) (hE:ri 0 l=true)
  (h0:ab (fun _=>false) f w.drew)
  (DI:∀(L:Nat→Bool) (f:aP) (w:aG) (i:Nat) (o:Oper),l[i]? =some o→L i=false→(∀j,L j=true→j<l.length)→(∀j,kU o j=true→L j=true)→ab L f w→SO P n l.toArray o f w (ab (fun k=>L k||decide (k=i))))
  (vV:∀(f:aP) (w:aG),ab (fun k=>decide (k<l.length)) f w→Q .normal (cw n f) w):
  WC P n (.region id l.toArray true) Q f w:=by
 refine wp_region_any hm ?_
 have h3:(fun k=>(Array.replicate l.length false).getD k false)=fun _:Nat=>false:=by
  funext i
  simp only[Array.getD];split<;>simp
 have h:=Yv (P:=P) (Q:=Q) ab hE DI vV l.length (Array.replicate l.length false) f w.drew (by simp) (by simp)<|by rw[h3];exact h0
 simpa using h
end
end Go.Ew
namespace Go.Ew
open Go.RowKit
inductive ZK|r|f|s|e|n
def zkE:ZK→Bool
 | .e=>true
 |_=>false
def zkR:ZK→Bool
 | .r=>true
 | .n=>true
 |_=>false
def zkN:ZK→Bool
 | .n=>true
 |_=>false
def zkS:ZK→Bool
 | .s=>true
 |_=>false
def vf (Ks:List ZK) (i:Nat):ZK:=Ks.getD i .r
def eM (Ks:List ZK) (i:Nat):Bool:=zkE (vf Ks i)
def xG (Ks:List ZK) (i:Nat):Bool:=zkR (vf Ks i)
def nD (Ks:List ZK) (i:Nat):Bool:=zkN (vf Ks i)
def Lt (Ks:List ZK) (i:Nat):Bool:=zkS (vf Ks i)
def ta (o:Oper):Bool:=match o.op with
 | .move _=>true
 | .assign _=>true
 | .extract _ _=>true
 |_=>false
def jQ (l:dw) (i:Nat):Bool:=match l[i]? with
 |some o=>ta o
 |none=>false
def tu (l:dw) (Ks:List ZK) (i:Nat):Bool:=eM Ks i&&jQ l i
def Lb (o:Oper):Bool:=match o.op with
 | .select _ _=>false
 |_=>true
def K8 (n:Nat) (l:dw) (Ks:List ZK):Nat→dw→Bool
 |_,[]=>true
 |i,o::r=>
  (o.looksAt l.toArray).all (fun t=>Nat.blt t n&&(!(l.filterMap (·.dst)).contains t||(List.range i).any (fun j=>kU o j&&(match (l[j]?).bind (·.dst) with|some d=>Nat.beq d t|none=>false)&&(eM Ks i||!eM Ks j))))&&
   (Lb o&&((eM Ks i||o.dst.isSome)&&((!Lt Ks i||ta o)&&((!xG Ks i||(List.range l.length).all (fun e=>!eM Ks e||oM l l.length e i))&&((!eM Ks i||(List.range i).all (fun e=>!eM Ks e||(jQ l e||oM l l.length i e)))&&((!(eM Ks i&&ta o)||(o.dst.isSome&&(List.range i).any (fun e=>eM Ks e&&!jQ l e)))&&K8 n l Ks (i+1) r))))))
def okZ (n:Nat) (l:dw) (Ks:List ZK):Bool:=
 ri 0 l&&(nodupB (l.filterMap (·.dst))&&((l.filterMap (·.dst)).all (fun d=>Nat.blt d n)&&K8 n l Ks 0 l))
section
variable {P:Program} {n:Nat} {l:dw} {Ks:List ZK} {ops:Array Oper}
structure Z1 (n:Nat) (l:dw) (Ks:List ZK) (i:Nat) (o:Oper):Prop where
 look:∀t∈o.looksAt l.toArray,t<n∧((∀(q:Nat) (o':Oper),l[q]? =some o'→o'.dst≠some t)∨∃(j:Nat) (o':Oper),j<i∧kU o j=true∧l[j]? =some o'∧o'.dst=some t∧(eM Ks i=false→eM Ks j=false))
 sel:∀cs b,o.op≠.select cs b
 dst:eM Ks i=false→∃d,o.dst=some d
 slot:Lt Ks i=true→ta o=true
 rd:xG Ks i=true→∀e,e<l.length→eM Ks e=true→oM l l.length e i=true
 ord:eM Ks i=true→∀e,e<i→eM Ks e=true→jQ l e=false→oM l l.length i e=true
 xd:eM Ks i=true→ta o=true→(∃d,o.dst=some d)∧∃e,e<i∧eM Ks e=true∧jQ l e=false
theorem RW {o:Oper} (h:Lb o=true):∀cs b,o.op≠.select cs b:=fun cs b e=>by unfold Lb at h;rw[e] at h;cases h
theorem N1:∀(r:dw) (i:Nat),K8 n l Ks i r=true→∀j o,r[j]? =some o→Z1 n l Ks (i+j) o
 |[],_,_,j,o,h=>by simp at h
 |x::r,i,h,j+1,o,hj=>by
  simp only[K8,eW] at h
  have:=N1 r (i+1) h.2.2.2.2.2.2.2 j o<|by simpa using hj
  rwa [show i+1+j=i+(j+1) from by omega] at this
 |x::r,i,h,0,o,hj=>by
  simp only[amR,amO] at hj
  subst hj
  simp only[K8,eW] at h
  obtain⟨h1,h2,h3,h4,h5,h6,h7, -⟩:=h
  refine⟨fun t ht=>?_,RW h2,fun hE=>?_,fun hS=>?_,fun hR e he mY=>?_,fun hE e he mY qM=>?_,fun hE hs=>?_⟩
  ·have:=amK.1 h1 t ht
   simp only[eW,aoG,amM,anM] at this
   refine⟨this.1,this.2.imp (fun h q o' hq hd=>?_) fun h=>?_⟩
   ·have hm:t∈l.filterMap (·.dst):=am4.2 ⟨o',dN hq,hd⟩
    rw[anj.2 hm] at h;cases h
   ·obtain⟨j,hj,hq⟩:=anc.1 h
    simp only[eW,amM,anM] at hq
    obtain⟨⟨q1,q2⟩,q3⟩:=hq
    cases hl:l[j]? with
    |none=>rw[hl] at q2;cases q2
    |some o'=>
     rw[hl] at q2
     cases hd:o'.dst with
     |none=>simp[hd] at q2
     |some d=>
      simp[hd] at q2
      refine⟨j,o',by have:=amH.1 hj;omega,q1,hl,by rw[hd,q2],fun hi=>?_⟩
      rcases q3 with q3|q3
      ·rw[ani] at hi;rw[hi] at q3;cases q3
      ·exact q3
  ·rw[ani] at hE
   rw[hE] at h3
   exact am0.1<|by simpa using h3
  ·rw[ani] at hS
   rw[hS] at h4;simpa using h4
  ·rw[ani] at hR ⊢
   rw[hR] at h5
   rw[aoW,aot] at h5
   have:=amK.1 h5 e<|amH.2 he
   rw[mY] at this;simpa using this
  ·rw[ani] at hE he ⊢
   rw[hE] at h6
   rw[aoW,aot] at h6
   have:=amK.1 h6 e<|amH.2 he
   rw[mY,qM] at this;simpa using this
  ·rw[ani] at hE ⊢
   rw[hE,hs] at h7
   simp only[Bool.and_self,aoW,aot,eW] at h7
   obtain⟨e,he,hq⟩:=anc.1 h7.2
   rw[eW,anM] at hq
   exact⟨am0.1 h7.1,e,amH.1 he,hq.1,hq.2⟩
theorem Ip {o:Oper} {g:aP} {w:aG} {R:Value→aG→Prop} (hs:ta o=true) (hd:∃d,o.dst=some d∧d<n)
  (h:SO P n ops o g w (fun f' w'=>∃v,f'=dh g o.dst v∧True∧R v w')):
  ∃v,R v w∧∀g2 w2,(∀t∈o.looksAt ops,g2 t=g t)→SO P n ops o g2 w2 (fun f' w'=>f'=dh g2 o.dst v∧w'=w2):=by
 obtain⟨d,hd,sM⟩:=hd
 have h1:=h (fun e a w'=>match e with| .normal=>∃v,a=cw n (dh g o.dst v)∧True∧R v w'|_=>False) []<|fun f' w' hK=>wpList_nil<|by obtain⟨v,h1,h2⟩:=hK;exact⟨v,by rw[h1],h2⟩
 have hw:∀g2:aP,(∀t∈o.looksAt ops,g2 t=g t)→Region.wanted o (yielded ops (cw n g2).tmps)=Region.wanted o (yielded ops (cw n g).tmps):=fun g2 hu=>yb fun j b hg t ht=>hu t (by
  unfold Oper.looksAt
  rw[hg]
  refine anP _ ?_
  simp[ht])
 have ahw:∀cs b,o.op≠.select cs b:=fun cs b e=>by unfold ta at hs;rw[e] at hs;cases hs
 have he:∀g2:aP,(∀t∈o.looksAt ops,g2 t=g t)→execOp (cw n g2).eval o=execOp (cw n g).eval o:=fun g2 hu=>execOp_congr o ahw fun x hx=>Dd fun t ht=>hu t (by
  subst ht
  exact anV _ (am4.2 ⟨.tmp t,by simpa using hx,rfl⟩))
 have P9:∀(g2:aP) (u:Value),(cw n g2).put o.dst u=cw n (dh g2 o.dst u):=fun g2 u=>by rw[qC]
 unfold wpList at h1
 split at h1
 ·rename_i CF
  
  have kO:(∃u,∀w2,(execOp (cw n g).eval o).run P w2=.ok (.value u) w2)∨∀w2 x w3,(execOp (cw n g).eval o).run P w2≠.ok x w3:=by
   obtain⟨dst,op,ty,ps,af,gd⟩:=o
   unfold ta at hs
   cases op<;>simp only at hs<;>try (cases hs;done)
   ·left;exact⟨_,fun w2=>rfl⟩
   ·left;exact⟨_,fun w2=>rfl⟩
   ·rename_i x i
    cases hx:(cw n g).eval x with
    |tuple vs=>
     cases hi:vs[i]? with
     |some v=>left;exact⟨v,fun w2=>by simp[execOp,Instr.extract,hx,hi]⟩
     |none=>right;intro w2 y w3 hh;simp[execOp,Instr.extract,hx,hi] at hh
    |_=>right;intro w2 y w3 hh;simp[execOp,Instr.extract,hx] at hh
  rcases h1 with h2|⟨_,a0,w1,hq⟩
  ·rcases kO with ⟨u,hu⟩|Gv
   ·unfold Oper.wp at h2
    rw[hu w] at h2
    simp only[Oper.upon] at h2
    obtain⟨v,hv, -,hR⟩:=(show ∃v,_∧_∧_ from h2)
    rw[P9,hd] at hv
    have Sd:u=v:=FM sM hv
    subst Sd
    refine⟨u,hR,fun g2 w2 hl Q rest hk=>?_⟩
    unfold wpList
    rw[hw g2 hl,amF CF]
    refine .inl ?_
    unfold Oper.wp
    rw[he g2 hl,hu w2]
    simp only[Oper.upon]
    rw[P9]
    exact hk _ _ ⟨J,J⟩
   ·exfalso
    unfold Oper.wp at h2
    generalize hr:(execOp (cw n g).eval o).run P w=r at h2
    cases r with
    |ok x w'=>exact Gv w x w' hr
    |halt x w'=>cases x<;>simp only[Oper.upon] at h2<;>exact h2.elim
  ·exact hq.elim
 ·rename_i CF
  have h2:=h1
  obtain⟨v,hv, -,hR⟩:=(show ∃v,(cw n g).put o.dst undef=_∧_∧_ from h2)
  rw[P9,hd] at hv
  have Sd:undef=v:=FM sM hv
  subst Sd
  refine⟨undef,hR,fun g2 w2 hl Q rest hk=>?_⟩
  unfold wpList
  rw[hw g2 hl,amI CF]
  rw[P9]
  exact hk _ _ ⟨J,J⟩
theorem Uf {o:Oper} {g:aP} {w:aG} {R:Value→aG→Prop} (hs:ta o=true) (hd:∃d,o.dst=some d∧d<n)
  (h:SO P n ops o g w (fun f' w'=>∃v,f'=dh g o.dst v∧Ext w w'∧R v w')):
  ∃v,R v w∧∀g2 w2,(∀t∈o.looksAt ops,g2 t=g t)→SO P n ops o g2 w2 (fun f' w'=>f'=dh g2 o.dst v∧w'=w2):=
 Ip hs hd (h.mono fun f' w' ⟨v,h1,_,h2⟩=>⟨v,h1,trivial,h2⟩)
theorem SO.WV {o:Oper} {f g:aP} {w:aG} {R:aP→aG→Prop} (h:SO P n ops o g w R) (hs:∀cs b,o.op≠.select cs b) (hu:∀t∈o.looksAt ops,f t=g t):
  SO P n ops o f w (fun f' w'=>∃v g',f'=dh f o.dst v∧cw n g'=cw n (dh g o.dst v)∧R g' w'):=by
 intro Q rest hk
 have h1:=h (fun e a w'=>match e with| .normal=>∃g',a=cw n g'∧R g' w'|_=>False) []<|fun f' w' hK=>wpList_nil ⟨f',J,hK⟩
 have he:execOp (cw n f).eval o=execOp (cw n g).eval o:=execOp_congr o hs fun x hx=>Dd fun t ht=>hu t (by
  subst ht
  exact anV _ (am4.2 ⟨.tmp t,by simpa using hx,rfl⟩))
 have hw:Region.wanted o (yielded ops (cw n f).tmps)=Region.wanted o (yielded ops (cw n g).tmps):=yb fun j b hg t ht=>hu t (by
  unfold Oper.looksAt
  rw[hg]
  refine anP _ ?_
  simp[ht])
 have key:∀u w',(∃g',(cw n g).put o.dst u=cw n g'∧R g' w')→wpList P ops Q rest ((cw n f).put o.dst u) w':=by
  rintro u w' ⟨g',hq,h2⟩
  rw[qC] at hq ⊢
  exact hk _ _ ⟨u,g',J,hq.symm,h2⟩
 unfold wpList at h1 ⊢
 rw[hw]
 split at h1
 ·rename_i CF
  rw[amF CF]
  refine .inl ?_
  rcases h1 with h2|⟨_,a0,w1,hq⟩
  ·unfold Oper.wp at h2 ⊢
   rw[he]
   generalize (execOp (cw n g).eval o).run P w=r at *
   cases r with
   |ok x w'=>
    cases x with
    |enter c args=>
     simp only[Oper.upon] at h2 ⊢
     refine Calls.mono h2 ?_
     intro e mB yL
     cases e with
     |returned u=>exact key u mB yL
     |panicked c=>exact yL.elim
     |outgrown=>obtain⟨a0,w1,hq⟩:=yL;exact hq.elim
    |row r args=>
     simp only[Oper.upon] at h2 ⊢
     exact Rows.mono h2 fun u mB yL=>key u mB yL
    |defer dd=>
     simp only[Oper.upon] at h2 ⊢
     obtain⟨g',h3, -⟩:=(show ∃g',_∧_ from h2)
     exfalso
     have h4:=amz (fun a=>a.defers.length) h3
     cases tA:o.dst<;>rw[tA] at h4<;>simp[Act.put,cw] at h4
    |value u=>
     simp only[Oper.upon] at h2 ⊢
     exact key u w' h2
    |skip=>
     simp only[Oper.upon] at h2 ⊢
     exact key undef w' h2
    |_=>exact(show False from h2).elim
   |halt x w'=>cases x<;>simp only[Oper.upon] at h2 ⊢<;>exact h2.elim
  ·exact hq.elim
 ·rename_i CF
  rw[amI CF]
  exact key undef w h1
end
def WE (P:Program) (n:Nat) (ops:Array Oper) (ae:aG→Prop) (K:aP→aG→Prop):dw→aP→aG→Prop
 |[],f,w=>K f w
 |o::r,f,w=>SO P n ops o f w (fun f' w'=>ae w'∧WE P n ops ae K r f' w')
def Fz:List ZK→dw→dw
 |_,[]=>[]
 |ks,o::r=>match ks.headD .r with
  | .e=>o::Fz ks.tail r
  |_=>Fz ks.tail r
abbrev PR:=(Nat→Prop)→Value→aG→Prop
abbrev UN:=List (Nat×PR)
def xH (ag:UN) (t:Nat):Bool:=ag.any (fun p=>Nat.beq p.1 t)
def eN (X:Value):PR:=fun _ v _=>v=X
structure r7 (Φ:PR):Prop where
 ext:∀N v w w',Ext w w'→Φ N v w→Φ N v w'
 grow:∀(N N':cb) v (w:aG),(∀b,N b→N' b)→(∀b,N' b→N b∨w.heap.size≤b)→Φ N v w→Φ N' v w
theorem W7 (X:Value):r7 (eN X):=⟨fun _ _ _ _ _ h=>h,fun _ _ _ _ _ _ h=>h⟩
def Ji (w0:aG) (z:Array Value) (T:TypeId):PR:=fun N v w=>∃b,v=.pointer (some ⟨b,0,none⟩)∧w0.heap.size≤b∧w.heap[b]? =some (.cells z T (0,0))∧N b
theorem aeu (w0:aG) (z:Array Value) (T:TypeId):r7 (Ji w0 z T):=
 ⟨fun N v w w' hx ⟨b,h1,h2,h3,h4⟩=>⟨b,h1,h2,(hx.block b (am7.1 h3).1).trans h3,h4⟩,fun N N' v w h _ ⟨b,h1,h2,h3,h4⟩=>⟨b,h1,h2,h3,h b h4⟩⟩
def EC (w0:aG) (N:cb) (w:aG):Prop:=∀b,N b→w0.heap.size≤b∧b<w.heap.size
def Yp (L:List Nat) (ag:UN) (f g:aP) (N:cb) (w:aG):Prop:=
 ∀t∈L,(xH ag t=false→g t=f t)∧(∀(j:Nat) (Φ:PR),ag[j]? =some (t,Φ)→Φ N (g t) w)
def GN (P:Program) (n:Nat) (ops:Array Oper) (w0:aG) (o:Oper) (ag:UN) (f:aP) (R:PR):Prop:=
 ∀w g N,Ext w0 w→EC w0 N w→Yp (o.looksAt ops) ag f g N w→SO P n ops o g w (fun f' w'=>∃v,f'=dh g o.dst v∧Ext w w'∧R N v w')
def MM (z:Array Value) (T:TypeId) (w:aG) (v:Value) (w':aG):Prop:=∃b,v=.pointer (some ⟨b,0,none⟩)∧w.heap.size≤b∧w'.heap[b]? =some (.cells z T (0,0))
def PZ (P:Program) (n:Nat) (ops:Array Oper) (w0:aG) (ae:aG→Prop) (K:UN→aP→Prop):dw→List ZK→UN→aP→Prop
 |[],_,ag,f=>K ag f
 |o::r,ks,ag,f=>match ks.headD .r with
  | .e=>PZ P n ops w0 ae K r ks.tail ag f
  | .f=>∃X,(∀w g,ae w→(∀t∈o.looksAt ops,xH ag t=false∧g t=f t)→SO P n ops o g w (fun f' w'=>f'=dh g o.dst X∧w'=w))∧((o.looksAt ops).all (fun t=>!xH ag t))=true∧PZ P n ops w0 ae K r ks.tail ag (dh f o.dst X)
  | .n=>∃d z T,o.dst=some d∧((o.looksAt ops).all (fun t=>!xH ag t))=true∧(∀w g,Ext w0 w→(∀t∈o.looksAt ops,g t=f t)→SO P n ops o g w (fun f' w'=>∃v,f'=dh g o.dst v∧Ext w w'∧MM z T w v w'))∧PZ P n ops w0 ae K r ks.tail ((d,Ji w0 z T)::ag) f
  |_=>(∃X,GN P n ops w0 o ag f (eN X)∧PZ P n ops w0 ae K r ks.tail ag (dh f o.dst X))∨
    (∃d Φ,o.dst=some d∧r7 Φ∧GN P n ops w0 o ag f Φ∧PZ P n ops w0 ae K r ks.tail ((d,Φ)::ag) f)
def KZ (P:Program) (n:Nat) (ops:Array Oper) (Q:Exit→Act→aG→Prop) (w0:aG) (ae:aG→Prop) (E:dw) (Nd:List Nat) (ag:UN) (f:aP):Prop:=
 ∀(w':aG) (g:aP) (N:cb),Ext w0 w'→EC w0 N w'→(∀d d',d∈Nd→d'∈Nd→d≠d'→g d≠g d')→(∀t,xH ag t=false→g t=f t)→(∀(j t:Nat) (Φ:PR),ag[j]? =some (t,Φ)→Φ N (g t) w')→WE P n ops ae (fun f w=>Q .normal (cw n f) w) E g w'
def Fa:List ZK→dw→List Nat
 |_,[]=>[]
 |ks,o::r=>match ks.headD .r with
  | .n=>o.dst.getD 0::Fa ks.tail r
  |_=>Fa ks.tail r
def ng (E:List PR) (i:Nat):PR:=E.getD i (fun _ _ _=>True)
section
variable {P:Program} {n:Nat} {l:dw} {Ks:List ZK} {w0:aG} {ae:aG→Prop} {f0:aP}
structure Kn (l:dw) (Ks:List ZK) (f0:aP) (E:List PR) (m:Nat) (g:aP) (N:cb) (w:aG) (t:Nat):Prop where
 off:(∀(q:Nat) (o:Oper),l[q]? =some o→o.dst=some t→eM Ks q=true)→g t=f0 t
 Ao:∀(q:Nat) (o:Oper),q<m→l[q]? =some o→o.dst=some t→eM Ks q=false→ng E q N (g t) w
def Yg (l:dw) (Ks:List ZK) (m t:Nat):Prop:=∀(q:Nat) (o:Oper),l[q]? =some o→o.dst=some t→eM Ks q=false→q<m
structure QR (l:dw) (Ks:List ZK) (f0:aP) (E:List PR) (m:Nat) (ag:UN) (f:aP):Prop where
 is:∀(g:aP) (N:cb) (w:aG) (t:Nat),Yg l Ks m t→Kn l Ks f0 E m g N w t→(xH ag t=false→g t=f t)∧∀(j:Nat) (Φ:PR),ag[j]? =some (t,Φ)→Φ N (g t) w
 GW:∀(j t:Nat) (Φ:PR),ag[j]? =some (t,Φ)→∃(q:Nat) (o:Oper),q<m∧l[q]? =some o∧o.dst=some t
def afz (P:Program) (n:Nat) (l:dw) (Ks:List ZK) (w0:aG) (f0:aP) (E:List PR) (i:Nat) (o:Oper):Prop:=
 ∀(g:aP) (N:cb) (w:aG),Ext w0 w→EC w0 N w→(∀t∈o.looksAt l.toArray,Kn l Ks f0 E i g N w t)→SO P n l.toArray o g w (fun f' w'=>∃v,f'=dh g o.dst v∧Ext w w'∧ng E i N v w')
def afA (P:Program) (n:Nat) (l:dw) (Ks:List ZK) (w0:aG) (f0:aP) (E:List PR) (i:Nat) (o:Oper):Prop:=
 ∃z T,ng E i=Ji w0 z T∧∀(g:aP) (N:cb) (w:aG),Ext w0 w→(∀t∈o.looksAt l.toArray,Kn l Ks f0 E i g N w t)→SO P n l.toArray o g w (fun f' w'=>∃v,f'=dh g o.dst v∧Ext w w'∧MM z T w v w')
def afB (P:Program) (n:Nat) (l:dw) (Ks:List ZK) (ae:aG→Prop) (f0:aP) (E:List PR) (i:Nat) (o:Oper):Prop:=
 ∃X,ng E i=eN X∧∀(g:aP) (N:cb) (w w1:aG),ae w→(∀t∈o.looksAt l.toArray,Kn l Ks f0 E i g N w1 t)→SO P n l.toArray o g w (fun f' w'=>f'=dh g o.dst X∧w'=w)
structure Fact (P:Program) (n:Nat) (l:dw) (Ks:List ZK) (w0:aG) (ae:aG→Prop) (f0:aP) (E:List PR) (i:Nat) (o:Oper):Prop where
 mono:r7 (ng E i)
 go:eM Ks i=false→(afz P n l Ks w0 f0 E i o∧nD Ks i=false∧(xG Ks i=true∨Lt Ks i=true))∨(afB P n l Ks ae f0 E i o∧nD Ks i=false)∨(afA P n l Ks w0 f0 E i o∧nD Ks i=true)
theorem OI {E E0:List PR} {m:Nat} (h:E.take m=E0) (hl:E0.length=m) {q:Nat} (hq:q<m):ng E q=ng E0 q:=by
 unfold ng
 rw[←h,im,im,am5,amF hq]
theorem Kn.of {E E0:List PR} {m:Nat} {g:aP} {N:cb} {w:aG} {t:Nat} (h:E.take m=E0) (hl:E0.length=m) (k:Kn l Ks f0 E m g N w t):Kn l Ks f0 E0 m g N w t:=
 ⟨k.off,fun q o hq h1 h2 h3=>by rw[←OI h hl hq];exact k.Ao q o hq h1 h2 h3⟩
theorem wX {ag:UN} {t:Nat}:xH ag t=true↔∃(j:Nat) (Φ:PR),ag[j]? =some (t,Φ):=by
 unfold xH
 rw[anc]
 constructor
 ·rintro⟨⟨a,b⟩,h1,h2⟩
  obtain⟨j,hj⟩:=amT.1 h1
  simp at h2
  exact⟨j,b,by rw[hj,h2]⟩
 ·rintro⟨j,Φ,h⟩
  exact⟨_,dN h,by simp⟩
theorem PZ.table (lL:(l.filterMap (·.dst)).Nodup) (hZ:∀(i:Nat) (o:Oper),l[i]? =some o→Z1 n l Ks i o) {K:UN→aP→Prop}:∀(r:dw) (ks:List ZK) (m:Nat) (ag:UN) (f:aP) (E0:List PR),
  l.drop m=r→Ks.drop m=ks→E0.length=m→m+r.length=l.length→QR l Ks f0 E0 m ag f→PZ P n l.toArray w0 ae K r ks ag f→
  ∃(E:List PR) (U':UN) (f':aP),E.length=l.length∧E.take m=E0∧(∀(i:Nat) (o:Oper),m≤i→l[i]? =some o→Fact P n l Ks w0 ae f0 E i o)∧QR l Ks f0 E l.length U' f'∧K U' f'
 |[],ks,m,ag,f,E0,hr,IV,hl,tV,hL,h=>by
  simp only[gj,ani] at tV
  subst tV
  refine⟨E0,ag,f,hl,by rw[←hl,anA],fun i o hi ho=>?_,hL,h⟩
  have:=(dU.1 ho).1
  omega
 |o::r,ks,m,ag,f,E0,hr,IV,hl,tV,hL,h=>by
  have jc:l[m]? =some o:=by
   have:(l.drop m)[0]? =some o:=by rw[hr];rfl
   rwa [ank,ani] at this
  have hr':l.drop (m+1)=r:=by rw[←anx,hr];rfl
  have LL:Ks.drop (m+1)=ks.tail:=by rw[←anx,IV];cases ks<;>rfl
  have ahH:m+1+r.length=l.length:=by simp only[iB] at tV;omega
  have St:ks.headD .r=vf Ks m:=by
   unfold vf
   rw[←IV,im]
   cases hq:Ks.drop m with
   |nil=>rw[amQ (by have:=amz List.length hq;simp at this;omega)];rfl
   |cons a b=>
    have:(Ks.drop m)[0]? =some a:=by rw[hq];rfl
    rw[ank,ani] at this
    rw[this];rfl
  have z:=hZ m o jc
  have A':∀(q:Nat) (o':Oper) (t:Nat),l[q]? =some o'→o'.dst=some t→o.dst=some t→q=m:=fun q o' t hq hd CO=>
   ic (·.dst) l lL q m o' o hq jc (by show o'.dst.isSome=true;rw[hd];rfl) (by show o'.dst=o.dst;rw[hd,CO])
  have JI:∀t∈o.looksAt l.toArray,eM Ks m=false→Yg l Ks m t:=by
   intro t ht hE q o' hq hd BP
   rcases (z.look t ht).2 with h1|⟨j,tm,hj, -,po,tY, -⟩
   ·exact absurd hd<|h1 q o' hq
   ·have:q=j:=ic (·.dst) l lL q j o' tm hq po (by show o'.dst.isSome=true;rw[hd];rfl)<|by show o'.dst=tm.dst;rw[hd,tY]
    omega
  have fin:∀(e:PR) (U2:UN) (f2:aP),QR l Ks f0 (E0++[e]) (m+1) U2 f2→PZ P n l.toArray w0 ae K r ks.tail U2 f2→
    (∀E:List PR,E.take (m+1)=E0++[e]→Fact P n l Ks w0 ae f0 E m o)→
    ∃(E:List PR) (U':UN) (f':aP),E.length=l.length∧E.take m=E0∧(∀(i:Nat) (o:Oper),m≤i→l[i]? =some o→Fact P n l Ks w0 ae f0 E i o)∧QR l Ks f0 E l.length U' f'∧K U' f':=by
   intro e U2 f2 hL2 hP hF
   obtain⟨E,U',f',h1,h2,h3,h4,h5⟩:=PZ.table lL hZ r ks.tail (m+1) U2 f2 (E0++[e]) hr' LL (by simp[hl]) ahH hL2 hP
   refine⟨E,U',f',h1,?_,fun i o' hi LG=>?_,h4,h5⟩
   ·have:=amz (List.take m) h2
    rw[an8,anF aj,an2 aj,←hl,anA] at this
    rw[hl] at this;exact this
   ·by_cases tZ:i=m
    ·subst tZ
     rw[jc] at LG;cases LG
     exact hF E h2
    ·exact h3 i o' aj LG
  have Bh:∀(E:List PR) (e:PR),E.take (m+1)=E0++[e]→ng E m=e:=by
   intro E e h2
   rw[OI h2 (by simp[hl]) (an4 m)]
   unfold ng
   rw[im,oB aj,hl,anD];rfl
  have aiQ:∀(e:PR) (q:Nat),q<m→ng (E0++[e]) q=ng E0 q:=by
   intro e q hq
   unfold ng
   rw[im,oY aj,im]
  have JB:∀(E:List PR) (e:PR),E.take (m+1)=E0++[e]→E.take m=E0:=by
   intro E e h2
   have:=amz (List.take m) h2
   rw[an8,anF aj,an2 aj,←hl,anA] at this
   rw[hl] at this;exact this
  
  have R5:∀(e:PR) (g:aP) (N:cb) (w:aG) (t:Nat),Kn l Ks f0 (E0++[e]) (m+1) g N w t→Kn l Ks f0 E0 m g N w t:=fun e g N w t k=>
   ⟨k.off,fun q o' hq h1 h2 h3=>by rw[←aiQ e q hq];exact k.Ao q o' aj h1 h2 h3⟩
  unfold PZ at h
  rw[St] at h
  cases hk:vf Ks m with
  |e=>
   rw[hk] at h
   have hE:eM Ks m=true:=by unfold eM;rw[hk];rfl
   refine fin (fun _ _ _=>True) ag f ⟨fun g N w t hV qT=>?_,fun j t Φ hj=>?_⟩ h fun E h2=>⟨by rw[Bh E _ h2];exact⟨fun _ _ _ _ _ _=>trivial,fun _ _ _ _ _ _ _=>trivial⟩,fun uc=>by rw[hE] at uc;cases uc⟩
   ·exact hL.is g N w t (fun q o' hq hd BP=>by
     have:=hV q o' hq hd BP
     by_cases iX:q=m
     ·subst iX;rw[hE] at BP;cases BP
     ·omega) (R5 _ g N w t qT)
   ·obtain⟨q,o',h1,h2,h3⟩:=hL.GW j t Φ hj
    exact⟨q,o',by omega,h2,h3⟩
  |f=>
   rw[hk] at h
   obtain⟨X,h1,h1b,h2⟩:=h
   have hE:eM Ks m=false:=by unfold eM;rw[hk];rfl
   obtain⟨d,hd⟩:=z.dst hE
   have hN:nD Ks m=false:=by unfold nD;rw[hk];rfl
   refine fin (eN X) ag (dh f o.dst X) ⟨fun g N w t hV qT=>?_,fun j t Φ hj=>?_⟩ h2 fun E uc=>⟨by rw[Bh E _ uc];exact W7 X,fun _=>.inr (.inl ⟨⟨X,Bh E _ uc,fun g N w w1 hI qT=>?_⟩,hN⟩)⟩
   ·by_cases ht:o.dst=some t
    ·have hv:g t=X:=by
      have:=qT.Ao m o (an4 m) jc ht hE
      unfold ng at this
      rw[im,oB aj,hl,anD] at this
      exact this
     refine⟨fun _=>by rw[ht];show g t=cx f t X t;rw[iP];exact hv,fun j Φ hj=>?_⟩
     obtain⟨q,o',h1,h2,h3⟩:=hL.GW j t Φ hj
     have:=A' q o' t h2 h3 ht
     omega
    ·have:=hL.is g N w t (fun q o' hq nw BP=>by
      have:=hV q o' hq nw BP
      by_cases iX:q=m
      ·subst iX;rw[jc] at hq;cases hq;exact absurd nw ht
      ·omega) (R5 _ g N w t qT)
     refine⟨fun hu=>?_,this.2⟩
     rw[this.1 hu,hd]
     exact(jA f X<|fun e=>ht<|by rw[hd,e]).symm
   ·obtain⟨q,o',h1,h2,h3⟩:=hL.GW j t Φ hj
    exact⟨q,o',by omega,h2,h3⟩
   ·refine h1 w g hI fun t ht=>?_
    have hu:xH ag t=false:=by
     have:=amK.1 h1b t ht
     simpa using this
    exact⟨hu,(hL.is g N w1 t (JI t ht hE)<|(qT t ht).of (JB E _ uc) hl).1 hu⟩
  |n=>
   rw[hk] at h
   have hE:eM Ks m=false:=by unfold eM;rw[hk];rfl
   have hN:nD Ks m=true:=by unfold nD;rw[hk];rfl
   obtain⟨d,zz,T,hd,h1b,h1,h2⟩:=h
   refine fin (Ji w0 zz T) ((d,Ji w0 zz T)::ag) f ⟨fun g N w t hV qT=>?_,fun j t Ψ hj=>?_⟩ h2 fun E uc=>⟨by rw[Bh E _ uc];exact aeu w0 zz T,fun _=>.inr (.inr ⟨⟨zz,T,Bh E _ uc,fun g N w hx qT=>?_⟩,hN⟩)⟩
   ·by_cases ht:d=t
    ·subst ht
     have hv:Ji w0 zz T N (g d) w:=by
      have:=qT.Ao m o (an4 m) jc hd hE
      unfold ng at this
      rw[im,oB aj,hl,anD] at this
      exact this
     refine⟨fun hu=>?_,fun j Ψ hj=>?_⟩
     ·rw[wX.2 ⟨0,Ji w0 zz T,rfl⟩] at hu;cases hu
     ·cases j with
      |zero=>cases hj;exact hv
      |succ j=>
       obtain⟨q,o',h1,h2,h3⟩:=hL.GW j d Ψ hj
       have:=A' q o' d h2 h3 hd
       omega
    ·have Ai:=hL.is g N w t (fun q o' hq nw BP=>by
      have:=hV q o' hq nw BP
      by_cases iX:q=m
      ·subst iX;rw[jc] at hq;cases hq;rw[hd] at nw;cases nw;exact absurd rfl ht
      ·omega) (R5 _ g N w t qT)
     refine⟨fun hu=>Ai.1 ?_,fun j Ψ hj=>?_⟩
     ·cases hb:xH ag t with
      |false=>rfl
      |true=>
       obtain⟨j,Ψ,hj⟩:=wX.1 hb
       rw[wX.2 ⟨j+1,Ψ,hj⟩] at hu;cases hu
     ·cases j with
      |zero=>cases hj;exact absurd rfl ht
      |succ j=>exact Ai.2 j Ψ hj
   ·cases j with
    |zero=>cases hj;exact⟨m,o,an4 m,jc,hd⟩
    |succ j=>
     obtain⟨q,o',h1,h2,h3⟩:=hL.GW j t Ψ hj
     exact⟨q,o',by omega,h2,h3⟩
   ·refine h1 w g hx fun t ht=>?_
    have hu:xH ag t=false:=by
     have:=amK.1 h1b t ht
     simpa using this
    exact(hL.is g N w t (JI t ht hE)<|(qT t ht).of (JB E _ uc) hl).1 hu
  |r|s=>
   all_goals
    rw[hk] at h
    have hE:eM Ks m=false:=by unfold eM;rw[hk];rfl
    have hN:nD Ks m=false:=by unfold nD;rw[hk];rfl
    have hRS:xG Ks m=true∨Lt Ks m=true:=by unfold xG Lt;rw[hk];first|exact .inl rfl|exact .inr rfl
    obtain⟨d0,LU⟩:=z.dst hE
    rcases h with ⟨X,h1,h2⟩|⟨d,Φ,hd,Sp,h1,h2⟩
    ·refine fin (eN X) ag (dh f o.dst X) ⟨fun g N w t hV qT=>?_,fun j t Φ hj=>?_⟩ h2 fun E uc=>⟨by rw[Bh E _ uc];exact W7 X,fun _=>.inl ⟨fun g N w hx hNI qT=>?_,hN,hRS⟩⟩
     ·by_cases ht:o.dst=some t
      ·have hv:g t=X:=by
        have:=qT.Ao m o (an4 m) jc ht hE
        unfold ng at this
        rw[im,oB aj,hl,anD] at this
        exact this
       refine⟨fun _=>by rw[ht];show g t=cx f t X t;rw[iP];exact hv,fun j Φ hj=>?_⟩
       obtain⟨q,o',h1,h2,h3⟩:=hL.GW j t Φ hj
       have:=A' q o' t h2 h3 ht
       omega
      ·have:=hL.is g N w t (fun q o' hq nw BP=>by
        have:=hV q o' hq nw BP
        by_cases iX:q=m
        ·subst iX;rw[jc] at hq;cases hq;exact absurd nw ht
        ·omega) (R5 _ g N w t qT)
       refine⟨fun hu=>?_,this.2⟩
       rw[this.1 hu,LU]
       exact(jA f X<|fun e=>ht<|by rw[LU,e]).symm
     ·obtain⟨q,o',h1,h2,h3⟩:=hL.GW j t Φ hj
      exact⟨q,o',by omega,h2,h3⟩
     ·rw[Bh E _ uc]
      exact h1 w g N hx hNI fun t ht=>hL.is g N w t (JI t ht hE) ((qT t ht).of (JB E _ uc) hl)
    ·refine fin Φ ((d,Φ)::ag) f ⟨fun g N w t hV qT=>?_,fun j t Ψ hj=>?_⟩ h2 fun E uc=>⟨by rw[Bh E _ uc];exact Sp,fun _=>.inl ⟨fun g N w hx hNI qT=>?_,hN,hRS⟩⟩
     ·by_cases ht:d=t
      ·subst ht
       have hv:Φ N (g d) w:=by
        have:=qT.Ao m o (an4 m) jc hd hE
        unfold ng at this
        rw[im,oB aj,hl,anD] at this
        exact this
       refine⟨fun hu=>?_,fun j Ψ hj=>?_⟩
       ·rw[wX.2 ⟨0,Φ,rfl⟩] at hu;cases hu
       ·cases j with
        |zero=>cases hj;exact hv
        |succ j=>
         obtain⟨q,o',h1,h2,h3⟩:=hL.GW j d Ψ hj
         have:=A' q o' d h2 h3 hd
         omega
      ·have Ai:=hL.is g N w t (fun q o' hq nw BP=>by
        have:=hV q o' hq nw BP
        by_cases iX:q=m
        ·subst iX;rw[jc] at hq;cases hq;rw[hd] at nw;cases nw;exact absurd rfl ht
        ·omega) (R5 _ g N w t qT)
       refine⟨fun hu=>Ai.1 ?_,fun j Ψ hj=>?_⟩
       ·cases hb:xH ag t with
        |false=>rfl
        |true=>
         obtain⟨j,Ψ,hj⟩:=wX.1 hb
         rw[wX.2 ⟨j+1,Ψ,hj⟩] at hu;cases hu
       ·cases j with
        |zero=>cases hj;exact absurd rfl ht
        |succ j=>exact Ai.2 j Ψ hj
     ·cases j with
      |zero=>cases hj;exact⟨m,o,an4 m,jc,hd⟩
      |succ j=>
       obtain⟨q,o',h1,h2,h3⟩:=hL.GW j t Ψ hj
       exact⟨q,o',by omega,h2,h3⟩
     ·rw[Bh E _ uc]
      exact h1 w g N hx hNI fun t ht=>hL.is g N w t (JI t ht hE) ((qT t ht).of (JB E _ uc) hl)
end
def qz (Ks:List ZK) (L:Nat→Bool):Nat→dw→dw
 |_,[]=>[]
 |i,o::r=>if eM Ks i&&!L i then o::qz Ks L (i+1) r else qz Ks L (i+1) r
section
variable {Ks:List ZK} {L L':Nat→Bool}
theorem E6:∀(r:dw) (i:Nat) (ks:List ZK),Ks.drop i=ks→qz Ks (fun _=>false) i r=Fz ks r
 |[],_,_,_=>rfl
 |o::r,i,ks,h=>by
  have LL:Ks.drop (i+1)=ks.tail:=by rw[←anx,h];cases ks<;>rfl
  have St:ks.headD .r=vf Ks i:=by
   unfold vf
   rw[←h,im]
   cases hq:Ks.drop i with
   |nil=>rw[amQ (by have:=amz List.length hq;simp at this;omega)];rfl
   |cons a b=>
    have:(Ks.drop i)[0]? =some a:=by rw[hq];rfl
    rw[ank,ani] at this
    rw[this];rfl
  unfold qz Fz
  rw[St,E6 r (i+1) ks.tail LL]
  unfold eM
  cases vf Ks i<;>simp[zkE]
theorem nO:∀(r:dw) (i:Nat),(∀k,i≤k→eM Ks k=true→L k=L' k)→qz Ks L i r=qz Ks L' i r
 |[],_,_=>rfl
 |o::r,i,h=>by
  unfold qz
  rw[nO r (i+1) fun k hk=>h k aj]
  cases hE:eM Ks i with
  |false=>simp
  |true=>rw[h i (amD _) hE]
theorem Cf:∀(r:dw) (i j:Nat) (o:Oper),r[j]? =some o→eM Ks (i+j)=true→L (i+j)=false→(∀e,i≤e→e<i+j→eM Ks e=true→L e=true)→
  qz Ks L i r=o::qz Ks (fun k=>L k||decide (k=i+j)) i r
 |[],_,_,_,h,_,_,_=>by simp at h
 |x::r,i,0,o,h,hE,hL,_=>by
  simp only[amR,amO] at h
  subst h
  rw[ani] at hE hL
  unfold qz
  rw[hE,hL]
  simp only[ani,Bool.not_false,apg,decide_true,Bool.or_true,aoW,apA,aod,apF,anu]
  congr 1
  refine nO r (i+1) fun k hk _=>?_
  rw[amJ aj,an7]
 |x::r,i,j+1,o,h,hE,hL,hb=>by
  have ih:=Cf r (i+1) j o (by simpa using h) (by rw[show i+1+j=i+(j+1) from by omega];exact hE) (by rw[show i+1+j=i+(j+1) from by omega];exact hL) fun e h1 h2 h3=>hb e aj aj h3
  rw[show i+1+j=i+(j+1) from by omega] at ih
  have h0:(eM Ks i&&!L i)=false:=by
   cases xQ:eM Ks i with
   |false=>rfl
   |true=>rw[hb i (amD _) aj xQ];rfl
  unfold qz
  rw[h0,amJ (show ¬i=i+(j+1) by omega),an7,h0]
  simpa using ih
theorem E5:∀(r:dw) (i:Nat),(∀k,i≤k→k<i+r.length→L k=true)→qz Ks L i r=[]
 |[],_,_=>rfl
 |o::r,i,h=>by
  unfold qz
  rw[h i (amD _) (by simp),E5 r (i+1) fun k h1 h2=>h k aj (by simp only[iB];omega)]
  simp
end
theorem Hq {l:dw} {L:Nat→Bool} (hC:∀i o,L i=true→l[i]? =some o→∀j,kU o j=true→L j=true):
  ∀(n i m:Nat) (o:Oper),l[i]? =some o→(∀j,kU o j=true→L j=true)→oM l n i m=true→L m=true
 |0,_,_,_,_,_,h=>by cases h
 |n+1,i,m,o,ho,hd,h=>by
  simp only[oM,ho,amM] at h
  rcases h with h|h
  ·exact hd m h
  ·obtain⟨j,_,hj⟩:=anc.1 h
   simp only[eW] at hj
   have hlj:=hd j hj.1
   cases qO:l[j]? with
   |none=>
    have h2:=hj.2
    cases n with
    |zero=>cases h2
    |succ n=>simp[oM,qO] at h2
   |some o'=>exact Hq hC n j m o' qO (hC j o' hlj qO) hj.2
section
variable {P:Program} {n:Nat} {l:dw} {Ks:List ZK} {w0:aG} {ae:aG→Prop} {f0:aP} {E:List PR} {K:aP→aG→Prop}
def VP (P:Program) (n:Nat) (l:dw) (ae:aG→Prop) (o:Oper) (g:aP) (d:Nat):Prop:=∀(w2:aG) (g2:aP),ae w2→(∀t∈o.looksAt l.toArray,g2 t=g t)→SO P n l.toArray o g2 w2 (fun f' w'=>f'=dh g2 o.dst (g d)∧w'=w2)
structure J1 (l:dw) (Ks:List ZK) (w0:aG) (f0:aP) (E:List PR) (L:Nat→Bool) (f:aP) (w:aG) (N:cb):Prop where
 ni:EC w0 N w
 dis:∀(p q:Nat) (o o':Oper) (d d':Nat),L p=true→L q=true→p≠q→l[p]? =some o→l[q]? =some o'→nD Ks p=true→nD Ks q=true→o.dst=some d→o'.dst=some d'→f d≠f d'
 no:∀e,e<l.length→eM Ks e=true→L e=false
 ext:Ext w0 w
 off:∀t,(∀(q:Nat) (o:Oper),l[q]? =some o→o.dst=some t→eM Ks q=true)→f t=f0 t
 Ao:∀(q:Nat) (o:Oper) (t:Nat),L q=true→l[q]? =some o→o.dst=some t→eM Ks q=false→ng E q N (f t) w
structure J2 (P:Program) (n:Nat) (l:dw) (Ks:List ZK) (ae:aG→Prop) (K:aP→aG→Prop) (L:Nat→Bool) (f:aP) (w:aG) (g:aP) (V:Nat→Bool):Prop where
 rd:∀(q:Nat) (o:Oper),l[q]? =some o→xG Ks q=true→L q=true
 eq:∀t,t<n→(∀(q:Nat) (o:Oper),l[q]? =some o→o.dst=some t→(eM Ks q=false∨V q=true)→L q=true)→g t=f t
 vp:∀(q:Nat) (o:Oper) (d:Nat),l[q]? =some o→o.dst=some d→(eM Ks q=false∨V q=true)→L q=false→VP P n l ae o g d
 i:ae w
 we:WE P n l.toArray ae K (qz Ks (fun k=>L k||V k) 0 l) g w
 vx:∀q,V q=true→tu l Ks q=true
 vl:∀q,V q=true→∀e,e<q→eM Ks e=true→jQ l e=false→L e=true
 vd:∀q,V q=true→∀m,m<q→tu l Ks m=true→L m=false→V m=true
def NF (l:dw) (Ks:List ZK) (L V:Nat→Bool) (m:Nat):Prop:=∀q,q<m→tu l Ks q=true→L q=false→(∀e,e<q→eM Ks e=true→jQ l e=false→L e=true)→V q=true
theorem X5 (lL:(l.filterMap (·.dst)).Nodup) (hZ:∀(i:Nat) (o:Oper),l[i]? =some o→Z1 n l Ks i o) (hF:∀(i:Nat) (o:Oper),l[i]? =some o→Fact P n l Ks w0 ae f0 E i o) {L:Nat→Bool} {f:aP} {w:aG} {N:cb}
  (h:J1 l Ks w0 f0 E L f w N) (hI:∀w',Ext w0 w'→ae w') (hR:∀(q:Nat) (o:Oper),l[q]? =some o→xG Ks q=true→L q=true) (eZ:∀(i:Nat) (o:Oper) (d:Nat),l[i]? =some o→o.dst=some d→d<n):∀m,m≤l.length→
  ∃g:aP,(∀t,(∀(q:Nat) (o:Oper),q<m→l[q]? =some o→o.dst=some t→eM Ks q=false→L q=true)→g t=f t)∧
   (∀(q:Nat) (o:Oper) (d:Nat),q<m→l[q]? =some o→o.dst=some d→eM Ks q=false→L q=false→VP P n l ae o g d)∧
   (∀(q:Nat) (o:Oper) (t:Nat),q<m→l[q]? =some o→o.dst=some t→eM Ks q=false→ng E q N (g t) w)
 |0,_=>⟨f,fun _ _=>rfl,fun q o d hq=>absurd hq (aoq _),fun q o t hq=>absurd hq (aoq _)⟩
 |m+1,hm=>by
  obtain⟨g,g1,g2,g3⟩:=X5 lL hZ hF h hI hR eZ m aj
  have jc:l[m]? =some l[m]:=eR aj
  generalize l[m]=o at jc
  have z:=hZ m o jc
  have uniq:∀(q q':Nat) (a b:Oper) (t:Nat),l[q]? =some a→l[q']? =some b→a.dst=some t→b.dst=some t→q=q':=fun q q' a b t h1 h2 h3 h4=>
   ic (·.dst) l lL q q' a b h1 h2 (by show a.dst.isSome=true;rw[h3];rfl) (by show a.dst=b.dst;rw[h3,h4])
  cases hE:eM Ks m with
  |true=>
   refine⟨g,fun t ht=>g1 t fun q o' hq=>ht q o' aj,fun q o' d hq h1 h2 h3 h4=>?_,fun q o' t hq h1 h2 h3=>?_⟩
   ·by_cases iX:q=m
    ·subst iX;rw[hE] at h3;cases h3
    ·exact g2 q o' d aj h1 h2 h3 h4
   ·by_cases iX:q=m
    ·subst iX;rw[hE] at h3;cases h3
    ·exact g3 q o' t aj h1 h2 h3
  |false=>
   obtain⟨d,hd⟩:=z.dst hE
   have gd:g d=f d:=g1 d fun q o' hq h1 h2 h3=>by have:=uniq q m o' o d h1 jc h2 hd;omega
   cases SH:L m with
   |true=>
    refine⟨g,fun t ht=>g1 t fun q o' hq=>ht q o' aj,fun q o' d' hq h1 h2 h3 h4=>?_,fun q o' t hq h1 h2 h3=>?_⟩
    ·by_cases iX:q=m
     ·subst iX;rw[SH] at h4;cases h4
     ·exact g2 q o' d' aj h1 h2 h3 h4
    ·by_cases iX:q=m
     ·subst iX
      rw[jc] at h1;cases h1
      rw[hd] at h2;cases h2
      rw[gd];exact h.Ao q o d SH jc hd hE
     ·exact g3 q o' t aj h1 h2 h3
   |false=>
    
    have Ss:∀t∈o.looksAt l.toArray,t≠d∧∀(q:Nat) (o':Oper),l[q]? =some o'→o'.dst=some t→eM Ks q=false→q<m:=by
     intro t ht
     rcases (z.look t ht).2 with h1|⟨j,tm,hj, -,po,tY, -⟩
     ·exact⟨fun e=>h1 m o jc (by rw[hd,e]),fun q o' hq nw _=>absurd nw (h1 q o' hq)⟩
     ·refine⟨fun e=>?_,fun q o' hq nw _=>?_⟩
      ·have:=uniq j m tm o d po jc (by rw[tY,e]) hd;omega
      ·have:=uniq q j o' tm t hq po nw tY;omega
    have yJ:∀t∈o.looksAt l.toArray,Kn l Ks f0 E m g N w t:=fun t ht=>⟨fun Fl=>by
      rw[g1 t fun q o' hq h1 h2 h3=>absurd h3 (by rw[Fl q o' h1 h2];decide)]
      exact h.off t Fl,fun q o' hq h1 h2 h3=>g3 q o' t hq h1 h2 h3⟩
    have key:∃v,ng E m N v w∧∀(w2:aG) (g2:aP),ae w2→(∀t∈o.looksAt l.toArray,g2 t=g t)→SO P n l.toArray o g2 w2 (fun f' w'=>f'=dh g2 o.dst v∧w'=w2):=by
     rcases (hF m o jc).go hE with ⟨hFR, -,hk⟩|⟨⟨X,hX,hFF⟩, -⟩|⟨-,hk⟩
     ·rcases hk with hk|hk
      ·have:=hR m o jc hk;rw[SH] at this;cases this
      ·obtain⟨v,hv,BD⟩:=Uf (z.slot hk) ⟨d,hd,eZ m o d jc hd⟩ (hFR g N w h.ext h.ni yJ)
       exact⟨v,hv,fun w2 g2 _ hg=>BD g2 w2 hg⟩
     rotate_left
     ·have:=hR m o jc (by unfold nD at hk;unfold xG;cases hq:vf Ks m<;>rw[hq] at hk<;>first|rfl|cases hk);rw[SH] at this;cases this
     ·refine⟨X,by rw[hX];rfl,fun w2 g2 GC hg=>hFF g2 N w2 w GC fun t ht=>?_⟩
      have k:=yJ t ht
      exact⟨fun Fl=>by rw[hg t ht];exact k.off Fl,fun q o' hq h1 h2 h3=>by rw[hg t ht];exact k.Ao q o' hq h1 h2 h3⟩
    obtain⟨v,hv,hvp⟩:=key
    have gD:∀t,t≠d→cx g d v t=g t:=fun t ht=>jA g v ht
    refine⟨cx g d v,fun t ht=>?_,fun q o' d' hq h1 h2 h3 h4=>?_,fun q o' t hq h1 h2 h3=>?_⟩
    ·have CH:t≠d:=fun e=>by
      have:=ht m o (an4 m) jc (by rw[hd,e]) hE
      rw[SH] at this;cases this
     rw[gD t CH]
     exact g1 t fun q o' hq=>ht q o' aj
    ·by_cases iX:q=m
     ·subst iX
      rw[jc] at h1;cases h1
      rw[hd] at h2;cases h2
      intro w2 gg GC hg
      rw[iP]
      exact hvp w2 gg GC fun t ht=>by rw[hg t ht,gD t (Ss t ht).1]
     ·have LS:d'≠d:=fun e=>iX<|uniq q m o' o d h1 jc (by rw[h2,e]) hd
      have zq:=hZ q o' h1
      intro w2 gg GC hg
      rw[gD d' LS]
      refine g2 q o' d' aj h1 h2 h3 h4 w2 gg GC fun t ht=>?_
      rw[hg t ht]
      refine gD t fun e=>?_
      rcases (zq.look t ht).2 with h5|⟨j,tm,hj, -,po,tY, -⟩
      ·exact h5 m o jc<|by rw[hd,e]
      ·have:=uniq j m tm o d po jc (by rw[tY,e]) hd;omega
    ·by_cases iX:q=m
     ·subst iX
      rw[jc] at h1;cases h1
      rw[hd] at h2;cases h2
      rw[iP];exact hv
     ·rw[gD t fun e=>iX (uniq q m o' o d h1 jc (by rw[h2,e]) hd)]
      exact g3 q o' t aj h1 h2 h3
theorem RL (a b:Bool) (c:Prop) [Decidable c]:((a||b)||decide c)=(a||(b||decide c)):=by cases a<;>cases b<;>rfl
theorem X6 (lL:(l.filterMap (·.dst)).Nodup) (hZ:∀(i:Nat) (o:Oper),l[i]? =some o→Z1 n l Ks i o) (eZ:∀(i:Nat) (o:Oper) (d:Nat),l[i]? =some o→o.dst=some d→d<n) {L:Nat→Bool} {f g0:aP} {w:aG} {V0:Nat→Bool} (h0:J2 P n l Ks ae K L f w g0 V0):∀m,m≤l.length→
  ∃g V,J2 P n l Ks ae K L f w g V∧NF l Ks L V m
 |0,_=>⟨g0,V0,h0,fun q hq=>absurd hq (aoq _)⟩
 |m+1,hm=>by
  obtain⟨g,V,h,hN⟩:=X6 lL hZ eZ h0 m aj
  have uniq:∀(q q':Nat) (a b:Oper) (t:Nat),l[q]? =some a→l[q']? =some b→a.dst=some t→b.dst=some t→q=q':=fun q q' a b t h1 h2 h3 h4=>
   ic (·.dst) l lL q q' a b h1 h2 (by show a.dst.isSome=true;rw[h3];rfl) (by show a.dst=b.dst;rw[h3,h4])
  by_cases hgo:tu l Ks m=true∧L m=false∧V m=false∧∀e,e<m→eM Ks e=true→jQ l e=false→L e=true
  rotate_left
  ·refine⟨g,V,h,fun q hq hx hL hr=>?_⟩
   by_cases iX:q=m
   ·subst iX
    cases hV:V q with
    |true=>rfl
    |false=>exact absurd ⟨hx,hL,hV,hr⟩ hgo
   ·exact hN q aj hx hL hr
  obtain⟨hx,hL,hV,hr⟩:=hgo
  have jc:l[m]? =some l[m]:=eR aj
  generalize l[m]=o at jc
  have z:=hZ m o jc
  have Ly:eM Ks m=true∧jQ l m=true:=by
   have:=hx;unfold tu at this;rwa [eW] at this
  have hso:ta o=true:=by have:=Ly.2;unfold jQ at this;rwa [jc] at this
  obtain⟨⟨d,hd⟩, -⟩:=z.xd Ly.1 hso
  have sM:=eZ m o d jc hd
  have hbV:∀e,e<m→eM Ks e=true→(L e||V e)=true:=by
   intro e he mY
   cases qM:jQ l e with
   |false=>rw[hr e he mY qM];rfl
   |true=>
    cases hLe:L e with
    |true=>rfl
    |false=>rw[hN e he (by unfold tu;rw[mY,qM];rfl) hLe fun e' h1 h2 h3=>hr e' aj h2 h3];rfl
  have xI:=h.we
  rw[Cf l 0 m o jc (by rw[ann];exact Ly.1) (by rw[ann,hL,hV];rfl) (fun e _ h2 h3=>hbV e aj h3)] at xI
  simp only[ann] at xI
  have hsr:=SO.WV (show SO P n l.toArray o g w _ from xI) z.sel<|fun t _=>rfl
  obtain⟨v,⟨g',hg',XN,Sc⟩,kO⟩:=Ip (P:=P) (n:=n) (ops:=l.toArray) (R:=fun v w'=>∃g',cw n g'=cw n (dh g o.dst v)∧ae w'∧WE P n l.toArray ae K (qz Ks (fun k=>(L k||V k)||decide (k=m)) 0 l) g' w') hso ⟨d,hd,sM⟩ (hsr.mono fun f' w' ⟨v,g',e1,e2,e3,e4⟩=>⟨v,e1,trivial,g',e2,e3,e4⟩)
  have IX:∀t,t<n→g' t=cx g d v t:=by
   intro t ht
   have:(cw n g').tmps[t]? =(cw n (dh g o.dst v)).tmps[t]?:=by rw[hg']
   rw[hd] at this
   simpa [cw,ht,dh] using this
  have XL:∀q,(V q||decide (q=m))=true→q≠m→V q=true:=fun q h4 iX=>by
   rcases anw.1 h4 with h4|h4
   ·exact h4
   ·exact absurd (by simpa using h4) iX
  
  have aeF:∀(q:Nat) (o':Oper),l[q]? =some o'→q≠m→(eM Ks q=false∨V q=true)→∀t∈o'.looksAt l.toArray,t≠d:=by
   intro q o' hq iX CL t ht e
   subst e
   rcases ((hZ q o' hq).look t ht).2 with h5|⟨j,tm,hj, -,po,tY,hj4⟩
   ·exact h5 m o jc hd
   ·have:=uniq j m tm o t po jc tY hd
    subst this
    rcases CL with h6|h6
    ·rw[hj4 h6] at Ly;cases Ly.1
    ·have:=h.vd q h6 j hj hx hL
     rw[hV] at this;cases this
  refine⟨g',fun k=>V k||decide (k=m),⟨h.rd,fun t ht hq=>?_,fun q o' d' h1 h2 h3 h4=>?_,h.i,?_,fun q hq=>?_,fun q hq e he mY qM=>?_,fun q hq m' hm' qi En=>?_⟩,fun q hq qi En hr'=>?_⟩
  ·have CH:t≠d:=fun e=>by
    have:=hq m o jc (by rw[hd,e])<|.inr (by simp)
    rw[hL] at this;cases this
   rw[IX t ht,jA g v CH]
   exact h.eq t ht fun q o' h1 h2 h3=>hq q o' h1 h2 (h3.imp id fun h=>by rw[h];rfl)
  ·by_cases iX:q=m
   ·subst iX
    rw[jc] at h1;cases h1
    rw[hd] at h2;cases h2
    intro w2 gg _ hg
    rw[IX d sM,iP]
    refine kO gg w2 fun t ht=>?_
    have hk:=z.look t ht
    rw[hg t ht,IX t hk.1]
    refine jA g v fun e=>?_
    rcases hk.2 with h5|⟨j,tm,hj, -,po,tY, -⟩
    ·exact h5 q o jc<|by rw[hd,e]
    ·have:=uniq j q tm o d po jc (by rw[tY,e]) hd;omega
   ·have CL:eM Ks q=false∨V q=true:=h3.imp id fun h=>XL q h iX
    have hv:=h.vp q o' d' h1 h2 CL h4
    have LS:d'≠d:=fun e=>iX<|uniq q m o' o d h1 jc (by rw[h2,e]) hd
    intro w2 gg GC hg
    rw[IX d' (eZ q o' d' h1 h2),jA g v LS]
    refine hv w2 gg GC fun t ht=>?_
    rw[hg t ht,IX t ((hZ q o' h1).look t ht).1]
    exact jA g v<|aeF q o' h1 iX CL t ht
  ·rw[nO (L':=fun k=>(L k||V k)||decide (k=m)) l 0 fun k _ _=>(RL _ _ _).symm]
   exact Sc
  ·by_cases iX:q=m
   ·subst iX;exact hx
   ·exact h.vx q<|XL q hq iX
  ·by_cases iX:q=m
   ·subst iX;exact hr e he mY qM
   ·exact h.vl q (XL q hq iX) e he mY qM
  ·show (V m'||decide (m'=m))=true
   by_cases iX:q=m
   ·subst iX
    rw[hN m' hm' qi En fun e h1 h2 h3=>hr e aj h2 h3];rfl
   ·rw[h.vd q (XL q hq iX) m' hm' qi En];rfl
  ·show (V q||decide (q=m))=true
   by_cases iX:q=m
   ·subst iX;simp
   ·rw[hN q aj qi En hr'];rfl
theorem Q8 (lL:(l.filterMap (·.dst)).Nodup) (hZ:∀(i:Nat) (o:Oper),l[i]? =some o→Z1 n l Ks i o) (eZ:∀(i:Nat) (o:Oper) (d:Nat),l[i]? =some o→o.dst=some d→d<n) {L:Nat→Bool} {f g:aP} {w:aG} {V:Nat→Bool} (h:J2 P n l Ks ae K L f w g V) (hN:NF l Ks L V l.length) {i:Nat} {o:Oper}
  (ho:l[i]? =some o) (hE:eM Ks i=true) (hS:jQ l i=false) (ub:L i=false) (hb:∀e,e<i→eM Ks e=true→jQ l e=false→L e=true) (sM:∀j,kU o j=true→L j=true):
  SO P n l.toArray o f w (fun f' w'=>∃g' V',J2 P n l Ks ae K (fun k=>L k||decide (k=i)) f' w' g' V'∧NF l Ks (fun k=>L k||decide (k=i)) V' l.length):=by
 have z:=hZ i o ho
 have jK:=(dU.1 ho).1
 have uniq:∀(q q':Nat) (a b:Oper) (t:Nat),l[q]? =some a→l[q']? =some b→a.dst=some t→b.dst=some t→q=q':=fun q q' a b t h1 h2 h3 h4=>
  ic (·.dst) l lL q q' a b h1 h2 (by show a.dst.isSome=true;rw[h3];rfl) (by show a.dst=b.dst;rw[h3,h4])
 have hXi:tu l Ks i=false:=by unfold tu;rw[hS,apA]
 have hVi:V i=false:=by
  cases hq:V i with
  |false=>rfl
  |true=>rw[h.vx i hq] at hXi;cases hXi
 have CL:∀q,(eM Ks q=false∨V q=true)→q≠i:=fun q h3 e=>by
  subst e
  rcases h3 with h3|h3
  ·rw[hE] at h3;cases h3
  ·rw[hVi] at h3;cases h3
 have hbV:∀e,e<i→eM Ks e=true→(L e||V e)=true:=by
  intro e he mY
  cases qM:jQ l e with
  |false=>rw[hb e he mY qM];rfl
  |true=>
   cases hLe:L e with
   |true=>rfl
   |false=>rw[hN e aj (by unfold tu;rw[mY,qM];rfl) hLe fun e' h1 h2 h3=>hb e' aj h2 h3];rfl
 have xI:=h.we
 rw[Cf l 0 i o ho (by rw[ann];exact hE) (by rw[ann,ub,hVi];rfl) (fun e _ h2 h3=>hbV e aj h3)] at xI
 simp only[ann] at xI
 have Ss:∀t∈o.looksAt l.toArray,f t=g t:=by
  intro t ht
  have q:=z.look t ht
  refine(h.eq t q.1 fun q' o' h1 h2 h3=>?_).symm
  rcases q.2 with h4|⟨j,tm,hj,LM,po,tY, -⟩
  ·exact absurd h2<|h4 q' o' h1
  ·rw[uniq q' j o' tm t h1 po h2 tY];exact sM j LM
 refine(SO.WV (show SO P n l.toArray o g w _ from xI) z.sel Ss).mono ?_
 rintro f' w' ⟨v,g',rfl,hg',XN,Sc⟩
 have IX:∀t,t<n→g' t=dh g o.dst v t:=by
  intro t ht
  have:(cw n g').tmps[t]? =(cw n (dh g o.dst v)).tmps[t]?:=by rw[hg']
  simpa [cw,ht] using this
 refine X6 (V0:=V) lL hZ eZ (L:=fun k=>L k||decide (k=i)) (g0:=g') ⟨fun q o' h1 h2=>by rw[h.rd q o' h1 h2];rfl,fun t ht hq=>?_,fun q o' d h1 h2 h3 h4=>?_,XN,?_,h.vx,fun q hq e he mY qM=>by rw[h.vl q hq e he mY qM];rfl,fun q hq m hm hx hL=>h.vd q hq m hm hx ?_⟩ l.length<|amD _
 ·rw[IX t ht]
  cases hd:o.dst with
  |none=>
   show g t=f t
   refine h.eq t ht fun q o' h1 h2 h3=>?_
   rcases anw.1 (hq q o' h1 h2 h3) with h4|h4
   ·exact h4
   ·exact absurd (by simpa using h4)<|CL q h3
  |some d=>
   show cx g d v t=cx f d v t
   by_cases CH:t=d
   ·subst CH;rw[iP,iP]
   ·rw[jA g v CH,jA f v CH]
    refine h.eq t ht fun q o' h1 h2 h3=>?_
    rcases anw.1 (hq q o' h1 h2 h3) with h4|h4
    ·exact h4
    ·exact absurd (by simpa using h4)<|CL q h3
 ·have h4':L q=false:=by
   cases hq:L q with
   |false=>rfl
   |true=>rw[hq] at h4;cases h4
  have hv:=h.vp q o' d h1 h2 h3 h4'
  have gD:∀t,t<n→o.dst≠some t→g' t=g t:=by
   intro t ht hd
   rw[IX t ht]
   cases nw:o.dst with
   |none=>rfl
   |some d'=>exact jA g v fun e=>hd (by rw[nw,e])
  intro w2 gg GC hg
  rw[gD d (eZ q o' d h1 h2) (fun e=>CL q h3 (uniq q i o' o d h1 ho h2 e))]
  refine hv w2 gg GC fun t ht=>?_
  rw[hg t ht]
  have zq:=(hZ q o' h1).look t ht
  refine gD t zq.1 fun e=>?_
  rcases zq.2 with h5|⟨j,tm,hj, -,po,tY,hj4⟩
  ·exact h5 i o ho e
  ·have:=uniq j i tm o t po ho tY e
   subst this
   rcases h3 with h3|h3
   ·rw[hj4 h3] at hE;cases hE
   ·rw[h.vl q h3 j hj hE hS] at ub;cases ub
 ·rw[nO (L':=fun k=>(L k||V k)||decide (k=i)) l 0 fun k _ _=>by cases L k<;>cases V k<;>cases decide (k=i)<;>rfl]
  exact Sc
 ·cases hq:L m with
  |false=>rfl
  |true=>simp[hq] at hL
theorem Ld {Ks:List ZK} {d:Nat}:∀(r:dw) (i:Nat) (ks:List ZK),Ks.drop i=ks→d∈Fa ks r→∃(j:Nat) (o:Oper),r[j]? =some o∧nD Ks (i+j)=true∧o.dst.getD 0=d
 |[],_,_,_,h=>by cases h
 |o::r,i,ks,h,hd=>by
  have LL:Ks.drop (i+1)=ks.tail:=by rw[←anx,h];cases ks<;>rfl
  have St:ks.headD .r=vf Ks i:=by
   unfold vf
   rw[←h,im]
   cases hq:Ks.drop i with
   |nil=>rw[amQ (by have:=amz List.length hq;simp at this;omega)];rfl
   |cons a b=>
    have:(Ks.drop i)[0]? =some a:=by rw[hq];rfl
    rw[ank,ani] at this
    rw[this];rfl
  have abS:d∈Fa ks.tail r→∃(j:Nat) (o':Oper),(o::r)[j]? =some o'∧nD Ks (i+j)=true∧o'.dst.getD 0=d:=fun hd=>by
   obtain⟨j,o',h1,h2,h3⟩:=Ld r (i+1) ks.tail LL hd
   exact⟨j+1,o',by simpa using h1,by rw[show i+(j+1)=i+1+j from by omega];exact h2,h3⟩
  unfold Fa at hd
  rw[St] at hd
  cases hk:vf Ks i with
  |n=>
   rw[hk] at hd
   rcases amV.1 hd with rfl|hd
   ·exact⟨0,o,J,by rw[ani];unfold nD;rw[hk];rfl,J⟩
   ·exact abS hd
  |_=>rw[hk] at hd;exact abS hd
theorem ma {id:Nat} {Q:Exit→Act→aG→Prop} {f:aP} {w:aG} (Ks:List ZK) (ae:aG→Prop) (hm:P.follows .mixedOrders=true) (rN:okZ n l Ks=true) (hI:∀w',Ext w w'→ae w')
  (h:PZ P n l.toArray w ae (KZ P n l.toArray Q w ae (Fz Ks l) (Fa Ks l)) l Ks [] f):WC P n (.region id l.toArray true) Q f w:=by
 simp only[okZ,eW] at rN
 obtain⟨hE,hN,hn,h1⟩:=rN
 have lL:(l.filterMap (·.dst)).Nodup:=oO _ hN
 have eZ:∀(i:Nat) (o:Oper) (d:Nat),l[i]? =some o→o.dst=some d→d<n:=by
  intro i o d hi hd
  have:=amK.1 hn d<|am4.2 ⟨o,dN hi,hd⟩
  simpa using this
 have hZ:∀(i:Nat) (o:Oper),l[i]? =some o→Z1 n l Ks i o:=fun i o hi=>by
  have:=N1 l 0 h1 i o hi
  rwa [ann] at this
 have uniq:∀(q q':Nat) (a b:Oper) (t:Nat),l[q]? =some a→l[q']? =some b→a.dst=some t→b.dst=some t→q=q':=fun q q' a b t h1 h2 h3 h4=>
  ic (·.dst) l lL q q' a b h1 h2 (by show a.dst.isSome=true;rw[h3];rfl) (by show a.dst=b.dst;rw[h3,h4])
 obtain⟨E,U',f',hEl, -,hF0,hL,hK⟩:=PZ.table (f0:=f) lL hZ l Ks 0 [] f [] rfl rfl rfl (by simp)
  ⟨fun g N w t hV qT=>⟨fun _=>qT.off fun q o h1 h2=>by
   cases hq:eM Ks q with
   |true=>rfl
   |false=>exact absurd (hV q o h1 h2 hq) (aoq _),fun j Φ hj=>by simp at hj⟩,fun j t Φ hj=>by simp at hj⟩ h
 have hF:∀(i:Nat) (o:Oper),l[i]? =some o→Fact P n l Ks w ae f E i o:=fun i o hi=>hF0 i o (an6 _) hi
 have Fm:∀d,d∈Fa Ks l→∃(q:Nat) (o:Oper),l[q]? =some o∧nD Ks q=true∧o.dst=some d:=fun d hd=>by
  obtain⟨j,o,h2,h3,h4⟩:=Ld l 0 Ks rfl hd
  rw[ann] at h3
  have gD:eM Ks j=false:=by unfold nD at h3;unfold eM;cases hq:vf Ks j<;>rw[hq] at h3<;>first|rfl|exact Bool.noConfusion h3
  obtain⟨d',nw⟩:=(hZ j o h2).dst gD
  rw[nw] at h4
  exact⟨j,o,h2,h3,by rw[nw];exact amz some h4⟩
 have XM:∀q,nD Ks q=true→xG Ks q=true:=fun q h3=>by unfold nD at h3;unfold xG;cases hq:vf Ks q<;>rw[hq] at h3<;>first|rfl|exact Bool.noConfusion h3
 refine drj (P:=P) (Q:=Q) (fun L g w'=>(∀(i:Nat) (o:Oper),L i=true→l[i]? =some o→∀j,kU o j=true→L j=true)∧((∃N,J1 l Ks w f E L g w' N)∨∃g2 V,J2 P n l Ks ae (fun f w=>Q .normal (cw n f) w) L g w' g2 V∧NF l Ks L V l.length)) hm hE ?_ ?_ ?_
 ·exact⟨fun i o hi=>Bool.noConfusion hi,.inl ⟨fun _=>False,fun b hb=>hb.elim,fun p q o o' d d' hp=>Bool.noConfusion hp,fun e _ _=>rfl,Ext.drew w,fun t _=>rfl,fun q o t hq=>Bool.noConfusion hq⟩⟩
 ·rintro L g w' i o ho ub hLl sM ⟨hC,hJ⟩
  have z:=hZ i o ho
  have jK:=(dU.1 ho).1
  have LY:∀(q:Nat) (o':Oper),(L q||decide (q=i))=true→l[q]? =some o'→∀j,kU o' j=true→(L j||decide (j=i))=true:=by
   intro q o' hq tU j hj
   rcases anw.1 hq with h1|h1
   ·rw[hC q o' h1 tU j hj];rfl
   ·have:q=i:=by simpa using h1
    subst this
    rw[ho] at tU;cases tU
    rw[sM j hj];rfl
  have late:∀(g2:aP) (V:Nat→Bool),J2 P n l Ks ae (fun f w=>Q .normal (cw n f) w) L g w' g2 V→NF l Ks L V l.length→∀d,o.dst=some d→(eM Ks i=false∨V i=true)→(eM Ks i=true→tu l Ks i=true)→
    SO P n l.toArray o g w' (fun Et mB=>∃g2 V,J2 P n l Ks ae (fun f w=>Q .normal (cw n f) w) (fun k=>L k||decide (k=i)) Et mB g2 V∧NF l Ks (fun k=>L k||decide (k=i)) V l.length):=by
   intro g2 V hJ GB d hd CL aeB
   have Ss:∀t∈o.looksAt l.toArray,g t=g2 t:=by
    intro t ht
    have q:=z.look t ht
    refine(hJ.eq t q.1 fun q' o' h1 h2 h3=>?_).symm
    rcases q.2 with h4|⟨j,tm,hj,LM,po,tY, -⟩
    ·exact absurd h2<|h4 q' o' h1
    ·rw[uniq q' j o' tm t h1 po h2 tY];exact sM j LM
   have XE:∀q,(L q||decide (q=i))=true→q≠i→L q=true:=fun q h4 tw=>by
    rcases anw.1 h4 with h4|h4
    ·exact h4
    ·exact absurd (by simpa using h4) tw
   have hLf:∀q,(L q||decide (q=i))=false→L q=false:=fun q h4=>by
    cases hq:L q with
    |false=>rfl
    |true=>simp[hq] at h4
   refine(hJ.vp i o d ho hd CL ub w' g hJ.i Ss).mono ?_
   rintro Et mB ⟨rfl,rfl⟩
   refine⟨g2,V,⟨fun q o' h1 h2=>by rw[hJ.rd q o' h1 h2];rfl,fun t ht hq=>?_,fun q o' d' h1 h2 h3 h4=>hJ.vp q o' d' h1 h2 h3 (hLf q h4),hJ.i,?_,hJ.vx,fun q hq e he mY qM=>by rw[hJ.vl q hq e he mY qM];rfl,fun q hq m hm hx En=>hJ.vd q hq m hm hx (hLf m En)⟩,fun q hq hx En hr=>GB q hq hx (hLf q En) fun e he mY qM=>XE e (hr e he mY qM) fun e'=>?_⟩
   ·rw[hd]
    show g2 t=cx g d (g2 d) t
    by_cases CH:t=d
    ·subst CH;rw[iP]
    ·rw[jA g _ CH]
     refine hJ.eq t ht fun q o' h1 h2 h3=>XE q (hq q o' h1 h2 h3) fun e=>?_
     subst e
     rw[ho] at h1;cases h1
     rw[hd] at h2;cases h2
     exact CH J
   ·rw[nO (L':=fun k=>L k||V k) l 0 fun k _ hk=>?_]
    ·exact hJ.we
    ·by_cases Ah:k=i
     ·subst Ah
      rcases CL with h1|h1
      ·rw[h1] at hk;cases hk
      ·simp[h1]
     ·rw[amJ Ah,an7]
   ·subst e'
    have:=aeB mY
    unfold tu at this
    rw[qM,apA] at this;cases this
  cases xQ:eM Ks i with
  |true=>
   have hb:∀e,e<i→eM Ks e=true→jQ l e=false→L e=true:=fun e he mY qM=>Hq hC l.length i e o ho sM<|z.ord xQ e he mY qM
   have hsl:ta o=jQ l i:=by unfold jQ;rw[ho]
   have hR:∀(q:Nat) (o':Oper),l[q]? =some o'→xG Ks q=true→L q=true:=fun q o' hq hk=>by
    have:=(hZ q o' hq).rd hk i jK xQ
    exact Hq hC l.length i q o ho sM this
   rcases hJ with ⟨N,hJ⟩|⟨g2,V,hJ,GB⟩
   ·have I0:jQ l i=false:=by
     cases I0:jQ l i with
     |false=>rfl
     |true=>
      obtain⟨-,e,he,mY,qM⟩:=z.xd xQ (by rw[hsl,I0])
      have h1:=hb e he mY qM
      rw[hJ.no e aj mY] at h1;cases h1
    obtain⟨g2,q1,q2,q3⟩:=X5 lL hZ hF hJ hI hR eZ l.length (amD _)
    have yJ:∀t,Kn l Ks f E l.length g2 N w' t:=fun t=>⟨fun Fl=>by
      rw[q1 t fun q o' _ h1 h2 h3=>absurd h3 (by rw[Fl q o' h1 h2];decide)]
      exact hJ.off t Fl,fun q o' hq h1 h2 h3=>q3 q o' t hq h1 h2 h3⟩
    have hV:∀t,Yg l Ks l.length t:=fun t q o' h1 _ _=>(dU.1 h1).1
    have xI:=hK w' g2 N hJ.ext hJ.ni (fun d d' h1 h2 h3=>by
     obtain⟨p,o1,a1,a2,a3⟩:=Fm d h1
     obtain⟨q,o2,b1,b2,b3⟩:=Fm d' h2
     have e1:g2 d=g d:=q1 d fun q' o' _ c1 c2 _=>by rw[uniq q' p o' o1 d c1 a1 c2 a3];exact hR p o1 a1 (XM p a2)
     have e2:g2 d'=g d':=q1 d' fun q' o' _ c1 c2 _=>by rw[uniq q' q o' o2 d' c1 b1 c2 b3];exact hR q o2 b1 (XM q b2)
     rw[e1,e2]
     exact hJ.dis p q o1 o2 d d' (hR p o1 a1 (XM p a2)) (hR q o2 b1 (XM q b2)) (fun e=>h3 (by subst e;rw[a1] at b1;cases b1;rw[a3] at b3;exact amE b3)) a1 b1 a2 b2 a3 b3) (fun t ht=>(hL.is g2 N w' t (hV t) (yJ t)).1 ht) (fun j t Φ hj=>(hL.is g2 N w' t (hV t) (yJ t)).2 j Φ hj)
    have hJ2:J2 P n l Ks ae (fun f w=>Q .normal (cw n f) w) L g w' g2 (fun _=>false):=by
     refine⟨hR,fun t _ ht=>q1 t fun q o' _ h1 h2 h3=>ht q o' h1 h2 (.inl h3),fun q o' d h1 h2 h3=>q2 q o' d (dU.1 h1).1 h1 h2 (h3.resolve_right au),hI w' hJ.ext,?_,fun q hq=>(by cases hq),fun q hq=>(by cases hq),fun q hq=>(by cases hq)⟩
     rw[nO (L':=L) l 0 fun k _ _=>an7 _]
     have:qz Ks L 0 l=Fz Ks l:=by
      rw[←E6 l 0 Ks rfl]
      refine nO l 0 fun k _ hk=>?_
      by_cases Ag:k<l.length
      ·exact hJ.no k Ag hk
      ·cases hLk:L k with
       |false=>rfl
       |true=>exact absurd (hLl k hLk) Ag
     rw[this];exact xI
    have GB:NF l Ks L (fun _=>false) l.length:=fun q hq hx _ hr=>by
     have qi:eM Ks q=true∧jQ l q=true:=by unfold tu at hx;rwa [eW] at hx
     have tU:l[q]? =some l[q]:=eR hq
     obtain⟨-,e,he,mY,qM⟩:=(hZ q _ tU).xd qi.1 (by have:=qi.2;unfold jQ at this;rwa [tU] at this)
     have h1:=hr e he mY qM
     rw[hJ.no e aj mY] at h1;cases h1
    exact(Q8 lL hZ eZ hJ2 GB ho xQ I0 ub hb sM).mono fun Et mB h=>⟨LY,.inr h⟩
   ·cases I0:jQ l i with
    |false=>exact(Q8 lL hZ eZ hJ GB ho xQ I0 ub hb sM).mono fun Et mB h=>⟨LY,.inr h⟩
    |true=>
     obtain⟨⟨d,hd⟩, -⟩:=z.xd xQ (by rw[hsl,I0])
     exact(late g2 V hJ GB d hd (.inr (GB i jK (by unfold tu;rw[xQ,I0];rfl) ub hb))<|fun XO=>by unfold tu;rw[I0,apg];exact XO).mono fun Et mB h=>⟨LY,.inr h⟩
  |false=>
   obtain⟨d,hd⟩:=z.dst xQ
   rcases hJ with ⟨N,hJ⟩|⟨g2,V,hJ,GB⟩
   ·
    have yJ:∀t∈o.looksAt l.toArray,Kn l Ks f E i g N w' t:=by
     intro t ht
     refine⟨hJ.off t,fun q o' hq h1 h2 h3=>?_⟩
     rcases (z.look t ht).2 with h4|⟨j,tm,hj,LM,po,tY, -⟩
     ·exact absurd h2<|h4 q o' h1
     ·have hqj:=uniq q j o' tm t h1 po h2 tY
      subst hqj
      exact hJ.Ao q o' t (sM q LM) h1 h2 h3
    have fin:∀(v:Value) (w2:aG) (N':cb),Ext w' w2→EC w N' w2→(∀b,N b→N' b)→(∀b,N' b→N b∨w'.heap.size≤b)→ng E i N' v w2→
      (nD Ks i=true→∀(q:Nat) (o':Oper) (d':Nat),L q=true→l[q]? =some o'→nD Ks q=true→o'.dst=some d'→g d'≠v)→J1 l Ks w f E (fun k=>L k||decide (k=i)) (dh g o.dst v) w2 N':=by
     intro v w2 N' hx hni Sn hn2 hv LR
     have LX:∀q,(L q||decide (q=i))=true→q≠i→L q=true:=fun q h4 tw=>by
      rcases anw.1 h4 with h4|h4
      ·exact h4
      ·exact absurd (by simpa using h4) tw
     rw[hd]
     have LH:∀(q:Nat) (o':Oper) (t:Nat),l[q]? =some o'→o'.dst=some t→q≠i→cx g d v t=g t:=fun q o' t h1 h2 tw=>jA g v<|fun e=>tw<|uniq q i o' o d h1 ho (by rw[h2,e]) hd
     refine⟨hni,fun p q o1 o2 d1 d2 hp hq Gu a1 b1 a2 b2 a3 b3=>?_,fun e he mY=>?_,hJ.ext.trans hx,fun t ht=>?_,fun q o' t hq h1 h2 h3=>?_⟩
     ·show cx g d v d1≠cx g d v d2
      by_cases Sk:p=i
      ·subst Sk
       have tw:q≠p:=fun e=>Gu e.symm
       rw[ho] at a1;cases a1
       rw[hd] at a3;cases a3
       rw[iP,LH q o2 d2 b1 b3 tw]
       exact fun e=>LR a2 q o2 d2 (LX q hq tw) b1 b2 b3 e.symm
      ·by_cases tw:q=i
       ·subst tw
        rw[ho] at b1;cases b1
        rw[hd] at b3;cases b3
        rw[iP,LH p o1 d1 a1 a3 Sk]
        exact LR b2 p o1 d1 (LX p hp Sk) a1 a2 a3
       ·rw[LH p o1 d1 a1 a3 Sk,LH q o2 d2 b1 b3 tw]
        exact hJ.dis p q o1 o2 d1 d2 (LX p hp Sk) (LX q hq tw) Gu a1 b1 a2 b2 a3 b3
     ·rw[hJ.no e he mY,amJ (fun e'=>by rw[e',xQ] at mY;cases mY)];rfl
     ·show cx g d v t=f t
      rw[jA g v (fun e=>by have:=ht i o ho (by rw[hd,e]);rw[xQ] at this;cases this)]
      exact hJ.off t ht
     ·by_cases tw:q=i
      ·subst tw
       rw[ho] at h1;cases h1
       rw[hd] at h2;cases h2
       show ng E q N' (cx g d v d) w2
       rw[iP];exact hv
      ·show ng E q N' (cx g d v t) w2
       rw[LH q o' t h1 h2 tw]
       exact(hF q o' h1).mono.ext _ _ _ _ hx ((hF q o' h1).mono.grow _ _ _ _ Sn hn2 (hJ.Ao q o' t (LX q hq tw) h1 h2 h3))
    have ab3:∀w2,Ext w' w2→EC w N w2:=fun w2 hx b hb=>⟨(hJ.ni b hb).1,am8 (hJ.ni b hb).2 hx.size⟩
    rcases (hF i o ho).go xQ with ⟨hFR,hN, -⟩|⟨⟨X,hX,hFF⟩,hN⟩|⟨⟨zz,T,hX,hFN⟩,hN⟩
    ·refine(hFR g N w' hJ.ext hJ.ni yJ).mono ?_
     rintro Et mB ⟨v,rfl,hx,hv⟩
     exact⟨LY,.inl ⟨N,fin v mB N hx (ab3 mB hx) (fun _ h=>h) (fun _ h=>.inl h) hv fun h=>by rw[hN] at h;cases h⟩⟩
    ·refine(hFF g N w' w' (hI w' hJ.ext) yJ).mono ?_
     rintro Et mB ⟨rfl,rfl⟩
     exact⟨LY,.inl ⟨N,fin X mB N (Ext.refl _) hJ.ni (fun _ h=>h) (fun _ h=>.inl h) (by rw[hX];rfl) fun h=>by rw[hN] at h;cases h⟩⟩
    ·refine(hFN g N w' hJ.ext yJ).mono ?_
     rintro Et mB ⟨v,rfl,hx,b0,pL,wq,XF⟩
     have ahI:b0<mB.heap.size:=(am7.1 XF).1
     refine⟨LY,.inl ⟨fun b=>N b∨b=b0,fin v mB _ hx (fun b hb=>?_) (fun _ h=>.inl h) (fun b hb=>?_) (by rw[hX];exact⟨b0,pL,amP hJ.ext.size wq,XF,.inr rfl⟩) fun _ q o' d' LX h1 h2 h3 e=>?_⟩⟩
     ·rcases hb with hb|rfl
      ·exact ab3 mB hx b hb
      ·exact⟨amP hJ.ext.size wq,ahI⟩
     ·rcases hb with hb|rfl
      ·exact .inl hb
      ·exact .inr wq
     ·have hqE:eM Ks q=false:=by unfold nD at h2;unfold eM;cases hq:vf Ks q<;>rw[hq] at h2<;>first|rfl|exact Bool.noConfusion h2
      rcases (hF q o' h1).go hqE with ⟨-,h9, -⟩|⟨-,h9⟩|⟨⟨z2,T2,hX2, -⟩, -⟩
      ·rw[h2] at h9;cases h9
      ·rw[h2] at h9;cases h9
      ·have:=hJ.Ao q o' d' LX h1 h3 hqE
       rw[hX2] at this
       obtain⟨b1,c1, -,c3, -⟩:=this
       rw[c1,pL] at e
       have:b1=b0:=by
        have:=amz (fun v=>match v with|Value.pointer (some a)=>a.block|_=>0) e
        simpa using this
       have h7:=(am7.1 c3).1
       omega
   ·exact(late g2 V hJ GB d hd (.inl xQ)<|fun XO=>by rw[xQ] at XO;cases XO).mono fun Et mB h=>⟨LY,.inr h⟩
 ·rintro g w' ⟨-,hJ⟩
  have hz:qz Ks (fun k=>decide (k<l.length)) 0 l=[]:=E5 l 0 fun k _ hk=>by rw[amC aj]
  rcases hJ with ⟨N,hJ⟩|⟨g2,V,hJ, -⟩
  ·have yJ:∀t,Kn l Ks f E l.length g N w' t:=fun t=>⟨hJ.off t,fun q o' hq h1 h2 h3=>hJ.Ao q o' t (amC hq) h1 h2 h3⟩
   have hV:∀t,Yg l Ks l.length t:=fun t q o' h1 _ _=>(dU.1 h1).1
   have xI:=hK w' g N hJ.ext hJ.ni (fun d d' h1 h2 h3=>by
    obtain⟨p,o1,a1,a2,a3⟩:=Fm d h1
    obtain⟨q,o2,b1,b2,b3⟩:=Fm d' h2
    exact hJ.dis p q o1 o2 d d' (amC (dU.1 a1).1) (amC (dU.1 b1).1) (fun e=>h3 (by subst e;rw[a1] at b1;cases b1;rw[a3] at b3;exact amE b3)) a1 b1 a2 b2 a3 b3) (fun t ht=>(hL.is g N w' t (hV t) (yJ t)).1 ht) (fun j t Φ hj=>(hL.is g N w' t (hV t) (yJ t)).2 j Φ hj)
   have:Fz Ks l=[]:=by
    rw[←E6 l 0 Ks rfl,←hz]
    refine nO l 0 fun k _ hk=>?_
    by_cases Ag:k<l.length
    ·have:=hJ.no k Ag hk
     rw[amC Ag] at this;cases this
    ·rw[amJ Ag]
   rw[this] at xI
   exact xI
  ·have xI:=hJ.we
   rw[E5 l 0 fun k _ hk=>by rw[amC aj];rfl] at xI
   have:cw n g2=cw n g:=by
    unfold cw
    congr 2
    funext t
    exact hJ.eq t t.2 fun q o h3 _ _=>amC (dU.1 h3).1
   have h9:Q .normal (cw n g2) w':=xI
   rwa [this] at h9
end
end Go.Ew
namespace Go.Ew
open Go.RowKit
variable {g:aP} {N:cb} {w:aG} {K:aP→aG→Prop} {b:Nat}
def J_:ZK→Bool
 | .r=>true
 | .s=>true
 |_=>false
def DM (ops:Array Oper) (o:Oper) (ag:UN):Bool:=(o.looksAt ops).all (fun t=>!xH ag t)
def JN (ops:Array Oper) (o:Oper) (ag:UN) (d:Nat):Bool:=(o.looksAt ops).all (fun t=>Nat.beq t d||!xH ag t)&&(o.looksAt ops).contains d
def Qw (ops:Array Oper) (o:Oper) (ag:UN) (d d1:Nat):Bool:=(o.looksAt ops).all (fun t=>Nat.beq t d||(Nat.beq t d1||!xH ag t))&&((o.looksAt ops).contains d&&((o.looksAt ops).contains d1&&!Nat.beq d d1))
theorem mN {Φ:Value→aG→Prop} (h:∀v w w',Ext w w'→Φ v w→Φ v w'):r7 (fun _=>Φ):=⟨fun _ v w w'=>h v w w',fun _ _ _ _ _ _ h=>h⟩
theorem mE {Φ:Value→Prop}:r7 (fun _ v _=>Φ v):=⟨fun _ _ _ _ _ h=>h,fun _ _ _ _ _ _ h=>h⟩
section
variable {P:Program} {n:Nat} {ops:Array Oper} {w0:aG} {ae:aG→Prop} {K:UN→aP→Prop} {f:aP} {rest:dw} {zk:ZK} {ks:List ZK} {ag:UN} {o:Oper} {v X:Value} {Φ Ψ Ψ':PR} {d d1 d2:Nat}
theorem OD (h:DM ops o ag=true) (ha:Yp (o.looksAt ops) ag f g N w):∀t∈o.looksAt ops,g t=f t:=by
 intro t ht
 have:=amK.1 h t ht
 exact(ha t ht).1 (by simpa using this)
theorem ye (h:PZ P n ops w0 ae K rest ks ag f):PZ P n ops w0 ae K (o::rest) (.e::ks) ag f:=h
theorem PZ.of (hz:J_ zk=true) (h:(∃X,GN P n ops w0 o ag f (eN X)∧PZ P n ops w0 ae K rest ks ag (dh f o.dst X))∨(∃d Φ,o.dst=some d∧r7 Φ∧GN P n ops w0 o ag f Φ∧PZ P n ops w0 ae K rest ks ((d,Φ)::ag) f)):PZ P n ops w0 ae K (o::rest) (zk::ks) ag f:=by
 cases zk with
 |r=>exact h
 |s=>exact h
 |f=>cases hz
 |e=>cases hz
 |n=>cases hz
theorem yz (h:K ag f):PZ P n ops w0 ae K [] ks ag f:=h
theorem yq (hz:J_ zk=true) (hf:(lg n o&&DM ops o ag)=true) (h:PW P n ops w0 (fun f'=>PZ P n ops w0 ae K rest ks ag f') [o] f):PZ P n ops w0 ae K (o::rest) (zk::ks) ag f:=by
 obtain⟨X,h1,h2⟩:=h
 rw[eW] at hf
 exact PZ.of hz<|.inl ⟨X,fun w g N hx _ ha=>SO.rY (R:=fun v w'=>v=X) ((h1 w hx).mono fun f' w' hq=>⟨X,hq.1,hq.2,J⟩) (gC hf.1).1 (OD hf.2 ha) (gC hf.1).2,h2⟩
theorem yu (hz:J_ zk=true) (Φ:PR) (hd:o.dst=some d) (hm:r7 Φ) (hf:(lg n o&&DM ops o ag)=true) (h:∀w N,Ext w0 w→EC w0 N w→SO P n ops o f w (fun f' w'=>∃v,f'=dh f o.dst v∧Ext w w'∧Φ N v w')) (r:PZ P n ops w0 ae K rest ks ((d,Φ)::ag) f):PZ P n ops w0 ae K (o::rest) (zk::ks) ag f:=by
 rw[eW] at hf
 exact PZ.of hz<|.inr ⟨d,Φ,hd,hm,fun w g N hx hn ha=>SO.rY (R:=fun v w'=>Φ N v w') (h w N hx hn) (gC hf.1).1 (OD hf.2 ha) (gC hf.1).2,r⟩
theorem RT {j:Nat} (hU:ag[j]? =some (d,Ψ)) (h:JN ops o ag d=true) (ha:Yp (o.looksAt ops) ag f g N w):Ψ N (g d) w∧∀t∈o.looksAt ops,g t=cx f d (g d) t:=by
 unfold JN at h
 rw[eW] at h
 refine⟨(ha d<|anj.1 h.2).2 j Ψ hU,fun t ht=>?_⟩
 by_cases e:t=d
 ·subst e;exact(iP _ _ _).symm
 ·rw[jA _ _ e]
  have:=amK.1 h.1 t ht
  rcases anw.1 this with h1|h1
  ·exact absurd (anO h1) e
  ·exact(ha t ht).1 (by simpa using h1)
theorem QV (hz:J_ zk=true) (j:Nat) (hU:ag[j]? =some (d,Ψ)) (hf:(lg n o&&JN ops o ag d)=true) (h:∀w N v,Ext w0 w→EC w0 N w→Ψ N v w→SO P n ops o (cx f d v) w (fun f' w'=>f'=dh (cx f d v) o.dst X∧Ext w w')) (r:PZ P n ops w0 ae K rest ks ag (dh f o.dst X)):PZ P n ops w0 ae K (o::rest) (zk::ks) ag f:=by
 rw[eW] at hf
 refine PZ.of hz<|.inl ⟨X,fun w g N hx hn ha=>?_,r⟩
 obtain⟨h1,h2⟩:=RT hU hf.2 ha
 exact SO.rY (R:=fun v w'=>v=X) ((h w N (g d) hx hn h1).mono fun f' w' hq=>⟨X,hq.1,hq.2,J⟩) (gC hf.1).1 h2 (gC hf.1).2
theorem lE (hz:J_ zk=true) (Φ:PR) (j:Nat) (hU:ag[j]? =some (d,Ψ)) (hd:o.dst=some d2) (hm:r7 Φ) (hf:(lg n o&&JN ops o ag d)=true) (h:∀w N v,Ext w0 w→EC w0 N w→Ψ N v w→SO P n ops o (cx f d v) w (fun f' w'=>∃u,f'=dh (cx f d v) o.dst u∧Ext w w'∧Φ N u w')) (r:PZ P n ops w0 ae K rest ks ((d2,Φ)::ag) f):PZ P n ops w0 ae K (o::rest) (zk::ks) ag f:=by
 rw[eW] at hf
 refine PZ.of hz<|.inr ⟨d2,Φ,hd,hm,fun w g N hx hn ha=>?_,r⟩
 obtain⟨h1,h2⟩:=RT hU hf.2 ha
 exact SO.rY (R:=fun v w'=>Φ N v w') (h w N (g d) hx hn h1) (gC hf.1).1 h2 (gC hf.1).2
theorem aas {j i:Nat} (hU:ag[j]? =some (d,Ψ)) (hU':ag[i]? =some (d1,Ψ')) (h:Qw ops o ag d d1=true) (ha:Yp (o.looksAt ops) ag f g N w):Ψ N (g d) w∧Ψ' N (g d1) w∧∀t∈o.looksAt ops,g t=cx (cx f d (g d)) d1 (g d1) t:=by
 unfold Qw at h
 simp only[eW,anM] at h
 obtain⟨h0,h1,h2,h3⟩:=h
 refine⟨(ha d<|anj.1 h1).2 j Ψ hU,(ha d1<|anj.1 h2).2 i Ψ' hU',fun t ht=>?_⟩
 by_cases e1:t=d1
 ·subst e1;exact(iP _ _ _).symm
 ·rw[jA _ _ e1]
  by_cases e:t=d
  ·subst e;exact(iP _ _ _).symm
  ·rw[jA _ _ e]
   have:=amK.1 h0 t ht
   rcases anw.1 this with h4|h4
   ·exact absurd (anO h4) e
   ·rcases anw.1 h4 with h4|h4
    ·exact absurd (anO h4) e1
    ·exact(ha t ht).1 (by simpa using h4)
theorem yu2 (hz:J_ zk=true) (Φ:PR) (j i:Nat) (hU:ag[j]? =some (d,Ψ)) (hU':ag[i]? =some (d1,Ψ')) (hd:o.dst=some d2) (hm:r7 Φ) (hf:(lg n o&&Qw ops o ag d d1)=true) (h:∀w N v v',Ext w0 w→EC w0 N w→Ψ N v w→Ψ' N v' w→SO P n ops o (cx (cx f d v) d1 v') w (fun f' w'=>∃u,f'=dh (cx (cx f d v) d1 v') o.dst u∧Ext w w'∧Φ N u w')) (r:PZ P n ops w0 ae K rest ks ((d2,Φ)::ag) f):PZ P n ops w0 ae K (o::rest) (zk::ks) ag f:=by
 rw[eW] at hf
 refine PZ.of hz<|.inr ⟨d2,Φ,hd,hm,fun w g N hx hn ha=>?_,r⟩
 obtain⟨h1,h2,h3⟩:=aas hU hU' hf.2 ha
 exact SO.rY (R:=fun v w'=>Φ N v w') (h w N (g d) (g d1) hx hn h1 h2) (gC hf.1).1 h3 (gC hf.1).2
theorem yf (hf:(lg n o&&DM ops o ag)=true) (h:∀w,ae w→SO P n ops o f w (fun f' w'=>f'=dh f o.dst X∧w'=w)) (r:PZ P n ops w0 ae K rest ks ag (dh f o.dst X)):PZ P n ops w0 ae K (o::rest) (.f::ks) ag f:=by
 rw[eW] at hf
 refine⟨X,fun w g hI ha=>?_,hf.2,r⟩
 refine(SO.rY (R:=fun v w'=>v=X∧w'=w) ((h w hI).mono fun f' w' hq=>⟨X,hq.1,by rw[hq.2];exact Ext.refl w,J,hq.2⟩) (gC hf.1).1 (fun t ht=>(ha t ht).2) (gC hf.1).2).mono ?_
 rintro f' w' ⟨v,rfl, -,rfl,rfl⟩
 exact⟨J,J⟩
theorem e3 {f:aP}:f=f∧w=w:=⟨rfl,rfl⟩
theorem yn {z:Array Value} {T:TypeId} (hd:o.dst=some d) (hf:(lg n o&&DM ops o ag)=true) (h:∀w,SO P n ops o f w (fun f' w'=>∃v,f'=dh f o.dst v∧Ext w w'∧MM z T w v w')) (r:PZ P n ops w0 ae K rest ks ((d,Ji w0 z T)::ag) f):PZ P n ops w0 ae K (o::rest) (.n::ks) ag f:=by
 rw[eW] at hf
 exact⟨d,z,T,hd,hf.2,fun w g hx ha=>SO.rY (R:=fun v w'=>MM z T w v w') (h w) (gC hf.1).1 ha (gC hf.1).2,r⟩
end
section
variable {P:Program} {n:Nat} {ops:Array Oper} {w w0:aG} {ae:aG→Prop} {f:aP} {o:Oper} {rest:dw} {d:Nat} {T ty:TypeId} {ps:String} {af:Array Edge} {x:Operand} {v z:Value} {size bytes:Nat} {agg:Bool}
theorem O3 (F:ey P T size agg bytes z):SO P n ops ⟨some d,.alloc T,ty,ps,af,none⟩ f w (fun f' w'=>∃v,f'=dh f (some d) v∧Ext w w'∧MM z.cells T w v w'):=
 SO.value (v:=.pointer (some ⟨w.heap.size,0,none⟩)) (w':=w.alloc (.cells z.cells T)) (by simp[execOp,Instr.alloc,F.uk,A1]) ⟨_,rfl,Ext.alloc w _,_,rfl,amD _,heap_alloc_new w _⟩
theorem ke (h:SO P n ops o f w (fun f' w'=>ae w'∧WE P n ops ae K rest f' w')):WE P n ops ae K (o::rest) f w:=h
theorem j8 (h:SO P n ops o f w (fun f' w'=>WE P n ops (fun _=>True) K rest f' w')):WE P n ops (fun _=>True) K (o::rest) f w:=h.mono fun _ _ h=>⟨trivial,h⟩
theorem kz (h:K f w):WE P n ops ae K [] f w:=h
end
section
variable {M0:cb} {zM w w':aG} {l:List Item}
theorem HI.lays (H:HI M0 zM w l) (x:Ext w w') (bs:List (Nat×Array Value×TypeId)) (hb:∀q∈bs,w.heap.size≤q.1∧w'.heap[q.1]? =some (.cells q.2.1 q.2.2 (0,0))) (hn:(bs.map (·.1)).Nodup):
  HI M0 zM w' (bs.map (fun q=>box q.1 q.2.1 q.2.2)++l):=by
 have oQ:∀q∈bs,q.1<w'.heap.size:=fun q hq=>(am7.1 (hb q hq).2).1
 have Xz:(bs.map (fun q=>box q.1 q.2.1 q.2.2)).filterMap (·.jG)=bs.map (·.1):=by
  clear hb hn oQ
  induction bs with
  |nil=>rfl
  |cons q bs ih=>simp only[am_,anq,ih];rfl
 refine⟨H.below.trans x,H.m0,?_,?_,?_⟩
 ·intro it hit b BN
  rcases am1.1 hit with h|h
  ·obtain⟨q,hq,rfl⟩:=anp.1 h
   cases BN
   exact⟨amP H.below.size (hb q hq).1,oQ q hq⟩
  ·exact⟨(H.jq it h b BN).1,am8 (H.jq it h b BN).2 x.size⟩
 ·rw[aoN,Xz,aok]
  refine⟨hn,H.nodup,?_⟩
  intro b pL c hc e
  subst e
  obtain⟨q,hq,rfl⟩:=anp.1 pL
  obtain⟨it,hit,BI⟩:=am4.1 hc
  have:=(H.jq it hit _ BI).2
  have:=(hb q hq).1
  omega
 ·intro it hit
  rcases am1.1 hit with h|h
  ·obtain⟨q,hq,rfl⟩:=anp.1 h
   exact(hb q hq).2
  ·refine it.lift (H.all it h) ⟨x.size,fun c hc hM=>⟨x.block c hc,?_⟩⟩ fun c hc=>x.block c (H.jq it h c hc).2
   rintro(LV|⟨j,hj,xJ⟩)
   ·exact hM<|.inl LV
   ·rcases am1.1 hj with hj|hj
    ·obtain⟨q,hq,rfl⟩:=anp.1 hj
     cases xJ
     have:=(hb q hq).1
     omega
    ·exact hM<|.inr ⟨j,hj,xJ⟩
end
def MN (M N:cb) (c:Nat):Prop:=M c∨N c
section
variable {α:Type} [GT α] {M N N':cb} {w0 w w':aG} {v:Value} {x:α}
theorem kj (h:RV M w0 v x) (e:Ext w0 w) (hN:∀c,N c→w0.heap.size≤c∧c<w.heap.size):RV (MN M N) w v x:=
 h.lift ⟨e.size,fun c hc hn=>⟨e.block c hc,by
  rintro(h1|h1)
  ·exact hn h1
  ·have:=(hN c h1).1;omega⟩⟩
theorem kK (hM:∀b,M b→b<w0.heap.size) (e:Ext w0 w) (hN:∀c,N c→w0.heap.size≤c∧c<w.heap.size):∀b,MN M N b→b<w.heap.size:=by
 rintro b (h|h)
 ·exact am8 (hM b h) e.size
 ·exact(hN b h).2
theorem gZ (h:RV (MN M N) w v x) (k:∀b,N' b→N b∨w.heap.size≤b):RV (MN M N') w v x:=
 h.lift ⟨amD _,fun c hc hn=>⟨rfl,by
  rintro(h1|h1)
  ·exact hn<|.inl h1
  ·rcases k c h1 with h2|h2
   ·exact hn<|.inr h2
   ·omega⟩⟩
end
def T5 (w0 w:aG) (N:cb) (bs:List (Nat×Array Value×TypeId)):Prop:=∀q∈bs,w0.heap.size≤q.1∧w.heap[q.1]? =some (.cells q.2.1 q.2.2 (0,0))∧N q.1
theorem OV {w0:aG}:T5 w0 w N []:=fun _ h=>by cases h
theorem OU {w0:aG} {bs:List (Nat×Array Value×TypeId)} {z:Array Value} {T:TypeId} (h1:w0.heap.size≤b) (h2:w.heap[b]? =some (.cells z T (0,0))) (h3:N b) (h:T5 w0 w N bs):T5 w0 w N ((b,z,T)::bs):=by
 intro q hq
 rcases amV.1 hq with rfl|hq
 ·exact⟨h1,h2,h3⟩
 ·exact h q hq
theorem N8:b∉([]:List Nat):=by simp
theorem Oa:([]:List Nat).Nodup:=apw
theorem N9 {l:List Nat} (h:b∉l) (h1:l.Nodup):(b::l).Nodup:=anG.2 ⟨h,h1⟩
theorem HI.DH {M0:cb} {zM w':aG} {l:List Item} {bs:List (Nat×Array Value×TypeId)} (H:HI M0 zM w l) (x:Ext w w') (hb:T5 w w' N bs) (hn:(bs.map (·.1)).Nodup):HI M0 zM w' (bs.map (fun q=>box q.1 q.2.1 q.2.2)++l):=
 H.lays x bs (fun q hq=>⟨(hb q hq).1,(hb q hq).2.1⟩) hn
theorem YO {α:Type} [GT α] {M0 N:cb} {l:List Item} {w:aG} {v:Value} {x:α} (bs:List (Nat×Array Value×TypeId)) (h:RV (MN (MS M0 l) N) w v x) (hb:∀q∈bs,N q.1):RV (MS M0 (bs.map (fun q=>box q.1 q.2.1 q.2.2)++l)) w v x:=
 h.lift (Up.less fun c hc hn=>by
  rcases hn with h1|⟨it,hit,BI⟩
  ·exact .inl (.inl h1)
  ·rcases am1.1 hit with h2|h2
   ·obtain⟨q,hq,rfl⟩:=anp.1 h2
    cases BI
    exact .inr (hb q hq)
   ·exact .inl (.inr ⟨it,h2,BI⟩))
theorem sf {α:Type} [GT α] {M0 N:cb} {l:List Item} {w0 w:aG} {v:Value} {x:α} {bs:List (Nat×Array Value×TypeId)} (h:RV (MN (MS M0 l) N) w v x) (hb:T5 w0 w N bs):RV (MS M0 (bs.map (fun q=>box q.1 q.2.1 q.2.2)++l)) w v x:=
 YO bs h fun q hq=>(hb q hq).2.2
theorem YP {α:Type} [GT α] {M0:cb} {l:List Item} {it:Item} {w:aG} {v:Value} {x:α} (h:it.jG=none) (r:RV (MS M0 l) w v x):RV (MS M0 (it::l)) w v x:=by rw[aH h];exact r
end Go.Ew
namespace Go.Ew
open Go.RowKit Go.IntWalk
theorem R_ {v:Value} {kk:IntKind} {a b:Int} (h:v=.int kk a) (e:a=b):v=.int kk b:=e▸h
theorem Nx {v:Value} {a b:bt} (h:v=ag a) (e:a=b):v=ag b:=e▸h
theorem fX {b:Bool} (h:(!b)=true):b=false:=by cases b<;>simp_all
theorem fl {b:Bool} (h:(!b)=false):b=true:=by cases b<;>simp_all
theorem hQ.ext {α:Type} [GT α] {M:cb} {w w':aG} {ad:Addr} {x:α} (h:hQ M w ad x) (e:Ext w w'):hQ M w' ad x:=by
 obtain⟨cs,h1,h2⟩:=h
 refine⟨cs,GT.lift h1 (Up.ext e),fun j v hv=>?_⟩
 have hc:=h2 j v hv
 exact(World.cell?_of_block<|e.block _<|pQ hc).trans hc
theorem KO {α:Type} [GT α] (M:cb) (w:aG):RS M w (.slice none 0 0) ([]:List α):=⟨none,0,0,rfl,rfl,amD _,by simp[maxLen],.inl rfl⟩
theorem eH {α:Type} [GT α] (M:cb) (w:aG):RV M w (.slice none 0 0) ([]:List α):=RV.list.2 (KO M w)
theorem bS {M0:cb}:MS M0 []=M0:=by funext b;simp[MS]
class Flat (α:Type) [GT α]:Prop where
 flat:∀{M w M' w' cs} {x:α},GT.rep M w cs x→GT.rep M' w' cs x
instance :Flat Int:=⟨fun h=>h⟩
instance :Flat bt:=⟨fun h=>h⟩
instance :Flat (BitVec 8):=⟨fun h=>h⟩
instance :Flat Bool:=⟨fun h=>h⟩
instance :Flat bA:=⟨fun h=>h⟩
instance {α β:Type} [GT α] [GT β] [Flat α] [Flat β]:Flat (α×β):=⟨fun h=>by
 obtain⟨c1,c2,h0,h1,h2⟩:=h
 exact⟨c1,c2,h0,Flat.flat h1,Flat.flat h2⟩⟩
theorem bB.flat {α:Type} [GT α] [Flat α] {M M':cb} {w w':aG}:∀{xs:List α} {cs:List Value},bB M w cs xs→bB M' w' cs xs
 |[],_,h=>h
 |x::xs,cs,⟨c1,c2,h1,h2,h3⟩=>⟨c1,c2,h1,Flat.flat h2,bB.flat h3⟩
section
variable {M0:cb} {w0 w w':aG} {l l':List Item} {α:Type} [GT α] {v:Value} {xs:List α} {x:α} {e:TypeId} {ad:Addr}
theorem HI.rv (H:HI M0 w0 w l) (i:Nat) (hi:l[i]? =some (tv v x)):RV (MS M0 l) w v x:=H.at_ i hi
theorem HI.atv (H:HI M0 w0 w l) (i:Nat) (hi:l[i]? =some (ra ad x)):At (MS M0 l) w ad x:=H.at_ i hi
theorem HI.gm (H:HI M0 w0 w l) (i:Nat) (hi:l[i]? =some (tv v x)):RV M0 w v x:=(H.rv i hi).lift H.out
theorem HI.mu (H:HI M0 w0 w l) (i:Nat) (hi:l[i]? =some (own w0.heap.size e v xs)):RV M0 w v xs:=H.Y2 i hi (fun _ _ _ _=>trivial)
theorem yB {β γ:Type} (g:β→Option γ):∀(is:List β),is.Nodup→(∀i∈is,∀j∈is,∀b,g i=some b→g j=some b→i=j)→(is.filterMap g).Nodup
 |[],_,_=>apw
 |i::is,hn,hg=>by
  have LI:=anG.1 hn
  have ih:=yB g is LI.2<|fun a ha b hb=>hg a (am6 _ ha) b<|am6 _ hb
  rw[anq]
  cases hgi:g i with
  |none=>exact ih
  |some b=>
   refine anG.2 ⟨fun hm=>?_,ih⟩
   obtain⟨j,hj,hgj⟩:=am4.1 hm
   have:=hg i (ano) j (am6 _ hj) b hgi hgj
   exact LI.1<|this▸hj
theorem HI.bZ (H:HI M0 w0 w l) (is:List Nat) (hn:is.Nodup) (he:is.filterMap (fun i=>l[i]?)=l'):HI M0 w0 w l':=by
 subst he
 refine H.pick _ (fun it hit=>?_) ?_
 ·obtain⟨i,_,hi⟩:=am4.1 hit
  exact dN hi
 ·rw[List.filterMap_filterMap]
  refine yB _ is hn fun i _ j _ b hi hj=>?_
  obtain⟨a,ha,IZ⟩:=Option.bind_eq_some_iff.1 hi
  obtain⟨c,hc,hcb⟩:=Option.bind_eq_some_iff.1 hj
  exact ic (·.jG) l H.nodup i j a c ha hc (by rw[IZ];rfl)<|by rw[IZ,hcb]
end
theorem mi.rest {P:Program} {n:Nat} {l:dw} {k:Nat} {Φ:List (Value→aG→Prop)} {f0:aP} {w0:aG} {i:Nat} (h:Nat.ble k i=true):∀r,mi P n l k Φ f0 w0 i r:=by
 intro r
 induction r generalizing i with
 |nil=>trivial
 |cons o r ih=>
  refine⟨fun hb=>?_,ih ?_⟩
  ·simp at h hb;omega
  ·simp at h ⊢;omega
theorem adW.rv {α:Type} [GT α] {e:TypeId} {w w':aG} {xs:List α} {v:Value} {M:cb} (h:adW e w xs v w') (hM:∀b,M b→b<w.heap.size):RV M w' v xs:=by
 obtain⟨_,hb,ho⟩:=h
 refine zV ho (fun b _ vk=>.inl (hM b vk))<|fun b wh hMb=>?_
 obtain⟨cs,h1,_⟩:=ho
 have:=(h1.lt b wh).1
 have:=hM b hMb
 omega
section
variable {P:Program} {n:Nat} {fn:Func} {R:Value→aG→Prop} {f:aP} {w w0:aG} {M0:cb} {l:List Item} {agg:Bool} {bytes:Nat} {z:Value} {k:Nat}
theorem pS {t:Nat} (h:Nat.blt t n=true):(cw n f).tmps.getD t undef=f t:=AJ h
theorem um {T:TypeId} {b:Nat} {cs:Array Value} {ty:TypeId} (H:HI M0 w0 w l) (i:Nat) (hi:l[i]? =some (box b cs ty)) (F:ey P T k agg bytes z) (hk:agg=false→k=1) (hl:((cs.toList.drop 0).take k).length=k):
  (loadVar T ⟨b,0,none⟩).run P w=.ok (sG agg ((cs.toList.drop 0).take k)) w:=by
 have hb:w.heap[b]? =some (.cells cs ty (0,0)):=H.at_ i hi
 refine rJ F hk hl fun j u hu=>?_
 rw[show (⟨b,0,none⟩:Addr).add j=⟨b,j,none⟩ from by unfold Addr.add;split<;>simp_all,cell_of_row w b j cs ty (0,0) hb]
 have hj:j<k:=by
  have:=(dU.1 hu).1
  omega
 rw[am5,amF hj,ank] at hu
 simpa using hu
theorem pf {T:TypeId} {b:Nat} {cs:Array Value} {ty:TypeId} {p:Nat} (H:HI M0 w0 w l) (i:Nat) (hi:l[i]? =some (box b cs ty)) (F:ey P T k agg bytes z) (hr:fn.results=#[.cell p T]) (hp:Nat.blt p n=true) (hx:f p=.pointer (some ⟨b,0,none⟩)) (hl:((cs.toList.drop 0).take k).length=k) (hk:agg=false→k=1)
  (h:R (sG agg ((cs.toList.drop 0).take k)) w):sj P n fn R .ret (cw n f) w:=by
 refine⟨f,J,_,?_,h⟩
 have h:=um (P:=P) H i hi F hk hl
 have h0:(cw n f).tmps.getD p undef=.pointer (some ⟨b,0,none⟩):=by rw[pS hp,hx]
 simp only[results,hr,apc]
 simp only[apx,apG]
 simp[h,h0,asAddr]
theorem iA {T:TypeId} {b:Nat} {cs:Array Value} {ty:TypeId} {p t:Nat} (H:HI M0 w0 w l) (i:Nat) (hi:l[i]? =some (box b cs ty)) (F:ey P T k agg bytes z) (hr:fn.results=#[.cell p T,.tmp t]) (hp:Nat.blt p n=true) (ht:Nat.blt t n=true) (hx:f p=.pointer (some ⟨b,0,none⟩)) (hl:((cs.toList.drop 0).take k).length=k) (hk:agg=false→k=1)
  (h:R (.tuple #[sG agg ((cs.toList.drop 0).take k),f t]) w):sj P n fn R .ret (cw n f) w:=by
 refine⟨f,J,_,?_,h⟩
 have h:=um (P:=P) H i hi F hk hl
 have h0:(cw n f).tmps.getD p undef=.pointer (some ⟨b,0,none⟩):=by rw[pS hp,hx]
 have h2:=pS (f:=f) ht
 simp only[results,hr,apc]
 simp only[apx,apG]
 simp[h,h0,asAddr,h2]
theorem rc4 {T:TypeId} {b:Nat} {cs:Array Value} {ty:TypeId} {p t t2 t3:Nat} (H:HI M0 w0 w l) (i:Nat) (hi:l[i]? =some (box b cs ty)) (F:ey P T k agg bytes z) (hr:fn.results=#[.cell p T,.tmp t,.tmp t2,.tmp t3]) (hp:Nat.blt p n=true) (ht:Nat.blt t n=true) (Se:Nat.blt t2 n=true) (ht3:Nat.blt t3 n=true) (hx:f p=.pointer (some ⟨b,0,none⟩)) (hl:((cs.toList.drop 0).take k).length=k) (hk:agg=false→k=1)
  (h:R (.tuple #[sG agg ((cs.toList.drop 0).take k),f t,f t2,f t3]) w):sj P n fn R .ret (cw n f) w:=by
 refine⟨f,J,_,?_,h⟩
 have h:=um (P:=P) H i hi F hk hl
 have h0:(cw n f).tmps.getD p undef=.pointer (some ⟨b,0,none⟩):=by rw[pS hp,hx]
 have h2:=pS (f:=f) ht
 have h3:=pS (f:=f) Se
 have h4:=pS (f:=f) ht3
 simp only[results,hr,apc]
 simp only[apx,apG]
 simp[h,h0,asAddr,h2,h3,h4]
theorem r3 {t t2 t3:Nat} (hr:fn.results=#[.tmp t,.tmp t2,.tmp t3]) (ht:Nat.blt t n=true) (Se:Nat.blt t2 n=true) (ht3:Nat.blt t3 n=true)
  (h:R (.tuple #[f t,f t2,f t3]) w):sj P n fn R .ret (cw n f) w:=by
 refine⟨f,J,_,?_,h⟩
 have h2:=pS (f:=f) ht
 have h3:=pS (f:=f) Se
 have h4:=pS (f:=f) ht3
 simp only[results,hr,apc]
 simp only[apx,apG]
 simp[h2,h3,h4]
end
theorem Hp {α:Type} [GT α] {M:cb} {w:aG} {a:Option Addr} {n c:Nat} {xs:List α} (h:RV M w (.slice a n c) xs) (ha:a.isNone=true):xs=[]:=by
 cases a with
 |some _=>cases ha
 |none=>
  obtain⟨a,m,c',e,h2, -, -,h5⟩:=RV.list.1 h
  injection e with e1 e2 e3
  subst e1
  rcases h5 with h5|⟨ad,h5, -⟩
  ·exact anC.1<|h2.trans h5
  ·cases h5
end Go.Ew
