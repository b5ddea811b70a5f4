/- Engine, part A: a frame's temporaries as a function; single operations in continuation form; regions, loops, cuts. Independent of any program. -/
import Derived.WalkKit
import Derived.Deep.LoopGhost
import Derived.Maps.AppendAt
set_option linter.unusedVariables false
set_option linter.unusedSimpArgs false
namespace Go.Ew
theorem J.{u}{α:Sort u}{a:α}:a=a:=rfl
abbrev alB:=@congrArg
abbrev alC:=@decide_eq_true_eq
abbrev alD:=@Option.some.inj
abbrev alE:=@if_pos
abbrev alF:=@List.mem_range
abbrev alG:=@if_neg
abbrev alH:=@decide_eq_false
abbrev alI:=@Bool.or_eq_true
abbrev alJ:=@Int.toNat_of_nonneg
abbrev alK:=@List.all_eq_true
abbrev alL:=@Nat.le_refl
abbrev alM:=@decide_eq_true
abbrev alN:=@Option.isSome_iff_exists
abbrev alO:=@List.mem_filter
abbrev alP:=@List.length_set
abbrev alQ:=@List.mem_cons
abbrev alR:=@List.mem_append
abbrev alT:=@of_decide_eq_true
abbrev alU:=@List.take_of_length_le
abbrev alV:=@List.mem_cons_of_mem
abbrev alW:=@Bool.not_eq_true'
abbrev alX:=@List.getElem?_cons_zero
abbrev alY:=@List.append_assoc
abbrev al0:=@Bool.eq_iff_iff
abbrev al1:=@decide_eq_false_iff_not
abbrev al2:=@Option.some.injEq
abbrev al3:=@of_decide_eq_false
abbrev al4:=@List.mem_filterMap
abbrev al5:=@List.mem_cons_self
abbrev al6:=@List.range_succ
abbrev al7:=@List.getElem?_cons_succ
abbrev al8:=@List.filter_append
abbrev al9:=@Nat.le_of_ble_eq_true
abbrev al':=@Option.map_eq_some_iff
abbrev ama:=@Nat.zero_add
abbrev amb:=@List.filter_eq_nil_iff
abbrev amc:=@List.getElem?_map
abbrev amd:=@Array.getInternal_eq_getElem
abbrev ame:=@List.filterMap_cons
abbrev amf:=@List.getElem?_eq_none
abbrev amg:=@List.contains_iff_mem
abbrev amh:=@List.getElem?_take
abbrev ami:=@Int.natCast_nonneg
abbrev amj:=@List.getElem?_set_self
abbrev amk:=@List.map_append
abbrev aml:=@List.length_map
abbrev amm:=@List.mem_singleton
abbrev amn:=@Bool.or_false
abbrev amo:=@if_false
abbrev amp:=@List.any_eq_true
abbrev amq:=@Option.map_some
abbrev amr:=@List.nodup_cons
abbrev ams:=@Nat.lt_of_lt_of_le
abbrev amt:=@List.mem_iff_getElem?
abbrev amu:=@Classical.byContradiction
abbrev amv:=@Option.getD_some
abbrev amw:=@Nat.add_zero
abbrev amx:=@List.mem_map
abbrev amy:=@Array.getElem?_eq_some_iff
abbrev amz:=@List.findIdx?_eq_some_iff_getElem
abbrev amA:=@List.append_nil
abbrev amB:=@Nat.mul_le_mul
abbrev amC:=@List.not_mem_nil
abbrev amD:=@List.map_cons
abbrev amE:=@List.flatMap_cons
abbrev amF:=@List.any_eq_false
abbrev amG:=@Nat.mul_le_mul_right
abbrev amH:=@Nat.add_mul
abbrev amI:=@List.getElem?_drop
abbrev amJ:=@List.flatMap_append
abbrev amK:=@List.eq_nil_of_length_eq_zero
abbrev amL:=@List.mem_of_find?_eq_some
abbrev amM:=@List.mem_append_left
abbrev amN:=@Nat.sub_self
abbrev amO:=@Nat.lt_succ_iff_lt_or_eq
abbrev amP:=@Nat.eq_of_beq_eq_true
abbrev amQ:=@List.length_filter_le
abbrev amR:=@List.filter_congr
abbrev amS:=@List.getElem?_set_ne
abbrev amT:=@List.take_length
abbrev amU:=@List.mem_or_eq_of_mem_set
abbrev amV:=@List.map_congr_left
abbrev amW:=@Bool.or_eq_true_iff
abbrev amX:=@Array.length_toList
abbrev amY:=@List.take_add_one
abbrev amZ:=@List.length_range
abbrev am0:=@List.mem_append_right
abbrev am1:=@List.filterMap_append
abbrev am2:=@List.find?_eq_none
abbrev am3:=@or_false
abbrev am4:=@decide_eq_decide
abbrev am5:=@Nat.lt_succ_self
abbrev am6:=@List.length_drop
abbrev am7:=@List.contains_eq_mem
abbrev am8:=@Bool.true_and
abbrev am9:=@Bool.false_or
abbrev am_:=@List.drop_eq_nil_of_le
abbrev am':=@List.ext_getElem?
abbrev ana:=@if_true
abbrev anb:=@List.nodup_range
abbrev anc:=@List.ext_getElem
abbrev ane:=@cond_false
abbrev anf:=@List.getElem?_replicate
abbrev ang:=@List.nodup_append
abbrev anh:=@List.find?_some
abbrev ani:=@List.replicate_succ
abbrev anj:=@cond_true
abbrev ank:=@List.take_append_drop
abbrev anl:=@List.set_append_right
abbrev anm:=@List.drop_drop
abbrev ann:=@BitVec.eq_of_toNat_eq
abbrev ano:=@Nat.blt_eq
abbrev anp:=@List.mem_iff_getElem
abbrev anq:=@List.getElem?_set
abbrev anr:=@BitVec.eq_of_getLsbD_eq
abbrev ans:=@List.nodup_nil
abbrev ant:=@List.getElem_mem
abbrev anu:=@Nat.zero_le
abbrev anv:=@Nat.not_lt_zero
abbrev anw:=@List.getElem?_zipWith
abbrev anx:=@Bool.and_eq_false_iff
abbrev anz:=@Array.getElem?_toList
abbrev anA:=@Nat.lt_irrefl
abbrev anB:=@List.perm_ext_iff_of_nodup
abbrev anC:=@Bool.not_true
abbrev anD:=@Array.toList_setIfInBounds
abbrev anE:=@List.foldl_append
abbrev anF:=@List.findIdx?_eq_none_iff
abbrev anG:=@List.drop_eq_getElem_cons
abbrev anH:=@Array.getElem_toList
abbrev anI:=@List.take_take
abbrev anJ:=@not_true
abbrev anK:=@List.getElem?_range
abbrev anL:=@List.length_eq_zero_iff
abbrev anM:=@List.any_cons
abbrev anN:=@Nat.min_eq_left
abbrev anO:=@decide_true
abbrev anP:=@not_false_eq_true
abbrev anQ:=@Option.isSome_map
abbrev anR:=@List.size_toArray
abbrev anS:=@List.mapM_toArray
abbrev anT:=@Nat.lt_or_ge
abbrev anU:=@Nat.ble_eq_true_of_le
abbrev anV:=@List.take_zero
abbrev anW:=@List.drop_zero
abbrev anX:=@List.Perm.append_left
abbrev anY:=@Int.ofNat_lt
abbrev anZ:=@true_and
abbrev an0:=@Nat.mod_eq_of_lt
abbrev an1:=@List.take_append
abbrev an2:=@List.replicate_succ'
abbrev an3:=@List.filter_cons
abbrev an4:=@Bool.or_eq_false_iff
abbrev an5:=@List.findSome?_eq_none_iff
abbrev an6:=@Bool.and_true
abbrev an7:=@List.filter_eq_self
abbrev an8:=@List.drop_succ_cons
abbrev an9:=@List.nil_append
abbrev an_:=@List.getElem_append_right
abbrev an':=@List.foldl_cons
abbrev aoa:=@Nat.mul_comm
abbrev aob:=@Nat.beq_refl
abbrev aoc:=@List.set_cons_zero
abbrev aod:=@List.map_nil
abbrev aoe:=@List.getElem_append_left
abbrev aof:=@List.getElem?_take_of_lt
abbrev aog:=@List.filterMap_nil
abbrev aoh:=@List.Nodup.sublist
abbrev aoi:=@Bool.false_eq_true
abbrev aoj:=@BitVec.toNat_ofNat
abbrev aok:=@BitVec.toNat_ofInt
abbrev aol:=@BitVec.getLsbD_shiftLeft
abbrev aom:=@ne_eq
abbrev aon:=@Nat.ble_eq
abbrev aoo:=@List.mapM_cons
abbrev aop:=@Bool.false_and
abbrev aoq:=@Bool.and_false
abbrev aor:=@Option.bind_eq_some_iff
abbrev aos:=@Nat.lt_trichotomy
abbrev aot:=@List.getElem_cons_drop
abbrev aou:=@Nat.add_assoc
abbrev aov:=@List.sum_cons
abbrev aow:=@List.mapM_nil
abbrev aox:=@List.mem_flatMap
abbrev aoy:=@List.map_toArray
abbrev aoz:=@Nat.zero_mul
abbrev aoA:=@List.mem_of_mem_take
abbrev aoB:=@List.getElem?_of_mem
abbrev aoC:=@List.eq_nil_iff_forall_not_mem
abbrev aoD:=@List.any_nil
abbrev aoE:=@List.take_append_of_le_length
abbrev aoF:=@List.find?_eq_some_iff_append
abbrev aoG:=@List.replicate_zero
abbrev aoH:=@List.getElem_append
abbrev aoI:=@dif_pos
abbrev aoJ:=@List.drop_take
abbrev aoK:=@Bool.and_assoc
abbrev aoL:=@Nat.mul_one
abbrev aoM:=@false_and
abbrev aoN:=@List.getElem_range
abbrev aoO:=@List.filterMap_map
abbrev aoP:=@Bool.not_eq_false'
abbrev aoQ:=@Bool.false_ne_true
abbrev aoR:=@BitVec.getLsbD_and
abbrev aoS:=@List.flatten_cons
abbrev aoT:=@false_or
abbrev aoU:=@and_true
abbrev aoV:=@Nat.lt_trans
abbrev aoW:=@Nat.div_eq_of_lt
abbrev aoX:=@List.map_map
abbrev aoY:=@List.getElem_set
abbrev aoZ:=@List.cons_append
abbrev ao0:=@Nat.le_succ
abbrev ao1:=@Int.le_refl
abbrev ao2:=@Bool.not_or
abbrev bG:Type:=BitVec 64
abbrev fO:Type:=ByteArray
abbrev az:Type:=List Int
abbrev aI:Type:=World
abbrev de:Type:=List Oper
abbrev gk:Type:=Nat→Nat→Bool
abbrev bT:Type:=Nat→Prop
theorem ai {p:Prop} (h:p:=by omega):p:=h
theorem aJ {p:Prop} (h:p:=by decide):p:=h
theorem bH {p:Prop} (h:p:=by simp):p:=h
theorem cG {p:Prop} (h:p:=by assumption):p:=h
variable {i n t id m:Nat} {b:Bool} {x y:Code} {a:Act} {c:Operand}
theorem dW {α:Type} {l:List α} (h:i<l.length):l[i]? =some l[i]:=List.getElem?_eq_getElem h
theorem eH {α:Type} {l:List α} {a:α}:l.getD i a=(l[i]?).getD a:=List.getD_eq_getElem?_getD
theorem eW {α:Type} {l:List α} {a:α}:l[i]? =some a↔∃h:i<l.length,l[i]=a:=List.getElem?_eq_some_iff
theorem eh {α:Type} {l:List α} {a:α} (h:l[i]? =some a):a∈l:=List.mem_of_getElem? h
theorem cA (a b:Bool):((a&&b)=true)=(a=true∧b=true):=Bool.and_eq_true a b
theorem dC (n:Nat):(n:Int).toNat=n:=Int.toNat_natCast n
theorem im {α:Type} {a b:List α}:(a++b).length=a.length+b.length:=List.length_append
theorem xf {α:Type} {a:α}:(List.replicate n a).length=n:=List.length_replicate
theorem lY {α:Type} {l:List α}:(l.take i).length=min i l.length:=List.length_take
theorem nQ {α:Type} {a b:List α} (h:a.length≤n):(a++b)[n]? =b[n-a.length]?:=List.getElem?_append_right h
theorem jv {α:Type} {a:α} {l:List α}:(a::l).length=l.length+1:=List.length_cons
theorem gW {α:Type}:([]:List α).length=0:=List.length_nil
theorem y9 {α:Type} {a b:List α} (h:n<a.length):(a++b)[n]? =a[n]?:=List.getElem?_append_left h
open Go.RowKit
abbrev aP:=Nat→Value
def cS (f:aP) (d:Nat) (v:Value):aP:=fun t=>bif Nat.beq t d then v else f t
def df (f:aP):Option Nat→Value→aP
 |some d,v=>cS f d v
 |none,_=>f
def bY (n:Nat) (f:aP):Act:=⟨Array.ofFn (fun i:Fin n=>f i),[]⟩
def ev (f:aP):Operand→Value
 | .tmp t=>f t
 | .const v=>v
 | .global g=>.pointer (some ⟨g,0,none⟩)
 | .func k=>.func (.func k) #[] #[]
def cC (n:Nat):Operand→Bool
 | .tmp t=>Nat.blt t n
 |_=>true
theorem bA {n:Nat} {f:aP} {x:Operand} (h:cC n x=true):(bY n f).eval x=ev f x:=by
 cases x with
 |tmp t=>
  simp only[cC,ano] at h
  simp[Act.eval,bY,ev,h]
 |_=>rfl
theorem ij (f:aP) (d:Nat) (v:Value):cS f d v d=v:=by simp[cS]
theorem ik (f:aP) {d t:Nat} (v:Value) (h:t≠d):cS f d v t=f t:=by
 have:Nat.beq t d=false:=by
  cases hb:Nat.beq t d with
  |false=>rfl
  |true=>exact absurd (amP hb) h
 simp only[cS,this,ane]
theorem pT (n:Nat) (f:aP) (d:Option Nat) (v:Value):(bY n f).put d v=bY n (df f d v):=by
 cases d with
 |none=>rfl
 |some d=>
  simp only[Act.put,bY,df,Act.mk.injEq,aoU]
  apply Array.ext
  ·simp
  ·intro i h1 h2
   simp only[Array.size_ofFn] at h2
   by_cases hi:i=d
   ·subst hi
    simp[cS]
   ·rw[Array.getElem_setIfInBounds_ne (by simpa using h2) ai]
    simp only[Array.getElem_ofFn]
    exact(ik f v hi).symm
theorem X' (n:Nat) (tmps:Array Value) (h:tmps.size=n):(⟨tmps,[]⟩:Act)=bY n (fun t=>tmps.getD t undef):=by
 simp only[bY,Act.mk.injEq,aoU]
 apply Array.ext
 ·simp[h]
 ·intro i h1 h2
  simp[h1]
def wx (ops:Array Oper) (j:Nat):Option Nat:=(ops[j]?).bind (·.dst)
theorem Ao {f:aP} {ops:Array Oper} {j:Nat} (h:wx ops j=some t) (ht:Nat.blt t n=true) (hv:f t=.bool b):
  yielded ops (bY n f).tmps j=some b:=by
 simp only[ano] at ht
 unfold wx at h
 simp[yielded,h,bY,ht,hv]
def SO (P:Program) (n:Nat) (ops:Array Oper) (o:Oper) (f:aP) (w:aI) (K:aP→aI→Prop):Prop:=
 ∀(Q:Exit→Act→aI→Prop) (rest:de),(∀f' w',K f' w'→wpList P ops Q rest (bY n f') w')→wpList P ops Q (o::rest) (bY n f) w
theorem SO.mono {P:Program} {ops:Array Oper} {o:Oper} {f:aP} {w:aI} {K K':aP→aI→Prop} (h:SO P n ops o f w K) (hk:∀f' w',K f' w'→K' f' w'):SO P n ops o f w K':=
 fun Q rest hr=>h Q rest fun f' w' hK=>hr f' w' (hk f' w' hK)
section
variable {P:Program} {n:Nat} {ops:Array Oper} {f:aP} {w:aI} {K:aP→aI→Prop} {Q:Exit→Act→aI→Prop} {rest:de} {o:Oper}
theorem SO.value {d:Option Nat} {op:Op} {ty:TypeId} {ps:String} {af:Array Edge} {v:Value} {w':aI}
  (hr:(execOp (bY n f).eval ⟨d,op,ty,ps,af,none⟩).run P w=.ok (.value v) w') (h:K (df f d v) w'):SO P n ops ⟨d,op,ty,ps,af,none⟩ f w K:=by
 intro Q rest hk
 refine wpList_plain J fun K' Rj=>?_
 simp only[Oper.wp,hr,Oper.upon]
 rw[pT]
 exact Rj _ _<|hk _ _ h
theorem SO.skip {d:Option Nat} {op:Op} {ty:TypeId} {ps:String} {af:Array Edge} {w':aI}
  (hr:(execOp (bY n f).eval ⟨d,op,ty,ps,af,none⟩).run P w=.ok .skip w') (h:K (df f d undef) w'):SO P n ops ⟨d,op,ty,ps,af,none⟩ f w K:=by
 intro Q rest hk
 refine wpList_plain J fun K' Rj=>?_
 simp only[Oper.wp,hr,Oper.upon]
 rw[pT]
 exact Rj _ _<|hk _ _ h
theorem SO.enter {d:Option Nat} {op:Op} {ty:TypeId} {ps:String} {af:Array Edge} {g:FuncId} {args:Array Value} {w':aI}
  (hr:(execOp (bY n f).eval ⟨d,op,ty,ps,af,none⟩).run P w=.ok (.enter g args) w')
  (h:Calls P g args w' fun e mj=>∃v,e=.returned v∧K (df f d v) mj):SO P n ops ⟨d,op,ty,ps,af,none⟩ f w K:=by
 intro Q rest hk
 refine wpList_plain J fun K' Rj=>?_
 simp only[Oper.wp,hr,Oper.upon]
 refine h.mono ?_
 rintro e mj ⟨v,rfl,hv⟩
 show K' ((bY n f).put d v) mj
 rw[pT]
 exact Rj _ _<|hk _ _ hv
theorem gy {d:Option Nat} {op:Op} {ty:TypeId} {ps:String} {af:Array Edge} {j t:Nat} {want b:Bool}
  (hj:wx ops j=some t) (ht:Nat.blt t n=true) (hv:f t=.bool b) (hb:b=want)
  (h:SO P n ops ⟨d,op,ty,ps,af,none⟩ f w K):SO P n ops ⟨d,op,ty,ps,af,some (j,want)⟩ f w K:=by
 subst hb
 intro Q rest hk
 have h1:=h Q rest hk
 have hy:=Ao (n:=n) hj ht hv
 unfold wpList at h1 ⊢
 rw[alE (by simp[Region.wanted])] at h1
 rw[alE (by simp[Region.wanted,hy])]
 exact h1
theorem gn {d:Option Nat} {op:Op} {ty:TypeId} {ps:String} {af:Array Edge} {j t:Nat} {want b:Bool}
  (hj:wx ops j=some t) (ht:Nat.blt t n=true) (hv:f t=.bool b) (hb:b=!want)
  (h:K (df f d undef) w):SO P n ops ⟨d,op,ty,ps,af,some (j,want)⟩ f w K:=by
 subst hb
 intro Q rest hk
 have hy:=Ao (n:=n) hj ht hv
 unfold wpList
 rw[alG (by simp[Region.wanted,hy])]
 rw[pT]
 exact hk _ _ h
def WL (P:Program) (n:Nat) (ops:Array Oper) (Q:Exit→Act→aI→Prop):de→aP→aI→Prop
 |l,f,w=>wpList P ops Q l (bY n f) w
def WC (P:Program) (n:Nat) (c:Code) (Q:Exit→Act→aI→Prop) (f:aP) (w:aI):Prop:=c.wp P Q (bY n f) w
theorem k (h:SO P n ops o f w (WL P n ops Q rest)):WL P n ops Q (o::rest) f w:=h Q rest fun _ _ h=>h
theorem z (h:Q .normal (bY n f) w):WL P n ops Q [] f w:=wpList_nil (P:=P) (ops:=ops) h
theorem rg {l:de} (h:WL P n l.toArray Q l f w):WC P n (.region id l.toArray false) Q f w:=wp_region_lit h
theorem sq (h:WC P n x (Exit.then (fun a w=>y.wp P Q a w) Q) f w):WC P n (.seq x y) Q f w:=wp_seq h
theorem nx (h:WC P n y Q f w):Exit.then (fun a w=>y.wp P Q a w) Q .normal (bY n f) w:=h
theorem sk (h:Q .normal (bY n f) w):WC P n .skip Q f w:=wp_skip h
theorem rt (h:Q .ret (bY n f) w):WC P n .ret Q f w:=wp_ret h
theorem ex (h:Q (.exit id) (bY n f) w):WC P n (.exit id) Q f w:=wp_exit h
theorem bk {c:Code} (h:WC P n c (Exit.inBlock id Q) f w):WC P n (.block id c) Q f w:=wp_block h
theorem aF (h:Q .normal a w):Exit.inBlock id Q .normal a w:=h
theorem bM (h:Q .ret a w):Exit.inBlock id Q .ret a w:=h
theorem bz (h:Q .normal a w):Exit.inBlock id Q (.exit id) a w:=by
 show (if id=id then _ else _);rw[alE rfl];exact h
theorem Dd {Vh:Nat} (ff:Vh≠id) (h:Q (.exit Vh) a w):Exit.inBlock id Q (.exit Vh) a w:=by
 show (if Vh=id then _ else _);rw[alG ff];exact h
theorem aS {next:Act→aI→Prop} (h:Q .ret a w):Exit.then next Q .ret a w:=h
theorem bg {next:Act→aI→Prop} (h:Q (.exit id) a w):Exit.then next Q (.exit id) a w:=h
theorem cd (hc:cC n c=true) (hv:ev f c=.bool b) (ht:b=true→WC P n x Q f w) (hf:b=false→WC P n y Q f w):WC P n (.cond c x y) Q f w:=
 wp_cond_split (by rw[bA hc,hv]) ht hf
theorem nP (hc:cC n c=true) (hv:ev f c=.bool b) (hb:b=true) (h:WC P n x Q f w):WC P n (.cond c x y) Q f w:=
 wp_cond_true (by rw[bA hc,hv,hb]) h
theorem l7 (hc:cC n c=true) (hv:ev f c=.bool b) (hb:b=false) (h:WC P n y Q f w):WC P n (.cond c x y) Q f w:=
 wp_cond_false (by rw[bA hc,hv,hb]) h
def abA (n:Nat) (R:aP→aI→Prop) (Q:Exit→Act→aI→Prop):Exit→Act→aI→Prop
 | .normal,a,w=>∃f,a=bY n f∧R f w
 |e,a,w=>Q e a w
theorem cut {x y:Code} (R:aP→aI→Prop) (h:WC P n x (abA n R Q) f w) (h2:∀f' w',R f' w'→WC P n y Q f' w'):WC P n (.seq x y) Q f w:=by
 refine wp_seq<|wp_mono h ?_
 intro e a w' hq
 cases e with
 |normal=>obtain⟨f',rfl,hR⟩:=hq;exact h2 f' w' hR
 |_=>exact hq
theorem mh {R:aP→aI→Prop} (h:R f w):abA n R Q .normal (bY n f) w:=⟨f,rfl,h⟩
def Hz (n:Nat) (ae:Nat→aP→aI→Prop) (m:Nat) (Q:Exit→Act→aI→Prop):Exit→Act→aI→Prop
 | .normal,a,w=>∃f m',a=bY n f∧m'<m∧ae m' f w
 |e,a,w=>Q e a w
theorem lp {c:Code} (ae:Nat→aP→aI→Prop) (m0:Nat) (h0:ae m0 f w)
  (hr:∀m f w,ae m f w→WC P n c (Hz n ae m Q) f w):WC P n (.loop c) Q f w:=by
 have key:∀m,∀f w,ae m f w→∀b k cs,
   ∃e a' w',Q e a' w'∧Arrives P (lone (b.at (bY n f) (.code c::.inLoop c::k)) cs w) b k cs e a' w':=by
  intro m
  induction m using Nat.strongRecOn with
  |_ m ih=>
   intro f w hI b k cs
   obtain⟨e,a₁,w₁,hq,Bi⟩:=hr m f w hI b (.inLoop c::k) cs
   cases e with
   |normal=>
    obtain⟨f',m',rfl,dx,VI⟩:=hq
    obtain⟨e₂,a₂,w₂,acX,XF⟩:=ih m' dx f' w₁ VI b k cs
    exact⟨e₂,a₂,w₂,acX,.of_steps (Steps.trans Bi (.one step_inLoop)) XF⟩
   |exit id=>exact⟨_,a₁,w₁,hq,.pass (x:=.inLoop c) rfl (fun _ _=>.inl (by simp)) Bi⟩
   |goto l=>exact⟨_,a₁,w₁,hq,.pass (x:=.inLoop c) rfl (fun _ _=>.inl (by simp)) Bi⟩
   |ret=>exact⟨_,a₁,w₁,hq,.pass (x:=.inLoop c) rfl (fun _ _=>.inl (by simp)) Bi⟩
   |panic ch=>exact⟨_,a₁,w₁,hq,.pass (x:=.inLoop c) rfl (fun _ _=>.inl (by simp)) Bi⟩
   |outgrown=>exact⟨_,a₁,w₁,hq,.pass (x:=.inLoop c) rfl (fun _ _=>.inl (by simp)) Bi⟩
 intro b k cs
 obtain⟨e,a',w',hq,Bi⟩:=key m0 f w h0 b k cs
 exact⟨e,a',w',hq,.of_steps (.one step_loop) Bi⟩
theorem bD {ae:Nat→aP→aI→Prop} (m':Nat) (hm:m'<m) (h:ae m' f w):Hz n ae m Q .normal (bY n f) w:=⟨f,m',rfl,hm,h⟩
theorem gb {ae:Nat→aP→aI→Prop} (h:Q .ret a w):Hz n ae m Q .ret a w:=h
theorem bt {ae:Nat→aP→aI→Prop} (h:Q (.exit id) a w):Hz n ae m Q (.exit id) a w:=h
end
def qO (P:Program) (n:Nat) (fn:Func) (R:Value→aI→Prop):Exit→Act→aI→Prop
 | .normal,a,w| .ret,a,w=>∃f,a=bY n f∧∃v,(results fn (bY n f).tmps).run P w=.ok v w∧R v w
 |_,_,_=>False
def cZ (R:Value→aI→Prop):Ending→aI→Prop:=fun e w=>∃v,e=.returned v∧R v w
theorem enter {P:Program} {g:FuncId} {fn:Func} {c:Code} {args:Array Value} {w:aI} {R:Value→aI→Prop} (n:Nat)
  (hf:P.funcs[g]? =some fn) (hb:fn.body=some c) (hn:fn.ntmps=n) (ha:Nat.ble args.size n=true)
  (h:∀f:aP,(∀i,(_:i<args.size)→f i=args[i])→WC P n c (qO P n fn R) f w):Calls P g args w (cZ R):=by
 refine calls_of_wp hf hb ?_
 subst hn
 simp only[aon] at ha
 rw[X' fn.ntmps (args++Array.replicate (fn.ntmps-args.size) undef) (by simp;omega)]
 have h1:=h (fun t=>(args++Array.replicate (fn.ntmps-args.size) undef).getD t undef) (fun i hi=>by
  simp[Array.getElem?_append_left,hi])
 refine wp_mono h1 ?_
 intro e a w' hq
 cases e with
 |normal=>obtain⟨f',rfl,v,h1,h2⟩:=hq;exact⟨rfl,v,h1,v,rfl,h2⟩
 |ret=>obtain⟨f',rfl,v,h1,h2⟩:=hq;exact⟨rfl,v,h1,v,rfl,h2⟩
 |_=>exact hq.elim
section
variable {P:Program} {n:Nat} {fn:Func} {R:Value→aI→Prop} {f:aP} {w:aI}
theorem zh (h:Nat.blt t n=true):(bY n f).tmps.getD t undef=f t:=by
 simp only[ano] at h
 simp[bY,h]
theorem r1 (hr:fn.results=#[.tmp t]) (ht:Nat.blt t n=true) (h:R (f t) w):qO P n fn R .ret (bY n f) w:=
 ⟨f,rfl,f t,by rw[results_tmp hr,zh ht],h⟩
theorem r2 {u:Nat} (hr:fn.results=#[.tmp t,.tmp u]) (ht:Nat.blt t n=true) (hu:Nat.blt u n=true) (h:R (.tuple #[f t,f u]) w):qO P n fn R .ret (bY n f) w:=
 ⟨f,rfl,_,by rw[results_tmp2 hr,zh ht,zh hu],h⟩
theorem r0 (hr:fn.results=#[]) (h:R (.tuple #[]) w):qO P n fn R .ret (bY n f) w:=
 ⟨f,rfl,_,results_none hr _ _ _,h⟩
theorem r0n (hr:fn.results=#[]) (h:R (.tuple #[]) w):qO P n fn R .normal (bY n f) w:=
 ⟨f,rfl,_,results_none hr _ _ _,h⟩
end
end Go.Ew
namespace Go.Ew
open Go.RowKit
variable {w:aI} {f:aP}
structure Ext (w w':aI):Prop extends Below w.heap.size w w' where
 drawn:w.drawn≤w'.drawn
theorem Ext.refl (w:aI):Ext w w:=⟨Below.refl _ _,alL _⟩
theorem Ext.trans {a b c:aI} (h:Ext a b) (k:Ext b c):Ext a c:=⟨Below.trans h.toBelow (Below.mono k.toBelow h.size),Nat.le_trans h.drawn k.drawn⟩
theorem Ext.drew (w:aI):Ext w w.drew:=⟨Below.drew (Below.refl _ _),ao0 _⟩
theorem Ext.alloc (w:aI) (o:Obj):Ext w (w.alloc o):=⟨Below.alloc (Below.refl _ _) (alL _) o,alL _⟩
theorem R8 {α:Type} (a:Ask α):∀w:aI,w.drawn≤(w.ask a).2.drawn:=by
 induction a with
 |done a=>intro w;simp only[World.ask];exact alL _
 |ask aj5 range k ih=>
  intro w
  simp only[World.ask]
  split
  ·exact ih _ w
  ·exact Nat.le_trans (ao0 _)<|ih _ {w with drawn:=w.drawn+1}
theorem Ps (w:aI) (c:Sys):w.drawn≤(w.sys c).2.drawn:=by
 have h:=R8 (Kernel.perform c w.os) w
 unfold World.sys
 split
 ·exact alL _
 ·rename_i e;rw[e] at h;exact h
theorem Rz {P:Program} {w':aI} {a:Addr} {v:Value} {b:Bool} {l:List Addr} (h:w.farStore P a v b=.ok (w',l)):w'.drawn=w.drawn:=by
 unfold World.farStore at h
 split at h
 ·split at h
  ·rename_i e
   simp only[Except.ok.injEq] at h
   subst h
   unfold World.viewStore at e
   simp only[bind,Except.bind,pure,Except.pure] at e
   repeat' (first|cases e|split at e)
   all_goals rfl
  ·cases h
 ·cases h
theorem rP {α:Type} {P:Program} (m:Sem α):∀{w w':aI} {v:α},m.run P w=.ok v w'→w.drawn≤w'.drawn:=by
 induction m with
 |pure a=>intro w w' v h;simp only[Sem.run,Result.ok.injEq] at h;rw[h.2];exact alL _
 |load m a k ih=>
  intro w w' v h
  simp only[Sem.run] at h
  split at h
  ·exact ih _ h
  ·split at h
   ·exact ih _ h
   ·cases h
 |store m a u k ih=>
  intro w w' v h
  cases u<;>simp only[Sem.run] at h<;>(try (cases h;done))<;>
  ·split at h
   ·split at h
    ·cases h
    ·have:=ih h;exact this
   ·split at h
    ·rename_i e
     have:=ih h
     rw[Rz e] at this
     exact this
    ·cases h
 |new o k ih=>intro w w' v h;have:=ih w.heap.size (w:={w with heap:=w.heap.push o}) h;exact this
 |shape r k ih=>intro w w' v h;exact ih (w.shape? r) h
 |freeze a n k ih=>
  intro w w' v h
  have:=ih (w:=w.freeze a n) h
  simp only[World.freeze] at this
  split at this<;>exact this
 |frozen a k ih=>intro w w' v h;exact ih (w.frozen? a) h
 |getObj r k ih=>
  intro w w' v h
  simp only[Sem.run] at h
  split at h
  ·cases h
  ·exact ih _ h
  ·cases h
 |setObj r o k ih=>
  intro w w' v h
  simp only[Sem.run] at h
  split at h
  ·cases h
  ·have:=ih h;exact this
  ·cases h
 |choose q k ih=>
  intro w w' v h
  simp only[Sem.run] at h
  split at h
  ·exact ih _ h
  ·exact Nat.le_trans (ao0 _)<|ih _ (w:={w with drawn:=w.drawn+1}) h
 |sys c k ih=>intro w w' v h;exact Nat.le_trans (Ps w c) (ih _ (w:=(w.sys c).2) h)
 |program k ih=>intro w w' v h;exact ih P h
 |mark m k ih=>intro w w' v h;exact ih (w:=w) h
 |halt x=>intro w w' v h;cases h
def jS (o:Oper) (j:Nat):Bool:=o.after.toList.any fun e=>Region.binds .any e&&e.on==j
def eP (l:de) (i:Nat):Nat:=(((l[i]?).bind (·.dst)).getD 0)
def fW (k:Nat) (l:de):List Nat:=(l.take k).filterMap (·.dst)
def nodupB:List Nat→Bool
 |[]=>true
 |x::xs=>!xs.contains x&&nodupB xs
def nZ:Nat→de→Bool
 |_,[]=>true
 |i,o::r=>o.after.all (fun e=>!Region.binds .any e||Nat.blt e.on i)&&nZ (i+1) r
def mG (l:de):Nat→gk
 |0,_,_=>false
 |n+1,i,m=>match l[i]? with
  |none=>false
  |some o=>jS o m||(List.range i).any fun j=>jS o j&&mG l n j m
def vh (l:de) (k:Nat):Bool:=
 (Nat.ble l.length k||(List.range k).all fun m=>mG l (k+1) k m)&&
  (List.range l.length).all fun i=>Nat.ble i k||match l[i]? with
   |some o=>jS o (i-1)
   |none=>true
def LX (n k:Nat) (l:de):Bool:=
 nZ 0 l&&(l.take k).all (fun o=>o.dst.isSome)&&nodupB (fW k l)&&(fW k l).all (fun d=>Nat.blt d n)&&vh l k&&Nat.ble k l.length
def vJ (Φ:List (Value→aI→Prop)) (i:Nat):Value→aI→Prop:=Φ.getD i (fun _ _=>True)
structure DStep (P:Program) (n:Nat) (l:de) (k:Nat) (Φ:List (Value→aI→Prop)) (f0:aP) (w0:aI) (i:Nat) (o:Oper):Prop where
 go:∀f w,(∀t,(fW k l).contains t=false→f t=f0 t)→Ext w0 w→(∀j,jS o j=true→Nat.blt j k=true→vJ Φ j (f (eP l j)) w)→
  SO P n l.toArray o f w (fun f' w'=>∃v,f'=df f o.dst v∧Ext w w'∧vJ Φ i v w')
 mono:∀v w w',Ext w w'→vJ Φ i v w→vJ Φ i v w'
def gp (P:Program) (n:Nat) (l:de) (k:Nat) (Φ:List (Value→aI→Prop)) (f0:aP) (w0:aI):Nat→de→Prop
 |_,[]=>True
 |i,o::r=>(Nat.blt i k=true→DStep P n l k Φ f0 w0 i o)∧gp P n l k Φ f0 w0 (i+1) r
section
variable {P:Program} {n:Nat} {l:de} {k:Nat} {Φ:List (Value→aI→Prop)} {f0:aP} {w0:aI}
theorem gp.at_:∀(r:de) (i:Nat),gp P n l k Φ f0 w0 i r→∀j o,r[j]? =some o→Nat.blt (i+j) k=true→DStep P n l k Φ f0 w0 (i+j) o
 |[],_,_,j,o,h,_=>by simp at h
 |x::r,i,h,0,o,hj,hk=>by
  simp only[alX,al2] at hj
  subst hj
  exact h.1 hk
 |x::r,i,h,j+1,o,hj,hk=>by
  simp only[al7] at hj
  have:=gp.at_ r (i+1) h.2 j o hj<|by rw[show i+1+j=i+(j+1) from by omega];exact hk
  rwa [show i+1+j=i+(j+1) from by omega] at this
theorem qq:∀(r:de) (i:Nat),nZ i r=true→∀j o,r[j]? =some o→∀e∈o.after,Region.binds .any e=true→e.on<i+j
 |[],_,_,j,o,h,_,_,_=>by simp at h
 |x::r,i,h,j,o,hj,e,he,hb=>by
  simp only[nZ,cA,Array.all_eq_true_iff_forall_mem,alI,alW,ano] at h
  cases j with
  |zero=>
   simp only[alX,al2] at hj
   subst hj
   rcases h.1 e he with h1|h1
   ·rw[hb] at h1;cases h1
   ·omega
  |succ j=>
   simp only[al7] at hj
   have:=qq r (i+1) h.2 j o hj e he hb
   omega
theorem pg {o:Oper} {j:Nat}:jS o j=true↔∃e∈o.after,Region.binds .any e=true∧e.on=j:=by
 simp only[jS,amp,Array.mem_toList_iff]
 constructor
 ·rintro⟨e,he,h⟩
  simp only[cA,beq_iff_eq] at h
  exact⟨e,he,h.1,h.2⟩
 ·rintro⟨e,he,h1,h2⟩
  exact⟨e,he,by simp[h1,h2]⟩
theorem yj {l:de} {k:Nat} (h:vh l k=true) {i:Nat} {o:Oper} (hk:k<i) (ho:l[i]? =some o):jS o (i-1)=true:=by
 simp only[vh,cA] at h
 have:=alK.1 h.2 i<|by rw[alF];exact(eW.1 ho).1
 rw[ho] at this
 have hf:Nat.ble i k=false:=by
  cases hb:Nat.ble i k with
  |false=>rfl
  |true=>rw[aon] at hb;omega
 rw[hf] at this
 simpa using this
theorem Hs {l:de} {k:Nat} (h:vh l k=true) (hk:k<l.length) {m:Nat} (hm:m<k):mG l (k+1) k m=true:=by
 simp only[vh,cA,alI] at h
 rcases h.1 with h1|h1
 ·rw[aon] at h1;omega
 ·exact alK.1 h1 m<|by rw[alF];exact hm
theorem vF {l:de} {listed:Array Bool} (hC:∀i o,listed.getD i false=true→l[i]? =some o→∀j,jS o j=true→listed.getD j false=true):
  ∀(n i m:Nat) (o:Oper),l[i]? =some o→(∀j,jS o j=true→listed.getD j false=true)→mG l n i m=true→listed.getD m false=true
 |0,_,_,_,_,_,h=>by cases h
 |n+1,i,m,o,ho,hd,h=>by
  simp only[mG,ho,alI] at h
  rcases h with h|h
  ·exact hd m h
  ·obtain⟨j,_,hj⟩:=amp.1 h
   simp only[cA] at hj
   have Cx:=hd j hj.1
   cases iF:l[j]? with
   |none=>
    have h2:=hj.2
    cases n with
    |zero=>cases h2
    |succ n=>simp[mG,iF] at h2
   |some o'=>exact vF hC n j m o' iF (hC j o' Cx iF) hj.2
theorem ky:∀(l:List Nat),nodupB l=true→l.Nodup
 |[],_=>ans
 |x::xs,h=>by
  simp only[nodupB,cA,alW] at h
  refine amr.2 ⟨?_,ky xs h.2⟩
  intro hx
  have:=amg.2 hx
  rw[h.1] at this
  cases this
theorem oH {ops:Array Oper} {i:Nat} {o:Oper} {f:aP} {w:aI} {K:aP→aI→Prop} {Q:Exit→Act→aI→Prop} {K':Act→aI→Prop}
  (hi:ops[i]? =some o) (h:SO P n ops o f w K) (hk:∀f' w',K f' w'→K' (bY n f') w'):wpOp P ops Q i K' (bY n f) w:=by
 have h1:=h (fun e a w=>match e with| .normal=>K' a w|e=>Q e a w) []<|fun f' w' hK=>hk f' w' hK
 unfold wpOp
 simp only[hi]
 unfold wpList at h1
 split at h1
 ·rename_i hw
  rw[alE hw]
  refine h1.imp (fun h2=>?_)<|fun h2=>?_
  ·unfold Oper.wp at h2 ⊢
   generalize (execOp (bY n f).eval o).run P w=r at *
   cases r with
   |ok x w'=>
    cases x<;>simp only[Oper.upon] at h2 ⊢<;>first
     |exact h2
     |(refine Calls.mono h2 ?_;intro e mj he;cases e<;>first|exact he|(obtain⟨a0,w1,hq⟩:=he;exact⟨a0,w1,hq⟩))
   |halt x w'=>cases x<;>simp only[Oper.upon] at h2 ⊢<;>exact h2
  ·obtain⟨ha,a0,w1,hq⟩:=h2
   exact⟨ha,a0,w1,hq⟩
 ·rename_i hw
  rw[alG hw]
  exact h1
def O2 (N m:Nat) (listed:Array Bool):Prop:=listed.size=N∧∀i,i<N→listed.getD i false=decide (i<m)
theorem lg {listed:Array Bool} {i:Nat} (h:i<listed.size) (a b:Bool):listed.getD i a=listed.getD i b:=by
 simp[Array.getD,h]
theorem DO {Q:Exit→Act→aI→Prop} (hE:nZ 0 l=true) (hT:vh l k=true):
  ∀(d m:Nat) (listed:Array Bool) (a:Act) (w:aI),l.length-m=d→k≤m→m≤l.length→O2 l.length m listed→wpList P l.toArray Q (l.drop m) a w→wpAny P .any l.toArray Q d listed a w:=by
 intro d
 induction d with
 |zero=>
  intro m listed a w hd hk hm hl h
  have qx:m=l.length:=by omega
  subst qx
  rw[am_ (alL _)] at h
  refine⟨?_,h⟩
  unfold Region.ready
  rw[amb]
  intro i hi
  simp only[anR,alF] at hi
  have:=hl.2 i hi
  rw[show listed.getD i true=listed.getD i false from lg (by rw[hl.1];exact hi) _ _,this]
  simp[hi]
 |succ d ih=>
  intro m listed a w hd hk hm hl h
  have qx:m<l.length:=by omega
  have iq:l[m]? =some l[m]:=dW qx
  have QY:∀i,i∈Region.ready .any l.toArray listed↔i=m:=by
   intro i
   rw[mem_ready]
   constructor
   ·rintro⟨h0,o,ho,iZ⟩
    have iP:i<l.length:=by
     have:=(amy.1 ho).1
     simpa using this
    have hnm:¬i<m:=by
     intro Z7
     rw[show listed.getD i true=listed.getD i false from lg (by rw[hl.1];exact iP) _ _,hl.2 i iP] at h0
     simp[Z7] at h0
    by_cases Z7:i=m
    ·exact Z7
    ·exfalso
     have hoi:l[i]? =some o:=by simpa using ho
     have hb:=yj hT (i:=i) ai hoi
     obtain⟨e,he,yN,nN⟩:=pg.1 hb
     have:=iZ e he yN
     rw[nN,hl.2 (i-1) ai] at this
     simp at this
     omega
   ·rintro rfl
    refine⟨?_,l[i],by simp,?_⟩
    ·rw[show listed.getD i true=listed.getD i false from lg (by rw[hl.1];exact qx) _ _,hl.2 i qx]
     simp
    ·intro e he yN
     have:=qq l 0 hE i l[i] iq e he yN
     rw[hl.2 e.on ai]
     simp;omega
  have ac2:l.drop m=l[m]::l.drop (m+1):=anG qx
  refine⟨fun h0=>?_,fun i hi=>?_⟩
  ·have:=(QY m).2 rfl
   rw[h0] at this
   cases this
  ·obtain rfl:=(QY i).1 hi
   rw[ac2] at h
   have py:O2 l.length (i+1) (listed.setIfInBounds i true):=by
    refine⟨by simp[hl.1],fun j hj=>?_⟩
    by_cases fS:i=j
    ·subst fS
     simp[hl.1,qx]
    ·rw[getD_set_ne false fS,hl.2 j hj]
     simp;omega
   unfold wpOp
   rw[show (l.toArray)[i]? =some l[i] from by simp]
   simp only
   unfold wpList at h
   split at h
   ·rename_i hw
    rw[alE hw]
    refine h.imp (Oper.wp_mono fun a w h'=>ih (i+1) _ a w ai ai ai py h') id
   ·rename_i hw
    rw[alG hw]
    exact ih (i+1) _ _ w ai ai ai py h
theorem mq {i:Nat} {o:Oper} (hi:l[i]? =some o) (hk:i<k) {d:Nat} (hd:o.dst=some d):d∈fW k l:=by
 unfold fW
 rw[al4]
 refine⟨o,?_,hd⟩
 have:(l.take k)[i]? =some o:=by rw[amh,alE hk];exact hi
 exact eh this
theorem gj {α β:Type} (g:α→Option β):∀(l:List α),(l.filterMap g).Nodup→∀(i j:Nat) (a b:α),l[i]? =some a→l[j]? =some b→(g a).isSome→g a=g b→i=j
 |[],_,i,_,_,_,hi,_,_,_=>by simp at hi
 |x::xs,h,i,j,a,b,hi,hj,hs,he=>by
  have Om:(xs.filterMap g).Nodup:=by
   rw[ame] at h
   split at h
   ·exact h
   ·exact(amr.1 h).2
  have qR:∀(m:Nat) (c:α),xs[m]? =some c→g x=g c→(g x).isSome→False:=by
   intro m c hm hc hx
   obtain⟨y,hy⟩:=alN.1 hx
   rw[ame,hy] at h
   exact(amr.1 h).1 (al4.2 ⟨c,eh hm,by rw[←hc,hy]⟩)
  cases i with
  |zero=>
   cases j with
   |zero=>rfl
   |succ j=>
    simp only[alX,al2,al7] at hi hj
    subst hi
    exact(qR j b hj he hs).elim
  |succ i=>
   cases j with
   |zero=>
    simp only[alX,al2,al7] at hi hj
    subst hj
    exact(qR i a hi he.symm (he▸hs)).elim
   |succ j=>
    simp only[al7] at hi hj
    rw[gj g xs Om i j a b hi hj hs he]
def DJ (n:Nat) (l:de) (k:Nat) (Φ:List (Value→aI→Prop)) (f0:aP) (w0:aI) (listed:Array Bool) (a:Act) (w:aI):Prop:=
 ∃f,a=bY n f∧(∀t,(fW k l).contains t=false→f t=f0 t)∧Ext w0 w∧(∀i,i<k→listed.getD i false=true→vJ Φ i (f (eP l i)) w)∧
  ∀i o,listed.getD i false=true→l[i]? =some o→∀j,jS o j=true→listed.getD j false=true
theorem K3 {Q:Exit→Act→aI→Prop} (jl:LX n k l=true) (hS:gp P n l k Φ f0 w0 0 l)
  (lX:∀f w,(∀t,(fW k l).contains t=false→f t=f0 t)→Ext w0 w→(∀i,Nat.blt i k=true→vJ Φ i (f (eP l i)) w)→WL P n l.toArray Q (l.drop k) f w):
  ∀(d:Nat) (listed:Array Bool) (a:Act) (w:aI),listed.size=l.length→(∀i,k≤i→listed.getD i false=false)→(listed.toList.filter (fun b=>!b)).length=d→
   DJ n l k Φ f0 w0 listed a w→wpAny P .any l.toArray Q d listed a w:=by
 have TR:=jl
 simp only[LX,cA] at jl
 obtain⟨⟨⟨⟨⟨hE,hD⟩,hN⟩,hn⟩,hT⟩,yG⟩:=jl
 simp only[aon] at yG
 intro d
 induction d with
 |zero=>
  intro listed a w nM uc hd hJ
  have iZ:∀i,i<l.length→listed.getD i false=true:=by
   intro i hi
   have h0:=amK hd
   rw[amb] at h0
   have pC:i<listed.size:=by omega
   have:=h0 listed[i]<|by simp
   simp at this
   simp[Array.getD,pC,this]
  have TU:k=l.length:=by
   rcases anT k l.length with h|h
   ·have h1:=iZ k h
    rw[uc k (alL _)] at h1
    cases h1
   ·omega
  obtain⟨f,rfl,hf,hx,hφ,hC⟩:=hJ
  have:=lX f w hf hx<|fun i hi=>hφ i (by simpa using hi)<|iZ i<|by have h9:i<k:=(by simpa using hi);omega
  refine DO hE hT 0 l.length listed _ w ai ai (alL _) ⟨nM,fun i hi=>by rw[iZ i hi];simp[hi]⟩ ?_
  rw[TU] at this
  exact this
 |succ d ih=>
  intro listed a w nM uc hd hJ
  by_cases iZ:∀i,i<k→listed.getD i false=true
  ·obtain⟨f,rfl,hf,hx,hφ,hC⟩:=hJ
   have:=lX f w hf hx<|fun i hi=>hφ i (by simpa using hi)<|iZ i<|by simpa using hi
   have py:O2 l.length k listed:=⟨nM,fun i hi=>by
    by_cases lG:i<k
    ·rw[iZ i lG];simp[lG]
    ·rw[uc i ai];simp;omega⟩
   have ud:d+1=l.length-k:=by
    rw[←hd]
    have hl:listed.toList=List.replicate k true++List.replicate (l.length-k) false:=by
     apply anc
     ·simp[nM];omega
     ·intro i h1 h2
      simp only[amX] at h1
      have:=py.2 i ai
      simp only[Array.getD,h1,aoI] at this
      rw[anH]
      by_cases lG:i<k
      ·rw[aoe (by simpa using lG)]
       simp[amd,lG] at this ⊢
       exact this
      ·rw[an_ (by simpa using lG)]
       simp[amd,lG] at this ⊢
       exact this
    rw[hl]
    simp
   exact DO hE hT (d+1) k listed _ w ai (alL _) yG py this
  ·obtain⟨i0,Ad⟩:∃i,i<k∧listed.getD i false=false:=by
    apply amu
    intro p_
    refine iZ fun i hi=>?_
    cases hb:listed.getD i false with
    |true=>rfl
    |false=>exact(p_ ⟨i,hi,hb⟩).elim
   
   obtain⟨m,yF,yE⟩:=exists_least (p:=fun i=>i<k∧listed.getD i false=false) ⟨i0,Ad⟩
   have qx:m<l.length:=by omega
   have iq:l[m]? =some l[m]:=dW qx
   have uR:m∈Region.ready .any l.toArray listed:=by
    rw[mem_ready]
    refine⟨?_,l[m],by simp,fun e he hb=>?_⟩
    ·rw[show listed.getD m true=listed.getD m false from lg ai _ _];exact yF.2
    ·have dx:=qq l 0 hE m l[m] iq e he hb
     cases qc:listed.getD e.on false with
     |true=>rfl
     |false=>
      have:=yE e.on ⟨by omega,qc⟩
      omega
   refine⟨fun h0=>(by rw[h0] at uR;cases uR),fun i hi=>?_⟩
   obtain⟨h0,o,ho,oX⟩:=mem_ready.1 hi
   have ib:l[i]? =some o:=by simpa using ho
   have iP:i<l.length:=(eW.1 ib).1
   have sW:listed.getD i false=false:=by
    rw[show listed.getD i false=listed.getD i true from lg ai _ _];exact h0
   have lG:i<k:=by
    rcases anT i k with h|h
    ·exact h
    ·exfalso
     obtain⟨f,rfl,hf,hx,hφ,hC⟩:=hJ
     by_cases afA:i=k
     ·subst afA
      have:=vF hC _ i m o ib (fun j hj=>by
       obtain⟨e,he,yN,nN⟩:=pg.1 hj
       rw[←nN];exact oX e he yN) (Hs hT iP yF.1)
      rw[yF.2] at this
      cases this
     ·have hb:=yj hT (i:=i) ai ib
      obtain⟨e,he,yN,nN⟩:=pg.1 hb
      have:=oX e he yN
      rw[nN,uc (i-1) ai] at this
      cases this
   obtain⟨f,rfl,hf,hx,hφ,hC⟩:=hJ
   have me:=(gp.at_ l 0 hS i o ib<|by simpa using lG)
   simp only[ama] at me
   have hSO:=me.go f w hf hx (fun j hj v8=>by
    obtain⟨e,he,hb,nN⟩:=pg.1 hj
    subst nN
    exact hφ e.on (by simpa using v8) (oX e he hb))
   obtain⟨di,jY⟩:∃di,o.dst=some di:=by
    rw[alK] at hD
    have:=hD o<|eh (i:=i)<|by rw[amh,alE lG];exact ib
    exact alN.1 this
   refine oH ho hSO fun f' w' hK=>?_
   obtain⟨v,rfl,yy,hv⟩:=hK
   refine ih (listed.setIfInBounds i true) _ w' (by simp[nM]) (fun j hj=>?_) ?_ ?_
   ·rw[getD_set_ne false ai];exact uc j hj
   ·
    have wa:i<listed.size:=by omega
    have rD:listed.toList[i]? =some false:=by
     rw[dW (by simpa using wa)]
     simp only[Array.getD,wa,aoI] at sW
     simpa [amd] using sW
    have key:∀(L:List Bool) (i:Nat),L[i]? =some false→((L.set i true).filter (fun b=>!b)).length+1=(L.filter (fun b=>!b)).length:=by
     intro L
     induction L with
     |nil=>intro i h;simp at h
     |cons b L Jd=>
      intro i h
      cases i with
      |zero=>simp at h;subst h;simp
      |succ i=>
       simp at h
       have:=Jd i h
       cases b<;>simp at this ⊢<;>omega
    have:=key listed.toList i rD
    rw[anD]
    omega
   ·refine⟨df f o.dst v,J,fun t ht=>?_,hx.trans yy,fun j v8 hj=>?_,fun j oj hj iF q hq=>?_⟩
    ·rw[jY]
     have ff:t≠di:=by
      rintro rfl
      have:=mq ib lG jY
      rw[←amg,ht] at this
      cases this
     rw[show df f (some di) v=cS f di v from rfl,ik f v ff]
     exact hf t ht
    ·have rZ:j<l.length:=by omega
     have iF:l[j]? =some l[j]:=dW rZ
     by_cases fS:i=j
     ·subst fS
      have:eP l i=di:=by unfold eP;rw[ib];simp[jY]
      rw[this,jY,show df f (some di) v=cS f di v from rfl,ij]
      exact hv
     ·rw[getD_set_ne false fS] at hj
      have Jf:=hφ j v8 hj
      have AY:=(gp.at_ l 0 hS j l[j] iF<|by simpa using v8)
      simp only[ama] at AY
      obtain⟨dj,nO⟩:∃dj,(l[j]).dst=some dj:=by
       rw[alK] at hD
       have:=hD l[j]<|eh (i:=j)<|by rw[amh,alE v8];exact iF
       exact alN.1 this
      have hDj:eP l j=dj:=by unfold eP;rw[iF];simp[nO]
      have ff:dj≠di:=by
       rintro rfl
       have kN:=ky _ hN
       unfold fW at kN
       exact fS<|gj (·.dst) (l.take k) kN i j o l[j] (by rw[amh,alE lG];exact ib) (by rw[amh,alE v8];exact iF) (by simp[jY])<|by simp[jY,nO]
      rw[hDj] at Jf ⊢
      rw[jY,show df f (some di) v=cS f di v from rfl,ik f v ff]
      exact AY.mono _ _ _ yy Jf
    ·have j7:listed.getD q false=true:=by
      by_cases fS:i=j
      ·subst fS
       rw[ib] at iF
       cases iF
       obtain⟨e,he,yN,nN⟩:=pg.1 hq
       rw[←nN];exact oX e he yN
      ·rw[getD_set_ne false fS] at hj
       exact hC j oj hj iF q hq
     by_cases l3:i=q
     ·subst l3;rw[sW] at j7;cases j7
     ·rw[getD_set_ne false l3];exact j7
def LW (l:de) (k:Nat):Bool:=(List.range l.length).all fun i=>Nat.blt i k||(List.range k).all fun m=>mG l (i+1) i m
theorem Hr {l:de} {k:Nat} (h:LW l k=true) {i m:Nat} (hk:k≤i) (hi:i<l.length) (hm:m<k):mG l (i+1) i m=true:=by
 have:=alK.1 h i<|by rw[alF];exact hi
 have hf:Nat.blt i k=false:=by
  cases hb:Nat.blt i k with
  |false=>rfl
  |true=>rw[ano] at hb;omega
 rw[hf] at this
 simp only[am9] at this
 exact alK.1 this m<|by rw[alF];exact hm
def Tp (n k:Nat) (l:de):Bool:=
 nZ 0 l&&(l.take k).all (fun o=>o.dst.isSome)&&nodupB (fW k l)&&(fW k l).all (fun d=>Nat.blt d n)&&LW l k&&Nat.ble k l.length
def TA (P:Program) (n:Nat) (l:de) (Q:Exit→Act→aI→Prop) (d:Nat) (S:List Bool) (f:aP) (w:aI):Prop:=wpAny P .any l.toArray Q d S.toArray (bY n f) w
def KP (P:Program) (n:Nat) (l:de) (Q:Exit→Act→aI→Prop) (d:Nat) (S:List Bool) (f:aP) (w:aI):List Nat→Prop
 |[]=>True
 |i::r=>(∃o,l[i]? =some o∧SO P n l.toArray o f w (fun f' w'=>TA P n l Q d (S.set i true) f' w'))∧KP P n l Q d S f w r
theorem KP.mem {Q:Exit→Act→aI→Prop} {d:Nat} {S:List Bool} {f:aP} {w:aI}:∀{R:List Nat},KP P n l Q d S f w R→∀i∈R,∃o,l[i]? =some o∧SO P n l.toArray o f w (fun f' w'=>TA P n l Q d (S.set i true) f' w')
 |[],_,i,hi=>by cases hi
 |j::r,h,i,hi=>by
  rcases alQ.1 hi with rfl|hi
  ·exact h.1
  ·exact KP.mem h.2 i hi
theorem ta {Q:Exit→Act→aI→Prop} {d:Nat} {S:List Bool} (R:List Nat) (hr:Region.ready .any l.toArray S.toArray=R) (ff:R.isEmpty=false) (h:KP P n l Q d S f w R):TA P n l Q (d+1) S f w:=by
 refine⟨fun h0=>?_,fun i hi=>?_⟩
 ·rw[hr] at h0;rw[h0] at ff;cases ff
 ·rw[hr] at hi
  obtain⟨o,ho,hs⟩:=h.mem i hi
  refine oH (by simpa using ho) hs fun f' w' hK=>?_
  have he:S.toArray.setIfInBounds i true=(S.set i true).toArray:=by simp
  rw[he];exact hK
theorem z6 {Q:Exit→Act→aI→Prop} {S:List Bool} (hr:Region.ready .any l.toArray S.toArray=[]) (h:Q .normal (bY n f) w):TA P n l Q 0 S f w:=⟨hr,h⟩
theorem Ia {Q:Exit→Act→aI→Prop} (jl:Tp n k l=true) (hS:gp P n l k Φ f0 w0 0 l)
  (lX:∀f w,(∀t,(fW k l).contains t=false→f t=f0 t)→Ext w0 w→(∀i,Nat.blt i k=true→vJ Φ i (f (eP l i)) w)→TA P n l Q (l.length-k) (List.replicate k true++List.replicate (l.length-k) false) f w):
  ∀(d:Nat) (listed:Array Bool) (a:Act) (w:aI),listed.size=l.length→(∀i,k≤i→listed.getD i false=false)→(listed.toList.filter (fun b=>!b)).length=d→
   DJ n l k Φ f0 w0 listed a w→wpAny P .any l.toArray Q d listed a w:=by
 have TR:=jl
 simp only[Tp,cA] at jl
 obtain⟨⟨⟨⟨⟨hE,hD⟩,hN⟩,hn⟩,hT⟩,yG⟩:=jl
 simp only[aon] at yG
 intro d
 induction d with
 |zero=>
  intro listed a w nM uc hd hJ
  have iZ:∀i,i<l.length→listed.getD i false=true:=by
   intro i hi
   have h0:=amK hd
   rw[amb] at h0
   have pC:i<listed.size:=by omega
   have:=h0 listed[i]<|by simp
   simp at this
   simp[Array.getD,pC,this]
  have TU:k=l.length:=by
   rcases anT k l.length with h|h
   ·have h1:=iZ k h
    rw[uc k (alL _)] at h1
    cases h1
   ·omega
  obtain⟨f,rfl,hf,hx,hφ,hC⟩:=hJ
  have:=lX f w hf hx<|fun i hi=>hφ i (by simpa using hi)<|iZ i<|by have h9:i<k:=(by simpa using hi);omega
  have hl:listed=(List.replicate k true++List.replicate (l.length-k) false).toArray:=by
   apply Array.ext
   ·simp[nM];omega
   ·intro i h1 h2
    have:=iZ i ai
    simp only[Array.getD,h1,aoI] at this
    simp[TU] at this ⊢
    simpa [amd,aoH,show i<l.length by omega] using this
  rw[show l.length-k=0 from by omega] at this hl
  rw[hl]
  exact this
 |succ d ih=>
  intro listed a w nM uc hd hJ
  by_cases iZ:∀i,i<k→listed.getD i false=true
  ·obtain⟨f,rfl,hf,hx,hφ,hC⟩:=hJ
   have:=lX f w hf hx<|fun i hi=>hφ i (by simpa using hi)<|iZ i<|by simpa using hi
   have py:O2 l.length k listed:=⟨nM,fun i hi=>by
    by_cases lG:i<k
    ·rw[iZ i lG];simp[lG]
    ·rw[uc i ai];simp;omega⟩
   have ud:d+1=l.length-k:=by
    rw[←hd]
    have hl:listed.toList=List.replicate k true++List.replicate (l.length-k) false:=by
     apply anc
     ·simp[nM];omega
     ·intro i h1 h2
      simp only[amX] at h1
      have:=py.2 i ai
      simp only[Array.getD,h1,aoI] at this
      rw[anH]
      by_cases lG:i<k
      ·rw[aoe (by simpa using lG)]
       simp[amd,lG] at this ⊢
       exact this
      ·rw[an_ (by simpa using lG)]
       simp[amd,lG] at this ⊢
       exact this
    rw[hl]
    simp
   have pA:listed=(List.replicate k true++List.replicate (l.length-k) false).toArray:=by
    apply Array.ext
    ·simp[nM];omega
    ·intro i h1 h2
     have:=py.2 i ai
     simp only[Array.getD,h1,aoI] at this
     by_cases lG:i<k
     ·simp[amd,lG,aoH] at this ⊢
      exact this
     ·simp[amd,lG,aoH] at this ⊢
      exact this
   rw[ud,pA]
   exact this
  ·obtain⟨i0,Ad⟩:∃i,i<k∧listed.getD i false=false:=by
    apply amu
    intro p_
    refine iZ fun i hi=>?_
    cases hb:listed.getD i false with
    |true=>rfl
    |false=>exact(p_ ⟨i,hi,hb⟩).elim
   
   obtain⟨m,yF,yE⟩:=exists_least (p:=fun i=>i<k∧listed.getD i false=false) ⟨i0,Ad⟩
   have qx:m<l.length:=by omega
   have iq:l[m]? =some l[m]:=dW qx
   have uR:m∈Region.ready .any l.toArray listed:=by
    rw[mem_ready]
    refine⟨?_,l[m],by simp,fun e he hb=>?_⟩
    ·rw[show listed.getD m true=listed.getD m false from lg ai _ _];exact yF.2
    ·have dx:=qq l 0 hE m l[m] iq e he hb
     cases qc:listed.getD e.on false with
     |true=>rfl
     |false=>
      have:=yE e.on ⟨by omega,qc⟩
      omega
   refine⟨fun h0=>(by rw[h0] at uR;cases uR),fun i hi=>?_⟩
   obtain⟨h0,o,ho,oX⟩:=mem_ready.1 hi
   have ib:l[i]? =some o:=by simpa using ho
   have iP:i<l.length:=(eW.1 ib).1
   have sW:listed.getD i false=false:=by
    rw[show listed.getD i false=listed.getD i true from lg ai _ _];exact h0
   have lG:i<k:=by
    rcases anT i k with h|h
    ·exact h
    ·exfalso
     obtain⟨f,rfl,hf,hx,hφ,hC⟩:=hJ
     have:=vF hC _ i m o ib (fun j hj=>by
      obtain⟨e,he,yN,nN⟩:=pg.1 hj
      rw[←nN];exact oX e he yN) (Hr hT h iP yF.1)
     rw[yF.2] at this
     cases this
   obtain⟨f,rfl,hf,hx,hφ,hC⟩:=hJ
   have me:=(gp.at_ l 0 hS i o ib<|by simpa using lG)
   simp only[ama] at me
   have hSO:=me.go f w hf hx (fun j hj v8=>by
    obtain⟨e,he,hb,nN⟩:=pg.1 hj
    subst nN
    exact hφ e.on (by simpa using v8) (oX e he hb))
   obtain⟨di,jY⟩:∃di,o.dst=some di:=by
    rw[alK] at hD
    have:=hD o<|eh (i:=i)<|by rw[amh,alE lG];exact ib
    exact alN.1 this
   refine oH ho hSO fun f' w' hK=>?_
   obtain⟨v,rfl,yy,hv⟩:=hK
   refine ih (listed.setIfInBounds i true) _ w' (by simp[nM]) (fun j hj=>?_) ?_ ?_
   ·rw[getD_set_ne false ai];exact uc j hj
   ·
    have wa:i<listed.size:=by omega
    have rD:listed.toList[i]? =some false:=by
     rw[dW (by simpa using wa)]
     simp only[Array.getD,wa,aoI] at sW
     simpa [amd] using sW
    have key:∀(L:List Bool) (i:Nat),L[i]? =some false→((L.set i true).filter (fun b=>!b)).length+1=(L.filter (fun b=>!b)).length:=by
     intro L
     induction L with
     |nil=>intro i h;simp at h
     |cons b L Jd=>
      intro i h
      cases i with
      |zero=>simp at h;subst h;simp
      |succ i=>
       simp at h
       have:=Jd i h
       cases b<;>simp at this ⊢<;>omega
    have:=key listed.toList i rD
    rw[anD]
    omega
   ·refine⟨df f o.dst v,J,fun t ht=>?_,hx.trans yy,fun j v8 hj=>?_,fun j oj hj iF q hq=>?_⟩
    ·rw[jY]
     have ff:t≠di:=by
      rintro rfl
      have:=mq ib lG jY
      rw[←amg,ht] at this
      cases this
     rw[show df f (some di) v=cS f di v from rfl,ik f v ff]
     exact hf t ht
    ·have rZ:j<l.length:=by omega
     have iF:l[j]? =some l[j]:=dW rZ
     by_cases fS:i=j
     ·subst fS
      have:eP l i=di:=by unfold eP;rw[ib];simp[jY]
      rw[this,jY,show df f (some di) v=cS f di v from rfl,ij]
      exact hv
     ·rw[getD_set_ne false fS] at hj
      have Jf:=hφ j v8 hj
      have AY:=(gp.at_ l 0 hS j l[j] iF<|by simpa using v8)
      simp only[ama] at AY
      obtain⟨dj,nO⟩:∃dj,(l[j]).dst=some dj:=by
       rw[alK] at hD
       have:=hD l[j]<|eh (i:=j)<|by rw[amh,alE v8];exact iF
       exact alN.1 this
      have hDj:eP l j=dj:=by unfold eP;rw[iF];simp[nO]
      have ff:dj≠di:=by
       rintro rfl
       have kN:=ky _ hN
       unfold fW at kN
       exact fS<|gj (·.dst) (l.take k) kN i j o l[j] (by rw[amh,alE lG];exact ib) (by rw[amh,alE v8];exact iF) (by simp[jY])<|by simp[jY,nO]
      rw[hDj] at Jf ⊢
      rw[jY,show df f (some di) v=cS f di v from rfl,ik f v ff]
      exact AY.mono _ _ _ yy Jf
    ·have j7:listed.getD q false=true:=by
      by_cases fS:i=j
      ·subst fS
       rw[ib] at iF
       cases iF
       obtain⟨e,he,yN,nN⟩:=pg.1 hq
       rw[←nN];exact oX e he yN
      ·rw[getD_set_ne false fS] at hj
       exact hC j oj hj iF q hq
     by_cases l3:i=q
     ·subst l3;rw[sW] at j7;cases j7
     ·rw[getD_set_ne false l3];exact j7
theorem dr {id:Nat} {Q:Exit→Act→aI→Prop} {f:aP} {w:aI} (k:Nat) (Φ:List (Value→aI→Prop)) (hm:P.follows .mixedOrders=true) (jl:LX n k l=true)
  (hS:gp P n l k Φ f w 0 l)
  (lX:∀f' w',(∀t,(fW k l).contains t=false→f' t=f t)→Ext w w'→(∀i,Nat.blt i k=true→vJ Φ i (f' (eP l i)) w')→WL P n l.toArray Q (l.drop k) f' w'):
  WC P n (.region id l.toArray true) Q f w:=by
 refine wp_region_any hm ?_
 have h:=K3 (P:=P) (w0:=w) (f0:=f) (Q:=Q) jl hS lX l.length (Array.replicate l.length false) (bY n f) w.drew (by simp) (fun i _=>by simp[Array.getD]) (by simp) ⟨f,rfl,fun _ _=>rfl,Ext.drew w,fun i hi h=>(by
  have h2:(Array.replicate l.length false).getD i false=false:=by
   simp only[Array.getD];split<;>simp
  rw[h2] at h;cases h),fun i o h _ _ _=>(by
  have h2:(Array.replicate l.length false).getD i false=false:=by
   simp only[Array.getD];split<;>simp
  rw[h2] at h;cases h)⟩
 simpa using h
theorem V2 {id:Nat} {Q:Exit→Act→aI→Prop} {f:aP} {w:aI} (k:Nat) (Φ:List (Value→aI→Prop)) (hm:P.follows .mixedOrders=true) (jl:Tp n k l=true)
  (hS:gp P n l k Φ f w 0 l)
  (lX:∀f' w',(∀t,(fW k l).contains t=false→f' t=f t)→Ext w w'→(∀i,Nat.blt i k=true→vJ Φ i (f' (eP l i)) w')→TA P n l Q (l.length-k) (List.replicate k true++List.replicate (l.length-k) false) f' w'):
  WC P n (.region id l.toArray true) Q f w:=by
 refine wp_region_any hm ?_
 have h:=Ia (P:=P) (w0:=w) (f0:=f) (Q:=Q) jl hS lX l.length (Array.replicate l.length false) (bY n f) w.drew (by simp) (fun i _=>by simp[Array.getD]) (by simp) ⟨f,rfl,fun _ _=>rfl,Ext.drew w,fun i hi h=>(by
  have h2:(Array.replicate l.length false).getD i false=false:=by
   simp only[Array.getD];split<;>simp
  rw[h2] at h;cases h),fun i o h _ _ _=>(by
  have h2:(Array.replicate l.length false).getD i false=false:=by
   simp only[Array.getD];split<;>simp
  rw[h2] at h;cases h)⟩
 simpa using h
end
abbrev eV (x:Value):Value→aI→Prop:=fun v _=>v=x
theorem d0 {f':aP} {d:Option Nat} {v:Value} {R:Value→aI→Prop} (e:f'=df f d v) (h:R v w):∃v,f'=df f d v∧Ext w w∧R v w:=⟨v,e,Ext.refl w,h⟩
theorem dc {P:Program} {n:Nat} {l:de} {k:Nat} {Φ:List (Value→aI→Prop)} {f0:aP} {w0:aI} {i:Nat} {o:Oper} {r:de}
  (go:∀f w,(∀t,(fW k l).contains t=false→f t=f0 t)→Ext w0 w→(∀j,jS o j=true→Nat.blt j k=true→vJ Φ j (f (eP l j)) w)→SO P n l.toArray o f w (fun f' w'=>∃v,f'=df f o.dst v∧Ext w w'∧vJ Φ i v w'))
  (rest:gp P n l k Φ f0 w0 (i+1) r) (mono:∀v w w',Ext w w'→vJ Φ i v w→vJ Φ i v w':=by exact fun _ _ _ _ h=>h):gp P n l k Φ f0 w0 i (o::r):=⟨fun _=>⟨go,mono⟩,rest⟩
abbrev U (x:Int):Value:=.int .i64 x
abbrev pV (b o:Nat):Value:=.pointer (some ⟨b,o,none⟩)
theorem BL:(∀b,(b&&true)=b)∧(∀b,(true&&b)=b)∧(∀b,(b&&false)=false)∧(∀b,(false&&b)=false)∧(∀b,(b||true)=true)∧(∀b,(true||b)=true)∧(∀b,(b||false)=b)∧(∀b,(false||b)=b)∧((!true)=false)∧((!false)=true)∧
  (∀(α:Type) (x y:α),cond true x y=x)∧(∀(α:Type) (x y:α),cond false x y=y)∧(∀(α:Type) (x y:α),(some x).getD y=x)∧(∀(α β:Type) (x:α) (f:α→β),(some x).map f=some (f x))∧(∀(α:Type) (l:List α) (i:Nat) (y:α),l.getD i y=(l[i]?).getD y):=by
 refine⟨?_,?_,?_,?_,?_,?_,?_,?_,J,J,fun _ _ _=>rfl,fun _ _ _=>rfl,fun _ _ _=>rfl,fun _ _ _ _=>rfl,fun _ _ _ _=>eH⟩<;>intro b<;>cases b<;>rfl
end Go.Ew
namespace Go.Ew
open Go.RowKit Go.IntWalk
abbrev ag (x:bG):Value:=.int .u64 (x.toNat:Int)
def aN (a:Int):Prop:= -9223372036854775808≤a∧a≤9223372036854775807
theorem Ph {a:Int} (h:aN a):IntKind.i64.wrap a=a:=i64_in a h
theorem xE (a:Int):IntKind.u64.wrap a=((BitVec.ofInt 64 a).toNat:Int):=by
 rw[IntKind.wrap_u64,aok]
 have h1:(0:Int)≤a%18446744073709551616:=Int.emod_nonneg _ aJ
 show a%18446744073709551616=(((a%((2^64:Nat):Int)).toNat:Nat):Int)
 rw[show ((2^64:Nat):Int)=18446744073709551616 from rfl,alJ h1]
theorem qZ (x:bG):BitVec.ofInt 64 (x.toNat:Int)=x:=by
 apply ann
 rw[aok]
 have:=x.isLt
 omega
section
variable {P:Program} {n:Nat} {ops:Array Oper} {f:aP} {w:aI} {K:aP→aI→Prop} {x y c:Operand} {d:Nat} {ty T T2:TypeId} {ps:String} {af:Array Edge} {v v2:Value} {a b:Int} {p q:Bool} {kk Zm:IntKind} {s t:bG}
theorem mv (ox:cC n x=true) (hx:ev f x=v) (h:K (cS f d v) w):SO P n ops ⟨some d,.move x,ty,ps,af,none⟩ f w K:=
 SO.value (v:=v) (by simp[execOp,bA ox,hx]) h
theorem gH (ox:cC n x=true) (hx:ev f x=v) (h:K (cS f d v) w):SO P n ops ⟨some d,.assign x,ty,ps,af,none⟩ f w K:=
 SO.value (v:=v) (by simp[execOp,bA ox,hx]) h
theorem ba (oc:cC n c=true) (ox:cC n x=true) (oy:cC n y=true) (hc:ev f c=.bool p) (hp:p=true) (hx:ev f x=v) (h:K (cS f d v) w):SO P n ops ⟨some d,.pick c x y,ty,ps,af,none⟩ f w K:=
 SO.value (v:=v) (by simp[execOp,asBool,bA oc,bA ox,bA oy,hc,hp,hx]) h
theorem bc (oc:cC n c=true) (ox:cC n x=true) (oy:cC n y=true) (hc:ev f c=.bool p) (hp:p=false) (hy:ev f y=v) (h:K (cS f d v) w):SO P n ops ⟨some d,.pick c x y,ty,ps,af,none⟩ f w K:=
 SO.value (v:=v) (by simp[execOp,asBool,bA oc,bA ox,bA oy,hc,hp,hy]) h
theorem kc (ox:cC n x=true) (hx:ev f x=.bool p) (h:K (cS f d (.bool (!p))) w):SO P n ops ⟨some d,.unOp .not T x,ty,ps,af,none⟩ f w K:=
 SO.value (v:=.bool (!p)) (by simp[execOp,bA ox,hx,Op.unary]) h
theorem bin {op:BinOp} (ox:cC n x=true) (oy:cC n y=true) (hx:ev f x=.int kk a) (hy:ev f y=.int Zm b) (hr:(binOp op T (.int kk a) (.int Zm b)).run P w=.ok v w) (h:K (cS f d v) w):
  SO P n ops ⟨some d,.binOp op T x y T2,ty,ps,af,none⟩ f w K:=
 SO.value (v:=v) (by
  simp only[execOp,bA ox,bA oy,hx,hy]
  have hg:(eqGuard op T x y (.int kk a) (.int Zm b)).run P w=.ok () w:=by unfold eqGuard;split<;>rfl
  simp[hg,hr,Result.andThen]) h
theorem add (ox:cC n x=true) (oy:cC n y=true) (hx:ev f x=.int .i64 a) (hy:ev f y=.int .i64 b) (hi:aN (a+b)) (h:K (cS f d (.int .i64 (a+b))) w):SO P n ops ⟨some d,.binOp .add T x y T2,ty,ps,af,none⟩ f w K:=
 bin ox oy hx hy (by simp[binOp,Op.intArith,Ph hi]) h
theorem sub (ox:cC n x=true) (oy:cC n y=true) (hx:ev f x=.int .i64 a) (hy:ev f y=.int .i64 b) (hi:aN (a-b)) (h:K (cS f d (.int .i64 (a-b))) w):SO P n ops ⟨some d,.binOp .sub T x y T2,ty,ps,af,none⟩ f w K:=
 bin ox oy hx hy (by simp[binOp,Op.intArith,Ph hi]) h
theorem mul (ox:cC n x=true) (oy:cC n y=true) (hx:ev f x=.int .i64 a) (hy:ev f y=.int .i64 b) (hi:aN (a*b)) (h:K (cS f d (.int .i64 (a*b))) w):SO P n ops ⟨some d,.binOp .mul T x y T2,ty,ps,af,none⟩ f w K:=
 bin ox oy hx hy (by simp[binOp,Op.intArith,Ph hi]) h
theorem quo (ox:cC n x=true) (oy:cC n y=true) (hx:ev f x=.int .i64 a) (hy:ev f y=.int .i64 b) (hi:0≤a∧a≤9223372036854775807∧1≤b) (h:K (cS f d (.int .i64 (a/b))) w):SO P n ops ⟨some d,.binOp .quo T x y T2,ty,ps,af,none⟩ f w K:=
 bin ox oy hx hy (by
  have hb:b≠0:=by omega
  simp[binOp,Op.intDiv,hb];exact i64_quo a b hi) h
theorem rem (ox:cC n x=true) (oy:cC n y=true) (hx:ev f x=.int kk a) (hy:ev f y=.int kk b) (hi:0≤a∧1≤b) (h:K (cS f d (.int kk (a%b))) w):SO P n ops ⟨some d,.binOp .rem T x y T2,ty,ps,af,none⟩ f w K:=
 bin ox oy hx hy (by
  have hb:b≠0:=by omega
  simp[binOp,Op.intDiv,hb,rem_in a b hi.1]) h
theorem lss (ox:cC n x=true) (oy:cC n y=true) (hx:ev f x=.int kk a) (hy:ev f y=.int kk b) (h:K (cS f d (.bool (decide (a<b)))) w):SO P n ops ⟨some d,.binOp .lss T x y T2,ty,ps,af,none⟩ f w K:=
 bin ox oy hx hy (by simp[binOp,Op.intCmp]) h
theorem leq (ox:cC n x=true) (oy:cC n y=true) (hx:ev f x=.int kk a) (hy:ev f y=.int kk b) (h:K (cS f d (.bool (decide (a≤b)))) w):SO P n ops ⟨some d,.binOp .leq T x y T2,ty,ps,af,none⟩ f w K:=
 bin ox oy hx hy (by simp[binOp,Op.intCmp]) h
theorem gtr (ox:cC n x=true) (oy:cC n y=true) (hx:ev f x=.int kk a) (hy:ev f y=.int kk b) (h:K (cS f d (.bool (decide (b<a)))) w):SO P n ops ⟨some d,.binOp .gtr T x y T2,ty,ps,af,none⟩ f w K:=
 bin ox oy hx hy (by simp[binOp,Op.intCmp]) h
theorem geq (ox:cC n x=true) (oy:cC n y=true) (hx:ev f x=.int kk a) (hy:ev f y=.int kk b) (h:K (cS f d (.bool (decide (b≤a)))) w):SO P n ops ⟨some d,.binOp .geq T x y T2,ty,ps,af,none⟩ f w K:=
 bin ox oy hx hy (by simp[binOp,Op.intCmp]) h
theorem eql (ox:cC n x=true) (oy:cC n y=true) (hx:ev f x=.int kk a) (hy:ev f y=.int kk b) (h:K (cS f d (.bool (decide (a=b)))) w):SO P n ops ⟨some d,.binOp .eql T x y T2,ty,ps,af,none⟩ f w K:=
 bin ox oy hx hy (by simp[binOp,Op.intCmp];rfl) h
theorem neq (ox:cC n x=true) (oy:cC n y=true) (hx:ev f x=.int kk a) (hy:ev f y=.int kk b) (h:K (cS f d (.bool (!decide (a=b)))) w):SO P n ops ⟨some d,.binOp .neq T x y T2,ty,ps,af,none⟩ f w K:=
 bin ox oy hx hy (by simp[binOp,Op.intCmp];rfl) h
theorem Np (ox:cC n x=true) (oy:cC n y=true) (hx:ev f x=.int .i64 a) (hy:ev f y=.int .u64 6) (h:K (cS f d (.int .i64 (a/64))) w):SO P n ops ⟨some d,.binOp .shr T x y T2,ty,ps,af,none⟩ f w K:=
 bin ox oy hx hy (by
  simp[binOp,Op.shift]
  show a.fdiv (2^min 6 64)=_
  rw[show (2:Int)^min 6 64=64 from rfl,Int.fdiv_eq_ediv_of_nonneg _ aJ]) h
theorem OZ (ox:cC n x=true) (oy:cC n y=true) (hx:ev f x=.int .i64 a) (hy:ev f y=.int .i64 63) (h:K (cS f d (.int .i64 (a%64))) w):SO P n ops ⟨some d,.binOp .and T x y T2,ty,ps,af,none⟩ f w K:=
 bin ox oy hx hy (by
  simp only[binOp,Op.intBits,aom,anJ,amo,Sem.run_pure]
  have h1:((BitVec.ofInt IntKind.i64.bits a &&& BitVec.ofInt IntKind.i64.bits 63).toNat:Int)=a%64:=by
   show ((BitVec.ofInt 64 a &&& BitVec.ofInt 64 63).toNat:Int)=a%64
   rw[BitVec.toNat_and,aok,show (BitVec.ofInt 64 63).toNat=2^6-1 from rfl,Nat.and_two_pow_sub_one_eq_mod]
   have:(0:Int)≤a%((2^64:Nat):Int):=Int.emod_nonneg _ aJ
   omega
  rw[h1,Ph (by unfold aN;omega)]) h
theorem Ly (r:bG):IntKind.u64.wrap (r.toNat:Int)=(r.toNat:Int):=by rw[xE,qZ]
theorem UG (s t:bG) (ox:cC n x=true) (oy:cC n y=true) (hx:ev f x=ag s) (hy:ev f y=ag t) (h:K (cS f d (ag (s &&& t))) w):SO P n ops ⟨some d,.binOp .and T x y T2,ty,ps,af,none⟩ f w K:=
 bin ox oy hx hy (by
  have e1:BitVec.ofInt IntKind.u64.bits (s.toNat:Int)=s:=qZ s
  have e2:BitVec.ofInt IntKind.u64.bits (t.toNat:Int)=t:=qZ t
  simp only[binOp,Op.intBits,aom,anJ,amo,Sem.run_pure,e1,e2];exact alB (fun z=>Result.ok (Value.int .u64 z) w) (Ly (s &&& t))) h
theorem IQ (s t:bG) (ox:cC n x=true) (oy:cC n y=true) (hx:ev f x=ag s) (hy:ev f y=ag t) (h:K (cS f d (ag (s ||| t))) w):SO P n ops ⟨some d,.binOp .or T x y T2,ty,ps,af,none⟩ f w K:=
 bin ox oy hx hy (by
  have e1:BitVec.ofInt IntKind.u64.bits (s.toNat:Int)=s:=qZ s
  have e2:BitVec.ofInt IntKind.u64.bits (t.toNat:Int)=t:=qZ t
  simp only[binOp,Op.intBits,aom,anJ,amo,Sem.run_pure,e1,e2];exact alB (fun z=>Result.ok (Value.int .u64 z) w) (Ly (s ||| t))) h
theorem agA (s t:bG) (ox:cC n x=true) (oy:cC n y=true) (hx:ev f x=ag s) (hy:ev f y=ag t) (h:K (cS f d (ag (s+t))) w):SO P n ops ⟨some d,.binOp .add T x y T2,ty,ps,af,none⟩ f w K:=
 bin ox oy hx hy (by
  simp only[binOp,Op.intArith,aom,anJ,amo,Sem.run_pure]
  refine alB (fun z=>Result.ok (Value.int .u64 z) w) ?_
  rw[IntKind.wrap_u64,BitVec.toNat_add];omega) h
theorem ae4 (s t:bG) (ox:cC n x=true) (oy:cC n y=true) (hx:ev f x=ag s) (hy:ev f y=ag t) (h:K (cS f d (ag (s-t))) w):SO P n ops ⟨some d,.binOp .sub T x y T2,ty,ps,af,none⟩ f w K:=
 bin ox oy hx hy (by
  simp only[binOp,Op.intArith,aom,anJ,amo,Sem.run_pure]
  refine alB (fun z=>Result.ok (Value.int .u64 z) w) ?_
  have:=t.isLt
  rw[IntKind.wrap_u64,BitVec.toNat_sub];omega) h
theorem afb (s:bG) (ox:cC n x=true) (hx:ev f x=ag s) (h:K (cS f d (ag (-s))) w):SO P n ops ⟨some d,.unOp .neg T x,ty,ps,af,none⟩ f w K:=
 SO.value (v:=ag (-s)) (by
  simp only[execOp,bA ox,hx,Op.unary,Op.intArith,aom,anJ,amo]
  have e:IntKind.u64.wrap (0-(s.toNat:Int))=((-s).toNat:Int):=by
   have:=s.isLt
   rw[IntKind.wrap_u64,BitVec.toNat_neg];omega
  rw[e];simp) h
theorem Ze (s t:bG) (ox:cC n x=true) (oy:cC n y=true) (hx:ev f x=ag s) (hy:ev f y=ag t) (h:K (cS f d (ag (s*t))) w):SO P n ops ⟨some d,.binOp .mul T x y T2,ty,ps,af,none⟩ f w K:=
 bin ox oy hx hy (by
  simp only[binOp,Op.intArith,aom,anJ,amo,Sem.run_pure]
  refine alB (fun z=>Result.ok (Value.int .u64 z) w) ?_
  rw[IntKind.wrap_u64,BitVec.toNat_mul];exact(Int.natCast_emod _ _).symm) h
theorem afa (s t:bG) (ht:t≠0#64) (ox:cC n x=true) (oy:cC n y=true) (hx:ev f x=ag s) (hy:ev f y=ag t) (h:K (cS f d (ag (s/t))) w):SO P n ops ⟨some d,.binOp .quo T x y T2,ty,ps,af,none⟩ f w K:=
 bin ox oy hx hy (by
  have h0:t.toNat≠0:=fun h=>ht<|ann h
  have h1:(t.toNat:Int)≠0:=by omega
  have hs:=s.isLt
  simp only[binOp,Op.intDiv,aom,anJ,amo,h1,Sem.run_pure]
  refine alB (fun z=>Result.ok (Value.int .u64 z) w) ?_
  rw[u64_quo _ _ ai,BitVec.toNat_udiv];rfl) h
theorem ae' (s t:bG) (ht:t≠0#64) (ox:cC n x=true) (oy:cC n y=true) (hx:ev f x=ag s) (hy:ev f y=ag t) (h:K (cS f d (ag (s%t))) w):SO P n ops ⟨some d,.binOp .rem T x y T2,ty,ps,af,none⟩ f w K:=
 bin ox oy hx hy (by
  have h0:t.toNat≠0:=fun h=>ht<|ann h
  have h1:(t.toNat:Int)≠0:=by omega
  simp only[binOp,Op.intDiv,aom,anJ,amo,h1,Sem.run_pure]
  refine alB (fun z=>Result.ok (Value.int .u64 z) w) ?_
  rw[rem_in _ _ ai,BitVec.toNat_umod];rfl) h
theorem ae8 (s:bG) (b:Int) (hb:0≤b) (ox:cC n x=true) (oy:cC n y=true) (hx:ev f x=ag s) (hy:ev f y=.int kk b) (h:K (cS f d (ag (s <<< b.toNat))) w):SO P n ops ⟨some d,.binOp .shl T x y T2,ty,ps,af,none⟩ f w K:=
 bin ox oy hx hy (by
  have h0:¬b<0:=by omega
  simp only[binOp,Op.shift,h0,amo,Sem.run_pure]
  refine alB (fun z=>Result.ok (Value.int .u64 z) w) ?_
  show IntKind.u64.wrap ((s.toNat:Int)*2^min b.toNat 64)=_
  rw[IntKind.wrap_u64,BitVec.toNat_shiftLeft,Nat.shiftLeft_eq]
  rcases anT b.toNat 64 with dx|uc
  ·rw[anN ai]
   simp
  ·rw[Nat.min_eq_right uc]
   have e1:s.toNat*2^b.toNat%2^64=0:=by
    rw[show b.toNat=64+(b.toNat-64) from by omega,Nat.pow_add,←Nat.mul_assoc,aoa (s.toNat) _,Nat.mul_assoc]
    exact Nat.mul_mod_right _ _
   rw[e1]
   show (s.toNat:Int)*18446744073709551616%18446744073709551616=0
   exact Int.mul_emod_left _ _) h
theorem ae7 (s:bG) (b:Int) (hb:0≤b) (ox:cC n x=true) (oy:cC n y=true) (hx:ev f x=ag s) (hy:ev f y=.int kk b) (h:K (cS f d (ag (s >>> b.toNat))) w):SO P n ops ⟨some d,.binOp .shr T x y T2,ty,ps,af,none⟩ f w K:=
 bin ox oy hx hy (by
  have h0:¬b<0:=by omega
  simp only[binOp,Op.shift,h0,amo,Sem.run_pure]
  refine alB (fun z=>Result.ok (Value.int .u64 z) w) ?_
  show (s.toNat:Int).fdiv (2^min b.toNat 64)=_
  rw[Int.fdiv_eq_ediv_of_nonneg _ (by have:(0:Int)<2^min b.toNat 64:=Int.pow_pos aJ;omega),BitVec.toNat_ushiftRight,Nat.shiftRight_eq_div_pow]
  rcases anT b.toNat 64 with dx|uc
  ·rw[anN ai]
   simp
  ·rw[Nat.min_eq_right uc]
   have hs:=s.isLt
   have e1:s.toNat/2^b.toNat=0:=aoW<|ams hs<|Nat.pow_le_pow_right aJ uc
   rw[e1]
   show (s.toNat:Int)/18446744073709551616=0
   omega) h
theorem acy (s:bG) (k:Nat) (ox:cC n x=true) (oy:cC n y=true) (hx:ev f x=ag s) (hy:ev f y=.int kk ((k:Nat):Int)) (h:K (cS f d (ag (s >>> k))) w):SO P n ops ⟨some d,.binOp .shr T x y T2,ty,ps,af,none⟩ f w K:=
 ae7 s ((k:Nat):Int) ai ox oy hx hy (by rw[dC];exact h)
theorem eqU (s t:bG) (ox:cC n x=true) (oy:cC n y=true) (hx:ev f x=ag s) (hy:ev f y=ag t) (h:K (cS f d (.bool (decide (s=t)))) w):SO P n ops ⟨some d,.binOp .eql T x y T2,ty,ps,af,none⟩ f w K:=
 bin ox oy hx hy (by
  simp only[binOp,Op.intCmp,aom,anJ,amo,Sem.run_pure]
  refine alB (fun z=>Result.ok (Value.bool z) w) ?_
  by_cases e:s=t
  ·subst e;simp
  ·have:(s.toNat:Int)≠t.toNat:=fun h=>e<|ann ai
   simp[e,this]) h
theorem Zb (s t:bG) (ox:cC n x=true) (oy:cC n y=true) (hx:ev f x=ag s) (hy:ev f y=ag t) (h:K (cS f d (.bool (!decide (s=t)))) w):SO P n ops ⟨some d,.binOp .neq T x y T2,ty,ps,af,none⟩ f w K:=
 bin ox oy hx hy (by
  simp only[binOp,Op.intCmp,aom,anJ,amo,Sem.run_pure]
  refine alB (fun z=>Result.ok (Value.bool z) w) ?_
  by_cases e:s=t
  ·subst e;simp
  ·have:(s.toNat:Int)≠t.toNat:=fun h=>e<|ann ai
   simp[e,this]) h
theorem gtU (s t:bG) (ox:cC n x=true) (oy:cC n y=true) (hx:ev f x=ag s) (hy:ev f y=ag t) (h:K (cS f d (.bool (decide (t.toNat<s.toNat)))) w):SO P n ops ⟨some d,.binOp .gtr T x y T2,ty,ps,af,none⟩ f w K:=
 bin ox oy hx hy (by
  simp only[binOp,Op.intCmp,aom,anJ,amo,Sem.run_pure]
  refine alB (fun z=>Result.ok (Value.bool z) w) ?_
  simp) h
theorem cv {e:TypeDesc} {k2:IntKind} (ox:cC n x=true) (hx:ev f x=.int kk a) (h1:P.underlying T=some e) (h2:P.underlying T2=some (.int k2)) (h:K (cS f d (.int k2 (k2.wrap a))) w):
  SO P n ops ⟨some d,.convert T T2 x,ty,ps,af,none⟩ f w K:=
 SO.value (v:=.int k2 (k2.wrap a)) (by simp[execOp,bA ox,hx,convert,underlying,h1,h2,Conv.intToInt]) h
theorem cvU {e:TypeDesc} (ox:cC n x=true) (hx:ev f x=.int kk a) (h1:P.underlying T=some e) (h2:P.underlying T2=some (.int .u64)) (h:K (cS f d (ag (BitVec.ofInt 64 a))) w):
  SO P n ops ⟨some d,.convert T T2 x,ty,ps,af,none⟩ f w K:=
 cv ox hx h1 h2 (by rw[xE];exact h)
theorem cvI {e:TypeDesc} (ox:cC n x=true) (hx:ev f x=.int kk a) (hi:aN a) (h1:P.underlying T=some e) (h2:P.underlying T2=some (.int .i64)) (h:K (cS f d (.int .i64 a)) w):
  SO P n ops ⟨some d,.convert T T2 x,ty,ps,af,none⟩ f w K:=
 cv ox hx h1 h2 (by rw[Ph hi];exact h)
theorem max2 (ox:cC n x=true) (oy:cC n y=true) (hx:ev f x=.int kk a) (hy:ev f y=.int kk b) {R7:Array TypeId} (h:K (cS f d (.int kk (max a b))) w):
  SO P n ops ⟨some d,.call {callee:=.builtin .max,args:=#[x,y],argTypes:=R7},ty,ps,af,none⟩ f w K:=
 SO.value (v:=.int kk (max a b)) (by
  have:(if b>a then b else a)=max a b:=by split<;>omega
  simp[execOp,resolve,invoke,builtin,Builtin.max_,Builtin.max2,bA ox,bA oy,hx,hy,this]) h
theorem xt {i:Nat} {vs:Array Value} (ox:cC n x=true) (hx:ev f x=.tuple vs) (hi:vs[i]? =some v) (h:K (cS f d v) w):SO P n ops ⟨some d,.extract x i,ty,ps,af,none⟩ f w K:=
 SO.value (v:=v) (by simp[execOp,Instr.extract,bA ox,hx,hi]) h
def IU (n:Nat) (L:List Operand):Bool:=L.all (cC n)
theorem Bx {L:List Operand} (h:IU n L=true):L.map (bY n f).eval=L.map (ev f):=by
 apply amV
 intro x hx
 exact bA<|alK.1 h x hx
theorem mf {fn:Fn} {C:List Operand} (oc:IU n C=true) (h:K (cS f d (.func fn #[] (C.map (ev f)).toArray)) w):SO P n ops ⟨some d,.makeFunc fn #[] C.toArray,ty,ps,af,none⟩ f w K:=
 SO.value (v:=.func fn #[] (C.map (ev f)).toArray) (by simp[execOp,Instr.makeFunc,Bx oc]) h
theorem BF {g:FuncId} {fn:Func} {c:Code} {args:Array Value} (hf:P.funcs[g]? =some fn) (hb:fn.body=some c) (hn:(fn.name== "runtime.NumGoroutine")=false):
  (callFunc g args).run P w=.ok (.enter g args) w:=by
 simp only[beq_eq_false_iff_ne,aom] at hn
 simp[callFunc,hf,hb,hn]
def dq (P:Program) (g:FuncId):Prop:=∃fn c,P.funcs[g]? =some fn∧fn.body=some c∧(fn.name== "runtime.NumGoroutine")=false
theorem e0:([]:List Operand).map (ev f)=[]:=rfl
theorem ec {L:List Operand} {vs:List Value} (h:ev f x=v) (t:L.map (ev f)=vs):(x::L).map (ev f)=v::vs:=by
 rw[amD,h,t]
theorem ca {g:FuncId} {L:List Operand} {vs:List Value} {R7:Array TypeId} {R:Value→aI→Prop} (G:dq P g) (ol:IU n L=true) (hL:L.map (ev f)=vs)
  (hc:Calls P g vs.toArray w (cZ R)) (h:∀v w',R v w'→K (cS f d v) w'):
  SO P n ops ⟨some d,.call {callee:=.value (.func g),args:=L.toArray,argTypes:=R7},ty,ps,af,none⟩ f w K:=by
 obtain⟨fn,c,hf,hb,hn⟩:=G
 subst hL
 exact SO.enter (g:=g) (args:=(L.map (ev f)).toArray) (w':=w) (by
  simp only[execOp,resolve,aoy,Bx ol]
  show ((Deferred.ofValue (.func (.func g) #[] #[]) (L.map (ev f)).toArray >>=fun d=>invoke d.target d.args).run P w)=_
  simp[Deferred.ofValue,invoke,BF hf hb hn]) (hc.mono fun e w' hr=>by
   obtain⟨v,rfl,hv⟩:=hr
   exact⟨v,rfl,h v w' hv⟩)
theorem cf {fx:Operand} {g:FuncId} {L:List Operand} {vs C:List Value} {R7:Array TypeId} {R:Value→aI→Prop} (G:dq P g)
  (ofx:cC n fx=true) (ol:IU n L=true) (Q9:ev f fx=.func (.func g) #[] C.toArray) (hL:L.map (ev f)=vs)
  (hc:Calls P g (vs++C).toArray w (cZ R)) (h:∀v w',R v w'→K (cS f d v) w'):
  SO P n ops ⟨some d,.call {callee:=.value fx,args:=L.toArray,argTypes:=R7},ty,ps,af,none⟩ f w K:=by
 obtain⟨fn,c,hf,hb,hn⟩:=G
 subst hL
 exact SO.enter (g:=g) (args:=(L.map (ev f)++C).toArray) (w':=w) (by
  simp only[execOp,resolve,aoy,Bx ol,bA ofx,Q9]
  simp[Deferred.ofValue,invoke,BF hf hb hn]) (hc.mono fun e w' hr=>by
   obtain⟨v,rfl,hv⟩:=hr
   exact⟨v,rfl,h v w' hv⟩)
end
end Go.Ew
namespace Go.Ew
open Go.RowKit
variable {M:bT} {w:aI} {v:Value}
def Up (M:bT) (w:aI) (M':bT) (w':aI):Prop:=
 w.heap.size≤w'.heap.size∧∀b,b<w.heap.size→¬M b→w'.heap[b]? =w.heap[b]?∧¬M' b
theorem Up.refl (M:bT) (w:aI):Up M w M w:=⟨alL _,fun _ _ h=>⟨rfl,h⟩⟩
theorem Up.trans {M M' M'':bT} {w w' mj:aI} (h:Up M w M' w') (k:Up M' w' M'' mj):Up M w M'' mj:=
 ⟨Nat.le_trans h.1 k.1,fun b hb hM=>by
  have h1:=h.2 b hb hM
  have h2:=k.2 b (ams hb h.1) h1.2
  exact⟨h2.1.trans h1.1,h2.2⟩⟩
theorem Up.ext {w':aI} (h:Ext w w'):Up M w M w':=⟨h.size,fun b hb hM=>⟨h.block b hb,hM⟩⟩
theorem Up.less {M':bT} (h:∀b,b<w.heap.size→M' b→M b):Up M w M' w:=⟨alL _,fun b hb hM=>⟨rfl,fun h'=>hM (h b hb h')⟩⟩
theorem nk {ad:Addr} (h:w.cell? ad=some v):ad.block<w.heap.size:=World.block_lt_of_cell? w ad h
theorem Up.cell {M M':bT} {w w':aI} (h:Up M w M' w') {ad:Addr} {v:Value} (hM:¬M ad.block) (hc:w.cell? ad=some v):w'.cell? ad=some v:=
 (World.cell?_of_block (h.2 _ (nk hc) hM).1).trans hc
theorem uy (a:Addr) (j:Nat):(a.add j).block=a.block:=by unfold Addr.add;split<;>rfl
theorem add_add (a:Addr) (i j:Nat):(a.add i).add j=a.add (i+j):=by
 unfold Addr.add
 by_cases hi:i=0
 ·subst hi;simp
 ·by_cases hj:j=0
  ·subst hj;simp
  ·simp[hi,hj,aou]
class GT (α:Type) where
 size:Nat
 agg:Bool
 rep:(bT)→aI→List Value→α→Prop
 len:∀{M w cs x},rep M w cs x→cs.length=size
 one:∀{M w cs x},rep M w cs x→∀c∈cs,c.oneCell'=true
 single:agg=false→size=1
 pos:0<size
 lift:∀{M w M' w' cs x},rep M w cs x→Up M w M' w'→rep M' w' cs x
def pW (agg:Bool) (cs:List Value):Value:=bif agg then .agg cs.toArray else cs.headD undef
theorem RT {agg:Bool} {cs:List Value} (h:agg=false→cs.length=1) (h1:∀c∈cs,c.oneCell'=true):(pW agg cs).cells=cs.toArray:=by
 cases agg with
 |true=>rfl
 |false=>
  match cs,h rfl with
  |[c],_=>
   have:=h1 c<|by simp
   cases c<;>first|rfl|cases this
def RV {α:Type} [GT α] (M:bT) (w:aI) (v:Value) (x:α):Prop:=∃cs,GT.rep M w cs x∧v=pW (GT.agg α) cs
def At {α:Type} [GT α] (M:bT) (w:aI) (ad:Addr) (x:α):Prop:=∃cs,GT.rep M w cs x∧¬M ad.block∧∀j v,cs[j]? =some v→w.cell? (ad.add j)=some v
theorem RV.lift {α:Type} [GT α] {M M':bT} {w w':aI} {v:Value} {x:α} (h:RV M w v x) (u:Up M w M' w'):RV M' w' v x:=
 let ⟨cs,h1,h2⟩:=h;⟨cs,GT.lift h1 u,h2⟩
theorem At.lift {α:Type} [GT α] {M M':bT} {w w':aI} {ad:Addr} {x:α} (h:At M w ad x) (u:Up M w M' w'):At M' w' ad x:=by
 obtain⟨cs,h1,h2,h3⟩:=h
 have ff:0<cs.length:=by rw[GT.len h1];exact GT.pos
 have dx:ad.block<w.heap.size:=by
  have:=h3 0 cs[0]<|dW ff
  have:=nk this
  rwa [uy] at this
 exact⟨cs,GT.lift h1 u,(u.2 _ dx h2).2,fun j v hv=>u.cell (by rw[uy];exact h2) (h3 j v hv)⟩
instance akN:GT Int where
 size:=1
 agg:=false
 rep _ _ cs x:=cs=[.int .i64 x]∧aN x
 len h:=by rw[h.1];rfl
 one h:=by rw[h.1];simp[Value.oneCell']
 single _:=rfl
 pos:=by decide
 lift h _:=h
instance gBV:GT bG where
 size:=1
 agg:=false
 rep _ _ cs x:=cs=[ag x]
 len h:=by rw[h];rfl
 one h:=by rw[h];simp[Value.oneCell']
 single _:=rfl
 pos:=by decide
 lift h _:=h
abbrev U8 (x:BitVec 8):Value:=.int .u8 (x.toNat:Int)
instance gB8:GT (BitVec 8) where
 size:=1
 agg:=false
 rep _ _ cs x:=cs=[U8 x]
 len h:=by rw[h];rfl
 one h:=by rw[h];simp[Value.oneCell']
 single _:=rfl
 pos:=by decide
 lift h _:=h
instance aj0:GT Bool where
 size:=1
 agg:=false
 rep _ _ cs x:=cs=[.bool x]
 len h:=by rw[h];rfl
 one h:=by rw[h];simp[Value.oneCell']
 single _:=rfl
 pos:=by decide
 lift h _:=h
instance akM:GT fO where
 size:=1
 agg:=false
 rep _ _ cs x:=cs=[.string x]∧x.size≤maxLen
 len h:=by rw[h.1];rfl
 one h:=by rw[h.1];simp[Value.oneCell']
 single _:=rfl
 pos:=by decide
 lift h _:=h
instance ajY {α β:Type} [GT α] [GT β]:GT (α×β) where
 size:=GT.size α+GT.size β
 agg:=true
 rep M w cs x:=∃c1 c2,cs=c1++c2∧GT.rep M w c1 x.1∧GT.rep M w c2 x.2
 len:=by
  rintro M w cs x ⟨c1,c2,rfl,h1,h2⟩
  rw[im,GT.len h1,GT.len h2]
 one:=by
  rintro M w cs x ⟨c1,c2,rfl,h1,h2⟩ c hc
  rcases alR.1 hc with h|h
  ·exact GT.one h1 c h
  ·exact GT.one h2 c h
 single h:=by cases h
 pos:=by have:=GT.pos (α:=α);omega
 lift:=by
  rintro M w M' w' cs x ⟨c1,c2,rfl,h1,h2⟩ u
  exact⟨c1,c2,J,GT.lift h1 u,GT.lift h2 u⟩
def Sg {α:Type} [GT α] (M:bT) (w:aI) (ad:Addr) (xs:List α):Prop:=
 ∀i x,xs[i]? =some x→At M w (ad.add (i*GT.size α)) x
def RS {α:Type} [GT α] (M:bT) (w:aI) (v:Value) (xs:List α):Prop:=
 ∃a n c,v=.slice a n c∧xs.length=n∧n≤c∧c≤maxLen∧(n=0∨∃ad,a=some ad∧Sg M w ad xs)
theorem RS.lift {α:Type} [GT α] {M M':bT} {w w':aI} {v:Value} {xs:List α} (h:RS M w v xs) (u:Up M w M' w'):RS M' w' v xs:=by
 obtain⟨a,n,c,h1,h2,h3,h4,h5⟩:=h
 refine⟨a,n,c,h1,h2,h3,h4,?_⟩
 rcases h5 with h5|⟨ad,h5,h6⟩
 ·exact .inl h5
 ·exact .inr ⟨ad,h5,fun i x hx=>(h6 i x hx).lift u⟩
instance ajZ {α:Type} [GT α]:GT (List α) where
 size:=1
 agg:=false
 rep M w cs xs:=∃v,cs=[v]∧RS M w v xs
 len:=by rintro M w cs x ⟨v,rfl,_⟩;rfl
 one:=by
  rintro M w cs x ⟨v,rfl,a,n,c,rfl,_⟩ c hc
  simp at hc;subst hc;rfl
 single _:=rfl
 pos:=by decide
 lift:=by
  rintro M w M' w' cs x ⟨v,rfl,h⟩ u
  exact⟨v,J,h.lift u⟩
theorem RV.int {M:bT} {w:aI} {v:Value} {x:Int}:RV M w v x↔v=.int .i64 x∧aN x:=by
 constructor
 ·rintro⟨cs,⟨rfl,h⟩,rfl⟩;exact⟨rfl,h⟩
 ·rintro⟨rfl,h⟩;exact⟨_,⟨rfl,h⟩,rfl⟩
theorem RV.bv {x:bG}:RV M w v x↔v=ag x:=by
 constructor
 ·rintro⟨cs,rfl,rfl⟩;rfl
 ·rintro rfl;exact⟨_,rfl,rfl⟩
theorem RV.b8 {x:BitVec 8}:RV M w v x↔v=U8 x:=by
 constructor
 ·rintro⟨cs,rfl,rfl⟩;rfl
 ·rintro rfl;exact⟨_,rfl,rfl⟩
theorem RV.bool {M:bT} {w:aI} {v:Value} {x:Bool}:RV M w v x↔v=.bool x:=by
 constructor
 ·rintro⟨cs,rfl,rfl⟩;rfl
 ·rintro rfl;exact⟨_,rfl,rfl⟩
theorem RV.str {x:fO}:RV M w v x↔v=.string x∧x.size≤maxLen:=by
 constructor
 ·rintro⟨cs,⟨rfl,h⟩,rfl⟩;exact⟨rfl,h⟩
 ·rintro⟨rfl,h⟩;exact⟨_,⟨rfl,h⟩,rfl⟩
theorem RV.list {α:Type} [GT α] {M:bT} {w:aI} {v:Value} {xs:List α}:RV M w v xs↔RS M w v xs:=by
 constructor
 ·rintro⟨cs,⟨u,rfl,h⟩,rfl⟩;exact h
 ·intro h;exact⟨[v],⟨v,rfl,h⟩,rfl⟩
structure Item where
 jN:Option Nat
 holds:(bT)→aI→Prop
 lift:∀{M M' w w'},holds M w→Up M w M' w'→(∀b,jN=some b→w'.heap[b]? =w.heap[b]?)→holds M' w'
def xl {α:Type} [GT α] (v:Value) (x:α):Item:=⟨none,fun M w=>RV M w v x,fun h u _=>h.lift u⟩
def lq {α:Type} [GT α] (ad:Addr) (x:α):Item:=⟨none,fun M w=>At M w ad x,fun h u _=>h.lift u⟩
def box (b:Nat) (cs:Array Value) (t:TypeId):Item:=⟨some b,fun M w=>w.heap[b]? =some (.cells cs t (0,0)),fun h u hb=>(hb b rfl).trans h⟩
def cb {α:Type} [GT α] (M:bT) (w:aI):List Value→List α→Prop
 |cs,[]=>cs=[]
 |cs,x::xs=>∃c1 c2,cs=c1++c2∧GT.rep M w c1 x∧cb M w c2 xs
theorem cb.lift {α:Type} [GT α] {M M':bT} {w w':aI} (u:Up M w M' w'):∀{xs:List α} {cs:List Value},cb M w cs xs→cb M' w' cs xs
 |[],_,h=>h
 |x::xs,cs,⟨c1,c2,h1,h2,h3⟩=>⟨c1,c2,h1,GT.lift h2 u,cb.lift u h3⟩
theorem cb.length {α:Type} [GT α] {M:bT} {w:aI}:∀{xs:List α} {cs:List Value},cb M w cs xs→cs.length=xs.length*GT.size α
 |[],_,h=>by rw[show _=[] from h];simp
 |x::xs,cs,⟨c1,c2,h1,h2,h3⟩=>by rw[h1,im,GT.len h2,cb.length h3,jv,amH];omega
theorem cb.append {α:Type} [GT α] {M:bT} {w:aI}:∀{xs ys:List α} {cs ds:List Value},cb M w cs xs→cb M w ds ys→cb M w (cs++ds) (xs++ys)
 |[],ys,cs,ds,h,k=>by rw[show cs=[] from h];exact k
 |x::xs,ys,cs,ds,⟨c1,c2,h1,h2,h3⟩,k=>⟨c1,c2++ds,by rw[h1,alY],h2,cb.append h3 k⟩
theorem cb.E' {α:Type} [GT α] {M:bT} {w:aI}:∀{xs:List α} {cs:List Value},cb M w cs xs→∀c∈cs,c.oneCell'=true
 |[],_,h,c,hc=>by rw[show _=[] from h] at hc;cases hc
 |x::xs,cs,⟨c1,c2,h1,h2,h3⟩,c,hc=>by
  rw[h1] at hc
  rcases alR.1 hc with h|h
  ·exact GT.one h2 c h
  ·exact cb.E' h3 c h
theorem cb.at_ {α:Type} [GT α] {M:bT} {w:aI}:∀{xs:List α} {cs:List Value},cb M w cs xs→∀i x,xs[i]? =some x→∃c,GT.rep M w c x∧∀j v,c[j]? =some v→cs[i*GT.size α+j]? =some v
 |[],_,_,i,x,hx=>by simp at hx
 |y::xs,cs,⟨c1,c2,h1,h2,h3⟩,i,x,hx=>by
  cases i with
  |zero=>
   simp at hx;subst hx
   refine⟨c1,h2,fun j v hv=>?_⟩
   have hj:j<c1.length:=(eW.1 hv).1
   rw[h1,aoz,ama,y9 hj];exact hv
  |succ i=>
   simp at hx
   obtain⟨c,qE,ue⟩:=cb.at_ h3 i x hx
   refine⟨c,qE,fun j v hv=>?_⟩
   have hl:=GT.len h2
   rw[h1,nQ (by rw[hl,amH];omega),hl]
   have:=ue j v hv
   rw[show (i+1)*GT.size α+j-GT.size α=i*GT.size α+j from by rw[amH];omega]
   exact this
def own {α:Type} [GT α] (B:Nat) (e:TypeId) (v:Value) (xs:List α):Item:=
 ⟨v.ownBlock,fun M w=>∃cs,w.ownsRow B e (GT.size α) v xs.length cs∧cb M w cs xs,fun {M M' w w'} h u hb=>by
  obtain⟨cs,h1,h2⟩:=h
  refine⟨cs,⟨h1.1,?_⟩,cb.lift u h2⟩
  rcases h1.2 with h3|⟨g,cap,cur,rfl,h4,h5,h6⟩
  ·exact .inl h3
  ·exact .inr ⟨g,cap,cur,rfl,h4,(hb g rfl).trans h5,h6⟩⟩
def MS (M0:bT) (l:List Item) (b:Nat):Prop:=M0 b∨∃it∈l,it.jN=some b
structure HI (M0:bT) (w0 w:aI) (l:List Item):Prop where
 below:Ext w0 w
 m0:∀b,M0 b→b<w0.heap.size
 js:∀it∈l,∀b,it.jN=some b→w0.heap.size≤b∧b<w.heap.size
 nodup:(l.filterMap (·.jN)).Nodup
 all:∀it∈l,it.holds (MS M0 l) w
abbrev HI.nA {M0:Nat→Prop} {w0 w:aI} {l:List Item} (_:HI M0 w0 w l):Nat→Prop:=MS M0 l
section
variable {M0:bT} {w0 w w':aI} {l:List Item} {it np:Item}
theorem HI.at_ (h:HI M0 w0 w l) (i:Nat) (hi:l[i]? =some it):it.holds (MS M0 l) w:=h.all it (eh hi)
theorem HI.mb (h:HI M0 w0 w l):∀b,MS M0 l b→b<w.heap.size:=by
 rintro b (hb|⟨it,hit,hb⟩)
 ·exact ams (h.m0 b hb) h.below.size
 ·exact(h.js it hit b hb).2
theorem HI.start (hM:∀b,M0 b→b<w.heap.size):HI M0 w w []:=
 ⟨Ext.refl w,hM,fun _ h=>(by cases h),ans,fun _ h=>(by cases h)⟩
theorem HI.ext (h:HI M0 w0 w l) (x:Ext w w'):HI M0 w0 w' l:=
 ⟨h.below.trans x,h.m0,fun it hit b hb=>⟨(h.js it hit b hb).1,ams (h.js it hit b hb).2 x.size⟩,h.nodup,
  fun it hit=>it.lift (h.all it hit) (Up.ext x) fun b hb=>x.block b (h.js it hit b hb).2⟩
theorem bp (hn:it.jN=none):MS M0 (it::l)=MS M0 l:=by
 funext b
 simp only[MS,alQ,eq_iff_iff]
 constructor
 ·rintro(h|⟨i,rfl|hi,hb⟩)
  ·exact .inl h
  ·rw[hn] at hb;cases hb
  ·exact .inr ⟨i,hi,hb⟩
 ·rintro(h|⟨i,hi,hb⟩)
  ·exact .inl h
  ·exact .inr ⟨i,.inr hi,hb⟩
theorem HI.put (h:HI M0 w0 w l) (hn:it.jN=none) (hh:it.holds (MS M0 l) w):HI M0 w0 w (it::l):=by
 refine⟨h.below,h.m0,?_,by simpa [ame,hn] using h.nodup,?_⟩
 ·intro i hi b hb
  rcases alQ.1 hi with rfl|hi
  ·rw[hn] at hb;cases hb
  ·exact h.js i hi b hb
 ·rw[bp hn]
  intro i hi
  rcases alQ.1 hi with rfl|hi
  ·exact hh
  ·exact h.all i hi
theorem HI.new (h:HI M0 w0 w l) (x:Ext w w') (b:Nat) (hn:it.jN=some b) (hb:w.heap.size≤b) (Af:b<w'.heap.size) (hh:it.holds (MS M0 (it::l)) w'):HI M0 w0 w' (it::l):=by
 refine⟨h.below.trans x,h.m0,?_,?_,?_⟩
 ·intro i hi c hc
  rcases alQ.1 hi with rfl|hi
  ·rw[hn] at hc;cases hc;exact⟨Nat.le_trans h.below.size hb,Af⟩
  ·exact⟨(h.js i hi c hc).1,ams (h.js i hi c hc).2 x.size⟩
 ·rw[ame,hn]
  refine amr.2 ⟨?_,h.nodup⟩
  intro hm
  obtain⟨i,hi,Ac⟩:=al4.1 hm
  have:=(h.js i hi b Ac).2
  omega
 ·intro i hi
  rcases alQ.1 hi with rfl|hi
  ·exact hh
  ·refine i.lift (h.all i hi) ⟨x.size,fun c hc hM=>⟨x.block c hc,?_⟩⟩ fun c hc=>x.block c (h.js i hi c hc).2
   rintro(JF|⟨j,hj,Cy⟩)
   ·exact hM<|.inl JF
   ·rcases alQ.1 hj with rfl|hj
    ·rw[hn] at Cy;cases Cy;omega
    ·exact hM<|.inr ⟨j,hj,Cy⟩
theorem HI.Ax (h:HI M0 w0 w l) (i:Nat) (hi:l[i]? =some it) (Jq:w'.os=w.os) (hta:w'.tape=w.tape) (hou:w'.output=w.output) (hs:w.heap.size≤w'.heap.size) (hdr:w.drawn≤w'.drawn)
  (hk:∀c,c<w.heap.size→it.jN≠some c→w'.heap[c]? =w.heap[c]?)
  (hb:∀b,np.jN=some b→b<w'.heap.size∧(it.jN=some b∨w.heap.size≤b))
  (hh:np.holds (MS M0 (l.set i np)) w'):HI M0 w0 w' (l.set i np):=by
 have iP:i<l.length:=(eW.1 hi).1
 have hit:it∈l:=eh hi
 have qR:∀j,j∈l.set i np→j=np∨∃m,m≠i∧l[m]? =some j:=by
  intro j hj
  obtain⟨m,hm,rfl⟩:=anp.1 hj
  rw[aoY]
  split
  ·exact .inl rfl
  ·rename_i ff
   exact .inr ⟨m,fun e=>ff e.symm,dW (by simpa using hm)⟩
 
 have JD:∀m j b,m≠i→l[m]? =some j→j.jN=some b→it.jN≠some b:=by
  intro m j b hm hj uS Ac
  exact hm<|gj (·.jN) l h.nodup m i j it hj hi (by rw[uS];rfl)<|by rw[uS,Ac]
 refine⟨⟨⟨Jq.trans h.below.os,hta.trans h.below.tape,hou.trans h.below.output,Nat.le_trans h.below.size hs,fun c hc=>?_⟩,Nat.le_trans h.below.drawn hdr⟩,h.m0,?_,?_,?_⟩
 ·rw[hk c (ams hc h.below.size) (fun e=>by have:=(h.js it hit c e).1;omega)]
  exact h.below.block c hc
 ·intro j hj b uS
  rcases qR j hj with rfl|⟨m,hm,yH⟩
  ·obtain⟨h1,h2⟩:=hb b uS
   refine⟨?_,h1⟩
   rcases h2 with h2|h2
   ·exact(h.js it hit b h2).1
   ·exact Nat.le_trans h.below.size h2
  ·have:=h.js j (eh yH) b uS
   exact⟨this.1,ams this.2 hs⟩
 ·
  have ZD:l=l.take i++it::l.drop (i+1):=by
   have h1:=ank i l
   rw[anG iP] at h1
   have h2:l[i]=it:=by
    have:=dW iP
    rw[hi] at this
    exact(alD this).symm
   rw[h2] at h1
   exact h1.symm
  have pZ:l.set i np=l.take i++np::l.drop (i+1):=by
   rw[List.set_eq_take_append_cons_drop,alE iP]
  have kN:=h.nodup
  rw[ZD] at kN
  rw[pZ]
  simp only[am1,ame] at kN ⊢
  have Jj:((l.take i).filterMap (·.jN)++(l.drop (i+1)).filterMap (·.jN)).Nodup:=by
   refine aoh ?_ kN
   refine List.Sublist.append (List.Sublist.refl _) ?_
   cases it.jN with
   |none=>exact List.Sublist.refl _
   |some b=>exact List.sublist_cons_self _ _
  cases Bg:np.jN with
  |none=>simpa [Bg] using Jj
  |some b=>
   simp only[]
   have ZW:∀j,(j∈l.take i∨j∈l.drop (i+1))→j.jN≠some b:=by
    intro j hj uS
    have yH:∃m,m≠i∧l[m]? =some j:=by
     rcases hj with hj|hj
     ·obtain⟨m,hm,rfl⟩:=anp.1 hj
      simp only[lY] at hm
      exact⟨m,by omega,by rw[List.getElem_take];exact dW ai⟩
     ·obtain⟨m,hm,rfl⟩:=anp.1 hj
      simp only[am6] at hm
      exact⟨i+1+m,by omega,by rw[List.getElem_drop];exact dW ai⟩
    obtain⟨m,hm,yH⟩:=yH
    rcases (hb b Bg).2 with h2|h2
    ·exact JD m j b hm yH uS h2
    ·have:=(h.js j (eh yH) b uS).2
     omega
   have:((l.take i).filterMap (·.jN)++b::(l.drop (i+1)).filterMap (·.jN)).Nodup:=by
    rw[ang] at Jj ⊢
    refine⟨Jj.1,amr.2 ⟨?_,Jj.2.1⟩,?_⟩
    ·intro hm
     obtain⟨j,hj,uS⟩:=al4.1 hm
     exact ZW j (.inr hj) uS
    ·intro c hc c' JF he
     subst he
     rcases alQ.1 JF with rfl|JF
     ·obtain⟨j,hj,uS⟩:=al4.1 hc
      exact ZW j (.inl hj) uS
     ·exact Jj.2.2 c hc c JF J
   exact this
 ·intro j hj
  rcases qR j hj with rfl|⟨m,hm,yH⟩
  ·exact hh
  ·have rZ:=eh yH
   refine j.lift (h.all j rZ) ⟨hs,fun c hc hM=>?_⟩ fun c hc=>hk c (h.js j rZ c hc).2 (JD m j c hm yH hc)
   refine⟨hk c hc fun e=>hM (.inr ⟨it,hit,e⟩),?_⟩
   rintro(h1|⟨q,hq,hqc⟩)
   ·exact hM<|.inl h1
   ·rcases qR q hq with rfl|⟨m',Z0,iD⟩
    ·rcases (hb c hqc).2 with h2|h2
     ·exact hM<|.inr ⟨it,hit,h2⟩
     ·omega
    ·exact hM<|.inr ⟨q,eh iD,hqc⟩
theorem HI.pick (h:HI M0 w0 w l) (l':List Item) (hs:∀it∈l',it∈l) (hn:(l'.filterMap (·.jN)).Nodup):HI M0 w0 w l':=
 ⟨h.below,h.m0,fun it hit=>h.js it (hs it hit),hn,fun it hit=>it.lift (h.all it (hs it hit)) (Up.less fun b _ hb=>by
  rcases hb with hb|⟨j,hj,uS⟩
  ·exact .inl hb
  ·exact .inr ⟨j,hs j hj,uS⟩) fun _ _=>rfl⟩
theorem HI.drop (h:HI M0 w0 w l) (i:Nat):HI M0 w0 w (l.eraseIdx i):=
 h.pick _ (fun it hit=>List.mem_of_mem_eraseIdx hit) (h.nodup.sublist ((List.eraseIdx_sublist l i).filterMap _))
theorem HI.tail (h:HI M0 w0 w (it::l)):HI M0 w0 w l:=h.drop 0
theorem HI.out (h:HI M0 w0 w l):Up (MS M0 l) w M0 w:=Up.less fun b _ hb=>.inl hb
end
def Wm {α:Type} [GT α] (M:bT) (w0:aI) (x:α) (v:Value) (w:aI):Prop:=Ext w0 w∧RV M w v x
def abX {α:Type} [GT α] (w0:aI) (x:α) (v:Value) (w:aI):Prop:=Ext w0 w∧RV (fun b=>b<w0.heap.size) w v x
def abW {α:Type} [GT α] (e:TypeId) (w0:aI) (xs:List α) (v:Value) (w:aI):Prop:=
 Ext w0 w∧(∀b,v.ownBlock=some b→b<w.heap.size)∧(own w0.heap.size e v xs).holds (fun b=>b<w0.heap.size∨v.ownBlock=some b) w
theorem bE (b:Bool):b=true∨b=false:=Bool.eq_false_or_eq_true b
theorem dT {p:Prop} [Decidable p] (h:decide p=true):p:=alT h
theorem dF {p:Prop} [Decidable p] (h:decide p=false):¬p:=al3 h
abbrev OA:=Option Addr
abbrev sL {α:Type} (a:Option Addr) (xs:List α) (c:Nat):Value:=.slice a xs.length c
abbrev iL {α:Type} [GT α] (a:Option Addr) (xs:List α) (c:Nat):Item:=xl (.slice a xs.length c) xs
abbrev oL {α:Type} [GT α] (w:aI) (e:TypeId) (a:Option Addr) (xs:List α) (c:Nat):Item:=own w.heap.size e (.slice a xs.length c) xs
end Go.Ew
namespace Go.Ew
open Go.RowKit Go.IntWalk
variable {ao:Option Addr} {m cc:Nat}
def abN (P:Program) (t:TypeId):Option Bool:=(P.underlying t).map fun| .struct _| .array _ _=>true|_=>false
structure fA (P:Program) (t:TypeId) (k:Nat) (agg:Bool) (bytes:Nat) (z:Value):Prop where
 i:(P.info? t).map (fun i=>(i.zero,i.size,i.bytes))=some (some z,k,bytes)
 a:abN P t=some agg
section
variable {P:Program} {t e:TypeId} {k bytes:Nat} {agg:Bool} {z:Value} {w:aI}
theorem fA.info (F:fA P t k agg bytes z):∃i,P.info? t=some i∧i.zero=some z∧i.size=k∧i.bytes=bytes:=info_parts F.i
theorem fA.Gr (F:fA P t k agg bytes z) (w:aI):(isAgg t).run P w=.ok agg w:=by
 have h:=F.a
 unfold abN at h
 cases hu:P.underlying t with
 |none=>rw[hu] at h;cases h
 |some d=>
  rw[hu] at h
  simp only[amq,al2] at h
  subst h
  cases d<;>simp[isAgg,underlying,hu]
theorem fA.lU (F:fA P t k agg bytes z) (w:aI):(sizeOf t).run P w=.ok k w:=by
 obtain⟨i,h1,_,h2,_⟩:=F.info
 simp[sizeOf,typeInfo,h1,h2]
theorem fA.zr (F:fA P t k agg bytes z) (w:aI):(zeroValue t).run P w=.ok z w:=by
 obtain⟨i,h1,h2,_⟩:=F.info
 simp[zeroValue,typeInfo,h1,h2]
theorem jz {d:TypeDesc} (h:P.underlying t=some d) (w:aI):(underlying t).run P w=.ok d w:=by simp[underlying,h]
theorem pe (F:fA P t k agg bytes z) (hk:agg=false→k=1) {ad:Addr} {cs:List Value} (hl:cs.length=k) (hc:∀j v,cs[j]? =some v→w.cell? (ad.add j)=some v):
  (loadVar t ad).run P w=.ok (pW agg cs) w:=by
 cases agg with
 |true=>
  subst hl
  simp[loadVar,F.Gr,F.lU,run_loadCells_list w ad cs hc,pW]
 |false=>
  match cs,hl,hc with
  |[c],_,hc=>
   have h0:w.cell? ad=some c:=by
    have:=hc 0 c J
    rwa [show ad.add 0=ad from by simp[Addr.add]] at this
   simp[loadVar,F.Gr,h0,pW]
  |[],hl,_=>simp at hl;have:=hk rfl;omega
  |_::_::_,hl,_=>simp at hl;have:=hk rfl;omega
end
def gq {α:Type} [GT α] (M:bT) (w:aI) (ad:Addr) (x:α):Prop:=∃cs,GT.rep M w cs x∧∀j v,cs[j]? =some v→w.cell? (ad.add j)=some v
theorem At.w {α:Type} [GT α] {M:bT} {w:aI} {ad:Addr} {x:α} (h:At M w ad x):gq M w ad x:=let ⟨cs,h1,_,h3⟩:=h;⟨cs,h1,h3⟩
theorem At.fst {α β:Type} [GT α] [GT β] {M:bT} {w:aI} {ad:Addr} {x:α×β} (h:At M w ad x):At M w ad x.1:=by
 obtain⟨_,⟨c1,c2,rfl,h1,h2⟩,hM,hc⟩:=h
 exact⟨c1,h1,hM,fun j v hv=>hc j v (by rw[y9 (eW.1 hv).1];exact hv)⟩
theorem At.snd {α β:Type} [GT α] [GT β] {M:bT} {w:aI} {ad:Addr} {x:α×β} (h:At M w ad x):At M w (ad.add (GT.size α)) x.2:=by
 obtain⟨_,⟨c1,c2,rfl,h1,h2⟩,hM,hc⟩:=h
 refine⟨c2,h2,by rw[uy];exact hM,fun j v hv=>?_⟩
 rw[add_add]
 refine hc _ v ?_
 rw[nQ (by rw[GT.len h1];omega),GT.len h1]
 rw[show GT.size α+j-GT.size α=j from by omega]
 exact hv
theorem gq.fst {α β:Type} [GT α] [GT β] {M:bT} {w:aI} {ad:Addr} {x:α×β} (h:gq M w ad x):gq M w ad x.1:=by
 obtain⟨_,⟨c1,c2,rfl,h1,h2⟩,hc⟩:=h
 exact⟨c1,h1,fun j v hv=>hc j v (by rw[y9 (eW.1 hv).1];exact hv)⟩
theorem gq.snd {α β:Type} [GT α] [GT β] {M:bT} {w:aI} {ad:Addr} {x:α×β} (h:gq M w ad x):gq M w (ad.add (GT.size α)) x.2:=by
 obtain⟨_,⟨c1,c2,rfl,h1,h2⟩,hc⟩:=h
 refine⟨c2,h2,fun j v hv=>?_⟩
 rw[add_add]
 refine hc _ v ?_
 rw[nQ (by rw[GT.len h1];omega),GT.len h1]
 rw[show GT.size α+j-GT.size α=j from by omega]
 exact hv
section
variable {P:Program} {n:Nat} {ops:Array Oper} {f:aP} {w:aI} {K:aP→aI→Prop} {x y c:Operand} {d:Nat} {ty T T2 e:TypeId} {ps:String} {af:Array Edge} {v v2:Value} {a b:Int} {M M0:bT} {w0:aI} {l:List Item} {kk:IntKind} {bytes:Nat} {z:Value} {ad:Addr} {size:Nat} {agg:Bool}
theorem vQ {α:Type} [GT α] {xv:α} (hA:gq M w ad xv) (F:fA P T (GT.size α) (GT.agg α) bytes z) (ox:cC n x=true) (hx:ev f x=.pointer (some ad))
  (h:∀v,RV M w v xv→K (cS f d v) w):SO P n ops ⟨some d,.load T x,ty,ps,af,none⟩ f w K:=by
 obtain⟨cs,h1,h2⟩:=hA
 exact SO.value (v:=pW (GT.agg α) cs) (by
  simp[execOp,bA ox,hx,Instr.loadAt,Instr.sureAddr,pe F GT.single (GT.len h1) h2]) (h _ ⟨cs,h1,rfl⟩)
theorem kB {i:Int} (hA:gq M w ad i) (F:fA P T 1 false bytes z) (ox:cC n x=true) (hx:ev f x=.pointer (some ad)) (h:aN i→K (cS f d (.int .i64 i)) w):
  SO P n ops ⟨some d,.load T x,ty,ps,af,none⟩ f w K:=vQ hA F ox hx fun v hv=>by obtain⟨rfl,hi⟩:=RV.int.1 hv;exact h hi
theorem t_ {u:bG} (hA:gq M w ad u) (F:fA P T 1 false bytes z) (ox:cC n x=true) (hx:ev f x=.pointer (some ad)) (h:K (cS f d (ag u)) w):
  SO P n ops ⟨some d,.load T x,ty,ps,af,none⟩ f w K:=vQ hA F ox hx fun v hv=>by rw[RV.bv.1 hv];exact h
theorem ld8 {u:BitVec 8} (hA:gq M w ad u) (F:fA P T 1 false bytes z) (ox:cC n x=true) (hx:ev f x=.pointer (some ad)) (h:K (cS f d (U8 u)) w):
  SO P n ops ⟨some d,.load T x,ty,ps,af,none⟩ f w K:=vQ hA F ox hx fun v hv=>by rw[RV.b8.1 hv];exact h
theorem QK {u:Bool} (hA:gq M w ad u) (F:fA P T 1 false bytes z) (ox:cC n x=true) (hx:ev f x=.pointer (some ad)) (h:K (cS f d (.bool u)) w):
  SO P n ops ⟨some d,.load T x,ty,ps,af,none⟩ f w K:=vQ hA F ox hx fun v hv=>by rw[RV.bool.1 hv];exact h
theorem Zl {u:fO} (hA:gq M w ad u) (F:fA P T 1 false bytes z) (ox:cC n x=true) (hx:ev f x=.pointer (some ad)) (h:u.size≤maxLen→K (cS f d (.string u)) w):
  SO P n ops ⟨some d,.load T x,ty,ps,af,none⟩ f w K:=vQ hA F ox hx fun v hv=>by obtain⟨rfl,hi⟩:=RV.str.1 hv;exact h hi
theorem RS.explicit {α:Type} [GT α] {xs:List α} (h:RS M w v xs):∃a c,v=.slice a xs.length c∧RV M w (.slice a xs.length c) xs:=by
 obtain⟨a,n,c,rfl,rfl,h3⟩:=h
 exact⟨a,c,J,RV.list.2 ⟨a,_,c,J,J,h3⟩⟩
theorem vR {α:Type} [GT α] {xs:List α} (hA:gq M w ad xs) (F:fA P T 1 false bytes z) (ox:cC n x=true) (hx:ev f x=.pointer (some ad))
  (h:∀a c,RV M w (.slice a xs.length c) xs→K (cS f d (.slice a xs.length c)) w):SO P n ops ⟨some d,.load T x,ty,ps,af,none⟩ f w K:=
 vQ hA F ox hx fun v hv=>by obtain⟨a,c,rfl,hr⟩:=(RV.list.1 hv).explicit;exact h a c hr
theorem cg {bb off:Nat} {cs:Array Value} {t:TypeId} {k:Nat} (H:HI M0 w0 w l) (i:Nat) (hi:l[i]? =some (box bb cs t)) (F:fA P T k agg bytes z) (ox:cC n x=true) (hx:ev f x=.pointer (some ⟨bb,off,none⟩))
  (hk:agg=false→k=1) (hl:((cs.toList.drop off).take k).length=k) (h:K (cS f d (pW agg ((cs.toList.drop off).take k))) w):SO P n ops ⟨some d,.load T x,ty,ps,af,none⟩ f w K:=by
 have hb:w.heap[bb]? =some (.cells cs t (0,0)):=H.at_ i hi
 refine SO.value (v:=pW agg ((cs.toList.drop off).take k)) ?_ h
 have hc:∀j u,((cs.toList.drop off).take k)[j]? =some u→w.cell? ((⟨bb,off,none⟩:Addr).add j)=some u:=by
  intro j u hu
  rw[show (⟨bb,off,none⟩:Addr).add j=⟨bb,off+j,none⟩ from by unfold Addr.add;split<;>simp_all,cell_of_row w bb (off+j) cs t (0,0) hb]
  have hj:j<k:=by
   have:=(eW.1 hu).1
   omega
  rw[amh,alE hj,amI] at hu
  simpa using hu
 simp[execOp,bA ox,hx,Instr.loadAt,Instr.sureAddr,pe F hk hl hc]
theorem lx {bb off:Nat} {cs:Array Value} {t:TypeId} (H:HI M0 w0 w l) (i:Nat) (hi:l[i]? =some (box bb cs t)) (F:fA P T 1 false bytes z) (ox:cC n x=true) (hx:ev f x=.pointer (some ⟨bb,off,none⟩))
  (hl:((cs.toList.drop off).take 1).length=1) (h:K (cS f d (pW false ((cs.toList.drop off).take 1))) w):SO P n ops ⟨some d,.load T x,ty,ps,af,none⟩ f w K:=cg H i hi F ox hx (fun _=>rfl) hl h
def wr (cs:Array Value) (off:Nat) (vs:List Value):Array Value:=(cs.toList.take off++vs++cs.toList.drop (off+vs.length)).toArray
theorem vB (F:fA P T size agg bytes z) {g o:Nat} {cs:Array Value} {t:TypeId} (hg:w.heap[g]? =some (.cells cs t (0,0))) (hs:v.cells.size=size) (hf:o+v.cells.toList.length≤cs.size) (h1:∀u∈v.cells.toList,u.oneCell'=true):
  (storeVar T ⟨g,o,none⟩ v).run P w=.ok () (w.setRow g (wr cs o v.cells.toList)):=by
 have jG:=run_storeCells_at P g o t v.cells.toList 0 cs w hg (by simpa using hf) h1
 simp only[amw] at jG
 simp[storeVar,F.lU,hs,jG,wr]
theorem HI.wrote {g:Nat} {cs cs':Array Value} {t:TypeId} (H:HI M0 w0 w l) (i:Nat) (hi:l[i]? =some (box g cs t)):HI M0 w0 (w.setRow g cs') (l.set i (box g cs' t)):=by
 have hb:w.heap[g]? =some (.cells cs t (0,0)):=H.at_ i hi
 refine H.Ax i hi J J J (by simp) (alL _) (fun c hc ff=>setRow_other w g c _<|fun e=>ff<|by rw[e];rfl) (fun b Af=>?_)<|setRow_heap w g cs _ t _ hb
 refine⟨?_,.inl Af⟩
 rw[size_setRow]
 exact(H.js _ (eh hi) b Af).2
theorem cz {dd:Option Nat} {bb off:Nat} {cs:Array Value} {t:TypeId} (H:HI M0 w0 w l) (i:Nat) (hi:l[i]? =some (box bb cs t)) (F:fA P T size agg bytes z) (ox:cC n x=true) (oy:cC n y=true) (hx:ev f x=.pointer (some ⟨bb,off,none⟩)) (hy:ev f y=v)
  (hs:v.cells.size=size) (hf:Nat.ble (off+v.cells.toList.length) cs.size=true) (h1:v.cells.toList.all Value.oneCell'=true)
  (h:∀w',HI M0 w0 w' (l.set i (box bb (wr cs off v.cells.toList) t))→K (df f dd undef) w'):SO P n ops ⟨dd,.store T x y,ty,ps,af,none⟩ f w K:=by
 have hb:w.heap[bb]? =some (.cells cs t (0,0)):=H.at_ i hi
 refine SO.skip ?_ (h _<|H.wrote i hi)
 simp[execOp,bA ox,bA oy,hx,hy,Instr.storeAt,Instr.sureAddr,vB F hb hs (by simpa using hf) (fun u hu=>alK.1 h1 u hu)]
theorem u5 (t:TypeId) (v:Value) (w:aI):(newVar t v).run P w=.ok ⟨w.heap.size,0,none⟩ (w.alloc (.cells v.cells t)):=by simp[newVar,newRow]
theorem HI.abI (H:HI M0 w0 w l) (cs:Array Value) (t:TypeId):HI M0 w0 (w.alloc (.cells cs t)) (box w.heap.size cs t::l):=
 H.new (Ext.alloc w _) w.heap.size rfl (alL _) (by simp) (heap_alloc_new w _)
theorem al (H:HI M0 w0 w l) (F:fA P T size agg bytes z) (h:∀b w',Ext w w'→HI M0 w0 w' (box b z.cells T::l)→K (cS f d (.pointer (some ⟨b,0,none⟩))) w'):
  SO P n ops ⟨some d,.alloc T,ty,ps,af,none⟩ f w K:=
 SO.value (v:=.pointer (some ⟨w.heap.size,0,none⟩)) (w':=w.alloc (.cells z.cells T)) (by simp[execOp,Instr.alloc,F.zr,u5]) (h _ _ (Ext.alloc w _) (H.abI z.cells T))
theorem bx (H:HI M0 w0 w l) (ox:cC n x=true) (hx:ev f x=v) (h:∀b w',Ext w w'→HI M0 w0 w' (box b v.cells T::l)→K (cS f d (.pointer (some ⟨b,0,none⟩))) w'):
  SO P n ops ⟨some d,.box T x,ty,ps,af,none⟩ f w K:=
 SO.value (v:=.pointer (some ⟨w.heap.size,0,none⟩)) (w':=w.alloc (.cells v.cells T)) (by simp[execOp,Instr.box,bA ox,hx,u5]) (h _ _ (Ext.alloc w _) (H.abI v.cells T))
structure jt (P:Program) (s:TypeId) (j:Nat) (off:Nat):Prop where
 h:∃fs fd,P.underlying s=some (.struct fs)∧fs[j]? =some fd∧fd.offset=off∧((P.info? fd.type).map fun i=>Nat.beq i.size 0)=some false
theorem fa {j off:Nat} (F:jt P T j off) (ox:cC n x=true) (hx:ev f x=.pointer (some ad)) (h:K (cS f d (.pointer (some (ad.add off)))) w):SO P n ops ⟨some d,.fieldAddr T x j,ty,ps,af,none⟩ f w K:=by
 obtain⟨fs,fd,h1,h2,rfl,h3⟩:=F.h
 obtain⟨i,h4,h6⟩:=al'.1 h3
 have h5:i.size≠0:=by
  intro e
  rw[e] at h6
  cases h6
 exact SO.value (v:=.pointer (some (ad.add fd.offset))) (by
  simp[execOp,bA ox,hx,Instr.fieldAt,jz h1,h2,Instr.sureAddr,fieldPlace,sizeOf,typeInfo,h4,h5]) h
theorem ia {α:Type} [GT α] {xs:List α} {i:Int} (hR:RV M w v xs) (ox:cC n x=true) (oy:cC n y=true) (hx:ev f x=v) (hy:ev f y=.int kk i) (hi:0≤i∧i<xs.length) (hu:P.underlying T=some (.slice e)) (F:fA P e (GT.size α) agg bytes z)
  (h:∀ad xv,xs[i.toNat]? =some xv→At M w ad xv→K (cS f d (.pointer (some ad))) w):SO P n ops ⟨some d,.indexAddr T x y,ty,ps,af,none⟩ f w K:=by
 obtain⟨a,m,c,rfl,h1,h2,h3,h4⟩:=RV.list.1 hR
 rcases h4 with h4|⟨ad,rfl,hs⟩
 ·omega
 ·have dx:i.toNat<xs.length:=by omega
  refine SO.value (v:=.pointer (some<|ad.add<|i.toNat*GT.size α)) ?_<|h _ xs[i.toNat] (dW dx)<|hs _ _<|dW dx
  have hb:0≤i∧i<(m:Int):=by omega
  simp[execOp,bA ox,bA oy,hx,hy,Instr.indexAt,asIntOf,jz hu,hb,F.lU]
theorem jh {α:Type} [GT α] {xs:List α} {B:Nat} {i:Int} (hO:(own B e v xs).holds M w) (ox:cC n x=true) (oy:cC n y=true) (hx:ev f x=v) (hy:ev f y=.int kk i) (hi:0≤i∧i<xs.length) (hu:P.underlying T=some (.slice e)) (F:fA P e (GT.size α) agg bytes z)
  (h:∀g xv,v.ownBlock=some g→xs[i.toNat]? =some xv→gq M w ⟨g,i.toNat*GT.size α,none⟩ xv→K (cS f d (.pointer (some ⟨g,i.toNat*GT.size α,none⟩))) w):SO P n ops ⟨some d,.indexAddr T x y,ty,ps,af,none⟩ f w K:=by
 obtain⟨cs,h1,h2⟩:=hO
 rcases h1.2 with ⟨_,h3⟩|⟨g,cap,cur,rfl,h3,h4,h5,h6,h7,h8⟩
 ·omega
 ·have dx:i.toNat<xs.length:=by omega
  have tz:(⟨g,0,none⟩:Addr).add (i.toNat*GT.size α)=⟨g,i.toNat*GT.size α,none⟩:=by unfold Addr.add;split<;>simp_all
  refine SO.value (v:=.pointer (some ⟨g,i.toNat*GT.size α,none⟩)) ?_<|h g xs[i.toNat] J (dW dx) ?_
  ·have hb:0≤i∧i<(xs.length:Int):=by omega
   simp[execOp,bA ox,bA oy,hx,hy,Instr.indexAt,asIntOf,jz hu,hb,F.lU,tz]
  ·obtain⟨c,qE,ue⟩:=cb.at_ h2 i.toNat xs[i.toNat] (dW dx)
   refine⟨c,qE,fun j u hu=>?_⟩
   have xx:=h1.cells (g:=g) J (i.toNat*GT.size α+j) u<|ue j u hu
   rwa [←add_add,tz] at xx
theorem cb.set {α:Type} [GT α] {M:bT} {w:aI} {y:α} {c:List Value} (hy:GT.rep M w c y):∀{xs:List α} {cs:List Value} (i:Nat),i<xs.length→cb M w cs xs→
  cb M w (cs.take (i*GT.size α)++c++cs.drop (i*GT.size α+c.length)) (xs.set i y)
 |x::xs,cs,0,_,⟨c1,c2,h1,h2,h3⟩=>by
  refine⟨c,c2,?_,hy,h3⟩
  rw[h1,aoz,anV,an9,ama,GT.len hy,←GT.len h2,List.drop_left]
 |x::xs,cs,i+1,hi,⟨c1,c2,h1,h2,h3⟩=>by
  have:=cb.set hy i (by simpa using hi) h3
  refine⟨c1,_,?_,h2,this⟩
  have hl:=GT.len h2
  rw[h1,show (i+1)*GT.size α=c1.length+i*GT.size α from by rw[hl,amH];omega,aou]
  rw[an1,List.drop_append,alU ai,am_ ai]
  rw[show c1.length+i*GT.size α-c1.length=i*GT.size α from by omega,show c1.length+(i*GT.size α+c.length)-c1.length=i*GT.size α+c.length from by omega]
  simp[alY]
theorem K8 {β:Type} (cur cy:List β) (o n:Nat) (h:o+cy.length≤n) (hn:n≤cur.length):
  (cur.take o++cy++cur.drop (o+cy.length)).take n=(cur.take n).take o++cy++(cur.take n).drop (o+cy.length):=by
 rw[an1,an1,aoJ,anI,anI,im,lY]
 rw[show min n o=o from by omega,show min o n=o from by omega,show min o cur.length=o from by omega,alU (l:=cy) ai]
theorem rO {dd:Option Nat} {α:Type} [GT α] {xs:List α} {yv:α} {B:Nat} {j g:Nat} {u:Value} (H:HI M0 w0 w l) (i:Nat) (hi:l[i]? =some (own B e v xs)) (hg:v.ownBlock=some g) (hB:B=w0.heap.size) (hj:j<xs.length) (F:fA P T (GT.size α) agg bytes z) (ox:cC n x=true) (oy:cC n y=true)
  (hx:ev f x=.pointer (some ⟨g,j*GT.size α,none⟩)) (hy:ev f y=u) (hR:RV (MS M0 l) w u yv)
  (h:∀w',HI M0 w0 w' (l.set i (own B e v (xs.set j yv)))→K (df f dd undef) w'):SO P n ops ⟨dd,.store T x y,ty,ps,af,none⟩ f w K:=by
 subst hB
 obtain⟨cs,h1,h2⟩:=H.at_ i hi
 rcases h1.2 with ⟨rfl,h3⟩|⟨g',cap,cur,rfl,h3,h4,h5,h6,h7,h8⟩
 ·cases hg
 ·have hgg:g'=g:=by simpa [Value.ownBlock] using hg
  subst hgg
  obtain⟨cy,QT,rfl⟩:=hR
  have wg:=RT (agg:=GT.agg α) (cs:=cy) (fun h=>by rw[GT.len QT];exact GT.single h)<|GT.one QT
  have VA:=GT.len QT
  have TX:j*GT.size α+cy.length≤cur.size:=by
   rw[h7,VA]
   have:(j+1)*GT.size α≤cap*GT.size α:=amG _ ai
   rw[amH] at this
   omega
  have lW:=vB (P:=P) (w:=w) F (g:=g') (o:=j*GT.size α) (v:=pW (GT.agg α) cy) h4 (by rw[wg];simpa using VA) (by rw[wg];simpa using TX)<|by rw[wg];simpa using GT.one QT
  rw[wg] at lW
  simp only[List.toList_toArray] at lW
  refine SO.skip (w':=w.setRow g' (wr cur (j*GT.size α) cy)) ?_ (h _ ?_)
  ·simp[execOp,bA ox,bA oy,hx,hy,Instr.storeAt,Instr.sureAddr,lW]
  ·have A6:∀c,c<w.heap.size→(own w0.heap.size e (Value.slice (some ⟨g',0,none⟩) xs.length cap) xs).jN≠some c→(w.setRow g' (wr cur (j*GT.size α) cy)).heap[c]? =w.heap[c]?:=
    fun c hc ff=>setRow_other w g' c _ (fun e=>ff (by rw[e];rfl))
   have hblk:∀b,(own w0.heap.size e (Value.slice (some ⟨g',0,none⟩) xs.length cap) (xs.set j yv)).jN=some b→b<(w.setRow g' (wr cur (j*GT.size α) cy)).heap.size∧((own w0.heap.size e (Value.slice (some ⟨g',0,none⟩) xs.length cap) xs).jN=some b∨w.heap.size≤b):=by
    intro b hb
    refine⟨?_,.inl hb⟩
    rw[size_setRow]
    exact(H.js _ (eh hi) b hb).2
   refine H.Ax i hi J J J (by simp) (alL _) A6 hblk ?_
   refine⟨cs.take (j*GT.size α)++cy++cs.drop (j*GT.size α+cy.length),?_,?_⟩
   ·rw[alP]
    have hlen:(cs.take (j*GT.size α)++cy++cs.drop (j*GT.size α+cy.length)).length=xs.length*GT.size α:=by
     have qD:=h1.1
     have:(j+1)*GT.size α≤xs.length*GT.size α:=amG _ ai
     rw[amH] at this
     simp only[im,lY,am6]
     omega
    refine⟨hlen,.inr ⟨g',cap,wr cur (j*GT.size α) cy,J,h3,setRow_heap w g' cur _ e _ h4,h5,h6,?_,?_⟩⟩
    ·simp only[wr,anR,im,lY,am6,amX]
     omega
    ·have hle:(j+1)*GT.size α≤xs.length*GT.size α:=amG _ ai
     rw[amH] at hle
     have qD:=h1.1
     have nM:xs.length*GT.size α≤cur.size:=by rw[h7];exact amG _ h5
     simp only[wr]
     rw[←h8]
     exact K8 cur.toList cy (j*GT.size α) (xs.length*GT.size α) ai<|by simpa using nM
   ·
    have py:Up (MS M0 l) w (MS M0 (l.set i (own w0.heap.size e (Value.slice (some ⟨g',0,none⟩) xs.length cap) (xs.set j yv)))) (w.setRow g' (wr cur (j*GT.size α) cy)):=by
     refine⟨by simp,fun b hb hM=>⟨setRow_other w g' b _ (fun e=>hM<|.inr ⟨_,eh hi,by rw[e];rfl⟩),?_⟩⟩
     rintro(Er|⟨it,hit,nb⟩)
     ·exact hM<|.inl Er
     ·rcases amU hit with hit|rfl
      ·exact hM<|.inr ⟨it,hit,nb⟩
      ·exact hM<|.inr ⟨_,eh hi,nb⟩
    exact cb.lift py<|cb.set QT j hj h2
theorem ep (ox:cC n x=true) (hx:ev f x=.slice ao m cc) (hu:P.underlying T=some (.slice e)) (h:K (cS f d (.int .i64 (m:Int))) w):
  SO P n ops ⟨some d,.call {callee:=.builtin .len,args:=#[x],argTypes:=#[T]},ty,ps,af,none⟩ f w K:=
 SO.value (v:=.int .i64 (m:Int)) (by simp[execOp,resolve,invoke,builtin,Builtin.len_,bA ox,hx,jz hu,goInt]) h
theorem Vd {s:fO} (ox:cC n x=true) (hx:ev f x=.string s) (hu:P.underlying T=some .string) (h:K (cS f d (.int .i64 (s.size:Int))) w):
  SO P n ops ⟨some d,.call {callee:=.builtin .len,args:=#[x],argTypes:=#[T]},ty,ps,af,none⟩ f w K:=
 SO.value (v:=.int .i64 (s.size:Int)) (by simp[execOp,resolve,invoke,builtin,Builtin.len_,bA ox,hx,jz hu,goInt]) h
theorem WI (hu:P.underlying T=some (.slice e)):(binOp .eql T (.slice ao m cc) (.slice none 0 0)).run P w=.ok (.bool ao.isNone) w:=by
 show ((Op.equal T (.slice ao m cc) (.slice none 0 0) >>=fun b=>pure (Value.bool b)):Sem Value).run P w=_
 have h:(Op.equal T (.slice ao m cc) (.slice none 0 0)).run P w=.ok ao.isNone w:=by
  rw[show Op.equal T (.slice ao m cc) (.slice none 0 0)=Op.equalIn (9999+1) T (.slice ao m cc) (.slice none 0 0) from rfl]
  unfold Op.equalIn
  rw[Sem.run_bind,jz hu]
  cases ao<;>rfl
 rw[Sem.run_bind,h];rfl
theorem eqN (ox:cC n x=true) (oy:cC n y=true) (hx:ev f x=.slice ao m cc) (hy:ev f y=.slice none 0 0) (hu:P.underlying T=some (.slice e)) (h:K (cS f d (.bool ao.isNone)) w):
  SO P n ops ⟨some d,.binOp .eql T x y T2,ty,ps,af,none⟩ f w K:=
 SO.value (v:=.bool ao.isNone) (by
  have hg:(eqGuard .eql T x y (.slice ao m cc) (.slice none 0 0)).run P w=.ok () w:=by unfold eqGuard;rfl
  have hr:=WI (P:=P) (w:=w) (ao:=ao) (m:=m) (cc:=cc) hu
  simp only[execOp,bA ox,bA oy,hx,hy,Sem.run_bind,hg,hr,Result.andThen_ok,Sem.run_pure]) h
end
end Go.Ew
namespace Go.Ew
open Go.RowKit Go.IntWalk
variable {B i:Nat}
theorem Ext.grown {w w':aI} (h:w.grownBy w' none) (hd:w.drawn≤w'.drawn):Ext w w':=⟨⟨h.os,h.tape,h.output,h.size,fun k hk=>h.block k hk (by simp)⟩,hd⟩
def Src {α:Type} [GT α] (M:bT) (w:aI) (v:Value) (ys:List α):Prop:=
 ∃a c,v=.slice a ys.length c∧(ys.length=0∨∃ad,a=some ad∧∃cs,cb M w cs ys∧∀j u,cs[j]? =some u→w.cell? (ad.add j)=some u)
theorem Sg.chunks {α:Type} [GT α] {M:bT} {w:aI}:∀{xs:List α} {ad:Addr},Sg M w ad xs→∃cs,cb M w cs xs∧∀j u,cs[j]? =some u→w.cell? (ad.add j)=some u
 |[],ad,_=>⟨[],rfl,fun j u h=>by simp at h⟩
 |x::xs,ad,h=>by
  obtain⟨c1,h1,_,h2⟩:=h 0 x rfl
  have Om:Sg M w (ad.add (GT.size α)) xs:=by
   intro i y hy
   have:=h (i+1) y<|by simpa using hy
   rw[add_add]
   rwa [show (i+1)*GT.size α=GT.size α+i*GT.size α from by rw[amH];omega] at this
  obtain⟨c2,h3,h4⟩:=Sg.chunks Om
  refine⟨c1++c2,⟨c1,c2,J,h1,h3⟩,fun j u hu=>?_⟩
  rw[List.getElem?_append] at hu
  have hl:=GT.len h1
  split at hu
  ·have:=h2 j u hu
   rwa [add_add,aoz,ama] at this
  ·have:=h4 _ u hu
   rw[add_add,hl] at this
   rwa [show GT.size α+(j-GT.size α)=j from by omega] at this
theorem RV.src {α:Type} [GT α] {M:bT} {w:aI} {v:Value} {ys:List α} (h:RV M w v ys):Src M w v ys:=by
 obtain⟨a,n,c,rfl,rfl,h3,h4,h5⟩:=RV.list.1 h
 refine⟨a,c,J,?_⟩
 rcases h5 with h5|⟨ad,h5,h6⟩
 ·exact .inl h5
 ·exact .inr ⟨ad,h5,h6.chunks⟩
theorem fD {α:Type} [GT α] {M:bT} {w:aI} {v:Value} {ys:List α} {B:Nat} {e:TypeId} (h:(own B e v ys).holds M w):Src M w v ys:=by
 obtain⟨cs,h1,h2⟩:=h
 rcases h1.2 with ⟨rfl,h3⟩|⟨g,cap,cur,rfl,h3,h4,h5,h6,h7,h8⟩
 ·exact⟨none,0,by rw[h3],.inl h3⟩
 ·exact⟨_,cap,J,.inr ⟨_,J,cs,h2,h1.cells (g:=g) rfl⟩⟩
theorem yf {α:Type} [GT α] {M M':bT} {w:aI} {v:Value} {ys:List α} {B:Nat} {e:TypeId} (h:(own B e v ys).holds M w) (hM:∀b,b<w.heap.size→M' b→M b) (hv:∀b,v.ownBlock=some b→¬M' b):RV M' w v ys:=by
 obtain⟨cs,h1,h2⟩:=h
 refine RV.list.2 ?_
 rcases h1.2 with ⟨rfl,h3⟩|⟨g,cap,cur,rfl,h3,h4,h5,h6,h7,h8⟩
 ·exact⟨none,0,0,J,h3,alL _,by simp[maxLen],.inl rfl⟩
 ·refine⟨_,_,cap,J,J,h5,h6,.inr ⟨_,J,fun i x hx=>?_⟩⟩
  obtain⟨c,qE,ue⟩:=cb.at_ h2 i x hx
  refine⟨c,GT.lift qE (Up.less hM),by rw[uy];exact hv g rfl,fun j u hu=>?_⟩
  rw[add_add]
  exact h1.cells (g:=g) J _ u<|ue j u hu
section
variable {M0:bT} {w0 w w':aI} {l:List Item} {α:Type} [GT α] {v:Value} {xs:List α} {e:TypeId}
theorem u4 (H:HI M0 w0 w l) (hi:l[i]? =some (own B e v xs)):∀b,v.ownBlock=some b→w0.heap.size≤b∧b<w.heap.size:=H.js _ (eh hi)
theorem HI.freeze (H:HI M0 w0 w l) (i:Nat) (hi:l[i]? =some (own B e v xs)):HI M0 w0 w (l.set i (xl v xs)):=by
 refine H.Ax i hi J J J (alL _) (alL _) (fun _ _ _=>rfl) (fun b hb=>by cases hb) ?_
 have hO:=H.at_ i hi
 refine yf hO (fun b hb hM=>?_)<|fun b hb hM=>?_
 ·rcases hM with hM|⟨it,hit,nb⟩
  ·exact .inl hM
  ·rcases amU hit with hit|rfl
   ·exact .inr ⟨it,hit,nb⟩
   ·cases nb
 ·have Bg:=u4 H hi b hb
  rcases hM with hM|⟨it,hit,nb⟩
  ·have:=H.m0 b hM;omega
  ·obtain⟨m,hm,rfl⟩:=anp.1 hit
   rw[aoY] at nb
   split at nb
   ·cases nb
   ·rename_i ff
    have qx:m<l.length:=by simpa using hm
    exact ff<|gj (·.jN) l H.nodup i m _ l[m] hi (dW qx) (by show (v.ownBlock).isSome=true;rw[hb];rfl)<|by rw[nb];exact hb
theorem HI.ke (α:Type) [GT α] (H:HI M0 w0 w l) (e:TypeId):HI M0 w0 w (own w0.heap.size e (.slice none 0 0) ([]:List α)::l):=
 H.put rfl ⟨[],World.ownsRow_nil w _ e _,rfl⟩
theorem HI.adC (H:HI M0 w0 w l) (h:Wm (MS M0 l) w xs v w'):HI M0 w0 w' (xl v xs::l):=(H.ext h.1).put rfl h.2
theorem abX.adC {β:Type} [GT β] {y:β} {M:bT} (h:abX w y v w') (hM:∀b,M b→b<w.heap.size):Wm M w y v w':=⟨h.1,h.2.lift (Up.less fun b _ hb=>hM b hb)⟩
theorem HI.Xb (H:HI M0 w0 w l) (i:Nat) (hi:l[i]? =some (own w0.heap.size e v xs)) (aia:∀it∈l,∀b,it.jN=some b→True):RV M0 w v xs:=by
 have hO:=H.at_ i hi
 refine yf hO (fun b _ hb=>.inl hb)<|fun b hb hM=>?_
 have:=u4 H hi b hb
 have:=H.m0 b hM
 omega
end
section
variable {P:Program} {n:Nat} {ops:Array Oper} {f:aP} {w:aI} {K:aP→aI→Prop} {x y c:Operand} {d:Nat} {ty T T2 e:TypeId} {ps:String} {af:Array Edge} {v v2 u:Value} {a b:Int} {M M0:bT} {w0:aI} {l:List Item} {kk:IntKind} {bytes:Nat} {z:Value} {ad:Addr} {size:Nat} {agg:Bool}
theorem uD {s m:Nat} {cs:List Value} (h:w.ownsRow B e s v m cs):∃a c,v=.slice a m c:=by
 rcases h.2 with ⟨rfl,rfl⟩|⟨g,cap,cur,rfl,_⟩
 ·exact⟨none,0,J⟩
 ·exact⟨_,cap,J⟩
theorem ap {α:Type} [GT α] {xs ys:List α} {B:Nat} (H:HI M0 w0 w l) (i:Nat) (hi:l[i]? =some (own B e v xs)) (hB:B=w0.heap.size) (ox:cC n x=true) (oy:cC n y=true) (hx:ev f x=v) (hy:ev f y=u)
  (hs:Src (MS M0 l) w u ys) (hu:P.underlying T=some (.slice e)) (F:fA P e (GT.size α) agg bytes z) (hz:z.cells.size=GT.size α) (hl:(xs.length+ys.length)*bytes≤140737488355328) (pA:xs.length+ys.length≤9223372036854775807)
  (h:∀a c w',HI M0 w0 w' (l.set i (own B e (.slice a (xs++ys).length c) (xs++ys)))→K (cS f d (.slice a (xs++ys).length c)) w'):
  SO P n ops ⟨some d,.call {callee:=.builtin .append,args:=#[x,y],argTypes:=#[T,T]},ty,ps,af,none⟩ f w K:=by
 subst hB
 obtain⟨cs,h1,h2⟩:=H.at_ i hi
 obtain⟨a0,c0,rfl,Df⟩:=hs
 obtain⟨inf,xr,r5,yJ,El⟩:=F.info
 have dx:∀b,v.ownBlock=some b→w0.heap.size≤b∧b<w.heap.size:=u4 H hi
 
 obtain⟨v',w',lW,xP,qA,Ae⟩:∃v' w',(Builtin.append_ #[T,T] ty #[v,.slice a0 ys.length c0]).run P w=.ok v' w'∧
   (∃ds,w'.ownsRow w0.heap.size e (GT.size α) v' (xs.length+ys.length) (cs++ds)∧cb (MS M0 l) w ds ys)∧w.grownBy w' v.ownBlock∧(v'.ownBlock=v.ownBlock∨∀b,v'.ownBlock=some b→w.heap.size≤b∧b<w'.heap.size):=by
  rcases Df with h0|⟨ad,rfl,ds,sU,uT⟩
  ·have hys:ys=[]:=amK h0
   subst hys
   have hr:(Builtin.append_ #[T,T] ty #[v,.slice a0 0 c0]).run P w=.ok v w:=by
    rcases h1.2 with ⟨rfl,hn⟩|⟨g,cap,cur,rfl,hb,hg,ZZ,_⟩
    ·cases a0<;>simp[Builtin.append_,jz hu,sizeOf,typeInfo,xr,Builtin.lenOf,Builtin.firstCells,loadCells,loadCellsFrom]
    ·have:xs.length≤cap:=ZZ
     cases a0<;>simp[Builtin.append_,jz hu,sizeOf,typeInfo,xr,Builtin.lenOf,Builtin.firstCells,loadCells,loadCellsFrom,this,storeCells]
   exact⟨v,w,by simpa using hr,⟨[],by simpa using h1,J⟩,⟨J,J,J,alL _,fun _ _ _=>rfl⟩,.inl rfl⟩
  ·obtain⟨v',w',r1,r2,r3,_,r4⟩:=run_append_own_at (P:=P) w w0.heap.size T ty e inf z (GT.size α) bytes hu xr r5 yJ El hz GT.pos v xs.length cs h1 ad ys.length c0 ds (cb.length sU) uT (cb.E' sU) (by simp only[maxLen];omega) hl H.below.size
   refine⟨v',w',r1,⟨ds,r2,sU⟩,r3,?_⟩
   rcases r4 with hb|hb
   ·exact .inl hb
   ·refine .inr fun b uP=>⟨?_,(r2.lt b uP).2⟩
    rw[hb] at uP
    cases uP
    exact alL _
 obtain⟨ds,ho,hds⟩:=xP
 obtain⟨a',c',rfl⟩:=uD ho
 refine SO.value (v:=.slice a' (xs.length+ys.length) c') (w':=w') ?_ ?_
 ·simp[execOp,resolve,invoke,builtin,bA ox,bA oy,hx,hy,lW]
 ·have:=h a' c' w'
  rw[im] at this
  refine this ?_
  have hblk:∀b,(own w0.heap.size e (.slice a' (xs.length+ys.length) c') (xs++ys)).jN=some b→b<w'.heap.size∧((own w0.heap.size e v xs).jN=some b∨w.heap.size≤b):=by
   intro b hb
   refine⟨(ho.lt b hb).2,?_⟩
   rcases Ae with Ae|Ae
   ·exact .inl (by rw[←hb];exact Ae.symm)
   ·exact .inr (Ae b hb).1
  refine H.Ax i hi qA.os qA.tape qA.output qA.size (rP _ lW) (fun c hc ff=>qA.block c hc<|fun e=>ff e.symm) hblk ?_
  refine⟨cs++ds,by rw[im];exact ho,?_⟩
  refine cb.lift ?_<|cb.append h2 hds
  refine⟨qA.size,fun b hb hM=>⟨qA.block b hb (fun e=>hM<|.inr ⟨_,eh hi,e.symm⟩),?_⟩⟩
  rintro(Er|⟨it,hit,nb⟩)
  ·exact hM<|.inl Er
  ·rcases amU hit with hit|rfl
   ·exact hM<|.inr ⟨it,hit,nb⟩
   ·rcases (hblk b nb).2 with h'|h'
    ·exact hM<|.inr ⟨_,eh hi,h'⟩
    ·omega
theorem kE {α:Type} [GT α] {xs ys:List α} {B:Nat} (H:HI M0 w0 w l) (i:Nat) (hi:l[i]? =some (own B e v xs)) (hB:B=w0.heap.size) (ox:cC n x=true) (oy:cC n y=true) (hx:ev f x=v) (hy:ev f y=u)
  (hs:Src (MS M0 l) w u ys) (hu:P.underlying T=some (.slice e)) (F:fA P e (GT.size α) agg bytes z) (hz:z.cells.size=GT.size α) (hl:(xs.length+ys.length)*bytes≤140737488355328) (uf:Nat.ble 1 bytes=true)
  (h:∀a c w',HI M0 w0 w' (l.set i (own B e (.slice a (xs++ys).length c) (xs++ys)))→K (cS f d (.slice a (xs++ys).length c)) w'):
  SO P n ops ⟨some d,.call {callee:=.builtin .append,args:=#[x,y],argTypes:=#[T,T]},ty,ps,af,none⟩ f w K:=
 ap H i hi hB ox oy hx hy hs hu F hz hl (Nat.le_trans (Nat.le_mul_of_pos_right _ (al9 uf)) (Nat.le_trans hl aJ)) h
theorem Xv {α:Type} [GT α] {M:bT} {xs:List α} {cells:Array Value} {B:Nat} {w w':aI} (hx:Ext w w') (hB:B≤w.heap.size) (hh:w'.heap[w.heap.size]? =some (.cells cells e (0,0))) (hc:cb M w cells.toList xs) (hl:xs.length≤maxLen) {M':bT} (hM:∀b,b<w.heap.size→M' b→M b):
  (own B e (.slice (some ⟨w.heap.size,0,none⟩) xs.length xs.length) xs).holds M' w':=by
 refine⟨cells.toList,⟨cb.length hc,.inr ⟨w.heap.size,xs.length,cells,J,hB,hh,alL _,hl,?_,?_⟩⟩,cb.lift ⟨hx.size,fun b hb hn=>⟨hx.block b hb,fun h=>hn (hM b hb h)⟩⟩ hc⟩
 ·have:=cb.length hc;simpa using this
 ·rw[alU (by rw[cb.length hc];exact alL _)]
theorem abZ {it:Item} {b:Nat} (hn:it.jN=some b):∀c,c<b→MS M0 (it::l) c→MS M0 l c:=by
 rintro c hc (h|⟨j,hj,Cy⟩)
 ·exact .inl h
 ·rcases alQ.1 hj with rfl|hj
  ·rw[hn] at Cy;cases Cy;omega
  ·exact .inr ⟨j,hj,Cy⟩
theorem eo:(([]:List (Nat×Operand)).map fun p=>(p.1,ev f p.2))=[]:=rfl
theorem ct {L:List (Nat×Operand)} {V:List (Nat×Value)} (h:ev f x=v) (t:(L.map fun p=>(p.1,ev f p.2))=V):(((i,x)::L).map fun p=>(p.1,ev f p.2))=(i,v)::V:=by
 rw[amD,t,h]
theorem bs {α:Type} [GT α] {xs:List α} {len:Nat} {L:List (Nat×Operand)} {V:List (Nat×Value)} {cells:Array Value} (H:HI M0 w0 w l) (ol:IU n (L.map (·.2))=true) (hL:(L.map fun p=>(p.1,ev f p.2))=V)
  (hb:∀w,(Instr.buildSlice T len V.toArray).run P w=.ok (.slice (some ⟨w.heap.size,0,none⟩) len len) (w.alloc (.cells cells e)))
  (hc:cb (MS M0 l) w cells.toList xs) (hl:xs.length=len) (hm:len≤maxLen)
  (h:∀g w',Ext w w'→HI M0 w0 w' (own w0.heap.size e (.slice (some ⟨g,0,none⟩) len len) xs::l)→K (cS f d (.slice (some ⟨g,0,none⟩) len len)) w'):
  SO P n ops ⟨some d,.buildSlice T len L.toArray,ty,ps,af,none⟩ f w K:=by
 subst hl hL
 refine SO.value (v:=.slice (some ⟨w.heap.size,0,none⟩) xs.length xs.length) (w':=w.alloc (.cells cells e)) ?_<|h _ _ (Ext.alloc w _) ?_
 ·have he:(L.map fun p=>(p.1,(bY n f).eval p.2))=L.map fun p=>(p.1,ev f p.2):=by
   apply amV
   intro p hp
   rw[bA (alK.1 ol p.2 (amx.2 ⟨p,hp,rfl⟩))]
  simp only[execOp,aoy]
  have:=hb w
  rw[←he] at this
  simp[this]
 ·refine H.new (Ext.alloc w _) w.heap.size J (alL _) (by simp) ?_
  exact Xv (Ext.alloc w _) H.below.size (heap_alloc_new w _) hc hm<|abZ (b:=w.heap.size) J
theorem mk {α:Type} [GT α] {m:Nat} {zx:α} (H:HI M0 w0 w l) (ox:cC n x=true) (oy:cC n y=true) (hx:ev f x=.int .i64 (m:Int)) (hy:ev f y=.int .i64 (m:Int)) (hu:P.underlying T=some (.slice e)) (F:fA P e (GT.size α) (GT.agg α) bytes z)
  (hz:∀M w,GT.rep (α:=α) M w z.cells.toList zx) (hb:bytes*m≤281474976710656) (hm:m≤9223372036854775807)
  (h:∀g w',Ext w w'→HI M0 w0 w' (own w0.heap.size e (.slice (some ⟨g,0,none⟩) m m) (List.replicate m zx)::l)→K (cS f d (.slice (some ⟨g,0,none⟩) m m)) w'):
  SO P n ops ⟨some d,.makeSlice T x y,ty,ps,af,none⟩ f w K:=by
 obtain⟨inf,xr,r5,yJ,El⟩:=F.info
 obtain⟨w',lW,xP,qA⟩:=run_make_full (P:=P) w w0.heap.size T e inf z (GT.size α) hu xr r5 yJ .i64 .i64 m (by rw[El];exact hb) (by simp only[maxLen];omega) H.below.size
 refine SO.value (v:=.slice (some ⟨w.heap.size,0,none⟩) m m) (w':=w') (by simp[execOp,bA ox,bA oy,hx,hy,lW])<|h _ _ (Ext.grown qA<|rP _ lW) ?_
 refine H.new (Ext.grown qA<|rP _ lW) w.heap.size J (alL _) ((xP.lt _ J).2) ?_
 refine⟨_,by rw[xf];exact xP,?_⟩
 
 have Vi:z.cells.toList.length=GT.size α:=GT.len<|hz (fun _=>False) w
 have key:∀k,(madeCells z.cells (k*GT.size α)).toList=(List.replicate k z.cells.toList).flatten:=by
  intro k
  apply anc
  ·simp[madeCells,Vi,aoa]
  ·intro i h1 h2
   have lG:i<k*GT.size α:=by simpa [madeCells] using h1
   simp only[madeCells]
   have hs:z.cells.size=GT.size α:=by simpa using Vi
   have Dh:0<GT.size α:=GT.pos
   have dx:i%GT.size α<z.cells.size:=by rw[hs];exact Nat.mod_lt _ Dh
   have e2:((List.replicate k z.cells.toList).flatten)[i]? =z.cells.toList[i%GT.size α]?:=by
    clear h1 h2 dx
    induction k generalizing i with
    |zero=>simp at lG
    |succ k ih=>
     rw[ani,aoS,List.getElem?_append]
     split
     ·rename_i hl
      rw[Vi] at hl
      rw[an0 hl]
     ·rename_i hl
      rw[Vi] at hl ⊢
      rw[ih (i-GT.size α) (by rw[amH] at lG;omega)]
      rw[show i%GT.size α=(i-GT.size α)%GT.size α from by
       rw[Nat.mod_eq_sub_mod ai]]
   have e3:=dW h2
   rw[e2,dW (by simpa using dx)] at e3
   rw[←alD e3]
   simp only[anH,Array.getElem_map,Array.getElem_range,hs]
   rw[getElem!_pos z.cells (i%GT.size α) dx]
 have hcs:∀k M w,cb (α:=α) M w ((List.replicate k z.cells.toList).flatten) (List.replicate k zx):=by
  intro k
  induction k with
  |zero=>intro M w;rfl
  |succ k ih=>intro M w;exact⟨_,_,by rw[ani,aoS],hz M w,ih M w⟩
 rw[key]
 exact hcs _ _ _
theorem mk0 {α:Type} [GT α] {m:Nat} (H:HI M0 w0 w l) (ox:cC n x=true) (oy:cC n y=true) (hx:ev f x=.int .i64 0) (hy:ev f y=.int .i64 (m:Int)) (hu:P.underlying T=some (.slice e)) (F:fA P e (GT.size α) agg bytes z)
  (hb:bytes*m≤281474976710656) (hm:m≤9223372036854775807)
  (h:∀g w',Ext w w'→HI M0 w0 w' (own w0.heap.size e (.slice (some ⟨g,0,none⟩) 0 m) ([]:List α)::l)→K (cS f d (.slice (some ⟨g,0,none⟩) 0 m)) w'):
  SO P n ops ⟨some d,.makeSlice T x y,ty,ps,af,none⟩ f w K:=by
 obtain⟨inf,xr,r5,yJ,El⟩:=F.info
 obtain⟨w',lW,xP,qA⟩:=run_make_own (P:=P) w w0.heap.size T e inf z (GT.size α) hu xr r5 yJ .i64 .i64 m (by rw[El];exact hb) (by simp only[maxLen];omega) H.below.size
 refine SO.value (v:=.slice (some ⟨w.heap.size,0,none⟩) 0 m) (w':=w') (by simp[execOp,bA ox,bA oy,hx,hy,lW])<|h _ _ (Ext.grown qA<|rP _ lW) ?_
 exact H.new (Ext.grown qA<|rP _ lW) w.heap.size J (alL _) ((xP.lt _ J).2) ⟨[],xP,J⟩
theorem RV.cut {α:Type} [GT α] {M:bT} {w:aI} {ao:Option Addr} {m cc:Nat} {xs:List α} (h:RV M w (.slice ao m cc) xs) (lo hi:Nat) (h1:lo≤hi) (h2:hi≤xs.length) (hc:cc=lo→xs.length=lo):
  RV M w (.slice (if cc=lo then ao else ao.map (·.add (lo*GT.size α))) (hi-lo) (cc-lo)) ((xs.drop lo).take (hi-lo)):=by
 obtain⟨a,n,c,he,h3,h4,h5,h6⟩:=RV.list.1 h
 simp only[Value.slice.injEq] at he
 obtain⟨rfl,rfl,rfl⟩:=he
 refine RV.list.2 ⟨_,_,_,J,by simp;omega,by omega,by omega,?_⟩
 by_cases h0:hi-lo=0
 ·exact .inl h0
 ·rcases h6 with h6|⟨ad,rfl,hs⟩
  ·omega
  ·have ff:cc≠lo:=fun e=>by have:=hc e;omega
   refine .inr ⟨ad.add (lo*GT.size α),by simp[ff],fun i x hx=>?_⟩
   rw[amh] at hx
   split at hx
   ·rw[amI] at hx
    have:=hs (lo+i) x hx
    rw[add_add]
    rwa [←amH]
   ·cases hx
theorem bd {L:List (Nat×Operand)} {V:List (Nat×Value)} {v:Value} (ol:IU n (L.map (·.2))=true) (hL:(L.map fun p=>(p.1,ev f p.2))=V) (hb:∀w,(Instr.build T V.toArray).run P w=.ok v w) (h:K (cS f d v) w):
  SO P n ops ⟨some d,.build T L.toArray,ty,ps,af,none⟩ f w K:=by
 subst hL
 refine SO.value (v:=v) (w':=w) ?_ h
 have he:(L.map fun p=>(p.1,(bY n f).eval p.2))=L.map fun p=>(p.1,ev f p.2):=by
  apply amV
  intro p hp
  rw[bA (alK.1 ol p.2 (amx.2 ⟨p,hp,rfl⟩))]
 simp only[execOp,aoy]
 have:=hb w
 rw[←he] at this
 simp[this]
theorem fd {u v:Value} (ox:cC n x=true) (hx:ev f x=u) (hr:∀w,(Instr.field T u i).run P w=.ok v w) (h:K (cS f d v) w):SO P n ops ⟨some d,.field T x i,ty,ps,af,none⟩ f w K:=
 SO.value (v:=v) (by simp[execOp,bA ox,hx,hr w]) h
theorem ix {u v:Value} (ox:cC n x=true) (oy:cC n y=true) (hx:ev f x=u) (hy:ev f y=v2) (hr:∀w,(Instr.index T u v2).run P w=.ok v w) (h:K (cS f d v) w):SO P n ops ⟨some d,.index T x y,ty,ps,af,none⟩ f w K:=
 SO.value (v:=v) (by simp[execOp,bA ox,bA oy,hx,hy,hr w]) h
theorem GK {i:Int} {m:Nat} (ox:cC n x=true) (oy:cC n y=true) (hx:ev f x=.pointer (some ad)) (hy:ev f y=.int kk i) (hi:0≤i∧i<(m:Int)) (hu:P.underlying T=some (.array m e)) (F:fA P e size agg bytes z)
  (h:K (cS f d (.pointer (some (ad.add (i.toNat*size))))) w):SO P n ops ⟨some d,.indexAddr T x y,ty,ps,af,none⟩ f w K:=
 SO.value (v:=.pointer (some (ad.add (i.toNat*size)))) (by
  simp[execOp,bA ox,bA oy,hx,hy,Instr.indexAt,asIntOf,jz hu,Instr.sureAddr,hi.1,hi.2,F.lU]) h
theorem aff {i m:Nat} (ox:cC n x=true) (oy:cC n y=true) (hx:ev f x=.pointer (some ad)) (hy:ev f y=.int kk ((i:Nat):Int)) (hi:i<m) (hu:P.underlying T=some (.array m e)) (F:fA P e size agg bytes z)
  (h:K (cS f d (.pointer (some (ad.add (i*size))))) w):SO P n ops ⟨some d,.indexAddr T x y,ty,ps,af,none⟩ f w K:=
 GK ox oy hx hy ai hu F (by rw[dC];exact h)
theorem ixS {s:fO} {i:Int} (ox:cC n x=true) (oy:cC n y=true) (hx:ev f x=.string s) (hy:ev f y=.int kk i) (hi:0≤i∧i<s.size) (hu:P.underlying T=some .string)
  (h:∀c,s[i.toNat]? =some c→K (cS f d (.int .u8 (c.toNat:Int))) w):SO P n ops ⟨some d,.index T x y,ty,ps,af,none⟩ f w K:=by
 have dx:i.toNat<s.size:=by omega
 have hg:s[i.toNat]? =some s[i.toNat]:=getElem?_pos s i.toNat dx
 exact SO.value (v:=.int .u8 ((s[i.toNat]).toNat:Int)) (by
  simp[execOp,bA ox,bA oy,hx,hy,Instr.index,asIntOf,jz hu,hi.1,hg]) (h _ hg)
theorem eqS {s t:fO} (ox:cC n x=true) (oy:cC n y=true) (hx:ev f x=.string s) (hy:ev f y=.string t) (h:K (cS f d (.bool (decide (s=t)))) w):SO P n ops ⟨some d,.binOp .eql T x y T2,ty,ps,af,none⟩ f w K:=
 SO.value (v:=.bool (decide (s=t))) (by
  have e:(s.toList==t.toList)=decide (s=t):=by
   rw[←beq_toListBytes,al0]
   rcases s with ⟨a⟩
   rcases t with ⟨b⟩
   show (a==b)=true↔_
   simp
  have hg:(eqGuard .eql T x y (.string s) (.string t)).run P w=.ok () w:=by unfold eqGuard;rfl
  simp only[execOp,bA ox,bA oy,hx,hy,Sem.run_bind,hg,Result.andThen_ok]
  simp[binOp,Op.stringOp,e]) h
theorem eqB {p q:Bool} (ox:cC n x=true) (oy:cC n y=true) (hx:ev f x=.bool p) (hy:ev f y=.bool q) (hu:P.underlying T=some .bool) (h:K (cS f d (.bool (p==q))) w):SO P n ops ⟨some d,.binOp .eql T x y T2,ty,ps,af,none⟩ f w K:=
 SO.value (v:=.bool (p==q)) (by
  have hg:(eqGuard .eql T x y (.bool p) (.bool q)).run P w=.ok () w:=by unfold eqGuard;rfl
  have hr:(binOp .eql T (.bool p) (.bool q)).run P w=.ok (.bool (p==q)) w:=by
   show ((Op.equal T (.bool p) (.bool q) >>=fun b=>pure (Value.bool b)):Sem Value).run P w=_
   have h:(Op.equal T (.bool p) (.bool q)).run P w=.ok (p==q) w:=by
    rw[show Op.equal T (.bool p) (.bool q)=Op.equalIn (9999+1) T (.bool p) (.bool q) from rfl]
    unfold Op.equalIn
    rw[Sem.run_bind,jz hu];rfl
   rw[Sem.run_bind,h];rfl
  simp only[execOp,bA ox,bA oy,hx,hy,Sem.run_bind,hg,hr,Result.andThen_ok,Sem.run_pure]) h
theorem aO {op:BinOp} {u:Value} (ox:cC n x=true) (oy:cC n y=true) (hx:ev f x=v) (hy:ev f y=v2) (hg:(eqGuard op T x y v v2).run P w=.ok () w) (hr:(binOp op T v v2).run P w=.ok u w) (h:K (cS f d u) w):
  SO P n ops ⟨some d,.binOp op T x y T2,ty,ps,af,none⟩ f w K:=
 SO.value (v:=u) (by simp only[execOp,bA ox,bA oy,hx,hy,Sem.run_bind,hg,hr,Result.andThen_ok,Sem.run_pure]) h
end
end Go.Ew
namespace Go.Ew
open Go.RowKit
variable {v:Value}
def PW (P:Program) (n:Nat) (ops:Array Oper) (w0:aI) (K:aP→Prop):de→aP→Prop
 |[],f=>K f
 |o::r,f=>∃v,(∀w,Ext w0 w→SO P n ops o f w (fun f' w'=>f'=df f o.dst v∧Ext w w'))∧PW P n ops w0 K r (df f o.dst v)
def D6 (l:de):Nat→de→Bool
 |_,[]=>true
 |i,o::r=>(o.looksAt l.toArray).all (fun t=>!(fW l.length l).contains t||(List.range i).any (fun j=>jS o j&&Nat.beq (eP l j) t&&((l[j]?).bind (·.dst)).isSome))&&
   (match o.op with| .select _ _=>false|_=>true)&&D6 l (i+1) r
def NX (n:Nat) (l:de):Bool:=LX n l.length l&&D6 l 0 l
section
variable {P:Program} {n:Nat} {ops:Array Oper} {w0:aI} {K:aP→Prop} {o:Oper} {f f2:aP} {w:aI} {v:Value}
theorem BN {x:Operand} (h:∀t,x=.tmp t→f2 t=f t):(bY n f2).eval x=(bY n f).eval x:=by
 cases x with
 |tmp t=>
  by_cases ht:t<n
  ·simp[Act.eval,bY,ht,h t rfl]
  ·simp[Act.eval,bY,ht]
 |_=>rfl
theorem wL (hg:∀j b,o.guard=some (j,b)→∀t,(ops[j]?).bind (·.dst)=some t→f2 t=f t):Region.wanted o (yielded ops (bY n f2).tmps)=Region.wanted o (yielded ops (bY n f).tmps):=by
 unfold Region.wanted
 cases hgd:o.guard with
 |none=>rfl
 |some gw=>
  obtain⟨j,b⟩:=gw
  simp only[]
  have:yielded ops (bY n f2).tmps j=yielded ops (bY n f).tmps j:=by
   unfold yielded
   cases ht:(ops[j]?).bind (·.dst) with
   |none=>rfl
   |some t=>
    have he:=hg j b hgd t ht
    by_cases hn:t<n
    ·simp[bY,hn,he]
    ·simp[bY,hn]
  rw[this]
theorem DK {d:Nat} {u v:Value} (hd:d<n) (h:bY n (cS f d u)=bY n (cS f d v)):u=v:=by
 have h1:(bY n (cS f d u)).tmps[d]? =(bY n (cS f d v)).tmps[d]?:=by rw[h]
 simpa [bY,hd,ij] using h1
theorem wZ {l:de}:∀(r:de) (i:Nat),D6 l i r=true→∀j o,r[j]? =some o→(∀t∈o.looksAt l.toArray,(fW l.length l).contains t=false∨∃q,q<i+j∧jS o q=true∧eP l q=t∧((l[q]?).bind (·.dst)).isSome=true)∧∀cs b,o.op≠.select cs b
 |[],_,_,j,o,h=>by simp at h
 |x::r,i,h,j,o,hj=>by
  simp only[D6,cA] at h
  cases j with
  |zero=>
   simp only[alX,al2] at hj
   subst hj
   refine⟨fun t ht=>?_,fun cs b e=>?_⟩
   ·have:=alK.1 h.1.1 t ht
    rcases amW.1 this with h1|h1
    ·exact .inl (by simpa using h1)
    ·obtain⟨q,hq,j7⟩:=amp.1 h1
     simp only[cA,Nat.beq_eq] at j7
     exact .inr ⟨q,by have:=alF.1 hq;omega,j7.1.1,by simpa using j7.1.2,j7.2⟩
   ·have:=h.1.2
    rw[e] at this;cases this
  |succ j=>
   simp only[al7] at hj
   have:=wZ r (i+1) h.2 j o hj
   refine⟨fun t ht=>?_,this.2⟩
   rcases this.1 t ht with h1|⟨q,h1,h2⟩
   ·exact .inl h1
   ·exact .inr ⟨q,by omega,h2⟩
end
theorem gu {P:Program} {n:Nat} {ops:Array Oper} {f:aP} {w:aI} {K:aP→aI→Prop} {d:Option Nat} {op:Op} {ty:TypeId} {ps:String} {af:Array Edge} {j t:Nat} {want:Bool}
  (hj:wx ops j=some t) (ht:Nat.blt t n=true) (hv:f t=undef)
  (h:K (df f d undef) w):SO P n ops ⟨d,op,ty,ps,af,some (j,want)⟩ f w K:=by
 intro Q rest hk
 have hy:yielded ops (bY n f).tmps j=none:=by
  simp only[ano] at ht
  unfold wx at hj
  simp[yielded,hj,bY,ht,hv,undef]
 unfold wpList
 rw[alG (by simp[Region.wanted,hy])]
 rw[pT]
 exact hk _ _ h
section
variable {P:Program} {n:Nat} {ops:Array Oper} {w0:aI} {K:aP→Prop} {f:aP} {rest:de}
theorem e1 {f:aP} {w:aI}:f=f∧Ext w w:=⟨rfl,Ext.refl w⟩
theorem e2 {f:aP} {d:Nat} {x:Value} {w w':aI} (h:v=x∧Ext w w'):df f (some d) v=df f (some d) x∧Ext w w':=⟨by rw[h.1],h.2⟩
theorem kq {o:Oper} (h:∀w,Ext w0 w→SO P n ops o f w (fun f' w'=>f'=df f o.dst v∧Ext w w')) (r:PW P n ops w0 K rest (df f o.dst v)):PW P n ops w0 K (o::rest) f:=⟨v,h,r⟩
theorem zq (h:K f):PW P n ops w0 K [] f:=h
variable {d:Option Nat} {op:Op} {ty:TypeId} {ps:String} {af:Array Edge} {j t:Nat} {want b:Bool}
theorem qy (hj:wx ops j=some t) (ht:Nat.blt t n=true) (hv:f t=.bool b) (hb:b=want)
  (h:PW P n ops w0 K (⟨d,op,ty,ps,af,none⟩::rest) f):PW P n ops w0 K (⟨d,op,ty,ps,af,some (j,want)⟩::rest) f:=by
 obtain⟨v,h1,h2⟩:=h
 exact⟨v,fun w hw=>gy hj ht hv hb (h1 w hw),h2⟩
theorem qn (hj:wx ops j=some t) (ht:Nat.blt t n=true) (hv:f t=.bool b) (hb:b=!want)
  (h:PW P n ops w0 K rest (df f d undef)):PW P n ops w0 K (⟨d,op,ty,ps,af,some (j,want)⟩::rest) f:=
 ⟨undef,fun w hw=>gn hj ht hv hb ⟨rfl,Ext.refl w⟩,h⟩
theorem qu (hj:wx ops j=some t) (ht:Nat.blt t n=true) (hv:f t=undef)
  (h:PW P n ops w0 K rest (df f d undef)):PW P n ops w0 K (⟨d,op,ty,ps,af,some (j,want)⟩::rest) f:=
 ⟨undef,fun w hw=>gu hj ht hv ⟨rfl,Ext.refl w⟩,h⟩
end
section
variable {P:Program} {n:Nat} {ops:Array Oper} {w0:aI} {K:aP→Prop} {f:aP} {rest:de} {d:Nat} {ty:TypeId} {ps:String} {af:Array Edge} {M:bT} {x y:Operand} {T e:TypeId} {kk:IntKind} {agg:Bool} {bytes:Nat} {z v:Value} {ad:Addr}
theorem hG {α:Type} [GT α] {xs:List α} {i:Int} (hR:RV M w0 v xs) (ox:cC n x=true) (oy:cC n y=true) (hx:ev f x=v) (hy:ev f y=.int kk i) (hi:0≤i∧i<xs.length) (hu:P.underlying T=some (.slice e)) (F:fA P e (GT.size α) agg bytes z)
  (h:∀ad xv,xs[i.toNat]? =some xv→At M w0 ad xv→PW P n ops w0 K rest (cS f d (.pointer (some ad)))):PW P n ops w0 K (⟨some d,.indexAddr T x y,ty,ps,af,none⟩::rest) f:=by
 obtain⟨a,m,c,rfl,h1,h2,h3,h4⟩:=RV.list.1 hR
 rcases h4 with h4|⟨ad,rfl,hs⟩
 ·omega
 ·have dx:i.toNat<xs.length:=by omega
  refine⟨.pointer (some<|ad.add<|i.toNat*GT.size α),fun w hw=>SO.value (v:=.pointer (some<|ad.add<|i.toNat*GT.size α)) (w':=w) ?_ ⟨J,Ext.refl w⟩,h _ xs[i.toNat] (dW dx) (hs _ _<|dW dx)⟩
  have hb:0≤i∧i<(m:Int):=by omega
  simp[execOp,bA ox,bA oy,hx,hy,Instr.indexAt,asIntOf,jz hu,hb,F.lU]
theorem su {α:Type} [GT α] {xs:List α} {B:Nat} {i:Int} (hO:(own B e v xs).holds M w0) (ox:cC n x=true) (oy:cC n y=true) (hx:ev f x=v) (hy:ev f y=.int kk i) (hi:0≤i∧i<xs.length) (hu:P.underlying T=some (.slice e)) (F:fA P e (GT.size α) agg bytes z)
  (h:∀ad xv,xs[i.toNat]? =some xv→gq M w0 ad xv→PW P n ops w0 K rest (cS f d (.pointer (some ad)))):PW P n ops w0 K (⟨some d,.indexAddr T x y,ty,ps,af,none⟩::rest) f:=by
 obtain⟨cs,h1,h2⟩:=hO
 rcases h1.2 with ⟨_,h3⟩|⟨g,cap,cur,rfl,h3,h4,h5,h6,h7,h8⟩
 ·omega
 ·have dx:i.toNat<xs.length:=by omega
  have tz:(⟨g,0,none⟩:Addr).add (i.toNat*GT.size α)=⟨g,i.toNat*GT.size α,none⟩:=by unfold Addr.add;split<;>simp_all
  refine⟨.pointer (some ⟨g,i.toNat*GT.size α,none⟩),fun w hw=>SO.value (v:=.pointer (some ⟨g,i.toNat*GT.size α,none⟩)) (w':=w) ?_ ⟨J,Ext.refl w⟩,h _ xs[i.toNat] (dW dx) ?_⟩
  ·have hb:0≤i∧i<(xs.length:Int):=by omega
   simp[execOp,bA ox,bA oy,hx,hy,Instr.indexAt,asIntOf,jz hu,hb,F.lU,tz]
  ·obtain⟨c,qE,ue⟩:=cb.at_ h2 i.toNat xs[i.toNat] (dW dx)
   refine⟨c,qE,fun j u hu=>?_⟩
   have xx:=h1.cells (g:=g) J (i.toNat*GT.size α+j) u<|ue j u hu
   rwa [←add_add,tz] at xx
theorem U0 {α:Type} [GT α] {xv:α} (hA:gq M w0 ad xv) (F:fA P T (GT.size α) (GT.agg α) bytes z) (ox:cC n x=true) (hx:ev f x=.pointer (some ad))
  (h:∀v,RV M w0 v xv→PW P n ops w0 K rest (cS f d v)):PW P n ops w0 K (⟨some d,.load T x,ty,ps,af,none⟩::rest) f:=by
 obtain⟨cs,h1,h2⟩:=hA
 refine⟨pW (GT.agg α) cs,fun w hw=>SO.value (v:=pW (GT.agg α) cs) (w':=w) ?_ ⟨J,Ext.refl w⟩,h _ ⟨cs,h1,J⟩⟩
 have h3:∀j v,cs[j]? =some v→w.cell? (ad.add j)=some v:=fun j v hv=>(World.cell?_of_block<|hw.block _<|nk<|h2 j v hv).trans (h2 j v hv)
 simp[execOp,bA ox,hx,Instr.loadAt,Instr.sureAddr,pe F GT.single (GT.len h1) h3]
theorem fV {i:Int} (hA:gq M w0 ad i) (F:fA P T 1 false bytes z) (ox:cC n x=true) (hx:ev f x=.pointer (some ad)) (h:aN i→PW P n ops w0 K rest (cS f d (.int .i64 i))):
  PW P n ops w0 K (⟨some d,.load T x,ty,ps,af,none⟩::rest) f:=U0 hA F ox hx fun v hv=>by obtain⟨rfl,hi⟩:=RV.int.1 hv;exact h hi
theorem tL {u:Bool} (hA:gq M w0 ad u) (F:fA P T 1 false bytes z) (ox:cC n x=true) (hx:ev f x=.pointer (some ad)) (h:PW P n ops w0 K rest (cS f d (.bool u))):
  PW P n ops w0 K (⟨some d,.load T x,ty,ps,af,none⟩::rest) f:=U0 hA F ox hx fun v hv=>by rw[RV.bool.1 hv];exact h
end
end Go.Ew
namespace Go.Ew
open Go.RowKit
abbrev UT:=List (Nat×(Value→aI→Prop))
def Jc (ag:UT) (t:Nat):Bool:=ag.any (fun p=>Nat.beq p.1 t)
section
variable {P:Program} {n:Nat} {ops:Array Oper} {w0:aI} {o:Oper} {f f2:aP} {w:aI} {v:Value} {R:Value→aI→Prop}
theorem SO.tK (h:SO P n ops o f w (fun f' w'=>∃v,f'=df f o.dst v∧Ext w w'∧R v w')) (hs:∀cs b,o.op≠.select cs b) (hu:∀t∈o.looksAt ops,f2 t=f t) (hd:∀d,o.dst=some d→d<n):
  SO P n ops o f2 w (fun f' w'=>∃v,f'=df f2 o.dst v∧Ext w w'∧R v w'):=by
 intro Q rest hk
 have h1:=h (fun e a w'=>match e with| .normal=>∃v,a=bY n (df f o.dst v)∧Ext w w'∧R v w'|_=>False) []<|fun f' w' hK=>wpList_nil<|by obtain⟨v,h1,h2⟩:=hK;exact⟨v,by rw[h1],h2⟩
 have he:execOp (bY n f2).eval o=execOp (bY n f).eval o:=execOp_congr o hs fun x hx=>BN fun t ht=>hu t (by
  subst ht
  exact amM _ (al4.2 ⟨.tmp t,by simpa using hx,rfl⟩))
 have hw:Region.wanted o (yielded ops (bY n f2).tmps)=Region.wanted o (yielded ops (bY n f).tmps):=wL fun j b hg t ht=>hu t (by
  unfold Oper.looksAt
  rw[hg]
  refine am0 _ ?_
  simp[ht])
 have key:∀u w',(∃v,(bY n f).put o.dst u=bY n (df f o.dst v)∧Ext w w'∧R v w')→wpList P ops Q rest ((bY n f2).put o.dst u) w':=by
  rintro u w' ⟨v,hq,h2,h3⟩
  rw[pT] at hq ⊢
  cases sE:o.dst with
  |none=>exact hk _ _ ⟨v,by rw[sE];rfl,h2,h3⟩
  |some d=>
   rw[sE] at hq
   have QV:u=v:=DK (hd d sE) hq
   subst QV
   exact hk _ _ ⟨u,by rw[sE],h2,h3⟩
 unfold wpList at h1 ⊢
 rw[hw]
 split at h1
 ·rename_i AV
  rw[alE AV]
  refine .inl ?_
  rcases h1 with h2|⟨_,a0,w1,hq⟩
  ·unfold Oper.wp at h2 ⊢
   rw[he]
   generalize (execOp (bY n f).eval o).run P w=r at *
   cases r with
   |ok x w'=>
    cases x with
    |enter g args=>
     simp only[Oper.upon] at h2 ⊢
     refine Calls.mono h2 ?_
     intro e mj Bd
     cases e with
     |returned u=>exact key u mj Bd
     |panicked c=>exact Bd.elim
     |outgrown=>obtain⟨a0,w1,hq⟩:=Bd;exact hq.elim
    |row r args=>
     simp only[Oper.upon] at h2 ⊢
     exact Rows.mono h2 fun u mj Bd=>key u mj Bd
    |defer d=>
     simp only[Oper.upon] at h2 ⊢
     obtain⟨v,h3, -⟩:=(show ∃v,_∧_ from h2)
     exfalso
     have h4:=alB (fun a=>a.defers.length) h3
     cases sE:o.dst<;>rw[sE] at h4<;>simp[Act.put,bY] at h4
    |value u=>
     simp only[Oper.upon] at h2 ⊢
     exact key u w' h2
    |skip=>
     simp only[Oper.upon] at h2 ⊢
     exact key undef w' h2
    |_=>exact(show False from h2).elim
   |halt x w'=>cases x<;>simp only[Oper.upon] at h2 ⊢<;>exact h2.elim
  ·exact hq.elim
 ·rename_i AV
  rw[alG AV]
  exact key undef w h1
def Agr (L:List Nat) (ag:UT) (f g:aP) (w:aI):Prop:=
 ∀t∈L,(Jc ag t=false→g t=f t)∧(∀(j:Nat) (Φ:Value→aI→Prop),ag[j]? =some (t,Φ)→Φ (g t) w)
def GO (P:Program) (n:Nat) (ops:Array Oper) (w0:aI) (o:Oper) (ag:UT) (f:aP) (R:Value→aI→Prop):Prop:=
 ∀w g,Ext w0 w→Agr (o.looksAt ops) ag f g w→SO P n ops o g w (fun f' w'=>∃v,f'=df g o.dst v∧Ext w w'∧R v w')
def PX (P:Program) (n:Nat) (ops:Array Oper) (w0:aI) (K:UT→aP→Prop):de→UT→aP→Prop
 |[],ag,f=>K ag f
 |o::r,ag,f=>(∃X,GO P n ops w0 o ag f (eV X)∧PX P n ops w0 K r ag (df f o.dst X))∨
   (∃d Φ,o.dst=some d∧(∀v w w',Ext w w'→Φ v w→Φ v w')∧GO P n ops w0 o ag f Φ∧PX P n ops w0 K r ((d,Φ)::ag) f)
abbrev EN:=Option Value×(Value→aI→Prop)
def By:List (Oper×EN)→aP→aP
 |[],f=>f
 |(o,(some X,_))::r,f=>By r (df f o.dst X)
 |(_,(none,_))::r,f=>By r f
def wB:List (Oper×EN)→UT→UT
 |[],ag=>ag
 |(_,(some _,_))::r,ag=>wB r ag
 |(o,(none,Φ))::r,ag=>wB r ((o.dst.getD 0,Φ)::ag)
theorem PX.values {K:UT→aP→Prop}:∀(l:de) (ag:UT) (f:aP),PX P n ops w0 K l ag f→∃es:List EN,es.length=l.length∧(∀e∈es,∀X,e.1=some X→e.2=eV X)∧(∀e∈es,∀v w w',Ext w w'→e.2 v w→e.2 v w')∧
  (∀i o e,l[i]? =some o→es[i]? =some e→GO P n ops w0 o (wB (List.zip (l.take i) es) ag) (By (List.zip (l.take i) es) f) e.2)∧K (wB (List.zip l es) ag) (By (List.zip l es) f)
 |[],ag,f,h=>⟨[],rfl,by simp,by simp,fun i o e hi=>by simp at hi,h⟩
 |o::r,ag,f,.inl ⟨X,h1,h2⟩=>by
  obtain⟨es,hl,hc,hm,hs,hK⟩:=PX.values r ag _ h2
  refine⟨(some X,eV X)::es,by simp[hl],?_,?_,fun i o' e hi he=>?_,hK⟩
  ·intro e he Y hY
   rcases alQ.1 he with rfl|he
   ·cases hY;rfl
   ·exact hc e he Y hY
  ·intro e he
   rcases alQ.1 he with rfl|he
   ·exact fun _ _ _ _ h=>h
   ·exact hm e he
  ·cases i with
   |zero=>
    simp only[alX,al2] at hi he
    subst hi;subst he
    exact h1
   |succ i=>
    simp only[al7] at hi he
    exact hs i o' e hi he
 |o::r,ag,f,.inr ⟨d,Φ,hd,Q3,h1,h2⟩=>by
  obtain⟨es,hl,hc,hm,hs,hK⟩:=PX.values r _ f h2
  have e0:∀l',wB ((o,((none,Φ):EN))::l') ag=wB l' ((d,Φ)::ag):=fun l'=>by show wB l' ((o.dst.getD 0,Φ)::ag)=_;rw[hd];rfl
  refine⟨(none,Φ)::es,by simp[hl],?_,?_,fun i o' e hi he=>?_,?_⟩
  ·intro e he Y hY
   rcases alQ.1 he with rfl|he
   ·cases hY
   ·exact hc e he Y hY
  ·intro e he
   rcases alQ.1 he with rfl|he
   ·exact Q3
   ·exact hm e he
  ·cases i with
   |zero=>
    simp only[alX,al2] at hi he
    subst hi;subst he
    exact h1
   |succ i=>
    simp only[al7] at hi he
    have:=hs i o' e hi he
    show GO P n ops w0 o' (wB ((o,((none,Φ):EN))::List.zip (r.take i) es) ag) (By (List.zip (r.take i) es) f) e.2
    rw[e0];exact this
  ·show K (wB ((o,((none,Φ):EN))::List.zip r es) ag) (By (List.zip r es) f)
   rw[e0];exact hK
theorem Cb:∀(l:de) (es:List EN) (f:aP) (t:Nat),(∀o∈l,o.dst≠some t)→By (List.zip l es) f t=f t
 |[],es,f,t,h=>rfl
 |o::l,[],f,t,h=>rfl
 |o::l,(some X,Φ)::es,f,t,h=>by
  show By (List.zip l es) (df f o.dst X) t=f t
  rw[Cb l es _ t (fun o' ho=>h o' (alV _ ho))]
  have:=h o al5
  cases hd:o.dst with
  |none=>rfl
  |some d=>exact ik f X (fun e=>this (by rw[hd,e]))
 |o::l,(none,Φ)::es,f,t,h=>Cb l es f t (fun o' ho=>h o' (alV _ ho))
theorem Kc:∀(l:de) (es:List EN) (f:aP) (i:Nat) (o:Oper) (d:Nat) (X:Value) (Φ:Value→aI→Prop),(l.filterMap (·.dst)).Nodup→l[i]? =some o→es[i]? =some (some X,Φ)→o.dst=some d→By (List.zip l es) f d=X
 |[],es,f,i,o,d,X,Φ,hn,hi,he,hd=>by simp at hi
 |x::l,[],f,i,o,d,X,Φ,hn,hi,he,hd=>by simp at he
 |x::l,e::es,f,i,o,d,X,Φ,hn,hi,he,hd=>by
  cases i with
  |zero=>
   simp only[alX,al2] at hi he
   subst hi;subst he
   show By (List.zip l es) (df f x.dst X) d=X
   rw[Cb l es _ d (fun o' ho e=>by
    rw[ame,hd] at hn
    exact(amr.1 hn).1 (al4.2 ⟨o',ho,e⟩)),hd]
   exact ij f d X
  |succ i=>
   simp only[al7] at hi he
   have Q2:(l.filterMap (·.dst)).Nodup:=by
    rw[ame] at hn
    split at hn
    ·exact hn
    ·exact(amr.1 hn).2
   obtain⟨a,b⟩:=e
   cases a with
   |none=>exact Kc l es f i o d X Φ Q2 hi he hd
   |some Y=>exact Kc l es _ i o d X Φ Q2 hi he hd
theorem FX:∀(l:de) (es:List EN) (ag:UT) (p:Nat×(Value→aI→Prop)),p∈wB (List.zip l es) ag→p∈ag∨∃(i:Nat) (o:Oper),l[i]? =some o∧es[i]? =some (none,p.2)∧o.dst.getD 0=p.1
 |[],es,ag,p,h=>.inl h
 |o::l,[],ag,p,h=>.inl h
 |o::l,(some X,Φ)::es,ag,p,h=>by
  rcases FX l es ag p h with h1|⟨i,o',h1,h2,h3⟩
  ·exact .inl h1
  ·exact .inr ⟨i+1,o',h1,h2,h3⟩
 |o::l,(none,Φ)::es,ag,p,h=>by
  rcases FX l es _ p h with h1|⟨i,o',h1,h2,h3⟩
  ·rcases alQ.1 h1 with rfl|h1
   ·exact .inr ⟨0,o,J,J,J⟩
   ·exact .inl h1
  ·exact .inr ⟨i+1,o',h1,h2,h3⟩
theorem XO:∀(l:de) (es:List EN) (ag:UT) (i:Nat) (o:Oper) (Φ:Value→aI→Prop),l[i]? =some o→es[i]? =some (none,Φ)→(o.dst.getD 0,Φ)∈wB (List.zip l es) ag∧Jc (wB (List.zip l es) ag) (o.dst.getD 0)=true:=by
 have iw:∀(ag:UT) (t:Nat) (Φ:Value→aI→Prop),(t,Φ)∈ag→Jc ag t=true:=fun ag t Φ h=>amp.2 ⟨_,h,by simp⟩
 have afe:∀(l:de) (es:List EN) (ag:UT) (p:Nat×(Value→aI→Prop)),p∈ag→p∈wB (List.zip l es) ag:=by
  intro l
  induction l with
  |nil=>intro es ag p h;exact h
  |cons o l ih=>
   intro es ag p h
   cases es with
   |nil=>exact h
   |cons e es=>
    obtain⟨a,Φ⟩:=e
    cases a with
    |none=>exact ih es _ p (alV _ h)
    |some X=>exact ih es ag p h
 intro l
 induction l with
 |nil=>intro es ag i o Φ hi;simp at hi
 |cons x l ih=>
  intro es ag i o Φ hi he
  cases es with
  |nil=>simp at he
  |cons e es=>
   cases i with
   |zero=>
    simp only[alX,al2] at hi he
    subst hi;subst he
    have:=afe l es ((x.dst.getD 0,Φ)::ag) (x.dst.getD 0,Φ) al5
    exact⟨this,iw _ _ _ this⟩
   |succ i=>
    simp only[al7] at hi he
    obtain⟨a,Ψ⟩:=e
    cases a with
    |none=>exact ih es _ i o Φ hi he
    |some X=>exact ih es ag i o Φ hi he
end
def KX (n:Nat) (Q:Exit→Act→aI→Prop) (w0:aI) (ag:UT) (f:aP):Prop:=
 ∀(w':aI) (g:aP),Ext w0 w'→(∀t,Jc ag t=false→g t=f t)→(∀(j t:Nat) (Φ:Value→aI→Prop),ag[j]? =some (t,Φ)→Φ (g t) w')→Q .normal (bY n g) w'
section
variable {P:Program} {n:Nat}
theorem BB {id:Nat} {l:de} {Q:Exit→Act→aI→Prop} {f:aP} {w:aI} (hm:P.follows .mixedOrders=true) (jl:NX n l=true)
  (h:PX P n l.toArray w (KX n Q w) l [] f):WC P n (.region id l.toArray true) Q f w:=by
 obtain⟨es,hl,hc,Q3,hs,hK⟩:=PX.values l [] f h
 simp only[NX,cA] at jl
 obtain⟨FQ,OB⟩:=jl
 have TR:=FQ
 simp only[LX,cA] at FQ
 obtain⟨⟨⟨⟨⟨hE,hD⟩,hN⟩,hn⟩,hT⟩,yG⟩:=FQ
 have kN:(l.filterMap (·.dst)).Nodup:=by
  have:=ky _ hN
  unfold fW at this
  rwa [amT] at this
 have dx:∀(i:Nat) (o:Oper) (d:Nat),l[i]? =some o→o.dst=some d→d<n:=by
  intro i o d hi hd
  have:=alK.1 hn d<|mq hi (eW.1 hi).1 hd
  simpa using this
 have sE:∀(i:Nat) (o:Oper),l[i]? =some o→∃d,o.dst=some d:=by
  intro i o hi
  rw[amT] at hD
  exact alN.1<|alK.1 hD o<|eh hi
 have Dh:∀(i:Nat) (o:Oper) (d:Nat),l[i]? =some o→o.dst=some d→eP l i=d:=by
  intro i o d hi hd
  unfold eP
  rw[hi];show (o.dst).getD 0=d
  rw[hd];rfl
 have hes:∀(i:Nat),i<l.length→∃e,es[i]? =some e:=fun i hi=>⟨_,dW ai⟩
 have FO:∀(i:Nat) (e:EN) (v:Value) (w':aI),es[i]? =some e→(vJ (es.map (·.2)) i v w'↔e.2 v w'):=by
  intro i e v w' he
  unfold vJ
  rw[eH,amc,he]
  exact Iff.rfl
 have zH:∀(i j:Nat) (o o':Oper),l[i]? =some o→l[j]? =some o'→o.dst.getD 0=o'.dst.getD 0→i=j:=by
  intro i j o o' hi hj he
  obtain⟨d,hd⟩:=sE i o hi
  obtain⟨d',mT⟩:=sE j o' hj
  exact gj (·.dst) l kN i j o o' hi hj (by show o.dst.isSome=true;rw[hd];rfl)<|by show o.dst=o'.dst;rw[hd,mT] at he ⊢;rw[show d=d' from he]
 
 have Vw:∀(m:Nat),m≤l.length→∀(g:aP) (w':aI) (t:Nat),
   ((fW l.length l).contains t=false→g t=f t)→(∀(q:Nat) (o:Oper) (e:EN),q<m→l[q]? =some o→es[q]? =some e→o.dst=some t→e.2 (g t) w')→
   (∀(q:Nat) (o:Oper),l[q]? =some o→o.dst=some t→q<m)→
   (Jc (wB (List.zip (l.take m) es) []) t=false→g t=By (List.zip (l.take m) es) f t)∧∀(j:Nat) (Φ:Value→aI→Prop),(wB (List.zip (l.take m) es) [])[j]? =some (t,Φ)→Φ (g t) w':=by
  intro m hm g w' t h1 h2 h3
  constructor
  ·intro hu
   by_cases ht:(fW l.length l).contains t=true
   ·have yE:t∈l.filterMap (·.dst):=by
     have:=amg.1 ht
     unfold fW at this
     rwa [amT] at this
    obtain⟨o,ho,yD⟩:=al4.1 yE
    obtain⟨q,hq⟩:=amt.1 ho
    have iD:=h3 q o hq yD
    obtain⟨e,he⟩:=hes q (eW.1 hq).1
    have Vo:(l.take m)[q]? =some o:=by rw[amh,alE iD];exact hq
    obtain⟨a,Φ⟩:=e
    cases a with
    |none=>
     have:=(XO (l.take m) es [] q o Φ Vo he).2
     rw[yD] at this
     rw[show (some t).getD 0=t from rfl] at this
     rw[hu] at this;cases this
    |some X=>
     have hv:=h2 q o _ iD hq he yD
     rw[hc _ (eh he) X rfl] at hv
     rw[Kc (l.take m) es f q o t X Φ (kN.sublist ((List.take_sublist m l).filterMap _)) Vo he yD]
     exact hv
   ·rw[h1 (by simpa using ht),Cb]
    intro o' Js he
    obtain⟨j,hj⟩:=amt.1 (aoA Js)
    exact ht<|amg.2<|mq hj (eW.1 hj).1 he
  ·intro j Φ hj
   rcases FX (l.take m) es [] (t,Φ) (eh hj) with h4|⟨q,o,hq,he,hd⟩
   ·cases h4
   ·have iD:q<m:=by have:=(eW.1 hq).1;rw[lY] at this;omega
    rw[amh,alE iD] at hq
    obtain⟨d,JE⟩:=sE q o hq
    have hdt:d=t:=by have h9:o.dst.getD 0=t:=hd;rw[JE] at h9;exact h9
    rw[hdt] at JE
    exact h2 q o _ iD hq he JE
 have hof:∀(r:de) (i:Nat),(∀j o,r[j]? =some o→DStep P n l l.length (es.map (·.2)) f w (i+j) o)→gp P n l l.length (es.map (·.2)) f w i r:=by
  intro r
  induction r with
  |nil=>intro i _;trivial
  |cons x r ih=>
   intro i hx
   refine⟨fun _=>hx 0 x rfl,ih (i+1) fun j o hj=>?_⟩
   have:=hx (j+1) o<|by simpa using hj
   rwa [show i+(j+1)=i+1+j from by omega] at this
 refine dr l.length (es.map (·.2)) hm TR (hof l 0 fun i o hi=>?_) fun g w' hg hx hp=>?_
 ·rw[ama]
  have iP:=(eW.1 hi).1
  obtain⟨e,he⟩:=hes i iP
  refine⟨fun g w' hg hx hp=>?_,fun v w1 w2 hx h=>by rw[FO i e v _ he] at h ⊢;exact Q3 e (eh he) v w1 w2 hx h⟩
  refine(hs i o e hi he w' g hx fun t ht=>?_).mono ?_
  ·refine Vw i (Nat.le_of_lt iP) g w' t (hg t) (fun q o' e' hq sR heq yD=>?_)<|fun q o' sR yD=>?_
   ·rcases (wZ l 0 OB i o hi).1 t ht with h1|⟨q',hq',nN,Vp,hqd⟩
    ·have:=mq sR (eW.1 sR).1 yD
     rw[amg.2 this] at h1;cases h1
    ·have GQ:q'<l.length:=by omega
     obtain⟨d',mT⟩:=sE q' l[q'] (dW GQ)
     have:=Dh q' _ d' (dW GQ) mT
     have hqq:q'=q:=zH q' q _ _ (dW GQ) sR<|by rw[mT,yD];show d'=t;rw[←this,Vp]
     subst hqq
     have h5:=hp q' nN<|by simpa using GQ
     rw[Vp] at h5
     exact(FO q' e' _ w' heq).1 h5
   ·rcases (wZ l 0 OB i o hi).1 t ht with h1|⟨q',hq',nN,Vp,hqd⟩
    ·have:=mq sR (eW.1 sR).1 yD
     rw[amg.2 this] at h1;cases h1
    ·have GQ:q'<l.length:=by omega
     obtain⟨d',mT⟩:=sE q' l[q'] (dW GQ)
     have:=Dh q' _ d' (dW GQ) mT
     have hqq:q'=q:=zH q' q _ _ (dW GQ) sR<|by rw[mT,yD];show d'=t;rw[←this,Vp]
     omega
  ·rintro CG mj ⟨v,rfl,dR,hv⟩
   exact⟨v,J,dR,(FO i e _ _ he).2 hv⟩
 ·rw[am_ (alL _)]
  refine z ?_
  have iZ:∀t,_:=fun t=>Vw l.length (alL _) g w' t (hg t) (fun q o e hq sR heq yD=>by
   have h5:=hp q<|by simpa using hq
   rw[Dh q o t sR yD] at h5
   exact(FO q e _ w' heq).1 h5) (fun q o sR yD=>(eW.1 sR).1)
  rw[amT] at iZ
  exact hK w' g hx (fun t ht=>(iZ t).1 ht)<|fun j t Φ hj=>(iZ t).2 j Φ hj
end
section
variable {P:Program} {n:Nat} {ops:Array Oper} {w0:aI} {K:UT→aP→Prop} {f:aP} {rest:de} {ag:UT} {o:Oper} {v X:Value} {Φ Ψ:Value→aI→Prop} {d d2:Nat}
def HG (ops:Array Oper) (o:Oper) (ag:UT):Bool:=(o.looksAt ops).all (fun t=>!Jc ag t)
def OM (ops:Array Oper) (o:Oper) (ag:UT) (d:Nat):Bool:=(o.looksAt ops).all (fun t=>Nat.beq t d||!Jc ag t)
def my (n:Nat) (o:Oper):Bool:=(match o.op with| .select _ _=>false|_=>true)&&(match o.dst with|some d=>Nat.blt d n|none=>true)
theorem hQ (h:my n o=true):(∀cs b,o.op≠.select cs b)∧∀d,o.dst=some d→d<n:=by
 unfold my at h
 rw[cA] at h
 refine⟨fun cs b e=>(by rw[e] at h;have h1:=h.1;cases h1),fun d hd=>?_⟩
 have:=h.2
 rw[hd] at this
 simpa using this
theorem JX (h:HG ops o ag=true) {g:aP} {w:aI} (ha:Agr (o.looksAt ops) ag f g w):∀t∈o.looksAt ops,g t=f t:=by
 intro t ht
 have:=alK.1 h t ht
 exact(ha t ht).1 (by simpa using this)
theorem xk (hf:(my n o&&HG ops o ag)=true) (h:∀w,Ext w0 w→SO P n ops o f w (fun f' w'=>f'=df f o.dst X∧Ext w w')) (r:PX P n ops w0 K rest ag (df f o.dst X)):PX P n ops w0 K (o::rest) ag f:=by
 rw[cA] at hf
 refine .inl ⟨X,fun w g hx ha=>?_,r⟩
 exact SO.tK ((h w hx).mono fun f' w' hq=>⟨X,hq.1,hq.2,J⟩) (hQ hf.1).1 (JX hf.2 ha) (hQ hf.1).2
theorem xu (Φ:Value→aI→Prop) (hd:o.dst=some d) (hm:∀v w w',Ext w w'→Φ v w→Φ v w') (hf:(my n o&&HG ops o ag)=true) (h:∀w,Ext w0 w→SO P n ops o f w (fun f' w'=>∃v,f'=df f o.dst v∧Ext w w'∧Φ v w')) (r:PX P n ops w0 K rest ((d,Φ)::ag) f):PX P n ops w0 K (o::rest) ag f:=by
 rw[cA] at hf
 exact .inr ⟨d,Φ,hd,hm,fun w g hx ha=>SO.tK (h w hx) (hQ hf.1).1 (JX hf.2 ha) (hQ hf.1).2,r⟩
theorem LU {j:Nat} (hU:ag[j]? =some (d,Ψ)) (h:OM ops o ag d=true) {g:aP} {w:aI} (ha:Agr (o.looksAt ops) ag f g w) (hl:(o.looksAt ops).contains d=true):Ψ (g d) w∧∀t∈o.looksAt ops,g t=cS f d (g d) t:=by
 refine⟨(ha d<|amg.1 hl).2 j Ψ hU,fun t ht=>?_⟩
 by_cases e:t=d
 ·subst e;exact(ij _ _ _).symm
 ·rw[ik _ _ e]
  have:=alK.1 h t ht
  rcases amW.1 this with h1|h1
  ·exact absurd (amP h1) e
  ·exact(ha t ht).1 (by simpa using h1)
theorem F9 (j:Nat) (hU:ag[j]? =some (d,Ψ)) (hf:(my n o&&OM ops o ag d&&(o.looksAt ops).contains d)=true) (h:∀w v,Ext w0 w→Ψ v w→SO P n ops o (cS f d v) w (fun f' w'=>f'=df (cS f d v) o.dst X∧Ext w w')) (r:PX P n ops w0 K rest ag (df f o.dst X)):PX P n ops w0 K (o::rest) ag f:=by
 rw[cA,cA] at hf
 refine .inl ⟨X,fun w g hx ha=>?_,r⟩
 obtain⟨h1,h2⟩:=LU hU hf.1.2 ha hf.2
 exact SO.tK ((h w (g d) hx h1).mono fun f' w' hq=>⟨X,hq.1,hq.2,J⟩) (hQ hf.1.1).1 h2 (hQ hf.1.1).2
theorem F8 (Φ:Value→aI→Prop) (j:Nat) (hU:ag[j]? =some (d,Ψ)) (hd:o.dst=some d2) (hm:∀v w w',Ext w w'→Φ v w→Φ v w') (hf:(my n o&&OM ops o ag d&&(o.looksAt ops).contains d)=true) (h:∀w v,Ext w0 w→Ψ v w→SO P n ops o (cS f d v) w (fun f' w'=>∃u,f'=df (cS f d v) o.dst u∧Ext w w'∧Φ u w')) (r:PX P n ops w0 K rest ((d2,Φ)::ag) f):PX P n ops w0 K (o::rest) ag f:=by
 rw[cA,cA] at hf
 refine .inr ⟨d2,Φ,hd,hm,fun w g hx ha=>?_,r⟩
 obtain⟨h1,h2⟩:=LU hU hf.1.2 ha hf.2
 exact SO.tK (h w (g d) hx h1) (hQ hf.1.1).1 h2 (hQ hf.1.1).2
theorem zx (h:K ag f):PX P n ops w0 K [] ag f:=h
theorem xq (hf:(my n o&&HG ops o ag)=true) (h:PW P n ops w0 (fun f'=>PX P n ops w0 K rest ag f') [o] f):PX P n ops w0 K (o::rest) ag f:=by
 obtain⟨X,h1,h2⟩:=h
 exact xk hf h1 h2
end
section
variable {P:Program} {n:Nat} {ops:Array Oper} {w0:aI}
theorem PW.toX {K:aP→Prop}:∀(l:de) (f:aP),(∀o∈l,(∀cs b,o.op≠.select cs b)∧∀d,o.dst=some d→d<n)→PW P n ops w0 K l f→PX P n ops w0 (fun ag f=>ag=[]∧K f) l [] f
 |[],f,_,h=>⟨rfl,h⟩
 |o::r,f,ho,⟨X,h1,h2⟩=>.inl ⟨X,fun w g hx ha=>SO.tK ((h1 w hx).mono fun f' w' hq=>⟨X,hq.1,hq.2,rfl⟩) (ho o al5).1 (fun t ht=>(ha t ht).1 rfl) (ho o al5).2,PW.toX r _ (fun o' Js=>ho o' (alV _ Js)) h2⟩
theorem PX.mono {K K':UT→aP→Prop} (hK:∀ag f,K ag f→K' ag f):∀(l:de) (ag:UT) (f:aP),PX P n ops w0 K l ag f→PX P n ops w0 K' l ag f
 |[],ag,f,h=>hK ag f h
 |o::r,ag,f,.inl ⟨X,h1,h2⟩=>.inl ⟨X,h1,PX.mono hK r ag _ h2⟩
 |o::r,ag,f,.inr ⟨d,Φ,h0,hm,h1,h2⟩=>.inr ⟨d,Φ,h0,hm,h1,PX.mono hK r _ f h2⟩
theorem yY {id:Nat} {l:de} {Q:Exit→Act→aI→Prop} {f:aP} {w:aI} (hm:P.follows .mixedOrders=true) (jl:NX n l=true)
  (h:PW P n l.toArray w (fun f'=>∀w',Ext w w'→Q .normal (bY n f') w') l f):WC P n (.region id l.toArray true) Q f w:=by
 have ZV:=jl
 simp only[NX,cA] at ZV
 obtain⟨FQ,OB⟩:=ZV
 simp only[LX,cA] at FQ
 obtain⟨⟨⟨⟨⟨hE,hD⟩,hN⟩,hn⟩,hT⟩,yG⟩:=FQ
 refine BB hm jl<|PX.mono ?_ l [] f<|PW.toX l f ?_ h
 ·rintro ag g ⟨rfl,hK⟩ w' g' hx hg _
  have e:g'=g:=by funext t;exact hg t rfl
  rw[e];exact hK w' hx
 ·intro o ho
  obtain⟨i,hi⟩:=amt.1 ho
  refine⟨(wZ l 0 OB i o hi).2,fun d hd=>?_⟩
  have:=alK.1 hn d<|mq hi (eW.1 hi).1 hd
  simpa using this
end
end Go.Ew
namespace Go.Ew
open Go.RowKit
section
variable {P:Program} {n:Nat} {l:de}
theorem Wr {Q:Exit→Act→aI→Prop} (ab:(Nat→Bool)→aP→aI→Prop) (hE:nZ 0 l=true)
  (me:∀(L:Nat→Bool) (f:aP) (w:aI) (i:Nat) (o:Oper),l[i]? =some o→L i=false→(∀j,L j=true→j<l.length)→(∀j,jS o j=true→L j=true)→ab L f w→SO P n l.toArray o f w (ab (fun k=>L k||decide (k=i))))
  (lX:∀(f:aP) (w:aI),ab (fun k=>decide (k<l.length)) f w→Q .normal (bY n f) w):
  ∀(d:Nat) (listed:Array Bool) (f:aP) (w:aI),listed.size=l.length→(listed.toList.filter (fun b=>!b)).length=d→ab (fun k=>listed.getD k false) f w→wpAny P .any l.toArray Q d listed (bY n f) w:=by
 intro d
 induction d with
 |zero=>
  intro listed f w nM hd hJ
  have iZ:∀i,i<l.length→listed.getD i false=true:=by
   intro i hi
   have h0:=amK hd
   rw[amb] at h0
   have pC:i<listed.size:=by omega
   have:=h0 listed[i]<|by simp
   simp at this
   simp[Array.getD,pC,this]
  refine⟨?_,?_⟩
  ·apply aoC.2
   intro i hi
   obtain⟨h0,o,ho, -⟩:=mem_ready.1 hi
   have ib:l[i]? =some o:=by simpa using ho
   have iP:i<l.length:=(eW.1 ib).1
   rw[show listed.getD i true=listed.getD i false from lg ai _ _,iZ i iP] at h0
   cases h0
  ·refine lX f w ?_
   have:(fun k=>decide (k<l.length))=fun k=>listed.getD k false:=by
    funext k
    by_cases hk:k<l.length
    ·rw[iZ k hk];exact alM hk
    ·rw[alH hk];simp[Array.getD];omega
   rw[this];exact hJ
 |succ d ih=>
  intro listed f w nM hd hJ
  obtain⟨i0,Ad⟩:∃i,i<l.length∧listed.getD i false=false:=by
   apply amu
   intro p_
   have:listed.toList.filter (fun b=>!b)=[]:=by
    rw[amb]
    intro b hb
    obtain⟨i,hi,rfl⟩:=anp.1 hb
    simp only[amX] at hi
    cases qc:listed.toList[i] with
    |true=>simp
    |false=>
     exfalso
     refine p_ ⟨i,by omega,?_⟩
     simp only[anH] at qc
     simp[Array.getD,hi,qc]
   rw[this] at hd;cases hd
  obtain⟨m,yF,yE⟩:=exists_least (p:=fun i=>i<l.length∧listed.getD i false=false) ⟨i0,Ad⟩
  have qx:m<l.length:=by omega
  have iq:l[m]? =some l[m]:=dW qx
  have uR:m∈Region.ready .any l.toArray listed:=by
   rw[mem_ready]
   refine⟨?_,l[m],by simp,fun e he hb=>?_⟩
   ·rw[show listed.getD m true=listed.getD m false from lg ai _ _];exact yF.2
   ·have dx:=qq l 0 hE m l[m] iq e he hb
    cases qc:listed.getD e.on false with
    |true=>rfl
    |false=>
     have:=yE e.on ⟨by omega,qc⟩
     omega
  refine⟨fun h0=>(by rw[h0] at uR;cases uR),fun i hi=>?_⟩
  obtain⟨h0,o,ho,oX⟩:=mem_ready.1 hi
  have ib:l[i]? =some o:=by simpa using ho
  have iP:i<l.length:=(eW.1 ib).1
  have sW:listed.getD i false=false:=by
   rw[show listed.getD i false=listed.getD i true from lg ai _ _];exact h0
  have sF:∀j,jS o j=true→listed.getD j false=true:=by
   intro j hj
   obtain⟨e,he,hb,nN⟩:=pg.1 hj
   subst nN
   exact oX e he hb
  have dx:∀j,listed.getD j false=true→j<l.length:=by
   intro j hj
   refine amu fun hn=>?_
   rw[show listed.getD j false=false from by simp[Array.getD];omega] at hj
   cases hj
  have ud:((listed.setIfInBounds i true).toList.filter (fun b=>!b)).length=d:=by
   have wa:i<listed.size:=by omega
   have rD:listed.toList[i]? =some false:=by
    rw[dW (by simpa using wa)]
    simp only[Array.getD,wa,aoI] at sW
    simpa [amd] using sW
   have key:∀(L:List Bool) (i:Nat),L[i]? =some false→((L.set i true).filter (fun b=>!b)).length+1=(L.filter (fun b=>!b)).length:=by
    intro L
    induction L with
    |nil=>intro i h;simp at h
    |cons b L Jd=>
     intro i h
     cases i with
     |zero=>simp at h;subst h;simp
     |succ i=>
      simp at h
      have:=Jd i h
      cases b<;>simp at this ⊢<;>omega
   have:=key listed.toList i rD
   rw[anD]
   omega
  refine oH ho (me (fun k=>listed.getD k false) f w i o ib sW dx sF hJ) fun f' w' hK=>?_
  refine ih _ _ _ (by simp[nM]) ud ?_
  have:(fun k=>(listed.setIfInBounds i true).getD k false)=fun k=>listed.getD k false||decide (k=i):=by
   funext k
   by_cases hk:k=i
   ·subst hk
    have wa:k<listed.size:=by omega
    simp[Array.getD,wa]
   ·rw[alH hk,amn]
    exact getD_set_ne false fun e=>hk e.symm
  rw[this];exact hK
theorem drj {id:Nat} {Q:Exit→Act→aI→Prop} {f:aP} {w:aI} (ab:(Nat→Bool)→aP→aI→Prop) (hm:P.follows .mixedOrders=true) (hE:nZ 0 l=true)
  (h0:ab (fun _=>false) f w.drew)
  (me:∀(L:Nat→Bool) (f:aP) (w:aI) (i:Nat) (o:Oper),l[i]? =some o→L i=false→(∀j,L j=true→j<l.length)→(∀j,jS o j=true→L j=true)→ab L f w→SO P n l.toArray o f w (ab (fun k=>L k||decide (k=i))))
  (lX:∀(f:aP) (w:aI),ab (fun k=>decide (k<l.length)) f w→Q .normal (bY n f) w):
  WC P n (.region id l.toArray true) Q f w:=by
 refine wp_region_any hm ?_
 have h3:(fun k=>(Array.replicate l.length false).getD k false)=fun _:Nat=>false:=by
  funext i
  simp only[Array.getD];split<;>simp
 have h:=Wr (P:=P) (Q:=Q) ab hE me lX l.length (Array.replicate l.length false) f w.drew (by simp) (by simp)<|by rw[h3];exact h0
 simpa using h
end
end Go.Ew
namespace Go.Ew
open Go.RowKit
inductive ZK|r|f|s|e|n
def zkE:ZK→Bool
 | .e=>true
 |_=>false
def zkR:ZK→Bool
 | .r=>true
 | .n=>true
 |_=>false
def zkN:ZK→Bool
 | .n=>true
 |_=>false
def zkS:ZK→Bool
 | .s=>true
 |_=>false
def ua (Ks:List ZK) (i:Nat):ZK:=Ks.getD i .r
def eD (Ks:List ZK) (i:Nat):Bool:=zkE (ua Ks i)
def vU (Ks:List ZK) (i:Nat):Bool:=zkR (ua Ks i)
def na (Ks:List ZK) (i:Nat):Bool:=zkN (ua Ks i)
def Ja (Ks:List ZK) (i:Nat):Bool:=zkS (ua Ks i)
def sl (o:Oper):Bool:=match o.op with
 | .move _=>true
 | .assign _=>true
 | .extract _ _=>true
 |_=>false
def jF (l:de) (i:Nat):Bool:=match l[i]? with
 |some o=>sl o
 |none=>false
def sC (l:de) (Ks:List ZK) (i:Nat):Bool:=eD Ks i&&jF l i
def IX (o:Oper):Bool:=match o.op with
 | .select _ _=>false
 |_=>true
def IT (n:Nat) (l:de) (Ks:List ZK):Nat→de→Bool
 |_,[]=>true
 |i,o::r=>
  (o.looksAt l.toArray).all (fun t=>Nat.blt t n&&(!(l.filterMap (·.dst)).contains t||(List.range i).any (fun j=>jS o j&&(match (l[j]?).bind (·.dst) with|some d=>Nat.beq d t|none=>false)&&(eD Ks i||!eD Ks j))))&&
   (IX o&&((eD Ks i||o.dst.isSome)&&((!Ja Ks i||sl o)&&((!vU Ks i||(List.range l.length).all (fun e=>!eD Ks e||mG l l.length e i))&&((!eD Ks i||(List.range i).all (fun e=>!eD Ks e||(jF l e||mG l l.length i e)))&&((!(eD Ks i&&sl o)||(o.dst.isSome&&(List.range i).any (fun e=>eD Ks e&&!jF l e)))&&IT n l Ks (i+1) r))))))
def okZ (n:Nat) (l:de) (Ks:List ZK):Bool:=
 nZ 0 l&&(nodupB (l.filterMap (·.dst))&&((l.filterMap (·.dst)).all (fun d=>Nat.blt d n)&&IT n l Ks 0 l))
section
variable {P:Program} {n:Nat} {l:de} {Ks:List ZK} {ops:Array Oper}
structure Z1 (n:Nat) (l:de) (Ks:List ZK) (i:Nat) (o:Oper):Prop where
 look:∀t∈o.looksAt l.toArray,t<n∧((∀(q:Nat) (o':Oper),l[q]? =some o'→o'.dst≠some t)∨∃(j:Nat) (o':Oper),j<i∧jS o j=true∧l[j]? =some o'∧o'.dst=some t∧(eD Ks i=false→eD Ks j=false))
 sel:∀cs b,o.op≠.select cs b
 dst:eD Ks i=false→∃d,o.dst=some d
 slot:Ja Ks i=true→sl o=true
 rd:vU Ks i=true→∀e,e<l.length→eD Ks e=true→mG l l.length e i=true
 ord:eD Ks i=true→∀e,e<i→eD Ks e=true→jF l e=false→mG l l.length i e=true
 xd:eD Ks i=true→sl o=true→(∃d,o.dst=some d)∧∃e,e<i∧eD Ks e=true∧jF l e=false
theorem Qx {o:Oper} (h:IX o=true):∀cs b,o.op≠.select cs b:=fun cs b e=>by unfold IX at h;rw[e] at h;cases h
theorem LV:∀(r:de) (i:Nat),IT n l Ks i r=true→∀j o,r[j]? =some o→Z1 n l Ks (i+j) o
 |[],_,_,j,o,h=>by simp at h
 |x::r,i,h,j+1,o,hj=>by
  simp only[IT,cA] at h
  have:=LV r (i+1) h.2.2.2.2.2.2.2 j o<|by simpa using hj
  rwa [show i+1+j=i+(j+1) from by omega] at this
 |x::r,i,h,0,o,hj=>by
  simp only[alX,al2] at hj
  subst hj
  simp only[IT,cA] at h
  obtain⟨h1,h2,h3,h4,h5,h6,h7, -⟩:=h
  refine⟨fun t ht=>?_,Qx h2,fun hE=>?_,fun hS=>?_,fun hR e he mJ=>?_,fun hE e he mJ p9=>?_,fun hE hs=>?_⟩
  ·have:=alK.1 h1 t ht
   simp only[cA,ano,alI,alW] at this
   refine⟨this.1,this.2.imp (fun h q o' hq hd=>?_) fun h=>?_⟩
   ·have hm:t∈l.filterMap (·.dst):=al4.2 ⟨o',eh hq,hd⟩
    rw[amg.2 hm] at h;cases h
   ·obtain⟨j,hj,hq⟩:=amp.1 h
    simp only[cA,alI,alW] at hq
    obtain⟨⟨q1,q2⟩,q3⟩:=hq
    cases hl:l[j]? with
    |none=>rw[hl] at q2;cases q2
    |some o'=>
     rw[hl] at q2
     cases hd:o'.dst with
     |none=>simp[hd] at q2
     |some d=>
      simp[hd] at q2
      refine⟨j,o',by have:=alF.1 hj;omega,q1,hl,by rw[hd,q2],fun hi=>?_⟩
      rcases q3 with q3|q3
      ·rw[amw] at hi;rw[hi] at q3;cases q3
      ·exact q3
  ·rw[amw] at hE
   rw[hE] at h3
   exact alN.1<|by simpa using h3
  ·rw[amw] at hS
   rw[hS] at h4;simpa using h4
  ·rw[amw] at hR ⊢
   rw[hR] at h5
   rw[anC,am9] at h5
   have:=alK.1 h5 e<|alF.2 he
   rw[mJ] at this;simpa using this
  ·rw[amw] at hE he ⊢
   rw[hE] at h6
   rw[anC,am9] at h6
   have:=alK.1 h6 e<|alF.2 he
   rw[mJ,p9] at this;simpa using this
  ·rw[amw] at hE ⊢
   rw[hE,hs] at h7
   simp only[Bool.and_self,anC,am9,cA] at h7
   obtain⟨e,he,hq⟩:=amp.1 h7.2
   rw[cA,alW] at hq
   exact⟨alN.1 h7.1,e,alF.1 he,hq.1,hq.2⟩
theorem Gj {o:Oper} {g:aP} {w:aI} {R:Value→aI→Prop} (hs:sl o=true) (hd:∃d,o.dst=some d∧d<n)
  (h:SO P n ops o g w (fun f' w'=>∃v,f'=df g o.dst v∧True∧R v w')):
  ∃v,R v w∧∀g2 w2,(∀t∈o.looksAt ops,g2 t=g t)→SO P n ops o g2 w2 (fun f' w'=>f'=df g2 o.dst v∧w'=w2):=by
 obtain⟨d,hd,wc⟩:=hd
 have h1:=h (fun e a w'=>match e with| .normal=>∃v,a=bY n (df g o.dst v)∧True∧R v w'|_=>False) []<|fun f' w' hK=>wpList_nil<|by obtain⟨v,h1,h2⟩:=hK;exact⟨v,by rw[h1],h2⟩
 have hw:∀g2:aP,(∀t∈o.looksAt ops,g2 t=g t)→Region.wanted o (yielded ops (bY n g2).tmps)=Region.wanted o (yielded ops (bY n g).tmps):=fun g2 hu=>wL fun j b hg t ht=>hu t (by
  unfold Oper.looksAt
  rw[hg]
  refine am0 _ ?_
  simp[ht])
 have afk:∀cs b,o.op≠.select cs b:=fun cs b e=>by unfold sl at hs;rw[e] at hs;cases hs
 have he:∀g2:aP,(∀t∈o.looksAt ops,g2 t=g t)→execOp (bY n g2).eval o=execOp (bY n g).eval o:=fun g2 hu=>execOp_congr o afk fun x hx=>BN fun t ht=>hu t (by
  subst ht
  exact amM _ (al4.2 ⟨.tmp t,by simpa using hx,rfl⟩))
 have Ou:∀(g2:aP) (u:Value),(bY n g2).put o.dst u=bY n (df g2 o.dst u):=fun g2 u=>by rw[pT]
 unfold wpList at h1
 split at h1
 ·rename_i AV
  
  have lW:(∃u,∀w2,(execOp (bY n g).eval o).run P w2=.ok (.value u) w2)∨∀w2 x w3,(execOp (bY n g).eval o).run P w2≠.ok x w3:=by
   obtain⟨dst,op,ty,ps,af,gd⟩:=o
   unfold sl at hs
   cases op<;>simp only at hs<;>try (cases hs;done)
   ·left;exact⟨_,fun w2=>rfl⟩
   ·left;exact⟨_,fun w2=>rfl⟩
   ·rename_i x i
    cases hx:(bY n g).eval x with
    |tuple vs=>
     cases hi:vs[i]? with
     |some v=>left;exact⟨v,fun w2=>by simp[execOp,Instr.extract,hx,hi]⟩
     |none=>right;intro w2 y w3 hh;simp[execOp,Instr.extract,hx,hi] at hh
    |_=>right;intro w2 y w3 hh;simp[execOp,Instr.extract,hx] at hh
  rcases h1 with h2|⟨_,a0,w1,hq⟩
  ·rcases lW with ⟨u,hu⟩|p_
   ·unfold Oper.wp at h2
    rw[hu w] at h2
    simp only[Oper.upon] at h2
    obtain⟨v,hv, -,hR⟩:=(show ∃v,_∧_∧_ from h2)
    rw[Ou,hd] at hv
    have QV:u=v:=DK wc hv
    subst QV
    refine⟨u,hR,fun g2 w2 hl Q rest hk=>?_⟩
    unfold wpList
    rw[hw g2 hl,alE AV]
    refine .inl ?_
    unfold Oper.wp
    rw[he g2 hl,hu w2]
    simp only[Oper.upon]
    rw[Ou]
    exact hk _ _ ⟨J,J⟩
   ·exfalso
    unfold Oper.wp at h2
    generalize hr:(execOp (bY n g).eval o).run P w=r at h2
    cases r with
    |ok x w'=>exact p_ w x w' hr
    |halt x w'=>cases x<;>simp only[Oper.upon] at h2<;>exact h2.elim
  ·exact hq.elim
 ·rename_i AV
  have h2:=h1
  obtain⟨v,hv, -,hR⟩:=(show ∃v,(bY n g).put o.dst undef=_∧_∧_ from h2)
  rw[Ou,hd] at hv
  have QV:undef=v:=DK wc hv
  subst QV
  refine⟨undef,hR,fun g2 w2 hl Q rest hk=>?_⟩
  unfold wpList
  rw[hw g2 hl,alG AV]
  rw[Ou]
  exact hk _ _ ⟨J,J⟩
theorem SJ {o:Oper} {g:aP} {w:aI} {R:Value→aI→Prop} (hs:sl o=true) (hd:∃d,o.dst=some d∧d<n)
  (h:SO P n ops o g w (fun f' w'=>∃v,f'=df g o.dst v∧Ext w w'∧R v w')):
  ∃v,R v w∧∀g2 w2,(∀t∈o.looksAt ops,g2 t=g t)→SO P n ops o g2 w2 (fun f' w'=>f'=df g2 o.dst v∧w'=w2):=
 Gj hs hd (h.mono fun f' w' ⟨v,h1,_,h2⟩=>⟨v,h1,trivial,h2⟩)
theorem SO.UR {o:Oper} {f g:aP} {w:aI} {R:aP→aI→Prop} (h:SO P n ops o g w R) (hs:∀cs b,o.op≠.select cs b) (hu:∀t∈o.looksAt ops,f t=g t):
  SO P n ops o f w (fun f' w'=>∃v g',f'=df f o.dst v∧bY n g'=bY n (df g o.dst v)∧R g' w'):=by
 intro Q rest hk
 have h1:=h (fun e a w'=>match e with| .normal=>∃g',a=bY n g'∧R g' w'|_=>False) []<|fun f' w' hK=>wpList_nil ⟨f',J,hK⟩
 have he:execOp (bY n f).eval o=execOp (bY n g).eval o:=execOp_congr o hs fun x hx=>BN fun t ht=>hu t (by
  subst ht
  exact amM _ (al4.2 ⟨.tmp t,by simpa using hx,rfl⟩))
 have hw:Region.wanted o (yielded ops (bY n f).tmps)=Region.wanted o (yielded ops (bY n g).tmps):=wL fun j b hg t ht=>hu t (by
  unfold Oper.looksAt
  rw[hg]
  refine am0 _ ?_
  simp[ht])
 have key:∀u w',(∃g',(bY n g).put o.dst u=bY n g'∧R g' w')→wpList P ops Q rest ((bY n f).put o.dst u) w':=by
  rintro u w' ⟨g',hq,h2⟩
  rw[pT] at hq ⊢
  exact hk _ _ ⟨u,g',J,hq.symm,h2⟩
 unfold wpList at h1 ⊢
 rw[hw]
 split at h1
 ·rename_i AV
  rw[alE AV]
  refine .inl ?_
  rcases h1 with h2|⟨_,a0,w1,hq⟩
  ·unfold Oper.wp at h2 ⊢
   rw[he]
   generalize (execOp (bY n g).eval o).run P w=r at *
   cases r with
   |ok x w'=>
    cases x with
    |enter c args=>
     simp only[Oper.upon] at h2 ⊢
     refine Calls.mono h2 ?_
     intro e mj Bd
     cases e with
     |returned u=>exact key u mj Bd
     |panicked c=>exact Bd.elim
     |outgrown=>obtain⟨a0,w1,hq⟩:=Bd;exact hq.elim
    |row r args=>
     simp only[Oper.upon] at h2 ⊢
     exact Rows.mono h2 fun u mj Bd=>key u mj Bd
    |defer dd=>
     simp only[Oper.upon] at h2 ⊢
     obtain⟨g',h3, -⟩:=(show ∃g',_∧_ from h2)
     exfalso
     have h4:=alB (fun a=>a.defers.length) h3
     cases sE:o.dst<;>rw[sE] at h4<;>simp[Act.put,bY] at h4
    |value u=>
     simp only[Oper.upon] at h2 ⊢
     exact key u w' h2
    |skip=>
     simp only[Oper.upon] at h2 ⊢
     exact key undef w' h2
    |_=>exact(show False from h2).elim
   |halt x w'=>cases x<;>simp only[Oper.upon] at h2 ⊢<;>exact h2.elim
  ·exact hq.elim
 ·rename_i AV
  rw[alG AV]
  exact key undef w h1
end
def WE (P:Program) (n:Nat) (ops:Array Oper) (ae:aI→Prop) (K:aP→aI→Prop):de→aP→aI→Prop
 |[],f,w=>K f w
 |o::r,f,w=>SO P n ops o f w (fun f' w'=>ae w'∧WE P n ops ae K r f' w')
def Dv:List ZK→de→de
 |_,[]=>[]
 |ks,o::r=>match ks.headD .r with
  | .e=>o::Dv ks.tail r
  |_=>Dv ks.tail r
abbrev PR:=(Nat→Prop)→Value→aI→Prop
abbrev UN:=List (Nat×PR)
def xh (ag:UN) (t:Nat):Bool:=ag.any (fun p=>Nat.beq p.1 t)
def eN (X:Value):PR:=fun _ v _=>v=X
structure sM (Φ:PR):Prop where
 ext:∀N v w w',Ext w w'→Φ N v w→Φ N v w'
 grow:∀(N N':bT) v (w:aI),(∀b,N b→N' b)→(∀b,N' b→N b∨w.heap.size≤b)→Φ N v w→Φ N' v w
theorem Vb (X:Value):sM (eN X):=⟨fun _ _ _ _ _ h=>h,fun _ _ _ _ _ _ h=>h⟩
def Hh (w0:aI) (z:Array Value) (T:TypeId):PR:=fun N v w=>∃b,v=.pointer (some ⟨b,0,none⟩)∧w0.heap.size≤b∧w.heap[b]? =some (.cells z T (0,0))∧N b
theorem acI (w0:aI) (z:Array Value) (T:TypeId):sM (Hh w0 z T):=
 ⟨fun N v w w' hx ⟨b,h1,h2,h3,h4⟩=>⟨b,h1,h2,(hx.block b (amy.1 h3).1).trans h3,h4⟩,fun N N' v w h _ ⟨b,h1,h2,h3,h4⟩=>⟨b,h1,h2,h3,h b h4⟩⟩
def ES (w0:aI) (N:bT) (w:aI):Prop:=∀b,N b→w0.heap.size≤b∧b<w.heap.size
def AgN (L:List Nat) (ag:UN) (f g:aP) (N:bT) (w:aI):Prop:=
 ∀t∈L,(xh ag t=false→g t=f t)∧(∀(j:Nat) (Φ:PR),ag[j]? =some (t,Φ)→Φ N (g t) w)
def GN (P:Program) (n:Nat) (ops:Array Oper) (w0:aI) (o:Oper) (ag:UN) (f:aP) (R:PR):Prop:=
 ∀w g N,Ext w0 w→ES w0 N w→AgN (o.looksAt ops) ag f g N w→SO P n ops o g w (fun f' w'=>∃v,f'=df g o.dst v∧Ext w w'∧R N v w')
def KT (z:Array Value) (T:TypeId) (w:aI) (v:Value) (w':aI):Prop:=∃b,v=.pointer (some ⟨b,0,none⟩)∧w.heap.size≤b∧w'.heap[b]? =some (.cells z T (0,0))
def PZ (P:Program) (n:Nat) (ops:Array Oper) (w0:aI) (ae:aI→Prop) (K:UN→aP→Prop):de→List ZK→UN→aP→Prop
 |[],_,ag,f=>K ag f
 |o::r,ks,ag,f=>match ks.headD .r with
  | .e=>PZ P n ops w0 ae K r ks.tail ag f
  | .f=>∃X,(∀w g,ae w→(∀t∈o.looksAt ops,xh ag t=false∧g t=f t)→SO P n ops o g w (fun f' w'=>f'=df g o.dst X∧w'=w))∧((o.looksAt ops).all (fun t=>!xh ag t))=true∧PZ P n ops w0 ae K r ks.tail ag (df f o.dst X)
  | .n=>∃d z T,o.dst=some d∧((o.looksAt ops).all (fun t=>!xh ag t))=true∧(∀w g,Ext w0 w→(∀t∈o.looksAt ops,g t=f t)→SO P n ops o g w (fun f' w'=>∃v,f'=df g o.dst v∧Ext w w'∧KT z T w v w'))∧PZ P n ops w0 ae K r ks.tail ((d,Hh w0 z T)::ag) f
  |_=>(∃X,GN P n ops w0 o ag f (eN X)∧PZ P n ops w0 ae K r ks.tail ag (df f o.dst X))∨
    (∃d Φ,o.dst=some d∧sM Φ∧GN P n ops w0 o ag f Φ∧PZ P n ops w0 ae K r ks.tail ((d,Φ)::ag) f)
def KZ (P:Program) (n:Nat) (ops:Array Oper) (Q:Exit→Act→aI→Prop) (w0:aI) (ae:aI→Prop) (E:de) (Nd:List Nat) (ag:UN) (f:aP):Prop:=
 ∀(w':aI) (g:aP) (N:bT),Ext w0 w'→ES w0 N w'→(∀d d',d∈Nd→d'∈Nd→d≠d'→g d≠g d')→(∀t,xh ag t=false→g t=f t)→(∀(j t:Nat) (Φ:PR),ag[j]? =some (t,Φ)→Φ N (g t) w')→WE P n ops ae (fun f w=>Q .normal (bY n f) w) E g w'
def Db:List ZK→de→List Nat
 |_,[]=>[]
 |ks,o::r=>match ks.headD .r with
  | .n=>o.dst.getD 0::Db ks.tail r
  |_=>Db ks.tail r
def mM (E:List PR) (i:Nat):PR:=E.getD i (fun _ _ _=>True)
section
variable {P:Program} {n:Nat} {l:de} {Ks:List ZK} {w0:aI} {ae:aI→Prop} {f0:aP}
structure Kn (l:de) (Ks:List ZK) (f0:aP) (E:List PR) (m:Nat) (g:aP) (N:bT) (w:aI) (t:Nat):Prop where
 off:(∀(q:Nat) (o:Oper),l[q]? =some o→o.dst=some t→eD Ks q=true)→g t=f0 t
 yW:∀(q:Nat) (o:Oper),q<m→l[q]? =some o→o.dst=some t→eD Ks q=false→mM E q N (g t) w
def V8 (l:de) (Ks:List ZK) (m t:Nat):Prop:=∀(q:Nat) (o:Oper),l[q]? =some o→o.dst=some t→eD Ks q=false→q<m
structure O5 (l:de) (Ks:List ZK) (f0:aP) (E:List PR) (m:Nat) (ag:UN) (f:aP):Prop where
 is:∀(g:aP) (N:bT) (w:aI) (t:Nat),V8 l Ks m t→Kn l Ks f0 E m g N w t→(xh ag t=false→g t=f t)∧∀(j:Nat) (Φ:PR),ag[j]? =some (t,Φ)→Φ N (g t) w
 EG:∀(j t:Nat) (Φ:PR),ag[j]? =some (t,Φ)→∃(q:Nat) (o:Oper),q<m∧l[q]? =some o∧o.dst=some t
def adL (P:Program) (n:Nat) (l:de) (Ks:List ZK) (w0:aI) (f0:aP) (E:List PR) (i:Nat) (o:Oper):Prop:=
 ∀(g:aP) (N:bT) (w:aI),Ext w0 w→ES w0 N w→(∀t∈o.looksAt l.toArray,Kn l Ks f0 E i g N w t)→SO P n l.toArray o g w (fun f' w'=>∃v,f'=df g o.dst v∧Ext w w'∧mM E i N v w')
def adM (P:Program) (n:Nat) (l:de) (Ks:List ZK) (w0:aI) (f0:aP) (E:List PR) (i:Nat) (o:Oper):Prop:=
 ∃z T,mM E i=Hh w0 z T∧∀(g:aP) (N:bT) (w:aI),Ext w0 w→(∀t∈o.looksAt l.toArray,Kn l Ks f0 E i g N w t)→SO P n l.toArray o g w (fun f' w'=>∃v,f'=df g o.dst v∧Ext w w'∧KT z T w v w')
def adN (P:Program) (n:Nat) (l:de) (Ks:List ZK) (ae:aI→Prop) (f0:aP) (E:List PR) (i:Nat) (o:Oper):Prop:=
 ∃X,mM E i=eN X∧∀(g:aP) (N:bT) (w w1:aI),ae w→(∀t∈o.looksAt l.toArray,Kn l Ks f0 E i g N w1 t)→SO P n l.toArray o g w (fun f' w'=>f'=df g o.dst X∧w'=w)
structure Fact (P:Program) (n:Nat) (l:de) (Ks:List ZK) (w0:aI) (ae:aI→Prop) (f0:aP) (E:List PR) (i:Nat) (o:Oper):Prop where
 mono:sM (mM E i)
 go:eD Ks i=false→(adL P n l Ks w0 f0 E i o∧na Ks i=false∧(vU Ks i=true∨Ja Ks i=true))∨(adN P n l Ks ae f0 E i o∧na Ks i=false)∨(adM P n l Ks w0 f0 E i o∧na Ks i=true)
theorem MG {E E0:List PR} {m:Nat} (h:E.take m=E0) (hl:E0.length=m) {q:Nat} (hq:q<m):mM E q=mM E0 q:=by
 unfold mM
 rw[←h,eH,eH,amh,alE hq]
theorem Kn.of {E E0:List PR} {m:Nat} {g:aP} {N:bT} {w:aI} {t:Nat} (h:E.take m=E0) (hl:E0.length=m) (k:Kn l Ks f0 E m g N w t):Kn l Ks f0 E0 m g N w t:=
 ⟨k.off,fun q o hq h1 h2 h3=>by rw[←MG h hl hq];exact k.yW q o hq h1 h2 h3⟩
theorem vi {ag:UN} {t:Nat}:xh ag t=true↔∃(j:Nat) (Φ:PR),ag[j]? =some (t,Φ):=by
 unfold xh
 rw[amp]
 constructor
 ·rintro⟨⟨a,b⟩,h1,h2⟩
  obtain⟨j,hj⟩:=amt.1 h1
  simp at h2
  exact⟨j,b,by rw[hj,h2]⟩
 ·rintro⟨j,Φ,h⟩
  exact⟨_,eh h,by simp⟩
theorem PZ.table (kN:(l.filterMap (·.dst)).Nodup) (hZ:∀(i:Nat) (o:Oper),l[i]? =some o→Z1 n l Ks i o) {K:UN→aP→Prop}:∀(r:de) (ks:List ZK) (m:Nat) (ag:UN) (f:aP) (E0:List PR),
  l.drop m=r→Ks.drop m=ks→E0.length=m→m+r.length=l.length→O5 l Ks f0 E0 m ag f→PZ P n l.toArray w0 ae K r ks ag f→
  ∃(E:List PR) (U':UN) (f':aP),E.length=l.length∧E.take m=E0∧(∀(i:Nat) (o:Oper),m≤i→l[i]? =some o→Fact P n l Ks w0 ae f0 E i o)∧O5 l Ks f0 E l.length U' f'∧K U' f'
 |[],ks,m,ag,f,E0,hr,Jy,hl,qx,hL,h=>by
  simp only[gW,amw] at qx
  subst qx
  refine⟨E0,ag,f,hl,by rw[←hl,amT],fun i o hi ho=>?_,hL,h⟩
  have:=(eW.1 ho).1
  omega
 |o::r,ks,m,ag,f,E0,hr,Jy,hl,qx,hL,h=>by
  have iq:l[m]? =some o:=by
   have:(l.drop m)[0]? =some o:=by rw[hr];rfl
   rwa [amI,amw] at this
  have Ab:l.drop (m+1)=r:=by rw[←anm,hr];rfl
  have Jx:Ks.drop (m+1)=ks.tail:=by rw[←anm,Jy];cases ks<;>rfl
  have afr:m+1+r.length=l.length:=by simp only[jv] at qx;omega
  have Q6:ks.headD .r=ua Ks m:=by
   unfold ua
   rw[←Jy,eH]
   cases hq:Ks.drop m with
   |nil=>rw[amf (by have:=alB List.length hq;simp at this;omega)];rfl
   |cons a b=>
    have:(Ks.drop m)[0]? =some a:=by rw[hq];rfl
    rw[amI,amw] at this
    rw[this];rfl
  have z:=hZ m o iq
  have zH:∀(q:Nat) (o':Oper) (t:Nat),l[q]? =some o'→o'.dst=some t→o.dst=some t→q=m:=fun q o' t hq hd uT=>
   gj (·.dst) l kN q m o' o hq iq (by show o'.dst.isSome=true;rw[hd];rfl) (by show o'.dst=o.dst;rw[hd,uT])
  have HC:∀t∈o.looksAt l.toArray,eD Ks m=false→V8 l Ks m t:=by
   intro t ht hE q o' hq hd Ai
   rcases (z.look t ht).2 with h1|⟨j,sy,hj, -,pB,sS, -⟩
   ·exact absurd hd<|h1 q o' hq
   ·have:q=j:=gj (·.dst) l kN q j o' sy hq pB (by show o'.dst.isSome=true;rw[hd];rfl)<|by show o'.dst=sy.dst;rw[hd,sS]
    omega
  have fin:∀(e:PR) (U2:UN) (f2:aP),O5 l Ks f0 (E0++[e]) (m+1) U2 f2→PZ P n l.toArray w0 ae K r ks.tail U2 f2→
    (∀E:List PR,E.take (m+1)=E0++[e]→Fact P n l Ks w0 ae f0 E m o)→
    ∃(E:List PR) (U':UN) (f':aP),E.length=l.length∧E.take m=E0∧(∀(i:Nat) (o:Oper),m≤i→l[i]? =some o→Fact P n l Ks w0 ae f0 E i o)∧O5 l Ks f0 E l.length U' f'∧K U' f':=by
   intro e U2 f2 hL2 hP hF
   obtain⟨E,U',f',h1,h2,h3,h4,h5⟩:=PZ.table kN hZ r ks.tail (m+1) U2 f2 (E0++[e]) Ab Jx (by simp[hl]) afr hL2 hP
   refine⟨E,U',f',h1,?_,fun i o' hi Js=>?_,h4,h5⟩
   ·have:=alB (List.take m) h2
    rw[anI,anN ai,aoE ai,←hl,amT] at this
    rw[hl] at this;exact this
   ·by_cases r5:i=m
    ·subst r5
     rw[iq] at Js;cases Js
     exact hF E h2
    ·exact h3 i o' ai Js
  have zR:∀(E:List PR) (e:PR),E.take (m+1)=E0++[e]→mM E m=e:=by
   intro E e h2
   rw[MG h2 (by simp[hl]) (am5 m)]
   unfold mM
   rw[eH,nQ ai,hl,amN];rfl
  have agt:∀(e:PR) (q:Nat),q<m→mM (E0++[e]) q=mM E0 q:=by
   intro e q hq
   unfold mM
   rw[eH,y9 ai,eH]
  have Hx:∀(E:List PR) (e:PR),E.take (m+1)=E0++[e]→E.take m=E0:=by
   intro E e h2
   have:=alB (List.take m) h2
   rw[anI,anN ai,aoE ai,←hl,amT] at this
   rw[hl] at this;exact this
  
  have QM:∀(e:PR) (g:aP) (N:bT) (w:aI) (t:Nat),Kn l Ks f0 (E0++[e]) (m+1) g N w t→Kn l Ks f0 E0 m g N w t:=fun e g N w t k=>
   ⟨k.off,fun q o' hq h1 h2 h3=>by rw[←agt e q hq];exact k.yW q o' ai h1 h2 h3⟩
  unfold PZ at h
  rw[Q6] at h
  cases hk:ua Ks m with
  |e=>
   rw[hk] at h
   have hE:eD Ks m=true:=by unfold eD;rw[hk];rfl
   refine fin (fun _ _ _=>True) ag f ⟨fun g N w t hV qd=>?_,fun j t Φ hj=>?_⟩ h fun E h2=>⟨by rw[zR E _ h2];exact⟨fun _ _ _ _ _ _=>trivial,fun _ _ _ _ _ _ _=>trivial⟩,fun sV=>by rw[hE] at sV;cases sV⟩
   ·exact hL.is g N w t (fun q o' hq hd Ai=>by
     have:=hV q o' hq hd Ai
     by_cases iD:q=m
     ·subst iD;rw[hE] at Ai;cases Ai
     ·omega) (QM _ g N w t qd)
   ·obtain⟨q,o',h1,h2,h3⟩:=hL.EG j t Φ hj
    exact⟨q,o',by omega,h2,h3⟩
  |f=>
   rw[hk] at h
   obtain⟨X,h1,h1b,h2⟩:=h
   have hE:eD Ks m=false:=by unfold eD;rw[hk];rfl
   obtain⟨d,hd⟩:=z.dst hE
   have hN:na Ks m=false:=by unfold na;rw[hk];rfl
   refine fin (eN X) ag (df f o.dst X) ⟨fun g N w t hV qd=>?_,fun j t Φ hj=>?_⟩ h2 fun E sV=>⟨by rw[zR E _ sV];exact Vb X,fun _=>.inr (.inl ⟨⟨X,zR E _ sV,fun g N w w1 hI qd=>?_⟩,hN⟩)⟩
   ·by_cases ht:o.dst=some t
    ·have hv:g t=X:=by
      have:=qd.yW m o (am5 m) iq ht hE
      unfold mM at this
      rw[eH,nQ ai,hl,amN] at this
      exact this
     refine⟨fun _=>by rw[ht];show g t=cS f t X t;rw[ij];exact hv,fun j Φ hj=>?_⟩
     obtain⟨q,o',h1,h2,h3⟩:=hL.EG j t Φ hj
     have:=zH q o' t h2 h3 ht
     omega
    ·have:=hL.is g N w t (fun q o' hq mT Ai=>by
      have:=hV q o' hq mT Ai
      by_cases iD:q=m
      ·subst iD;rw[iq] at hq;cases hq;exact absurd mT ht
      ·omega) (QM _ g N w t qd)
     refine⟨fun hu=>?_,this.2⟩
     rw[this.1 hu,hd]
     exact(ik f X<|fun e=>ht<|by rw[hd,e]).symm
   ·obtain⟨q,o',h1,h2,h3⟩:=hL.EG j t Φ hj
    exact⟨q,o',by omega,h2,h3⟩
   ·refine h1 w g hI fun t ht=>?_
    have hu:xh ag t=false:=by
     have:=alK.1 h1b t ht
     simpa using this
    exact⟨hu,(hL.is g N w1 t (HC t ht hE)<|(qd t ht).of (Hx E _ sV) hl).1 hu⟩
  |n=>
   rw[hk] at h
   have hE:eD Ks m=false:=by unfold eD;rw[hk];rfl
   have hN:na Ks m=true:=by unfold na;rw[hk];rfl
   obtain⟨d,zz,T,hd,h1b,h1,h2⟩:=h
   refine fin (Hh w0 zz T) ((d,Hh w0 zz T)::ag) f ⟨fun g N w t hV qd=>?_,fun j t Ψ hj=>?_⟩ h2 fun E sV=>⟨by rw[zR E _ sV];exact acI w0 zz T,fun _=>.inr (.inr ⟨⟨zz,T,zR E _ sV,fun g N w hx qd=>?_⟩,hN⟩)⟩
   ·by_cases ht:d=t
    ·subst ht
     have hv:Hh w0 zz T N (g d) w:=by
      have:=qd.yW m o (am5 m) iq hd hE
      unfold mM at this
      rw[eH,nQ ai,hl,amN] at this
      exact this
     refine⟨fun hu=>?_,fun j Ψ hj=>?_⟩
     ·rw[vi.2 ⟨0,Hh w0 zz T,rfl⟩] at hu;cases hu
     ·cases j with
      |zero=>cases hj;exact hv
      |succ j=>
       obtain⟨q,o',h1,h2,h3⟩:=hL.EG j d Ψ hj
       have:=zH q o' d h2 h3 hd
       omega
    ·have Ba:=hL.is g N w t (fun q o' hq mT Ai=>by
      have:=hV q o' hq mT Ai
      by_cases iD:q=m
      ·subst iD;rw[iq] at hq;cases hq;rw[hd] at mT;cases mT;exact absurd rfl ht
      ·omega) (QM _ g N w t qd)
     refine⟨fun hu=>Ba.1 ?_,fun j Ψ hj=>?_⟩
     ·cases hb:xh ag t with
      |false=>rfl
      |true=>
       obtain⟨j,Ψ,hj⟩:=vi.1 hb
       rw[vi.2 ⟨j+1,Ψ,hj⟩] at hu;cases hu
     ·cases j with
      |zero=>cases hj;exact absurd rfl ht
      |succ j=>exact Ba.2 j Ψ hj
   ·cases j with
    |zero=>cases hj;exact⟨m,o,am5 m,iq,hd⟩
    |succ j=>
     obtain⟨q,o',h1,h2,h3⟩:=hL.EG j t Ψ hj
     exact⟨q,o',by omega,h2,h3⟩
   ·refine h1 w g hx fun t ht=>?_
    have hu:xh ag t=false:=by
     have:=alK.1 h1b t ht
     simpa using this
    exact(hL.is g N w t (HC t ht hE)<|(qd t ht).of (Hx E _ sV) hl).1 hu
  |r|s=>
   all_goals
    rw[hk] at h
    have hE:eD Ks m=false:=by unfold eD;rw[hk];rfl
    have hN:na Ks m=false:=by unfold na;rw[hk];rfl
    have hRS:vU Ks m=true∨Ja Ks m=true:=by unfold vU Ja;rw[hk];first|exact .inl rfl|exact .inr rfl
    obtain⟨d0,yL⟩:=z.dst hE
    rcases h with ⟨X,h1,h2⟩|⟨d,Φ,hd,Q3,h1,h2⟩
    ·refine fin (eN X) ag (df f o.dst X) ⟨fun g N w t hV qd=>?_,fun j t Φ hj=>?_⟩ h2 fun E sV=>⟨by rw[zR E _ sV];exact Vb X,fun _=>.inl ⟨fun g N w hx hNI qd=>?_,hN,hRS⟩⟩
     ·by_cases ht:o.dst=some t
      ·have hv:g t=X:=by
        have:=qd.yW m o (am5 m) iq ht hE
        unfold mM at this
        rw[eH,nQ ai,hl,amN] at this
        exact this
       refine⟨fun _=>by rw[ht];show g t=cS f t X t;rw[ij];exact hv,fun j Φ hj=>?_⟩
       obtain⟨q,o',h1,h2,h3⟩:=hL.EG j t Φ hj
       have:=zH q o' t h2 h3 ht
       omega
      ·have:=hL.is g N w t (fun q o' hq mT Ai=>by
        have:=hV q o' hq mT Ai
        by_cases iD:q=m
        ·subst iD;rw[iq] at hq;cases hq;exact absurd mT ht
        ·omega) (QM _ g N w t qd)
       refine⟨fun hu=>?_,this.2⟩
       rw[this.1 hu,yL]
       exact(ik f X<|fun e=>ht<|by rw[yL,e]).symm
     ·obtain⟨q,o',h1,h2,h3⟩:=hL.EG j t Φ hj
      exact⟨q,o',by omega,h2,h3⟩
     ·rw[zR E _ sV]
      exact h1 w g N hx hNI fun t ht=>hL.is g N w t (HC t ht hE) ((qd t ht).of (Hx E _ sV) hl)
    ·refine fin Φ ((d,Φ)::ag) f ⟨fun g N w t hV qd=>?_,fun j t Ψ hj=>?_⟩ h2 fun E sV=>⟨by rw[zR E _ sV];exact Q3,fun _=>.inl ⟨fun g N w hx hNI qd=>?_,hN,hRS⟩⟩
     ·by_cases ht:d=t
      ·subst ht
       have hv:Φ N (g d) w:=by
        have:=qd.yW m o (am5 m) iq hd hE
        unfold mM at this
        rw[eH,nQ ai,hl,amN] at this
        exact this
       refine⟨fun hu=>?_,fun j Ψ hj=>?_⟩
       ·rw[vi.2 ⟨0,Φ,rfl⟩] at hu;cases hu
       ·cases j with
        |zero=>cases hj;exact hv
        |succ j=>
         obtain⟨q,o',h1,h2,h3⟩:=hL.EG j d Ψ hj
         have:=zH q o' d h2 h3 hd
         omega
      ·have Ba:=hL.is g N w t (fun q o' hq mT Ai=>by
        have:=hV q o' hq mT Ai
        by_cases iD:q=m
        ·subst iD;rw[iq] at hq;cases hq;rw[hd] at mT;cases mT;exact absurd rfl ht
        ·omega) (QM _ g N w t qd)
       refine⟨fun hu=>Ba.1 ?_,fun j Ψ hj=>?_⟩
       ·cases hb:xh ag t with
        |false=>rfl
        |true=>
         obtain⟨j,Ψ,hj⟩:=vi.1 hb
         rw[vi.2 ⟨j+1,Ψ,hj⟩] at hu;cases hu
       ·cases j with
        |zero=>cases hj;exact absurd rfl ht
        |succ j=>exact Ba.2 j Ψ hj
     ·cases j with
      |zero=>cases hj;exact⟨m,o,am5 m,iq,hd⟩
      |succ j=>
       obtain⟨q,o',h1,h2,h3⟩:=hL.EG j t Ψ hj
       exact⟨q,o',by omega,h2,h3⟩
     ·rw[zR E _ sV]
      exact h1 w g N hx hNI fun t ht=>hL.is g N w t (HC t ht hE) ((qd t ht).of (Hx E _ sV) hl)
end
def pR (Ks:List ZK) (L:Nat→Bool):Nat→de→de
 |_,[]=>[]
 |i,o::r=>if eD Ks i&&!L i then o::pR Ks L (i+1) r else pR Ks L (i+1) r
section
variable {Ks:List ZK} {L L':Nat→Bool}
theorem C6:∀(r:de) (i:Nat) (ks:List ZK),Ks.drop i=ks→pR Ks (fun _=>false) i r=Dv ks r
 |[],_,_,_=>rfl
 |o::r,i,ks,h=>by
  have Jx:Ks.drop (i+1)=ks.tail:=by rw[←anm,h];cases ks<;>rfl
  have Q6:ks.headD .r=ua Ks i:=by
   unfold ua
   rw[←h,eH]
   cases hq:Ks.drop i with
   |nil=>rw[amf (by have:=alB List.length hq;simp at this;omega)];rfl
   |cons a b=>
    have:(Ks.drop i)[0]? =some a:=by rw[hq];rfl
    rw[amI,amw] at this
    rw[this];rfl
  unfold pR Dv
  rw[Q6,C6 r (i+1) ks.tail Jx]
  unfold eD
  cases ua Ks i<;>simp[zkE]
theorem nm:∀(r:de) (i:Nat),(∀k,i≤k→eD Ks k=true→L k=L' k)→pR Ks L i r=pR Ks L' i r
 |[],_,_=>rfl
 |o::r,i,h=>by
  unfold pR
  rw[nm r (i+1) fun k hk=>h k ai]
  cases hE:eD Ks i with
  |false=>simp
  |true=>rw[h i (alL _) hE]
theorem AH:∀(r:de) (i j:Nat) (o:Oper),r[j]? =some o→eD Ks (i+j)=true→L (i+j)=false→(∀e,i≤e→e<i+j→eD Ks e=true→L e=true)→
  pR Ks L i r=o::pR Ks (fun k=>L k||decide (k=i+j)) i r
 |[],_,_,_,h,_,_,_=>by simp at h
 |x::r,i,0,o,h,hE,hL,_=>by
  simp only[alX,al2] at h
  subst h
  rw[amw] at hE hL
  unfold pR
  rw[hE,hL]
  simp only[amw,Bool.not_false,an6,anO,Bool.or_true,anC,aoq,ana,aoi,amo]
  congr 1
  refine nm r (i+1) fun k hk _=>?_
  rw[alH ai,amn]
 |x::r,i,j+1,o,h,hE,hL,hb=>by
  have ih:=AH r (i+1) j o (by simpa using h) (by rw[show i+1+j=i+(j+1) from by omega];exact hE) (by rw[show i+1+j=i+(j+1) from by omega];exact hL) fun e h1 h2 h3=>hb e ai ai h3
  rw[show i+1+j=i+(j+1) from by omega] at ih
  have h0:(eD Ks i&&!L i)=false:=by
   cases wk:eD Ks i with
   |false=>rfl
   |true=>rw[hb i (alL _) ai wk];rfl
  unfold pR
  rw[h0,alH (show ¬i=i+(j+1) by omega),amn,h0]
  simpa using ih
theorem C5:∀(r:de) (i:Nat),(∀k,i≤k→k<i+r.length→L k=true)→pR Ks L i r=[]
 |[],_,_=>rfl
 |o::r,i,h=>by
  unfold pR
  rw[h i (alL _) (by simp),C5 r (i+1) fun k h1 h2=>h k ai (by simp only[jv];omega)]
  simp
end
theorem E8 {l:de} {L:Nat→Bool} (hC:∀i o,L i=true→l[i]? =some o→∀j,jS o j=true→L j=true):
  ∀(n i m:Nat) (o:Oper),l[i]? =some o→(∀j,jS o j=true→L j=true)→mG l n i m=true→L m=true
 |0,_,_,_,_,_,h=>by cases h
 |n+1,i,m,o,ho,hd,h=>by
  simp only[mG,ho,alI] at h
  rcases h with h|h
  ·exact hd m h
  ·obtain⟨j,_,hj⟩:=amp.1 h
   simp only[cA] at hj
   have Cx:=hd j hj.1
   cases iF:l[j]? with
   |none=>
    have h2:=hj.2
    cases n with
    |zero=>cases h2
    |succ n=>simp[mG,iF] at h2
   |some o'=>exact E8 hC n j m o' iF (hC j o' Cx iF) hj.2
section
variable {P:Program} {n:Nat} {l:de} {Ks:List ZK} {w0:aI} {ae:aI→Prop} {f0:aP} {E:List PR} {K:aP→aI→Prop}
def VP (P:Program) (n:Nat) (l:de) (ae:aI→Prop) (o:Oper) (g:aP) (d:Nat):Prop:=∀(w2:aI) (g2:aP),ae w2→(∀t∈o.looksAt l.toArray,g2 t=g t)→SO P n l.toArray o g2 w2 (fun f' w'=>f'=df g2 o.dst (g d)∧w'=w2)
structure J1 (l:de) (Ks:List ZK) (w0:aI) (f0:aP) (E:List PR) (L:Nat→Bool) (f:aP) (w:aI) (N:bT):Prop where
 ni:ES w0 N w
 dis:∀(p q:Nat) (o o':Oper) (d d':Nat),L p=true→L q=true→p≠q→l[p]? =some o→l[q]? =some o'→na Ks p=true→na Ks q=true→o.dst=some d→o'.dst=some d'→f d≠f d'
 no:∀e,e<l.length→eD Ks e=true→L e=false
 ext:Ext w0 w
 off:∀t,(∀(q:Nat) (o:Oper),l[q]? =some o→o.dst=some t→eD Ks q=true)→f t=f0 t
 yW:∀(q:Nat) (o:Oper) (t:Nat),L q=true→l[q]? =some o→o.dst=some t→eD Ks q=false→mM E q N (f t) w
structure J2 (P:Program) (n:Nat) (l:de) (Ks:List ZK) (ae:aI→Prop) (K:aP→aI→Prop) (L:Nat→Bool) (f:aP) (w:aI) (g:aP) (V:Nat→Bool):Prop where
 rd:∀(q:Nat) (o:Oper),l[q]? =some o→vU Ks q=true→L q=true
 eq:∀t,t<n→(∀(q:Nat) (o:Oper),l[q]? =some o→o.dst=some t→(eD Ks q=false∨V q=true)→L q=true)→g t=f t
 vp:∀(q:Nat) (o:Oper) (d:Nat),l[q]? =some o→o.dst=some d→(eD Ks q=false∨V q=true)→L q=false→VP P n l ae o g d
 i:ae w
 we:WE P n l.toArray ae K (pR Ks (fun k=>L k||V k) 0 l) g w
 vx:∀q,V q=true→sC l Ks q=true
 vl:∀q,V q=true→∀e,e<q→eD Ks e=true→jF l e=false→L e=true
 vd:∀q,V q=true→∀m,m<q→sC l Ks m=true→L m=false→V m=true
def NF (l:de) (Ks:List ZK) (L V:Nat→Bool) (m:Nat):Prop:=∀q,q<m→sC l Ks q=true→L q=false→(∀e,e<q→eD Ks e=true→jF l e=false→L e=true)→V q=true
theorem VW (kN:(l.filterMap (·.dst)).Nodup) (hZ:∀(i:Nat) (o:Oper),l[i]? =some o→Z1 n l Ks i o) (hF:∀(i:Nat) (o:Oper),l[i]? =some o→Fact P n l Ks w0 ae f0 E i o) {L:Nat→Bool} {f:aP} {w:aI} {N:bT}
  (h:J1 l Ks w0 f0 E L f w N) (hI:∀w',Ext w0 w'→ae w') (hR:∀(q:Nat) (o:Oper),l[q]? =some o→vU Ks q=true→L q=true) (dx:∀(i:Nat) (o:Oper) (d:Nat),l[i]? =some o→o.dst=some d→d<n):∀m,m≤l.length→
  ∃g:aP,(∀t,(∀(q:Nat) (o:Oper),q<m→l[q]? =some o→o.dst=some t→eD Ks q=false→L q=true)→g t=f t)∧
   (∀(q:Nat) (o:Oper) (d:Nat),q<m→l[q]? =some o→o.dst=some d→eD Ks q=false→L q=false→VP P n l ae o g d)∧
   (∀(q:Nat) (o:Oper) (t:Nat),q<m→l[q]? =some o→o.dst=some t→eD Ks q=false→mM E q N (g t) w)
 |0,_=>⟨f,fun _ _=>rfl,fun q o d hq=>absurd hq (anv _),fun q o t hq=>absurd hq (anv _)⟩
 |m+1,hm=>by
  obtain⟨g,g1,g2,g3⟩:=VW kN hZ hF h hI hR dx m ai
  have iq:l[m]? =some l[m]:=dW ai
  generalize l[m]=o at iq
  have z:=hZ m o iq
  have uniq:∀(q q':Nat) (a b:Oper) (t:Nat),l[q]? =some a→l[q']? =some b→a.dst=some t→b.dst=some t→q=q':=fun q q' a b t h1 h2 h3 h4=>
   gj (·.dst) l kN q q' a b h1 h2 (by show a.dst.isSome=true;rw[h3];rfl) (by show a.dst=b.dst;rw[h3,h4])
  cases hE:eD Ks m with
  |true=>
   refine⟨g,fun t ht=>g1 t fun q o' hq=>ht q o' ai,fun q o' d hq h1 h2 h3 h4=>?_,fun q o' t hq h1 h2 h3=>?_⟩
   ·by_cases iD:q=m
    ·subst iD;rw[hE] at h3;cases h3
    ·exact g2 q o' d ai h1 h2 h3 h4
   ·by_cases iD:q=m
    ·subst iD;rw[hE] at h3;cases h3
    ·exact g3 q o' t ai h1 h2 h3
  |false=>
   obtain⟨d,hd⟩:=z.dst hE
   have gd:g d=f d:=g1 d fun q o' hq h1 h2 h3=>by have:=uniq q m o' o d h1 iq h2 hd;omega
   cases Ri:L m with
   |true=>
    refine⟨g,fun t ht=>g1 t fun q o' hq=>ht q o' ai,fun q o' d' hq h1 h2 h3 h4=>?_,fun q o' t hq h1 h2 h3=>?_⟩
    ·by_cases iD:q=m
     ·subst iD;rw[Ri] at h4;cases h4
     ·exact g2 q o' d' ai h1 h2 h3 h4
    ·by_cases iD:q=m
     ·subst iD
      rw[iq] at h1;cases h1
      rw[hd] at h2;cases h2
      rw[gd];exact h.yW q o d Ri iq hd hE
     ·exact g3 q o' t ai h1 h2 h3
   |false=>
    
    have Q4:∀t∈o.looksAt l.toArray,t≠d∧∀(q:Nat) (o':Oper),l[q]? =some o'→o'.dst=some t→eD Ks q=false→q<m:=by
     intro t ht
     rcases (z.look t ht).2 with h1|⟨j,sy,hj, -,pB,sS, -⟩
     ·exact⟨fun e=>h1 m o iq (by rw[hd,e]),fun q o' hq mT _=>absurd mT (h1 q o' hq)⟩
     ·refine⟨fun e=>?_,fun q o' hq mT _=>?_⟩
      ·have:=uniq j m sy o d pB iq (by rw[sS,e]) hd;omega
      ·have:=uniq q j o' sy t hq pB mT sS;omega
    have qz:∀t∈o.looksAt l.toArray,Kn l Ks f0 E m g N w t:=fun t ht=>⟨fun Dj=>by
      rw[g1 t fun q o' hq h1 h2 h3=>absurd h3 (by rw[Dj q o' h1 h2];decide)]
      exact h.off t Dj,fun q o' hq h1 h2 h3=>g3 q o' t hq h1 h2 h3⟩
    have key:∃v,mM E m N v w∧∀(w2:aI) (g2:aP),ae w2→(∀t∈o.looksAt l.toArray,g2 t=g t)→SO P n l.toArray o g2 w2 (fun f' w'=>f'=df g2 o.dst v∧w'=w2):=by
     rcases (hF m o iq).go hE with ⟨hFR, -,hk⟩|⟨⟨X,hX,hFF⟩, -⟩|⟨-,hk⟩
     ·rcases hk with hk|hk
      ·have:=hR m o iq hk;rw[Ri] at this;cases this
      ·obtain⟨v,hv,uQ⟩:=SJ (z.slot hk) ⟨d,hd,dx m o d iq hd⟩ (hFR g N w h.ext h.ni qz)
       exact⟨v,hv,fun w2 g2 _ hg=>uQ g2 w2 hg⟩
     rotate_left
     ·have:=hR m o iq (by unfold na at hk;unfold vU;cases hq:ua Ks m<;>rw[hq] at hk<;>first|rfl|cases hk);rw[Ri] at this;cases this
     ·refine⟨X,by rw[hX];rfl,fun w2 g2 Es hg=>hFF g2 N w2 w Es fun t ht=>?_⟩
      have k:=qz t ht
      exact⟨fun Dj=>by rw[hg t ht];exact k.off Dj,fun q o' hq h1 h2 h3=>by rw[hg t ht];exact k.yW q o' hq h1 h2 h3⟩
    obtain⟨v,hv,hvp⟩:=key
    have ff:∀t,t≠d→cS g d v t=g t:=fun t ht=>ik g v ht
    refine⟨cS g d v,fun t ht=>?_,fun q o' d' hq h1 h2 h3 h4=>?_,fun q o' t hq h1 h2 h3=>?_⟩
    ·have AX:t≠d:=fun e=>by
      have:=ht m o (am5 m) iq (by rw[hd,e]) hE
      rw[Ri] at this;cases this
     rw[ff t AX]
     exact g1 t fun q o' hq=>ht q o' ai
    ·by_cases iD:q=m
     ·subst iD
      rw[iq] at h1;cases h1
      rw[hd] at h2;cases h2
      intro w2 gg Es hg
      rw[ij]
      exact hvp w2 gg Es fun t ht=>by rw[hg t ht,ff t (Q4 t ht).1]
     ·have JE:d'≠d:=fun e=>iD<|uniq q m o' o d h1 iq (by rw[h2,e]) hd
      have zq:=hZ q o' h1
      intro w2 gg Es hg
      rw[ff d' JE]
      refine g2 q o' d' ai h1 h2 h3 h4 w2 gg Es fun t ht=>?_
      rw[hg t ht]
      refine ff t fun e=>?_
      rcases (zq.look t ht).2 with h5|⟨j,sy,hj, -,pB,sS, -⟩
      ·exact h5 m o iq<|by rw[hd,e]
      ·have:=uniq j m sy o d pB iq (by rw[sS,e]) hd;omega
    ·by_cases iD:q=m
     ·subst iD
      rw[iq] at h1;cases h1
      rw[hd] at h2;cases h2
      rw[ij];exact hv
     ·rw[ff t fun e=>iD (uniq q m o' o d h1 iq (by rw[h2,e]) hd)]
      exact g3 q o' t ai h1 h2 h3
theorem Qc (a b:Bool) (c:Prop) [Decidable c]:((a||b)||decide c)=(a||(b||decide c)):=by cases a<;>cases b<;>rfl
theorem VX (kN:(l.filterMap (·.dst)).Nodup) (hZ:∀(i:Nat) (o:Oper),l[i]? =some o→Z1 n l Ks i o) (dx:∀(i:Nat) (o:Oper) (d:Nat),l[i]? =some o→o.dst=some d→d<n) {L:Nat→Bool} {f g0:aP} {w:aI} {V0:Nat→Bool} (h0:J2 P n l Ks ae K L f w g0 V0):∀m,m≤l.length→
  ∃g V,J2 P n l Ks ae K L f w g V∧NF l Ks L V m
 |0,_=>⟨g0,V0,h0,fun q hq=>absurd hq (anv _)⟩
 |m+1,hm=>by
  obtain⟨g,V,h,hN⟩:=VX kN hZ dx h0 m ai
  have uniq:∀(q q':Nat) (a b:Oper) (t:Nat),l[q]? =some a→l[q']? =some b→a.dst=some t→b.dst=some t→q=q':=fun q q' a b t h1 h2 h3 h4=>
   gj (·.dst) l kN q q' a b h1 h2 (by show a.dst.isSome=true;rw[h3];rfl) (by show a.dst=b.dst;rw[h3,h4])
  by_cases GW:sC l Ks m=true∧L m=false∧V m=false∧∀e,e<m→eD Ks e=true→jF l e=false→L e=true
  rotate_left
  ·refine⟨g,V,h,fun q hq hx hL hr=>?_⟩
   by_cases iD:q=m
   ·subst iD
    cases hV:V q with
    |true=>rfl
    |false=>exact absurd ⟨hx,hL,hV,hr⟩ GW
   ·exact hN q ai hx hL hr
  obtain⟨hx,hL,hV,hr⟩:=GW
  have iq:l[m]? =some l[m]:=dW ai
  generalize l[m]=o at iq
  have z:=hZ m o iq
  have Jg:eD Ks m=true∧jF l m=true:=by
   have:=hx;unfold sC at this;rwa [cA] at this
  have hso:sl o=true:=by have:=Jg.2;unfold jF at this;rwa [iq] at this
  obtain⟨⟨d,hd⟩, -⟩:=z.xd Jg.1 hso
  have wc:=dx m o d iq hd
  have hbV:∀e,e<m→eD Ks e=true→(L e||V e)=true:=by
   intro e he mJ
   cases p9:jF l e with
   |false=>rw[hr e he mJ p9];rfl
   |true=>
    cases hLe:L e with
    |true=>rfl
    |false=>rw[hN e he (by unfold sC;rw[mJ,p9];rfl) hLe fun e' h1 h2 h3=>hr e' ai h2 h3];rfl
  have vW:=h.we
  rw[AH l 0 m o iq (by rw[ama];exact Jg.1) (by rw[ama,hL,hV];rfl) (fun e _ h2 h3=>hbV e ai h3)] at vW
  simp only[ama] at vW
  have hsr:=SO.UR (show SO P n l.toArray o g w _ from vW) z.sel<|fun t _=>rfl
  obtain⟨v,⟨g',Z_,VI,QU⟩,lW⟩:=Gj (P:=P) (n:=n) (ops:=l.toArray) (R:=fun v w'=>∃g',bY n g'=bY n (df g o.dst v)∧ae w'∧WE P n l.toArray ae K (pR Ks (fun k=>(L k||V k)||decide (k=m)) 0 l) g' w') hso ⟨d,hd,wc⟩ (hsr.mono fun f' w' ⟨v,g',e1,e2,e3,e4⟩=>⟨v,e1,trivial,g',e2,e3,e4⟩)
  have GV:∀t,t<n→g' t=cS g d v t:=by
   intro t ht
   have:(bY n g').tmps[t]? =(bY n (df g o.dst v)).tmps[t]?:=by rw[Z_]
   rw[hd] at this
   simpa [bY,ht,df] using this
  have VG:∀q,(V q||decide (q=m))=true→q≠m→V q=true:=fun q h4 iD=>by
   rcases amW.1 h4 with h4|h4
   ·exact h4
   ·exact absurd (by simpa using h4) iD
  
  have ac1:∀(q:Nat) (o':Oper),l[q]? =some o'→q≠m→(eD Ks q=false∨V q=true)→∀t∈o'.looksAt l.toArray,t≠d:=by
   intro q o' hq iD A7 t ht e
   subst e
   rcases ((hZ q o' hq).look t ht).2 with h5|⟨j,sy,hj, -,pB,sS,Z5⟩
   ·exact h5 m o iq hd
   ·have:=uniq j m sy o t pB iq sS hd
    subst this
    rcases A7 with h6|h6
    ·rw[Z5 h6] at Jg;cases Jg.1
    ·have:=h.vd q h6 j hj hx hL
     rw[hV] at this;cases this
  refine⟨g',fun k=>V k||decide (k=m),⟨h.rd,fun t ht hq=>?_,fun q o' d' h1 h2 h3 h4=>?_,h.i,?_,fun q hq=>?_,fun q hq e he mJ p9=>?_,fun q hq m' Z0 Ef Ah=>?_⟩,fun q hq Ef Ah Ab=>?_⟩
  ·have AX:t≠d:=fun e=>by
    have:=hq m o iq (by rw[hd,e])<|.inr (by simp)
    rw[hL] at this;cases this
   rw[GV t ht,ik g v AX]
   exact h.eq t ht fun q o' h1 h2 h3=>hq q o' h1 h2 (h3.imp id fun h=>by rw[h];rfl)
  ·by_cases iD:q=m
   ·subst iD
    rw[iq] at h1;cases h1
    rw[hd] at h2;cases h2
    intro w2 gg _ hg
    rw[GV d wc,ij]
    refine lW gg w2 fun t ht=>?_
    have hk:=z.look t ht
    rw[hg t ht,GV t hk.1]
    refine ik g v fun e=>?_
    rcases hk.2 with h5|⟨j,sy,hj, -,pB,sS, -⟩
    ·exact h5 q o iq<|by rw[hd,e]
    ·have:=uniq j q sy o d pB iq (by rw[sS,e]) hd;omega
   ·have A7:eD Ks q=false∨V q=true:=h3.imp id fun h=>VG q h iD
    have hv:=h.vp q o' d' h1 h2 A7 h4
    have JE:d'≠d:=fun e=>iD<|uniq q m o' o d h1 iq (by rw[h2,e]) hd
    intro w2 gg Es hg
    rw[GV d' (dx q o' d' h1 h2),ik g v JE]
    refine hv w2 gg Es fun t ht=>?_
    rw[hg t ht,GV t ((hZ q o' h1).look t ht).1]
    exact ik g v<|ac1 q o' h1 iD A7 t ht
  ·rw[nm (L':=fun k=>(L k||V k)||decide (k=m)) l 0 fun k _ _=>(Qc _ _ _).symm]
   exact QU
  ·by_cases iD:q=m
   ·subst iD;exact hx
   ·exact h.vx q<|VG q hq iD
  ·by_cases iD:q=m
   ·subst iD;exact hr e he mJ p9
   ·exact h.vl q (VG q hq iD) e he mJ p9
  ·show (V m'||decide (m'=m))=true
   by_cases iD:q=m
   ·subst iD
    rw[hN m' Z0 Ef Ah fun e h1 h2 h3=>hr e ai h2 h3];rfl
   ·rw[h.vd q (VG q hq iD) m' Z0 Ef Ah];rfl
  ·show (V q||decide (q=m))=true
   by_cases iD:q=m
   ·subst iD;simp
   ·rw[hN q ai Ef Ah Ab];rfl
theorem Pt (kN:(l.filterMap (·.dst)).Nodup) (hZ:∀(i:Nat) (o:Oper),l[i]? =some o→Z1 n l Ks i o) (dx:∀(i:Nat) (o:Oper) (d:Nat),l[i]? =some o→o.dst=some d→d<n) {L:Nat→Bool} {f g:aP} {w:aI} {V:Nat→Bool} (h:J2 P n l Ks ae K L f w g V) (hN:NF l Ks L V l.length) {i:Nat} {o:Oper}
  (ho:l[i]? =some o) (hE:eD Ks i=true) (hS:jF l i=false) (nu:L i=false) (hb:∀e,e<i→eD Ks e=true→jF l e=false→L e=true) (wc:∀j,jS o j=true→L j=true):
  SO P n l.toArray o f w (fun f' w'=>∃g' V',J2 P n l Ks ae K (fun k=>L k||decide (k=i)) f' w' g' V'∧NF l Ks (fun k=>L k||decide (k=i)) V' l.length):=by
 have z:=hZ i o ho
 have iP:=(eW.1 ho).1
 have uniq:∀(q q':Nat) (a b:Oper) (t:Nat),l[q]? =some a→l[q']? =some b→a.dst=some t→b.dst=some t→q=q':=fun q q' a b t h1 h2 h3 h4=>
  gj (·.dst) l kN q q' a b h1 h2 (by show a.dst.isSome=true;rw[h3];rfl) (by show a.dst=b.dst;rw[h3,h4])
 have hXi:sC l Ks i=false:=by unfold sC;rw[hS,aoq]
 have hVi:V i=false:=by
  cases hq:V i with
  |false=>rfl
  |true=>rw[h.vx i hq] at hXi;cases hXi
 have A7:∀q,(eD Ks q=false∨V q=true)→q≠i:=fun q h3 e=>by
  subst e
  rcases h3 with h3|h3
  ·rw[hE] at h3;cases h3
  ·rw[hVi] at h3;cases h3
 have hbV:∀e,e<i→eD Ks e=true→(L e||V e)=true:=by
  intro e he mJ
  cases p9:jF l e with
  |false=>rw[hb e he mJ p9];rfl
  |true=>
   cases hLe:L e with
   |true=>rfl
   |false=>rw[hN e ai (by unfold sC;rw[mJ,p9];rfl) hLe fun e' h1 h2 h3=>hb e' ai h2 h3];rfl
 have vW:=h.we
 rw[AH l 0 i o ho (by rw[ama];exact hE) (by rw[ama,nu,hVi];rfl) (fun e _ h2 h3=>hbV e ai h3)] at vW
 simp only[ama] at vW
 have Q4:∀t∈o.looksAt l.toArray,f t=g t:=by
  intro t ht
  have q:=z.look t ht
  refine(h.eq t q.1 fun q' o' h1 h2 h3=>?_).symm
  rcases q.2 with h4|⟨j,sy,hj,GU,pB,sS, -⟩
  ·exact absurd h2<|h4 q' o' h1
  ·rw[uniq q' j o' sy t h1 pB h2 sS];exact wc j GU
 refine(SO.UR (show SO P n l.toArray o g w _ from vW) z.sel Q4).mono ?_
 rintro f' w' ⟨v,g',rfl,Z_,VI,QU⟩
 have GV:∀t,t<n→g' t=df g o.dst v t:=by
  intro t ht
  have:(bY n g').tmps[t]? =(bY n (df g o.dst v)).tmps[t]?:=by rw[Z_]
  simpa [bY,ht] using this
 refine VX (V0:=V) kN hZ dx (L:=fun k=>L k||decide (k=i)) (g0:=g') ⟨fun q o' h1 h2=>by rw[h.rd q o' h1 h2];rfl,fun t ht hq=>?_,fun q o' d h1 h2 h3 h4=>?_,VI,?_,h.vx,fun q hq e he mJ p9=>by rw[h.vl q hq e he mJ p9];rfl,fun q hq m hm hx hL=>h.vd q hq m hm hx ?_⟩ l.length<|alL _
 ·rw[GV t ht]
  cases hd:o.dst with
  |none=>
   show g t=f t
   refine h.eq t ht fun q o' h1 h2 h3=>?_
   rcases amW.1 (hq q o' h1 h2 h3) with h4|h4
   ·exact h4
   ·exact absurd (by simpa using h4)<|A7 q h3
  |some d=>
   show cS g d v t=cS f d v t
   by_cases AX:t=d
   ·subst AX;rw[ij,ij]
   ·rw[ik g v AX,ik f v AX]
    refine h.eq t ht fun q o' h1 h2 h3=>?_
    rcases amW.1 (hq q o' h1 h2 h3) with h4|h4
    ·exact h4
    ·exact absurd (by simpa using h4)<|A7 q h3
 ·have h4':L q=false:=by
   cases hq:L q with
   |false=>rfl
   |true=>rw[hq] at h4;cases h4
  have hv:=h.vp q o' d h1 h2 h3 h4'
  have ff:∀t,t<n→o.dst≠some t→g' t=g t:=by
   intro t ht hd
   rw[GV t ht]
   cases mT:o.dst with
   |none=>rfl
   |some d'=>exact ik g v fun e=>hd (by rw[mT,e])
  intro w2 gg Es hg
  rw[ff d (dx q o' d h1 h2) (fun e=>A7 q h3 (uniq q i o' o d h1 ho h2 e))]
  refine hv w2 gg Es fun t ht=>?_
  rw[hg t ht]
  have zq:=(hZ q o' h1).look t ht
  refine ff t zq.1 fun e=>?_
  rcases zq.2 with h5|⟨j,sy,hj, -,pB,sS,Z5⟩
  ·exact h5 i o ho e
  ·have:=uniq j i sy o t pB ho sS e
   subst this
   rcases h3 with h3|h3
   ·rw[Z5 h3] at hE;cases hE
   ·rw[h.vl q h3 j hj hE hS] at nu;cases nu
 ·rw[nm (L':=fun k=>(L k||V k)||decide (k=i)) l 0 fun k _ _=>by cases L k<;>cases V k<;>cases decide (k=i)<;>rfl]
  exact QU
 ·cases hq:L m with
  |false=>rfl
  |true=>simp[hq] at hL
theorem I1 {Ks:List ZK} {d:Nat}:∀(r:de) (i:Nat) (ks:List ZK),Ks.drop i=ks→d∈Db ks r→∃(j:Nat) (o:Oper),r[j]? =some o∧na Ks (i+j)=true∧o.dst.getD 0=d
 |[],_,_,_,h=>by cases h
 |o::r,i,ks,h,hd=>by
  have Jx:Ks.drop (i+1)=ks.tail:=by rw[←anm,h];cases ks<;>rfl
  have Q6:ks.headD .r=ua Ks i:=by
   unfold ua
   rw[←h,eH]
   cases hq:Ks.drop i with
   |nil=>rw[amf (by have:=alB List.length hq;simp at this;omega)];rfl
   |cons a b=>
    have:(Ks.drop i)[0]? =some a:=by rw[hq];rfl
    rw[amI,amw] at this
    rw[this];rfl
  have ZL:d∈Db ks.tail r→∃(j:Nat) (o':Oper),(o::r)[j]? =some o'∧na Ks (i+j)=true∧o'.dst.getD 0=d:=fun hd=>by
   obtain⟨j,o',h1,h2,h3⟩:=I1 r (i+1) ks.tail Jx hd
   exact⟨j+1,o',by simpa using h1,by rw[show i+(j+1)=i+1+j from by omega];exact h2,h3⟩
  unfold Db at hd
  rw[Q6] at hd
  cases hk:ua Ks i with
  |n=>
   rw[hk] at hd
   rcases alQ.1 hd with rfl|hd
   ·exact⟨0,o,J,by rw[amw];unfold na;rw[hk];rfl,J⟩
   ·exact ZL hd
  |_=>rw[hk] at hd;exact ZL hd
theorem EE {id:Nat} {Q:Exit→Act→aI→Prop} {f:aP} {w:aI} (Ks:List ZK) (ae:aI→Prop) (hm:P.follows .mixedOrders=true) (jl:okZ n l Ks=true) (hI:∀w',Ext w w'→ae w')
  (h:PZ P n l.toArray w ae (KZ P n l.toArray Q w ae (Dv Ks l) (Db Ks l)) l Ks [] f):WC P n (.region id l.toArray true) Q f w:=by
 simp only[okZ,cA] at jl
 obtain⟨hE,hN,hn,h1⟩:=jl
 have kN:(l.filterMap (·.dst)).Nodup:=ky _ hN
 have dx:∀(i:Nat) (o:Oper) (d:Nat),l[i]? =some o→o.dst=some d→d<n:=by
  intro i o d hi hd
  have:=alK.1 hn d<|al4.2 ⟨o,eh hi,hd⟩
  simpa using this
 have hZ:∀(i:Nat) (o:Oper),l[i]? =some o→Z1 n l Ks i o:=fun i o hi=>by
  have:=LV l 0 h1 i o hi
  rwa [ama] at this
 have uniq:∀(q q':Nat) (a b:Oper) (t:Nat),l[q]? =some a→l[q']? =some b→a.dst=some t→b.dst=some t→q=q':=fun q q' a b t h1 h2 h3 h4=>
  gj (·.dst) l kN q q' a b h1 h2 (by show a.dst.isSome=true;rw[h3];rfl) (by show a.dst=b.dst;rw[h3,h4])
 obtain⟨E,U',f',hEl, -,hF0,hL,hK⟩:=PZ.table (f0:=f) kN hZ l Ks 0 [] f [] rfl rfl rfl (by simp)
  ⟨fun g N w t hV qd=>⟨fun _=>qd.off fun q o h1 h2=>by
   cases hq:eD Ks q with
   |true=>rfl
   |false=>exact absurd (hV q o h1 h2 hq) (anv _),fun j Φ hj=>by simp at hj⟩,fun j t Φ hj=>by simp at hj⟩ h
 have hF:∀(i:Nat) (o:Oper),l[i]? =some o→Fact P n l Ks w ae f E i o:=fun i o hi=>hF0 i o (anu _) hi
 have zK:∀d,d∈Db Ks l→∃(q:Nat) (o:Oper),l[q]? =some o∧na Ks q=true∧o.dst=some d:=fun d hd=>by
  obtain⟨j,o,h2,h3,h4⟩:=I1 l 0 Ks rfl hd
  rw[ama] at h3
  have ff:eD Ks j=false:=by unfold na at h3;unfold eD;cases hq:ua Ks j<;>rw[hq] at h3<;>first|rfl|exact Bool.noConfusion h3
  obtain⟨d',mT⟩:=(hZ j o h2).dst ff
  rw[mT] at h4
  exact⟨j,o,h2,h3,by rw[mT];exact alB some h4⟩
 have VH:∀q,na Ks q=true→vU Ks q=true:=fun q h3=>by unfold na at h3;unfold vU;cases hq:ua Ks q<;>rw[hq] at h3<;>first|rfl|exact Bool.noConfusion h3
 refine drj (P:=P) (Q:=Q) (fun L g w'=>(∀(i:Nat) (o:Oper),L i=true→l[i]? =some o→∀j,jS o j=true→L j=true)∧((∃N,J1 l Ks w f E L g w' N)∨∃g2 V,J2 P n l Ks ae (fun f w=>Q .normal (bY n f) w) L g w' g2 V∧NF l Ks L V l.length)) hm hE ?_ ?_ ?_
 ·exact⟨fun i o hi=>Bool.noConfusion hi,.inl ⟨fun _=>False,fun b hb=>hb.elim,fun p q o o' d d' hp=>Bool.noConfusion hp,fun e _ _=>rfl,Ext.drew w,fun t _=>rfl,fun q o t hq=>Bool.noConfusion hq⟩⟩
 ·rintro L g w' i o ho nu hLl wc ⟨hC,hJ⟩
  have z:=hZ i o ho
  have iP:=(eW.1 ho).1
  have JT:∀(q:Nat) (o':Oper),(L q||decide (q=i))=true→l[q]? =some o'→∀j,jS o' j=true→(L j||decide (j=i))=true:=by
   intro q o' hq sR j hj
   rcases amW.1 hq with h1|h1
   ·rw[hC q o' h1 sR j hj];rfl
   ·have:q=i:=by simpa using h1
    subst this
    rw[ho] at sR;cases sR
    rw[wc j hj];rfl
  have late:∀(g2:aP) (V:Nat→Bool),J2 P n l Ks ae (fun f w=>Q .normal (bY n f) w) L g w' g2 V→NF l Ks L V l.length→∀d,o.dst=some d→(eD Ks i=false∨V i=true)→(eD Ks i=true→sC l Ks i=true)→
    SO P n l.toArray o g w' (fun CG mj=>∃g2 V,J2 P n l Ks ae (fun f w=>Q .normal (bY n f) w) (fun k=>L k||decide (k=i)) CG mj g2 V∧NF l Ks (fun k=>L k||decide (k=i)) V l.length):=by
   intro g2 V hJ Ep d hd A7 acV
   have Q4:∀t∈o.looksAt l.toArray,g t=g2 t:=by
    intro t ht
    have q:=z.look t ht
    refine(hJ.eq t q.1 fun q' o' h1 h2 h3=>?_).symm
    rcases q.2 with h4|⟨j,sy,hj,GU,pB,sS, -⟩
    ·exact absurd h2<|h4 q' o' h1
    ·rw[uniq q' j o' sy t h1 pB h2 sS];exact wc j GU
   have VC:∀q,(L q||decide (q=i))=true→q≠i→L q=true:=fun q h4 l3=>by
    rcases amW.1 h4 with h4|h4
    ·exact h4
    ·exact absurd (by simpa using h4) l3
   have hLf:∀q,(L q||decide (q=i))=false→L q=false:=fun q h4=>by
    cases hq:L q with
    |false=>rfl
    |true=>simp[hq] at h4
   refine(hJ.vp i o d ho hd A7 nu w' g hJ.i Q4).mono ?_
   rintro CG mj ⟨rfl,rfl⟩
   refine⟨g2,V,⟨fun q o' h1 h2=>by rw[hJ.rd q o' h1 h2];rfl,fun t ht hq=>?_,fun q o' d' h1 h2 h3 h4=>hJ.vp q o' d' h1 h2 h3 (hLf q h4),hJ.i,?_,hJ.vx,fun q hq e he mJ p9=>by rw[hJ.vl q hq e he mJ p9];rfl,fun q hq m hm hx Ah=>hJ.vd q hq m hm hx (hLf m Ah)⟩,fun q hq hx Ah hr=>Ep q hq hx (hLf q Ah) fun e he mJ p9=>VC e (hr e he mJ p9) fun e'=>?_⟩
   ·rw[hd]
    show g2 t=cS g d (g2 d) t
    by_cases AX:t=d
    ·subst AX;rw[ij]
    ·rw[ik g _ AX]
     refine hJ.eq t ht fun q o' h1 h2 h3=>VC q (hq q o' h1 h2 h3) fun e=>?_
     subst e
     rw[ho] at h1;cases h1
     rw[hd] at h2;cases h2
     exact AX J
   ·rw[nm (L':=fun k=>L k||V k) l 0 fun k _ hk=>?_]
    ·exact hJ.we
    ·by_cases Ek:k=i
     ·subst Ek
      rcases A7 with h1|h1
      ·rw[h1] at hk;cases hk
      ·simp[h1]
     ·rw[alH Ek,amn]
   ·subst e'
    have:=acV mJ
    unfold sC at this
    rw[p9,aoq] at this;cases this
  cases wk:eD Ks i with
  |true=>
   have hb:∀e,e<i→eD Ks e=true→jF l e=false→L e=true:=fun e he mJ p9=>E8 hC l.length i e o ho wc<|z.ord wk e he mJ p9
   have Mg:sl o=jF l i:=by unfold jF;rw[ho]
   have hR:∀(q:Nat) (o':Oper),l[q]? =some o'→vU Ks q=true→L q=true:=fun q o' hq hk=>by
    have:=(hZ q o' hq).rd hk i iP wk
    exact E8 hC l.length i q o ho wc this
   rcases hJ with ⟨N,hJ⟩|⟨g2,V,hJ,Ep⟩
   ·have G0:jF l i=false:=by
     cases G0:jF l i with
     |false=>rfl
     |true=>
      obtain⟨-,e,he,mJ,p9⟩:=z.xd wk (by rw[Mg,G0])
      have h1:=hb e he mJ p9
      rw[hJ.no e ai mJ] at h1;cases h1
    obtain⟨g2,q1,q2,q3⟩:=VW kN hZ hF hJ hI hR dx l.length (alL _)
    have qz:∀t,Kn l Ks f E l.length g2 N w' t:=fun t=>⟨fun Dj=>by
      rw[q1 t fun q o' _ h1 h2 h3=>absurd h3 (by rw[Dj q o' h1 h2];decide)]
      exact hJ.off t Dj,fun q o' hq h1 h2 h3=>q3 q o' t hq h1 h2 h3⟩
    have hV:∀t,V8 l Ks l.length t:=fun t q o' h1 _ _=>(eW.1 h1).1
    have vW:=hK w' g2 N hJ.ext hJ.ni (fun d d' h1 h2 h3=>by
     obtain⟨p,o1,a1,a2,a3⟩:=zK d h1
     obtain⟨q,o2,b1,b2,b3⟩:=zK d' h2
     have e1:g2 d=g d:=q1 d fun q' o' _ c1 c2 _=>by rw[uniq q' p o' o1 d c1 a1 c2 a3];exact hR p o1 a1 (VH p a2)
     have e2:g2 d'=g d':=q1 d' fun q' o' _ c1 c2 _=>by rw[uniq q' q o' o2 d' c1 b1 c2 b3];exact hR q o2 b1 (VH q b2)
     rw[e1,e2]
     exact hJ.dis p q o1 o2 d d' (hR p o1 a1 (VH p a2)) (hR q o2 b1 (VH q b2)) (fun e=>h3 (by subst e;rw[a1] at b1;cases b1;rw[a3] at b3;exact alD b3)) a1 b1 a2 b2 a3 b3) (fun t ht=>(hL.is g2 N w' t (hV t) (qz t)).1 ht) (fun j t Φ hj=>(hL.is g2 N w' t (hV t) (qz t)).2 j Φ hj)
    have hJ2:J2 P n l Ks ae (fun f w=>Q .normal (bY n f) w) L g w' g2 (fun _=>false):=by
     refine⟨hR,fun t _ ht=>q1 t fun q o' _ h1 h2 h3=>ht q o' h1 h2 (.inl h3),fun q o' d h1 h2 h3=>q2 q o' d (eW.1 h1).1 h1 h2 (h3.resolve_right aJ),hI w' hJ.ext,?_,fun q hq=>(by cases hq),fun q hq=>(by cases hq),fun q hq=>(by cases hq)⟩
     rw[nm (L':=L) l 0 fun k _ _=>amn _]
     have:pR Ks L 0 l=Dv Ks l:=by
      rw[←C6 l 0 Ks rfl]
      refine nm l 0 fun k _ hk=>?_
      by_cases yG:k<l.length
      ·exact hJ.no k yG hk
      ·cases hLk:L k with
       |false=>rfl
       |true=>exact absurd (hLl k hLk) yG
     rw[this];exact vW
    have Ep:NF l Ks L (fun _=>false) l.length:=fun q hq hx _ hr=>by
     have Ef:eD Ks q=true∧jF l q=true:=by unfold sC at hx;rwa [cA] at hx
     have sR:l[q]? =some l[q]:=dW hq
     obtain⟨-,e,he,mJ,p9⟩:=(hZ q _ sR).xd Ef.1 (by have:=Ef.2;unfold jF at this;rwa [sR] at this)
     have h1:=hr e he mJ p9
     rw[hJ.no e ai mJ] at h1;cases h1
    exact(Pt kN hZ dx hJ2 Ep ho wk G0 nu hb wc).mono fun CG mj h=>⟨JT,.inr h⟩
   ·cases G0:jF l i with
    |false=>exact(Pt kN hZ dx hJ Ep ho wk G0 nu hb wc).mono fun CG mj h=>⟨JT,.inr h⟩
    |true=>
     obtain⟨⟨d,hd⟩, -⟩:=z.xd wk (by rw[Mg,G0])
     exact(late g2 V hJ Ep d hd (.inr (Ep i iP (by unfold sC;rw[wk,G0];rfl) nu hb))<|fun VJ=>by unfold sC;rw[G0,an6];exact VJ).mono fun CG mj h=>⟨JT,.inr h⟩
  |false=>
   obtain⟨d,hd⟩:=z.dst wk
   rcases hJ with ⟨N,hJ⟩|⟨g2,V,hJ,Ep⟩
   ·
    have qz:∀t∈o.looksAt l.toArray,Kn l Ks f E i g N w' t:=by
     intro t ht
     refine⟨hJ.off t,fun q o' hq h1 h2 h3=>?_⟩
     rcases (z.look t ht).2 with h4|⟨j,sy,hj,GU,pB,sS, -⟩
     ·exact absurd h2<|h4 q o' h1
     ·have QZ:=uniq q j o' sy t h1 pB h2 sS
      subst QZ
      exact hJ.yW q o' t (wc q GU) h1 h2 h3
    have fin:∀(v:Value) (w2:aI) (N':bT),Ext w' w2→ES w N' w2→(∀b,N b→N' b)→(∀b,N' b→N b∨w'.heap.size≤b)→mM E i N' v w2→
      (na Ks i=true→∀(q:Nat) (o':Oper) (d':Nat),L q=true→l[q]? =some o'→na Ks q=true→o'.dst=some d'→g d'≠v)→J1 l Ks w f E (fun k=>L k||decide (k=i)) (df g o.dst v) w2 N':=by
     intro v w2 N' hx hni hn1 hn2 hv JD
     have JS:∀q,(L q||decide (q=i))=true→q≠i→L q=true:=fun q h4 l3=>by
      rcases amW.1 h4 with h4|h4
      ·exact h4
      ·exact absurd (by simpa using h4) l3
     rw[hd]
     have Jt:∀(q:Nat) (o':Oper) (t:Nat),l[q]? =some o'→o'.dst=some t→q≠i→cS g d v t=g t:=fun q o' t h1 h2 l3=>ik g v<|fun e=>l3<|uniq q i o' o d h1 ho (by rw[h2,e]) hd
     refine⟨hni,fun p q o1 o2 d1 d2 hp hq xo a1 b1 a2 b2 a3 b3=>?_,fun e he mJ=>?_,hJ.ext.trans hx,fun t ht=>?_,fun q o' t hq h1 h2 h3=>?_⟩
     ·show cS g d v d1≠cS g d v d2
      by_cases Jn:p=i
      ·subst Jn
       have l3:q≠p:=fun e=>xo e.symm
       rw[ho] at a1;cases a1
       rw[hd] at a3;cases a3
       rw[ij,Jt q o2 d2 b1 b3 l3]
       exact fun e=>JD a2 q o2 d2 (JS q hq l3) b1 b2 b3 e.symm
      ·by_cases l3:q=i
       ·subst l3
        rw[ho] at b1;cases b1
        rw[hd] at b3;cases b3
        rw[ij,Jt p o1 d1 a1 a3 Jn]
        exact JD b2 p o1 d1 (JS p hp Jn) a1 a2 a3
       ·rw[Jt p o1 d1 a1 a3 Jn,Jt q o2 d2 b1 b3 l3]
        exact hJ.dis p q o1 o2 d1 d2 (JS p hp Jn) (JS q hq l3) xo a1 b1 a2 b2 a3 b3
     ·rw[hJ.no e he mJ,alH (fun e'=>by rw[e',wk] at mJ;cases mJ)];rfl
     ·show cS g d v t=f t
      rw[ik g v (fun e=>by have:=ht i o ho (by rw[hd,e]);rw[wk] at this;cases this)]
      exact hJ.off t ht
     ·by_cases l3:q=i
      ·subst l3
       rw[ho] at h1;cases h1
       rw[hd] at h2;cases h2
       show mM E q N' (cS g d v d) w2
       rw[ij];exact hv
      ·show mM E q N' (cS g d v t) w2
       rw[Jt q o' t h1 h2 l3]
       exact(hF q o' h1).mono.ext _ _ _ _ hx ((hF q o' h1).mono.grow _ _ _ _ hn1 hn2 (hJ.yW q o' t (JS q hq l3) h1 h2 h3))
    have ZY:∀w2,Ext w' w2→ES w N w2:=fun w2 hx b hb=>⟨(hJ.ni b hb).1,ams (hJ.ni b hb).2 hx.size⟩
    rcases (hF i o ho).go wk with ⟨hFR,hN, -⟩|⟨⟨X,hX,hFF⟩,hN⟩|⟨⟨zz,T,hX,hFN⟩,hN⟩
    ·refine(hFR g N w' hJ.ext hJ.ni qz).mono ?_
     rintro CG mj ⟨v,rfl,hx,hv⟩
     exact⟨JT,.inl ⟨N,fin v mj N hx (ZY mj hx) (fun _ h=>h) (fun _ h=>.inl h) hv fun h=>by rw[hN] at h;cases h⟩⟩
    ·refine(hFF g N w' w' (hI w' hJ.ext) qz).mono ?_
     rintro CG mj ⟨rfl,rfl⟩
     exact⟨JT,.inl ⟨N,fin X mj N (Ext.refl _) hJ.ni (fun _ h=>h) (fun _ h=>.inl h) (by rw[hX];rfl) fun h=>by rw[hN] at h;cases h⟩⟩
    ·refine(hFN g N w' hJ.ext qz).mono ?_
     rintro CG mj ⟨v,rfl,hx,b0,uf,qc,hb3⟩
     have aft:b0<mj.heap.size:=(amy.1 hb3).1
     refine⟨JT,.inl ⟨fun b=>N b∨b=b0,fin v mj _ hx (fun b hb=>?_) (fun _ h=>.inl h) (fun b hb=>?_) (by rw[hX];exact⟨b0,uf,Nat.le_trans hJ.ext.size qc,hb3,.inr rfl⟩) fun _ q o' d' JS h1 h2 h3 e=>?_⟩⟩
     ·rcases hb with hb|rfl
      ·exact ZY mj hx b hb
      ·exact⟨Nat.le_trans hJ.ext.size qc,aft⟩
     ·rcases hb with hb|rfl
      ·exact .inl hb
      ·exact .inr qc
     ·have hqE:eD Ks q=false:=by unfold na at h2;unfold eD;cases hq:ua Ks q<;>rw[hq] at h2<;>first|rfl|exact Bool.noConfusion h2
      rcases (hF q o' h1).go hqE with ⟨-,h9, -⟩|⟨-,h9⟩|⟨⟨z2,T2,hX2, -⟩, -⟩
      ·rw[h2] at h9;cases h9
      ·rw[h2] at h9;cases h9
      ·have:=hJ.yW q o' d' JS h1 h3 hqE
       rw[hX2] at this
       obtain⟨b1,c1, -,c3, -⟩:=this
       rw[c1,uf] at e
       have:b1=b0:=by
        have:=alB (fun v=>match v with|Value.pointer (some a)=>a.block|_=>0) e
        simpa using this
       have h7:=(amy.1 c3).1
       omega
   ·exact(late g2 V hJ Ep d hd (.inl wk)<|fun VJ=>by rw[wk] at VJ;cases VJ).mono fun CG mj h=>⟨JT,.inr h⟩
 ·rintro g w' ⟨-,hJ⟩
  have hz:pR Ks (fun k=>decide (k<l.length)) 0 l=[]:=C5 l 0 fun k _ hk=>by rw[alM ai]
  rcases hJ with ⟨N,hJ⟩|⟨g2,V,hJ, -⟩
  ·have qz:∀t,Kn l Ks f E l.length g N w' t:=fun t=>⟨hJ.off t,fun q o' hq h1 h2 h3=>hJ.yW q o' t (alM hq) h1 h2 h3⟩
   have hV:∀t,V8 l Ks l.length t:=fun t q o' h1 _ _=>(eW.1 h1).1
   have vW:=hK w' g N hJ.ext hJ.ni (fun d d' h1 h2 h3=>by
    obtain⟨p,o1,a1,a2,a3⟩:=zK d h1
    obtain⟨q,o2,b1,b2,b3⟩:=zK d' h2
    exact hJ.dis p q o1 o2 d d' (alM (eW.1 a1).1) (alM (eW.1 b1).1) (fun e=>h3 (by subst e;rw[a1] at b1;cases b1;rw[a3] at b3;exact alD b3)) a1 b1 a2 b2 a3 b3) (fun t ht=>(hL.is g N w' t (hV t) (qz t)).1 ht) (fun j t Φ hj=>(hL.is g N w' t (hV t) (qz t)).2 j Φ hj)
   have:Dv Ks l=[]:=by
    rw[←C6 l 0 Ks rfl,←hz]
    refine nm l 0 fun k _ hk=>?_
    by_cases yG:k<l.length
    ·have:=hJ.no k yG hk
     rw[alM yG] at this;cases this
    ·rw[alH yG]
   rw[this] at vW
   exact vW
  ·have vW:=hJ.we
   rw[C5 l 0 fun k _ hk=>by rw[alM ai];rfl] at vW
   have:bY n g2=bY n g:=by
    unfold bY
    congr 2
    funext t
    exact hJ.eq t t.2 fun q o h3 _ _=>alM (eW.1 h3).1
   have h9:Q .normal (bY n g2) w':=vW
   rwa [this] at h9
end
end Go.Ew
namespace Go.Ew
open Go.RowKit
variable {N:bT} {w:aI} {b:Nat}
def Lw:ZK→Bool
 | .r=>true
 | .s=>true
 |_=>false
def Ez (ops:Array Oper) (o:Oper) (ag:UN):Bool:=(o.looksAt ops).all (fun t=>!xh ag t)
def HH (ops:Array Oper) (o:Oper) (ag:UN) (d:Nat):Bool:=(o.looksAt ops).all (fun t=>Nat.beq t d||!xh ag t)&&(o.looksAt ops).contains d
theorem mN {Φ:Value→aI→Prop} (h:∀v w w',Ext w w'→Φ v w→Φ v w'):sM (fun _=>Φ):=⟨fun _ v w w'=>h v w w',fun _ _ _ _ _ _ h=>h⟩
theorem mE {Φ:Value→Prop}:sM (fun _ v _=>Φ v):=⟨fun _ _ _ _ _ h=>h,fun _ _ _ _ _ _ h=>h⟩
section
variable {P:Program} {n:Nat} {ops:Array Oper} {w0:aI} {ae:aI→Prop} {K:UN→aP→Prop} {f:aP} {rest:de} {zk:ZK} {ks:List ZK} {ag:UN} {o:Oper} {v X:Value} {Φ Ψ Ψ':PR} {d d1 d2:Nat}
theorem MB (h:Ez ops o ag=true) {g:aP} (ha:AgN (o.looksAt ops) ag f g N w):∀t∈o.looksAt ops,g t=f t:=by
 intro t ht
 have:=alK.1 h t ht
 exact(ha t ht).1 (by simpa using this)
theorem ye (h:PZ P n ops w0 ae K rest ks ag f):PZ P n ops w0 ae K (o::rest) (.e::ks) ag f:=h
theorem PZ.of (hz:Lw zk=true) (h:(∃X,GN P n ops w0 o ag f (eN X)∧PZ P n ops w0 ae K rest ks ag (df f o.dst X))∨(∃d Φ,o.dst=some d∧sM Φ∧GN P n ops w0 o ag f Φ∧PZ P n ops w0 ae K rest ks ((d,Φ)::ag) f)):PZ P n ops w0 ae K (o::rest) (zk::ks) ag f:=by
 cases zk with
 |r=>exact h
 |s=>exact h
 |f=>cases hz
 |e=>cases hz
 |n=>cases hz
theorem yz (h:K ag f):PZ P n ops w0 ae K [] ks ag f:=h
theorem yq (hz:Lw zk=true) (hf:(my n o&&Ez ops o ag)=true) (h:PW P n ops w0 (fun f'=>PZ P n ops w0 ae K rest ks ag f') [o] f):PZ P n ops w0 ae K (o::rest) (zk::ks) ag f:=by
 obtain⟨X,h1,h2⟩:=h
 rw[cA] at hf
 exact PZ.of hz<|.inl ⟨X,fun w g N hx _ ha=>SO.tK (R:=fun v w'=>v=X) ((h1 w hx).mono fun f' w' hq=>⟨X,hq.1,hq.2,J⟩) (hQ hf.1).1 (MB hf.2 ha) (hQ hf.1).2,h2⟩
theorem yu (hz:Lw zk=true) (Φ:PR) (hd:o.dst=some d) (hm:sM Φ) (hf:(my n o&&Ez ops o ag)=true) (h:∀w N,Ext w0 w→ES w0 N w→SO P n ops o f w (fun f' w'=>∃v,f'=df f o.dst v∧Ext w w'∧Φ N v w')) (r:PZ P n ops w0 ae K rest ks ((d,Φ)::ag) f):PZ P n ops w0 ae K (o::rest) (zk::ks) ag f:=by
 rw[cA] at hf
 exact PZ.of hz<|.inr ⟨d,Φ,hd,hm,fun w g N hx hn ha=>SO.tK (R:=fun v w'=>Φ N v w') (h w N hx hn) (hQ hf.1).1 (MB hf.2 ha) (hQ hf.1).2,r⟩
theorem Qh {j:Nat} (hU:ag[j]? =some (d,Ψ)) (h:HH ops o ag d=true) {g:aP} (ha:AgN (o.looksAt ops) ag f g N w):Ψ N (g d) w∧∀t∈o.looksAt ops,g t=cS f d (g d) t:=by
 unfold HH at h
 rw[cA] at h
 refine⟨(ha d<|amg.1 h.2).2 j Ψ hU,fun t ht=>?_⟩
 by_cases e:t=d
 ·subst e;exact(ij _ _ _).symm
 ·rw[ik _ _ e]
  have:=alK.1 h.1 t ht
  rcases amW.1 this with h1|h1
  ·exact absurd (amP h1) e
  ·exact(ha t ht).1 (by simpa using h1)
theorem O7 (hz:Lw zk=true) (j:Nat) (hU:ag[j]? =some (d,Ψ)) (hf:(my n o&&HH ops o ag d)=true) (h:∀w N v,Ext w0 w→ES w0 N w→Ψ N v w→SO P n ops o (cS f d v) w (fun f' w'=>f'=df (cS f d v) o.dst X∧Ext w w')) (r:PZ P n ops w0 ae K rest ks ag (df f o.dst X)):PZ P n ops w0 ae K (o::rest) (zk::ks) ag f:=by
 rw[cA] at hf
 refine PZ.of hz<|.inl ⟨X,fun w g N hx hn ha=>?_,r⟩
 obtain⟨h1,h2⟩:=Qh hU hf.2 ha
 exact SO.tK (R:=fun v w'=>v=X) ((h w N (g d) hx hn h1).mono fun f' w' hq=>⟨X,hq.1,hq.2,J⟩) (hQ hf.1).1 h2 (hQ hf.1).2
theorem z1 (hz:Lw zk=true) (Φ:PR) (j:Nat) (hU:ag[j]? =some (d,Ψ)) (hd:o.dst=some d2) (hm:sM Φ) (hf:(my n o&&HH ops o ag d)=true) (h:∀w N v,Ext w0 w→ES w0 N w→Ψ N v w→SO P n ops o (cS f d v) w (fun f' w'=>∃u,f'=df (cS f d v) o.dst u∧Ext w w'∧Φ N u w')) (r:PZ P n ops w0 ae K rest ks ((d2,Φ)::ag) f):PZ P n ops w0 ae K (o::rest) (zk::ks) ag f:=by
 rw[cA] at hf
 refine PZ.of hz<|.inr ⟨d2,Φ,hd,hm,fun w g N hx hn ha=>?_,r⟩
 obtain⟨h1,h2⟩:=Qh hU hf.2 ha
 exact SO.tK (R:=fun v w'=>Φ N v w') (h w N (g d) hx hn h1) (hQ hf.1).1 h2 (hQ hf.1).2
theorem e3 {f:aP}:f=f∧w=w:=⟨rfl,rfl⟩
theorem yn {z:Array Value} {T:TypeId} (hd:o.dst=some d) (hf:(my n o&&Ez ops o ag)=true) (h:∀w,SO P n ops o f w (fun f' w'=>∃v,f'=df f o.dst v∧Ext w w'∧KT z T w v w')) (r:PZ P n ops w0 ae K rest ks ((d,Hh w0 z T)::ag) f):PZ P n ops w0 ae K (o::rest) (.n::ks) ag f:=by
 rw[cA] at hf
 exact⟨d,z,T,hd,hf.2,fun w g hx ha=>SO.tK (R:=fun v w'=>KT z T w v w') (h w) (hQ hf.1).1 ha (hQ hf.1).2,r⟩
end
section
variable {P:Program} {n:Nat} {ops:Array Oper} {w w0:aI} {ae:aI→Prop} {f:aP} {o:Oper} {rest:de} {d:Nat} {T ty:TypeId} {ps:String} {af:Array Edge} {x:Operand} {v z:Value} {size bytes:Nat} {agg:Bool}
theorem alZ (F:fA P T size agg bytes z):SO P n ops ⟨some d,.alloc T,ty,ps,af,none⟩ f w (fun f' w'=>∃v,f'=df f (some d) v∧Ext w w'∧KT z.cells T w v w'):=
 SO.value (v:=.pointer (some ⟨w.heap.size,0,none⟩)) (w':=w.alloc (.cells z.cells T)) (by simp[execOp,Instr.alloc,F.zr,u5]) ⟨_,rfl,Ext.alloc w _,_,rfl,alL _,heap_alloc_new w _⟩
theorem vT {K:aP→aI→Prop} (h:SO P n ops o f w (fun f' w'=>WE P n ops (fun _=>True) K rest f' w')):WE P n ops (fun _=>True) K (o::rest) f w:=h.mono fun _ _ h=>⟨trivial,h⟩
theorem kz {K:aP→aI→Prop} (h:K f w):WE P n ops ae K [] f w:=h
end
section
variable {M0:bT} {Gf w w':aI} {l:List Item}
theorem HI.lays (H:HI M0 Gf w l) (x:Ext w w') (bs:List (Nat×Array Value×TypeId)) (hb:∀q∈bs,w.heap.size≤q.1∧w'.heap[q.1]? =some (.cells q.2.1 q.2.2 (0,0))) (hn:(bs.map (·.1)).Nodup):
  HI M0 Gf w' (bs.map (fun q=>box q.1 q.2.1 q.2.2)++l):=by
 have nM:∀q∈bs,q.1<w'.heap.size:=fun q hq=>(amy.1 (hb q hq).2).1
 have JB:(bs.map (fun q=>box q.1 q.2.1 q.2.2)).filterMap (·.jN)=bs.map (·.1):=by
  clear hb hn nM
  induction bs with
  |nil=>rfl
  |cons q bs ih=>simp only[amD,ame,ih];rfl
 refine⟨H.below.trans x,H.m0,?_,?_,?_⟩
 ·intro it hit b Bg
  rcases alR.1 hit with h|h
  ·obtain⟨q,hq,rfl⟩:=amx.1 h
   cases Bg
   exact⟨Nat.le_trans H.below.size (hb q hq).1,nM q hq⟩
  ·exact⟨(H.js it h b Bg).1,ams (H.js it h b Bg).2 x.size⟩
 ·rw[am1,JB,ang]
  refine⟨hn,H.nodup,?_⟩
  intro b uf c hc e
  subst e
  obtain⟨q,hq,rfl⟩:=amx.1 uf
  obtain⟨it,hit,Ac⟩:=al4.1 hc
  have:=(H.js it hit _ Ac).2
  have:=(hb q hq).1
  omega
 ·intro it hit
  rcases alR.1 hit with h|h
  ·obtain⟨q,hq,rfl⟩:=amx.1 h
   exact(hb q hq).2
  ·refine it.lift (H.all it h) ⟨x.size,fun c hc hM=>⟨x.block c hc,?_⟩⟩ fun c hc=>x.block c (H.js it h c hc).2
   rintro(JF|⟨j,hj,Cy⟩)
   ·exact hM<|.inl JF
   ·rcases alR.1 hj with hj|hj
    ·obtain⟨q,hq,rfl⟩:=amx.1 hj
     cases Cy
     have:=(hb q hq).1
     omega
    ·exact hM<|.inr ⟨j,hj,Cy⟩
end
def MN (M N:bT) (c:Nat):Prop:=M c∨N c
section
variable {α:Type} [GT α] {M N N':bT} {w0 w w':aI} {v:Value} {x:α}
theorem j4 (h:RV M w0 v x) (e:Ext w0 w) (hN:∀c,N c→w0.heap.size≤c∧c<w.heap.size):RV (MN M N) w v x:=
 h.lift ⟨e.size,fun c hc hn=>⟨e.block c hc,by
  rintro(h1|h1)
  ·exact hn h1
  ·have:=(hN c h1).1;omega⟩⟩
theorem gK (hM:∀b,M b→b<w0.heap.size) (e:Ext w0 w) (hN:∀c,N c→w0.heap.size≤c∧c<w.heap.size):∀b,MN M N b→b<w.heap.size:=by
 rintro b (h|h)
 ·exact ams (hM b h) e.size
 ·exact(hN b h).2
theorem SQ (h:RV (MN M N) w v x) (k:∀b,N' b→N b∨w.heap.size≤b):RV (MN M N') w v x:=
 h.lift ⟨alL _,fun c hc hn=>⟨rfl,by
  rintro(h1|h1)
  ·exact hn<|.inl h1
  ·rcases k c h1 with h2|h2
   ·exact hn<|.inr h2
   ·omega⟩⟩
end
def Sy (w0 w:aI) (N:bT) (bs:List (Nat×Array Value×TypeId)):Prop:=∀q∈bs,w0.heap.size≤q.1∧w.heap[q.1]? =some (.cells q.2.1 q.2.2 (0,0))∧N q.1
theorem bz0 {w0:aI}:Sy w0 w N []:=fun _ h=>by cases h
theorem bz1 {w0:aI} {bs:List (Nat×Array Value×TypeId)} {z:Array Value} {T:TypeId} (h1:w0.heap.size≤b) (h2:w.heap[b]? =some (.cells z T (0,0))) (h3:N b) (h:Sy w0 w N bs):Sy w0 w N ((b,z,T)::bs):=by
 intro q hq
 rcases alQ.1 hq with rfl|hq
 ·exact⟨h1,h2,h3⟩
 ·exact h q hq
theorem Za:b∉([]:List Nat):=by simp
theorem Zd:([]:List Nat).Nodup:=ans
theorem Zc {l:List Nat} (h:b∉l) (h1:l.Nodup):(b::l).Nodup:=amr.2 ⟨h,h1⟩
theorem HI.Of {M0:bT} {Gf w':aI} {l:List Item} {bs:List (Nat×Array Value×TypeId)} (H:HI M0 Gf w l) (x:Ext w w') (hb:Sy w w' N bs) (hn:(bs.map (·.1)).Nodup):HI M0 Gf w' (bs.map (fun q=>box q.1 q.2.1 q.2.2)++l):=
 H.lays x bs (fun q hq=>⟨(hb q hq).1,(hb q hq).2.1⟩) hn
theorem x8 {α:Type} [GT α] {M0 N:bT} {l:List Item} {w:aI} {v:Value} {x:α} (bs:List (Nat×Array Value×TypeId)) (h:RV (MN (MS M0 l) N) w v x) (hb:∀q∈bs,N q.1):RV (MS M0 (bs.map (fun q=>box q.1 q.2.1 q.2.2)++l)) w v x:=
 h.lift (Up.less fun c hc hn=>by
  rcases hn with h1|⟨it,hit,Ac⟩
  ·exact .inl (.inl h1)
  ·rcases alR.1 hit with h2|h2
   ·obtain⟨q,hq,rfl⟩:=amx.1 h2
    cases Ac
    exact .inr (hb q hq)
   ·exact .inl (.inr ⟨it,h2,Ac⟩))
theorem SP {α:Type} [GT α] {M0 N:bT} {l:List Item} {w0 w:aI} {v:Value} {x:α} {bs:List (Nat×Array Value×TypeId)} (h:RV (MN (MS M0 l) N) w v x) (hb:Sy w0 w N bs):RV (MS M0 (bs.map (fun q=>box q.1 q.2.1 q.2.2)++l)) w v x:=
 x8 bs h fun q hq=>(hb q hq).2.2
end Go.Ew
namespace Go.Ew
open Go.RowKit Go.IntWalk
theorem ieq {v:Value} {kk:IntKind} {a b:Int} (h:v=.int kk a) (e:a=b):v=.int kk b:=e▸h
theorem UP {v:Value} {a b:bG} (h:v=ag a) (e:a=b):v=ag b:=e▸h
theorem fE {b:Bool} (h:(!b)=true):b=false:=by cases b<;>simp_all
theorem fF {b:Bool} (h:(!b)=false):b=true:=by cases b<;>simp_all
theorem gq.ext {α:Type} [GT α] {M:bT} {w w':aI} {ad:Addr} {x:α} (h:gq M w ad x) (e:Ext w w'):gq M w' ad x:=by
 obtain⟨cs,h1,h2⟩:=h
 refine⟨cs,GT.lift h1 (Up.ext e),fun j v hv=>?_⟩
 have hc:=h2 j v hv
 exact(World.cell?_of_block<|e.block _<|nk hc).trans hc
theorem DT {α:Type} [GT α] (M:bT) (w:aI):RS M w (.slice none 0 0) ([]:List α):=⟨none,0,0,rfl,rfl,alL _,by simp[maxLen],.inl rfl⟩
theorem lC {α:Type} [GT α] (M:bT) (w:aI):RV M w (.slice none 0 0) ([]:List α):=RV.list.2 (DT M w)
theorem dY {M0:bT}:MS M0 []=M0:=by funext b;simp[MS]
class Flat (α:Type) [GT α]:Prop where
 flat:∀{M w M' w' cs} {x:α},GT.rep M w cs x→GT.rep M' w' cs x
instance :Flat Int:=⟨fun h=>h⟩
instance :Flat bG:=⟨fun h=>h⟩
instance :Flat (BitVec 8):=⟨fun h=>h⟩
instance :Flat Bool:=⟨fun h=>h⟩
instance :Flat fO:=⟨fun h=>h⟩
instance {α β:Type} [GT α] [GT β] [Flat α] [Flat β]:Flat (α×β):=⟨fun h=>by
 obtain⟨c1,c2,h0,h1,h2⟩:=h
 exact⟨c1,c2,h0,Flat.flat h1,Flat.flat h2⟩⟩
theorem cb.flat {α:Type} [GT α] [Flat α] {M M':bT} {w w':aI}:∀{xs:List α} {cs:List Value},cb M w cs xs→cb M' w' cs xs
 |[],_,h=>h
 |x::xs,cs,⟨c1,c2,h1,h2,h3⟩=>⟨c1,c2,h1,Flat.flat h2,cb.flat h3⟩
section
variable {M0:bT} {w0 w w':aI} {l l':List Item} {α:Type} [GT α] {v:Value} {xs:List α} {x:α} {e:TypeId} {ad:Addr}
theorem HI.rv (H:HI M0 w0 w l) (i:Nat) (hi:l[i]? =some (xl v x)):RV (MS M0 l) w v x:=H.at_ i hi
theorem HI.wK (H:HI M0 w0 w l) (i:Nat) (hi:l[i]? =some (lq ad x)):At (MS M0 l) w ad x:=H.at_ i hi
theorem HI.jn (H:HI M0 w0 w l) (i:Nat) (hi:l[i]? =some (xl v x)):RV M0 w v x:=(H.rv i hi).lift H.out
theorem HI.dV (H:HI M0 w0 w l) (i:Nat) (hi:l[i]? =some (own w0.heap.size e v xs)):RV M0 w v xs:=H.Xb i hi (fun _ _ _ _=>trivial)
theorem xc {β γ:Type} (g:β→Option γ):∀(is:List β),is.Nodup→(∀i∈is,∀j∈is,∀b,g i=some b→g j=some b→i=j)→(is.filterMap g).Nodup
 |[],_,_=>ans
 |i::is,hn,hg=>by
  have Q2:=amr.1 hn
  have ih:=xc g is Q2.2<|fun a ha b hb=>hg a (alV _ ha) b<|alV _ hb
  rw[ame]
  cases hgi:g i with
  |none=>exact ih
  |some b=>
   refine amr.2 ⟨fun hm=>?_,ih⟩
   obtain⟨j,hj,hgj⟩:=al4.1 hm
   have:=hg i (al5) j (alV _ hj) b hgi hgj
   exact Q2.1<|this▸hj
theorem HI.c_ (H:HI M0 w0 w l) (is:List Nat) (hn:is.Nodup) (he:is.filterMap (fun i=>l[i]?)=l'):HI M0 w0 w l':=by
 subst he
 refine H.pick _ (fun it hit=>?_) ?_
 ·obtain⟨i,_,hi⟩:=al4.1 hit
  exact eh hi
 ·rw[List.filterMap_filterMap]
  refine xc _ is hn fun i _ j _ b hi hj=>?_
  obtain⟨a,ha,mK⟩:=aor.1 hi
  obtain⟨c,hc,hcb⟩:=aor.1 hj
  exact gj (·.jN) l H.nodup i j a c ha hc (by rw[mK];rfl)<|by rw[mK,hcb]
end
theorem gp.rest {P:Program} {n:Nat} {l:de} {k:Nat} {Φ:List (Value→aI→Prop)} {f0:aP} {w0:aI} {i:Nat} (h:Nat.ble k i=true):∀r,gp P n l k Φ f0 w0 i r:=by
 intro r
 induction r generalizing i with
 |nil=>trivial
 |cons o r ih=>
  refine⟨fun hb=>?_,ih ?_⟩
  ·simp at h hb;omega
  ·simp at h ⊢;omega
theorem abW.rv {α:Type} [GT α] {e:TypeId} {w w':aI} {xs:List α} {v:Value} {M:bT} (h:abW e w xs v w') (hM:∀b,M b→b<w.heap.size):RV M w' v xs:=by
 obtain⟨_,hb,ho⟩:=h
 refine yf ho (fun b _ Af=>.inl (hM b Af))<|fun b uP hMb=>?_
 obtain⟨cs,h1,_⟩:=ho
 have:=(h1.lt b uP).1
 have:=hM b hMb
 omega
section
variable {P:Program} {n:Nat} {fn:Func} {R:Value→aI→Prop} {f:aP} {w w0:aI} {M0:bT} {l:List Item} {agg:Bool} {bytes:Nat} {z:Value} {k:Nat}
theorem nd {t:Nat} (h:Nat.blt t n=true):(bY n f).tmps.getD t undef=f t:=zh h
theorem qm {T:TypeId} {b:Nat} {cs:Array Value} {ty:TypeId} (H:HI M0 w0 w l) (i:Nat) (hi:l[i]? =some (box b cs ty)) (F:fA P T k agg bytes z) (hk:agg=false→k=1) (hl:((cs.toList.drop 0).take k).length=k):
  (loadVar T ⟨b,0,none⟩).run P w=.ok (pW agg ((cs.toList.drop 0).take k)) w:=by
 have hb:w.heap[b]? =some (.cells cs ty (0,0)):=H.at_ i hi
 refine pe F hk hl fun j u hu=>?_
 rw[show (⟨b,0,none⟩:Addr).add j=⟨b,j,none⟩ from by unfold Addr.add;split<;>simp_all,cell_of_row w b j cs ty (0,0) hb]
 have hj:j<k:=by
  have:=(eW.1 hu).1
  omega
 rw[amh,alE hj,amI] at hu
 simpa using hu
theorem vI {T:TypeId} {b:Nat} {cs:Array Value} {ty:TypeId} {p:Nat} (H:HI M0 w0 w l) (i:Nat) (hi:l[i]? =some (box b cs ty)) (F:fA P T k agg bytes z) (hr:fn.results=#[.cell p T]) (hp:Nat.blt p n=true) (hx:f p=.pointer (some ⟨b,0,none⟩)) (hl:((cs.toList.drop 0).take k).length=k) (hk:agg=false→k=1)
  (h:R (pW agg ((cs.toList.drop 0).take k)) w):qO P n fn R .ret (bY n f) w:=by
 refine⟨f,J,_,?_,h⟩
 have h:=qm (P:=P) H i hi F hk hl
 have h0:(bY n f).tmps.getD p undef=.pointer (some ⟨b,0,none⟩):=by rw[nd hp,hx]
 simp only[results,hr,anS]
 simp only[aoo,aow]
 simp[h,h0,asAddr]
theorem iS {T:TypeId} {b:Nat} {cs:Array Value} {ty:TypeId} {p t:Nat} (H:HI M0 w0 w l) (i:Nat) (hi:l[i]? =some (box b cs ty)) (F:fA P T k agg bytes z) (hr:fn.results=#[.cell p T,.tmp t]) (hp:Nat.blt p n=true) (ht:Nat.blt t n=true) (hx:f p=.pointer (some ⟨b,0,none⟩)) (hl:((cs.toList.drop 0).take k).length=k) (hk:agg=false→k=1)
  (h:R (.tuple #[pW agg ((cs.toList.drop 0).take k),f t]) w):qO P n fn R .ret (bY n f) w:=by
 refine⟨f,J,_,?_,h⟩
 have h:=qm (P:=P) H i hi F hk hl
 have h0:(bY n f).tmps.getD p undef=.pointer (some ⟨b,0,none⟩):=by rw[nd hp,hx]
 have h2:=nd (f:=f) ht
 simp only[results,hr,anS]
 simp only[aoo,aow]
 simp[h,h0,asAddr,h2]
theorem rc4 {T:TypeId} {b:Nat} {cs:Array Value} {ty:TypeId} {p t t2 t3:Nat} (H:HI M0 w0 w l) (i:Nat) (hi:l[i]? =some (box b cs ty)) (F:fA P T k agg bytes z) (hr:fn.results=#[.cell p T,.tmp t,.tmp t2,.tmp t3]) (hp:Nat.blt p n=true) (ht:Nat.blt t n=true) (ZB:Nat.blt t2 n=true) (ZA:Nat.blt t3 n=true) (hx:f p=.pointer (some ⟨b,0,none⟩)) (hl:((cs.toList.drop 0).take k).length=k) (hk:agg=false→k=1)
  (h:R (.tuple #[pW agg ((cs.toList.drop 0).take k),f t,f t2,f t3]) w):qO P n fn R .ret (bY n f) w:=by
 refine⟨f,J,_,?_,h⟩
 have h:=qm (P:=P) H i hi F hk hl
 have h0:(bY n f).tmps.getD p undef=.pointer (some ⟨b,0,none⟩):=by rw[nd hp,hx]
 have h2:=nd (f:=f) ht
 have h3:=nd (f:=f) ZB
 have h4:=nd (f:=f) ZA
 simp only[results,hr,anS]
 simp only[aoo,aow]
 simp[h,h0,asAddr,h2,h3,h4]
theorem r3 {t t2 t3:Nat} (hr:fn.results=#[.tmp t,.tmp t2,.tmp t3]) (ht:Nat.blt t n=true) (ZB:Nat.blt t2 n=true) (ZA:Nat.blt t3 n=true)
  (h:R (.tuple #[f t,f t2,f t3]) w):qO P n fn R .ret (bY n f) w:=by
 refine⟨f,J,_,?_,h⟩
 have h2:=nd (f:=f) ht
 have h3:=nd (f:=f) ZB
 have h4:=nd (f:=f) ZA
 simp only[results,hr,anS]
 simp only[aoo,aow]
 simp[h2,h3,h4]
end
theorem WH {α:Type} [GT α] {M:bT} {w:aI} {a:Option Addr} {n c:Nat} {xs:List α} (h:RV M w (.slice a n c) xs) (ha:a.isNone=true):xs=[]:=by
 cases a with
 |some _=>cases ha
 |none=>
  obtain⟨a,m,c',e,h2, -, -,h5⟩:=RV.list.1 h
  injection e with e1 e2 e3
  subst e1
  rcases h5 with h5|⟨ad,h5, -⟩
  ·exact anL.1<|h2.trans h5
  ·cases h5
end Go.Ew
