/- Engine, part A: a frame's temporaries as a function; single operations in continuation form; regions, loops, cuts. Independent of any program. -/
import Derived.WalkKit
import Derived.Deep.LoopGhost
import Derived.Maps.AppendAt
import Derived.ProofKit
import Derived.OpenShut
import Derived.ReadAgain
import Derived.ChangeStays
import Derived.Below
import Derived.ChangeSame
import Derived.ArgAppend
import Derived.Laws.CopyRow
set_option linter.unusedVariables false
set_option linter.unusedSimpArgs false
namespace Go.Ew
theorem gE_ {α : Type} {l : List α} {i : Nat} (h : i < l.length) : l[i]? = some l[i] := List.getElem?_eq_getElem h
theorem gD_ {α : Type} {l : List α} {i : Nat} {a : α} : l.getD i a = (l[i]?).getD a := List.getD_eq_getElem?_getD
theorem gS_ {α : Type} {l : List α} {i : Nat} {a : α} : l[i]? = some a ↔ ∃ h : i < l.length, l[i] = a := List.getElem?_eq_some_iff
theorem mG_ {α : Type} {l : List α} {i : Nat} {a : α} (h : l[i]? = some a) : a ∈ l := List.mem_of_getElem? h
theorem bA_ (a b : Bool) : ((a && b) = true) = (a = true ∧ b = true) := Bool.and_eq_true a b
theorem tN_ (n : Nat) : (n : Int).toNat = n := Int.toNat_natCast n
theorem lA_ {α : Type} {a b : List α} : (a ++ b).length = a.length + b.length := List.length_append
theorem lR_ {α : Type} {n : Nat} {a : α} : (List.replicate n a).length = n := List.length_replicate
theorem lT_ {α : Type} {i : Nat} {l : List α} : (l.take i).length = min i l.length := List.length_take
theorem aR_ {α : Type} {a b : List α} {n : Nat} (h : a.length ≤ n) : (a ++ b)[n]? = b[n - a.length]? := List.getElem?_append_right h
theorem lC_ {α : Type} {a : α} {l : List α} : (a :: l).length = l.length + 1 := List.length_cons
theorem lN_ {α : Type} : ([] : List α).length = 0 := List.length_nil
theorem aL_ {α : Type} {a b : List α} {n : Nat} (h : n < a.length) : (a ++ b)[n]? = a[n]? := List.getElem?_append_left h
open Go.RowKit
abbrev Slots := Nat → Value
def upd (f : Slots) (d : Nat) (v : Value) : Slots := fun t => bif Nat.beq t d then v else f t
def updO (f : Slots) : Option Nat → Value → Slots
 | some d, v => upd f d v
 | none, _ => f
def acts (n : Nat) (f : Slots) : Act := ⟨Array.ofFn (fun i : Fin n => f i), []⟩
def ev (f : Slots) : Operand → Value
 | .tmp t => f t
 | .const v => v
 | .global g => .pointer (some ⟨g, 0, none⟩)
 | .func k => .func (.func k) #[] #[]
def okT (n : Nat) : Operand → Bool
 | .tmp t => Nat.blt t n
 | _ => true
theorem eval_acts {n : Nat} {f : Slots} {x : Operand} (h : okT n x = true) : (acts n f).eval x = ev f x := by
 cases x with
 | tmp t =>
  simp only [okT, Nat.blt_eq] at h
  simp [Act.eval, acts, ev, h]
 | _ => rfl
theorem upd_same (f : Slots) (d : Nat) (v : Value) : upd f d v d = v := by simp [upd]
theorem upd_ne (f : Slots) {d t : Nat} (v : Value) (h : t ≠ d) : upd f d v t = f t := by
 have : Nat.beq t d = false := by
  cases hb : Nat.beq t d with
  | false => rfl
  | true => exact absurd (Nat.eq_of_beq_eq_true hb) h
 simp only [upd, this, cond_false]
theorem put_acts (n : Nat) (f : Slots) (d : Option Nat) (v : Value) : (acts n f).put d v = acts n (updO f d v) := by
 cases d with
 | none => rfl
 | some d =>
  simp only [Act.put, acts, updO, Act.mk.injEq, and_true]
  apply Array.ext
  ·simp
  ·intro i h1 h2
   simp only [Array.size_ofFn] at h2
   by_cases hi : i = d
   ·subst hi
    simp [upd]
   ·rw [Array.getElem_setIfInBounds_ne (by simpa using h2) (by omega)]
    simp only [Array.getElem_ofFn]
    exact (upd_ne f v hi).symm
theorem acts_of (n : Nat) (tmps : Array Value) (h : tmps.size = n) : (⟨tmps, []⟩ : Act) = acts n (fun t => tmps.getD t undef) := by
 simp only [acts, Act.mk.injEq, and_true]
 apply Array.ext
 ·simp [h]
 ·intro i h1 h2
  simp [h1]
def gdst (ops : Array Oper) (j : Nat) : Option Nat := (ops[j]?).bind (·.dst)
theorem yielded_acts {n : Nat} {f : Slots} {ops : Array Oper} {j t : Nat} {b : Bool} (h : gdst ops j = some t) (ht : Nat.blt t n = true) (hv : f t = .bool b) :
  yielded ops (acts n f).tmps j = some b := by
 simp only [Nat.blt_eq] at ht
 unfold gdst at h
 simp [yielded, h, acts, ht, hv]
def SO (P : Program) (n : Nat) (ops : Array Oper) (o : Oper) (f : Slots) (w : World) (K : Slots → World → Prop) : Prop :=
 ∀ (Q : Exit → Act → World → Prop) (rest : List Oper), (∀ f' w', K f' w' → wpList P ops Q rest (acts n f') w') → wpList P ops Q (o :: rest) (acts n f) w
theorem SO.mono {P : Program} {n : Nat} {ops : Array Oper} {o : Oper} {f : Slots} {w : World} {K K' : Slots → World → Prop} (h : SO P n ops o f w K) (hk : ∀ f' w', K f' w' → K' f' w') : SO P n ops o f w K' :=
 fun Q rest hr => h Q rest fun f' w' hK => hr f' w' (hk f' w' hK)
section
variable {P : Program} {n : Nat} {ops : Array Oper} {f : Slots} {w : World} {K : Slots → World → Prop} {Q : Exit → Act → World → Prop} {rest : List Oper} {o : Oper}
theorem SO.value {d : Option Nat} {op : Op} {ty : TypeId} {ps : String} {af : Array Edge} {v : Value} {w' : World}
  (hr : (execOp (acts n f).eval ⟨d, op, ty, ps, af, none⟩).run P w = .ok (.value v) w') (h : K (updO f d v) w') : SO P n ops ⟨d, op, ty, ps, af, none⟩ f w K := by
 intro Q rest hk
 refine wpList_plain rfl fun K' hK' => ?_
 simp only [Oper.wp, hr, Oper.upon]
 rw [put_acts]
 exact hK' _ _ (hk _ _ h)
theorem SO.skip {d : Option Nat} {op : Op} {ty : TypeId} {ps : String} {af : Array Edge} {w' : World}
  (hr : (execOp (acts n f).eval ⟨d, op, ty, ps, af, none⟩).run P w = .ok .skip w') (h : K (updO f d undef) w') : SO P n ops ⟨d, op, ty, ps, af, none⟩ f w K := by
 intro Q rest hk
 refine wpList_plain rfl fun K' hK' => ?_
 simp only [Oper.wp, hr, Oper.upon]
 rw [put_acts]
 exact hK' _ _ (hk _ _ h)
theorem SO.enter {d : Option Nat} {op : Op} {ty : TypeId} {ps : String} {af : Array Edge} {g : FuncId} {args : Array Value} {w' : World}
  (hr : (execOp (acts n f).eval ⟨d, op, ty, ps, af, none⟩).run P w = .ok (.enter g args) w')
  (h : Calls P g args w' fun e w'' => ∃ v, e = .returned v ∧ K (updO f d v) w'') : SO P n ops ⟨d, op, ty, ps, af, none⟩ f w K := by
 intro Q rest hk
 refine wpList_plain rfl fun K' hK' => ?_
 simp only [Oper.wp, hr, Oper.upon]
 refine h.mono ?_
 rintro e w'' ⟨v, rfl, hv⟩
 show K' ((acts n f).put d v) w''
 rw [put_acts]
 exact hK' _ _ (hk _ _ hv)
theorem gy {d : Option Nat} {op : Op} {ty : TypeId} {ps : String} {af : Array Edge} {j t : Nat} {want b : Bool}
  (hj : gdst ops j = some t) (ht : Nat.blt t n = true) (hv : f t = .bool b) (hb : b = want)
  (h : SO P n ops ⟨d, op, ty, ps, af, none⟩ f w K) : SO P n ops ⟨d, op, ty, ps, af, some (j, want)⟩ f w K := by
 subst hb
 intro Q rest hk
 have h1 := h Q rest hk
 have hy := yielded_acts (n := n) hj ht hv
 unfold wpList at h1 ⊢
 rw [if_pos (by simp [Region.wanted])] at h1
 rw [if_pos (by simp [Region.wanted, hy])]
 exact h1
theorem gn {d : Option Nat} {op : Op} {ty : TypeId} {ps : String} {af : Array Edge} {j t : Nat} {want b : Bool}
  (hj : gdst ops j = some t) (ht : Nat.blt t n = true) (hv : f t = .bool b) (hb : b = !want)
  (h : K (updO f d undef) w) : SO P n ops ⟨d, op, ty, ps, af, some (j, want)⟩ f w K := by
 subst hb
 intro Q rest hk
 have hy := yielded_acts (n := n) hj ht hv
 unfold wpList
 rw [if_neg (by simp [Region.wanted, hy])]
 rw [put_acts]
 exact hk _ _ h
def WL (P : Program) (n : Nat) (ops : Array Oper) (Q : Exit → Act → World → Prop) : List Oper → Slots → World → Prop
 | l, f, w => wpList P ops Q l (acts n f) w
def WC (P : Program) (n : Nat) (c : Code) (Q : Exit → Act → World → Prop) (f : Slots) (w : World) : Prop := c.wp P Q (acts n f) w
theorem k (h : SO P n ops o f w (WL P n ops Q rest)) : WL P n ops Q (o :: rest) f w := h Q rest fun _ _ h => h
theorem z (h : Q .normal (acts n f) w) : WL P n ops Q [] f w := wpList_nil (P := P) (ops := ops) h
theorem rg {id : Nat} {l : List Oper} (h : WL P n l.toArray Q l f w) : WC P n (.region id l.toArray false) Q f w := wp_region_lit h
theorem sq {x y : Code} (h : WC P n x (Exit.then (fun a w => y.wp P Q a w) Q) f w) : WC P n (.seq x y) Q f w := wp_seq h
theorem nx {y : Code} (h : WC P n y Q f w) : Exit.then (fun a w => y.wp P Q a w) Q .normal (acts n f) w := h
theorem sk (h : Q .normal (acts n f) w) : WC P n .skip Q f w := wp_skip h
theorem rt (h : Q .ret (acts n f) w) : WC P n .ret Q f w := wp_ret h
theorem ex {id : Nat} (h : Q (.exit id) (acts n f) w) : WC P n (.exit id) Q f w := wp_exit h
theorem bk {id : Nat} {c : Code} (h : WC P n c (Exit.inBlock id Q) f w) : WC P n (.block id c) Q f w := wp_block h
theorem inb_normal {id : Nat} {a : Act} (h : Q .normal a w) : Exit.inBlock id Q .normal a w := h
theorem inb_ret {id : Nat} {a : Act} (h : Q .ret a w) : Exit.inBlock id Q .ret a w := h
theorem inb_here {id : Nat} {a : Act} (h : Q .normal a w) : Exit.inBlock id Q (.exit id) a w := by
 show (if id = id then _ else _); rw [if_pos rfl]; exact h
theorem then_ret {next : Act → World → Prop} {a : Act} (h : Q .ret a w) : Exit.then next Q .ret a w := h
theorem then_exit {next : Act → World → Prop} {id : Nat} {a : Act} (h : Q (.exit id) a w) : Exit.then next Q (.exit id) a w := h
theorem cd {c : Operand} {x y : Code} {b : Bool} (hc : okT n c = true) (hv : ev f c = .bool b) (ht : b = true → WC P n x Q f w) (hf : b = false → WC P n y Q f w) : WC P n (.cond c x y) Q f w :=
 wp_cond_split (by rw [eval_acts hc, hv]) ht hf
theorem cdT {c : Operand} {x y : Code} {b : Bool} (hc : okT n c = true) (hv : ev f c = .bool b) (hb : b = true) (h : WC P n x Q f w) : WC P n (.cond c x y) Q f w :=
 wp_cond_true (by rw [eval_acts hc, hv, hb]) h
theorem cdF {c : Operand} {x y : Code} {b : Bool} (hc : okT n c = true) (hv : ev f c = .bool b) (hb : b = false) (h : WC P n y Q f w) : WC P n (.cond c x y) Q f w :=
 wp_cond_false (by rw [eval_acts hc, hv, hb]) h
def cutQ (n : Nat) (R : Slots → World → Prop) (Q : Exit → Act → World → Prop) : Exit → Act → World → Prop
 | .normal, a, w => ∃ f, a = acts n f ∧ R f w
 | e, a, w => Q e a w
theorem cut {x y : Code} (R : Slots → World → Prop) (h : WC P n x (cutQ n R Q) f w) (h2 : ∀ f' w', R f' w' → WC P n y Q f' w') : WC P n (.seq x y) Q f w := by
 refine wp_seq (wp_mono h ?_)
 intro e a w' hq
 cases e with
 | normal => obtain ⟨f', rfl, hR⟩ := hq; exact h2 f' w' hR
 | _ => exact hq
theorem cutN {R : Slots → World → Prop} (h : R f w) : cutQ n R Q .normal (acts n f) w := ⟨f, rfl, h⟩
def loopQ (n : Nat) (I : Nat → Slots → World → Prop) (m : Nat) (Q : Exit → Act → World → Prop) : Exit → Act → World → Prop
 | .normal, a, w => ∃ f m', a = acts n f ∧ m' < m ∧ I m' f w
 | e, a, w => Q e a w
theorem lp {c : Code} (I : Nat → Slots → World → Prop) (m0 : Nat) (h0 : I m0 f w)
  (hr : ∀ m f w, I m f w → WC P n c (loopQ n I m Q) f w) : WC P n (.loop c) Q f w := by
 have key : ∀ m, ∀ f w, I m f w → ∀ b k cs,
   ∃ e a' w', Q e a' w' ∧ Arrives P (lone (b.at (acts n f) (.code c :: .inLoop c :: k)) cs w) b k cs e a' w' := by
  intro m
  induction m using Nat.strongRecOn with
  | _ m ih =>
   intro f w hI b k cs
   obtain ⟨e, a₁, w₁, hq, harr⟩ := hr m f w hI b (.inLoop c :: k) cs
   cases e with
   | normal =>
    obtain ⟨f', m', rfl, hlt, hI'⟩ := hq
    obtain ⟨e₂, a₂, w₂, hq₂, harr₂⟩ := ih m' hlt f' w₁ hI' b k cs
    exact ⟨e₂, a₂, w₂, hq₂, .of_steps (Steps.trans harr (.one step_inLoop)) harr₂⟩
   | exit id => exact ⟨_, a₁, w₁, hq, .pass (x := .inLoop c) rfl (fun _ _ => .inl (by simp)) harr⟩
   | goto l => exact ⟨_, a₁, w₁, hq, .pass (x := .inLoop c) rfl (fun _ _ => .inl (by simp)) harr⟩
   | ret => exact ⟨_, a₁, w₁, hq, .pass (x := .inLoop c) rfl (fun _ _ => .inl (by simp)) harr⟩
   | panic ch => exact ⟨_, a₁, w₁, hq, .pass (x := .inLoop c) rfl (fun _ _ => .inl (by simp)) harr⟩
   | outgrown => exact ⟨_, a₁, w₁, hq, .pass (x := .inLoop c) rfl (fun _ _ => .inl (by simp)) harr⟩
 intro b k cs
 obtain ⟨e, a', w', hq, harr⟩ := key m0 f w h0 b k cs
 exact ⟨e, a', w', hq, .of_steps (.one step_loop) harr⟩
theorem loopN {I : Nat → Slots → World → Prop} {m : Nat} (m' : Nat) (hm : m' < m) (h : I m' f w) : loopQ n I m Q .normal (acts n f) w := ⟨f, m', rfl, hm, h⟩
theorem loop_ret {I : Nat → Slots → World → Prop} {m : Nat} {a : Act} (h : Q .ret a w) : loopQ n I m Q .ret a w := h
theorem loop_exit {I : Nat → Slots → World → Prop} {m : Nat} {a : Act} {id : Nat} (h : Q (.exit id) a w) : loopQ n I m Q (.exit id) a w := h
end
def retQ (P : Program) (n : Nat) (fn : Func) (R : Value → World → Prop) : Exit → Act → World → Prop
 | .normal, a, w | .ret, a, w => ∃ f, a = acts n f ∧ ∃ v, (results fn (acts n f).tmps).run P w = .ok v w ∧ R v w
 | _, _, _ => False
def Ret (R : Value → World → Prop) : Ending → World → Prop := fun e w => ∃ v, e = .returned v ∧ R v w
theorem enter {P : Program} {g : FuncId} {fn : Func} {c : Code} {args : Array Value} {w : World} {R : Value → World → Prop} (n : Nat)
  (hf : P.funcs[g]? = some fn) (hb : fn.body = some c) (hn : fn.ntmps = n) (ha : Nat.ble args.size n = true)
  (h : ∀ f : Slots, (∀ i, (_ : i < args.size) → f i = args[i]) → WC P n c (retQ P n fn R) f w) : Calls P g args w (Ret R) := by
 refine calls_of_wp hf hb ?_
 subst hn
 simp only [Nat.ble_eq] at ha
 rw [acts_of fn.ntmps (args ++ Array.replicate (fn.ntmps - args.size) undef) (by simp; omega)]
 have h1 := h (fun t => (args ++ Array.replicate (fn.ntmps - args.size) undef).getD t undef) (fun i hi => by
  simp [Array.getElem?_append_left, hi])
 refine wp_mono h1 ?_
 intro e a w' hq
 cases e with
 | normal => obtain ⟨f', rfl, v, h1, h2⟩ := hq; exact ⟨rfl, v, h1, v, rfl, h2⟩
 | ret => obtain ⟨f', rfl, v, h1, h2⟩ := hq; exact ⟨rfl, v, h1, v, rfl, h2⟩
 | _ => exact hq.elim
section
variable {P : Program} {n : Nat} {fn : Func} {R : Value → World → Prop} {f : Slots} {w : World}
theorem tmp_acts {t : Nat} (h : Nat.blt t n = true) : (acts n f).tmps.getD t undef = f t := by
 simp only [Nat.blt_eq] at h
 simp [acts, h]
theorem r1 {t : Nat} (hr : fn.results = #[.tmp t]) (ht : Nat.blt t n = true) (h : R (f t) w) : retQ P n fn R .ret (acts n f) w :=
 ⟨f, rfl, f t, by rw [results_tmp hr, tmp_acts ht], h⟩
theorem r2 {t u : Nat} (hr : fn.results = #[.tmp t, .tmp u]) (ht : Nat.blt t n = true) (hu : Nat.blt u n = true) (h : R (.tuple #[f t, f u]) w) : retQ P n fn R .ret (acts n f) w :=
 ⟨f, rfl, _, by rw [results_tmp2 hr, tmp_acts ht, tmp_acts hu], h⟩
theorem r0n (hr : fn.results = #[]) (h : R (.tuple #[]) w) : retQ P n fn R .normal (acts n f) w :=
 ⟨f, rfl, _, results_none hr _ _ _, h⟩
end
end Go.Ew
namespace Go.Ew
open Go.RowKit
def Ext (w w' : World) : Prop := Below w.heap.size w w'
theorem Ext.refl (w : World) : Ext w w := Below.refl _ _
theorem Ext.trans {a b c : World} (h : Ext a b) (k : Ext b c) : Ext a c := Below.trans h (Below.mono k h.size)
theorem Ext.drew (w : World) : Ext w w.drew := Below.drew (Below.refl _ _)
theorem Ext.alloc (w : World) (o : Obj) : Ext w (w.alloc o) := Below.alloc (Below.refl _ _) (Nat.le_refl _) o
def onB (o : Oper) (j : Nat) : Bool := o.after.toList.any fun e => Region.binds .any e && e.on == j
def dstD (l : List Oper) (i : Nat) : Nat := (((l[i]?).bind (·.dst)).getD 0)
def dstsK (k : Nat) (l : List Oper) : List Nat := (l.take k).filterMap (·.dst)
def nodupB : List Nat → Bool
 | [] => true
 | x :: xs => !xs.contains x && nodupB xs
def okEdges : Nat → List Oper → Bool
 | _, [] => true
 | i, o :: r => o.after.all (fun e => !Region.binds .any e || Nat.blt e.on i) && okEdges (i + 1) r
def reachB (l : List Oper) : Nat → Nat → Nat → Bool
 | 0, _, _ => false
 | n + 1, i, m => match l[i]? with
  | none => false
  | some o => onB o m || (List.range i).any fun j => onB o j && reachB l n j m
def okTail2 (l : List Oper) (k : Nat) : Bool :=
 (Nat.ble l.length k || (List.range k).all fun m => reachB l (k + 1) k m) &&
  (List.range l.length).all fun i => Nat.ble i k || match l[i]? with
   | some o => onB o (i - 1)
   | none => true
def okD (n k : Nat) (l : List Oper) : Bool :=
 okEdges 0 l && (l.take k).all (fun o => o.dst.isSome) && nodupB (dstsK k l) && (dstsK k l).all (fun d => Nat.blt d n) && okTail2 l k && Nat.ble k l.length
def phi (Φ : List (Value → World → Prop)) (i : Nat) : Value → World → Prop := Φ.getD i (fun _ _ => True)
structure DStep (P : Program) (n : Nat) (l : List Oper) (k : Nat) (Φ : List (Value → World → Prop)) (f0 : Slots) (w0 : World) (i : Nat) (o : Oper) : Prop where
 go : ∀ f w, (∀ t, (dstsK k l).contains t = false → f t = f0 t) → Ext w0 w → (∀ j, onB o j = true → Nat.blt j k = true → phi Φ j (f (dstD l j)) w) →
  SO P n l.toArray o f w (fun f' w' => ∃ v, f' = updO f o.dst v ∧ Ext w w' ∧ phi Φ i v w')
 mono : ∀ v w w', Ext w w' → phi Φ i v w → phi Φ i v w'
def DSteps (P : Program) (n : Nat) (l : List Oper) (k : Nat) (Φ : List (Value → World → Prop)) (f0 : Slots) (w0 : World) : Nat → List Oper → Prop
 | _, [] => True
 | i, o :: r => (Nat.blt i k = true → DStep P n l k Φ f0 w0 i o) ∧ DSteps P n l k Φ f0 w0 (i + 1) r
section
variable {P : Program} {n : Nat} {l : List Oper} {k : Nat} {Φ : List (Value → World → Prop)} {f0 : Slots} {w0 : World}
theorem DSteps.at_ : ∀ (r : List Oper) (i : Nat), DSteps P n l k Φ f0 w0 i r → ∀ j o, r[j]? = some o → Nat.blt (i + j) k = true → DStep P n l k Φ f0 w0 (i + j) o
 | [], _, _, j, o, h, _ => by simp at h
 | x :: r, i, h, 0, o, hj, hk => by
  simp only [List.getElem?_cons_zero, Option.some.injEq] at hj
  subst hj
  exact h.1 hk
 | x :: r, i, h, j + 1, o, hj, hk => by
  simp only [List.getElem?_cons_succ] at hj
  have := DSteps.at_ r (i + 1) h.2 j o hj (by rw [show i + 1 + j = i + (j + 1) from by omega]; exact hk)
  rwa [show i + 1 + j = i + (j + 1) from by omega] at this
theorem okEdges_at : ∀ (r : List Oper) (i : Nat), okEdges i r = true → ∀ j o, r[j]? = some o → ∀ e ∈ o.after, Region.binds .any e = true → e.on < i + j
 | [], _, _, j, o, h, _, _, _ => by simp at h
 | x :: r, i, h, j, o, hj, e, he, hb => by
  simp only [okEdges, bA_, Array.all_eq_true_iff_forall_mem, Bool.or_eq_true, Bool.not_eq_true', Nat.blt_eq] at h
  cases j with
  | zero =>
   simp only [List.getElem?_cons_zero, Option.some.injEq] at hj
   subst hj
   rcases h.1 e he with h1 | h1
   ·rw [hb] at h1; cases h1
   ·omega
  | succ j =>
   simp only [List.getElem?_cons_succ] at hj
   have := okEdges_at r (i + 1) h.2 j o hj e he hb
   omega
theorem onB_iff {o : Oper} {j : Nat} : onB o j = true ↔ ∃ e ∈ o.after, Region.binds .any e = true ∧ e.on = j := by
 simp only [onB, List.any_eq_true, Array.mem_toList_iff]
 constructor
 ·rintro ⟨e, he, h⟩
  simp only [bA_, beq_iff_eq] at h
  exact ⟨e, he, h.1, h.2⟩
 ·rintro ⟨e, he, h1, h2⟩
  exact ⟨e, he, by simp [h1, h2]⟩
theorem okTail2_direct {l : List Oper} {k : Nat} (h : okTail2 l k = true) {i : Nat} {o : Oper} (hk : k < i) (ho : l[i]? = some o) : onB o (i - 1) = true := by
 simp only [okTail2, bA_] at h
 have := List.all_eq_true.1 h.2 i (by rw [List.mem_range]; exact (gS_.1 ho).1)
 rw [ho] at this
 have hf : Nat.ble i k = false := by
  cases hb : Nat.ble i k with
  | false => rfl
  | true => rw [Nat.ble_eq] at hb; omega
 rw [hf] at this
 simpa using this
theorem okTail2_reach {l : List Oper} {k : Nat} (h : okTail2 l k = true) (hk : k < l.length) {m : Nat} (hm : m < k) : reachB l (k + 1) k m = true := by
 simp only [okTail2, bA_, Bool.or_eq_true] at h
 rcases h.1 with h1 | h1
 ·rw [Nat.ble_eq] at h1; omega
 ·exact List.all_eq_true.1 h1 m (by rw [List.mem_range]; exact hm)
theorem reach_listed {l : List Oper} {listed : Array Bool} (hC : ∀ i o, listed.getD i false = true → l[i]? = some o → ∀ j, onB o j = true → listed.getD j false = true) :
  ∀ (n i m : Nat) (o : Oper), l[i]? = some o → (∀ j, onB o j = true → listed.getD j false = true) → reachB l n i m = true → listed.getD m false = true
 | 0, _, _, _, _, _, h => by cases h
 | n + 1, i, m, o, ho, hd, h => by
  simp only [reachB, ho, Bool.or_eq_true] at h
  rcases h with h | h
  ·exact hd m h
  ·obtain ⟨j, _, hj⟩ := List.any_eq_true.1 h
   simp only [bA_] at hj
   have hlj := hd j hj.1
   cases hoj : l[j]? with
   | none =>
    have h2 := hj.2
    cases n with
    | zero => cases h2
    | succ n => simp [reachB, hoj] at h2
   | some o' => exact reach_listed hC n j m o' hoj (hC j o' hlj hoj) hj.2
theorem nodupB_nodup : ∀ (l : List Nat), nodupB l = true → l.Nodup
 | [], _ => List.nodup_nil
 | x :: xs, h => by
  simp only [nodupB, bA_, Bool.not_eq_true'] at h
  refine List.nodup_cons.2 ⟨?_, nodupB_nodup xs h.2⟩
  intro hx
  have := List.contains_iff_mem.2 hx
  rw [h.1] at this
  cases this
theorem wpOp_of_SO {ops : Array Oper} {i : Nat} {o : Oper} {f : Slots} {w : World} {K : Slots → World → Prop} {Q : Exit → Act → World → Prop} {K' : Act → World → Prop}
  (hi : ops[i]? = some o) (h : SO P n ops o f w K) (hk : ∀ f' w', K f' w' → K' (acts n f') w') : wpOp P ops Q i K' (acts n f) w := by
 have h1 := h (fun e a w => match e with | .normal => K' a w | e => Q e a w) [] (fun f' w' hK => hk f' w' hK)
 unfold wpOp
 simp only [hi]
 unfold wpList at h1
 split at h1
 ·rename_i hw
  rw [if_pos hw]
  refine h1.imp (fun h2 => ?_) (fun h2 => ?_)
  ·unfold Oper.wp at h2 ⊢
   generalize (execOp (acts n f).eval o).run P w = r at *
   cases r with
   | ok x w' =>
    cases x <;> simp only [Oper.upon] at h2 ⊢ <;> first
     | exact h2
     | (refine Calls.mono h2 ?_; intro e w'' he; cases e <;> first | exact he | (obtain ⟨a0, w1, hq⟩ := he; exact ⟨a0, w1, hq⟩))
   | halt x w' => cases x <;> simp only [Oper.upon] at h2 ⊢ <;> exact h2
  ·obtain ⟨ha, a0, w1, hq⟩ := h2
   exact ⟨ha, a0, w1, hq⟩
 ·rename_i hw
  rw [if_neg hw]
  exact h1
def Upto (N m : Nat) (listed : Array Bool) : Prop := listed.size = N ∧ ∀ i, i < N → listed.getD i false = decide (i < m)
theorem getD_any {listed : Array Bool} {i : Nat} (h : i < listed.size) (a b : Bool) : listed.getD i a = listed.getD i b := by
 simp [Array.getD, h]
theorem wpAny_tail {Q : Exit → Act → World → Prop} (hE : okEdges 0 l = true) (hT : okTail2 l k = true) :
  ∀ (d m : Nat) (listed : Array Bool) (a : Act) (w : World), l.length - m = d → k ≤ m → m ≤ l.length → Upto l.length m listed → wpList P l.toArray Q (l.drop m) a w → wpAny P .any l.toArray Q d listed a w := by
 intro d
 induction d with
 | zero =>
  intro m listed a w hd hk hm hl h
  have hml : m = l.length := by omega
  subst hml
  rw [List.drop_eq_nil_of_le (Nat.le_refl _)] at h
  refine ⟨?_, h⟩
  unfold Region.ready
  rw [List.filter_eq_nil_iff]
  intro i hi
  simp only [List.size_toArray, List.mem_range] at hi
  have := hl.2 i hi
  rw [show listed.getD i true = listed.getD i false from getD_any (by rw [hl.1]; exact hi) _ _, this]
  simp [hi]
 | succ d ih =>
  intro m listed a w hd hk hm hl h
  have hml : m < l.length := by omega
  have hom : l[m]? = some l[m] := gE_ hml
  have hready : ∀ i, i ∈ Region.ready .any l.toArray listed ↔ i = m := by
   intro i
   rw [mem_ready]
   constructor
   ·rintro ⟨h0, o, ho, hall⟩
    have hil : i < l.length := by
     have := (Array.getElem?_eq_some_iff.1 ho).1
     simpa using this
    have hnm : ¬ i < m := by
     intro him
     rw [show listed.getD i true = listed.getD i false from getD_any (by rw [hl.1]; exact hil) _ _, hl.2 i hil] at h0
     simp [him] at h0
    by_cases him : i = m
    ·exact him
    ·exfalso
     have hoi : l[i]? = some o := by simpa using ho
     have hb := okTail2_direct hT (i := i) (by omega) hoi
     obtain ⟨e, he, hbi, hon⟩ := onB_iff.1 hb
     have := hall e he hbi
     rw [hon, hl.2 (i - 1) (by omega)] at this
     simp at this
     omega
   ·rintro rfl
    refine ⟨?_, l[i], by simp, ?_⟩
    ·rw [show listed.getD i true = listed.getD i false from getD_any (by rw [hl.1]; exact hml) _ _, hl.2 i hml]
     simp
    ·intro e he hbi
     have := okEdges_at l 0 hE i l[i] hom e he hbi
     rw [hl.2 e.on (by omega)]
     simp; omega
  have hdrop : l.drop m = l[m] :: l.drop (m + 1) := List.drop_eq_getElem_cons hml
  refine ⟨fun h0 => ?_, fun i hi => ?_⟩
  ·have := (hready m).2 rfl
   rw [h0] at this
   cases this
  ·obtain rfl := (hready i).1 hi
   rw [hdrop] at h
   have hup : Upto l.length (i + 1) (listed.setIfInBounds i true) := by
    refine ⟨by simp [hl.1], fun j hj => ?_⟩
    by_cases hji : i = j
    ·subst hji
     simp [hl.1, hml]
    ·rw [getD_set_ne false hji, hl.2 j hj]
     simp; omega
   unfold wpOp
   rw [show (l.toArray)[i]? = some l[i] from by simp]
   simp only
   unfold wpList at h
   split at h
   ·rename_i hw
    rw [if_pos hw]
    refine h.imp (Oper.wp_mono fun a w h' => ih (i + 1) _ a w (by omega) (by omega) (by omega) hup h') id
   ·rename_i hw
    rw [if_neg hw]
    exact ih (i + 1) _ _ w (by omega) (by omega) (by omega) hup h
theorem mem_dstsK {i : Nat} {o : Oper} (hi : l[i]? = some o) (hk : i < k) {d : Nat} (hd : o.dst = some d) : d ∈ dstsK k l := by
 unfold dstsK
 rw [List.mem_filterMap]
 refine ⟨o, ?_, hd⟩
 have : (l.take k)[i]? = some o := by rw [List.getElem?_take, if_pos hk]; exact hi
 exact mG_ this
theorem filterMap_inj {α β : Type} (g : α → Option β) : ∀ (l : List α), (l.filterMap g).Nodup → ∀ (i j : Nat) (a b : α), l[i]? = some a → l[j]? = some b → (g a).isSome → g a = g b → i = j
 | [], _, i, _, _, _, hi, _, _, _ => by simp at hi
 | x :: xs, h, i, j, a, b, hi, hj, hs, he => by
  have htail : (xs.filterMap g).Nodup := by
   rw [List.filterMap_cons] at h
   split at h
   ·exact h
   ·exact (List.nodup_cons.1 h).2
  have hmem : ∀ (m : Nat) (c : α), xs[m]? = some c → g x = g c → (g x).isSome → False := by
   intro m c hm hc hx
   obtain ⟨y, hy⟩ := Option.isSome_iff_exists.1 hx
   rw [List.filterMap_cons, hy] at h
   exact (List.nodup_cons.1 h).1 (List.mem_filterMap.2 ⟨c, mG_ hm, by rw [← hc, hy]⟩)
  cases i with
  | zero =>
   cases j with
   | zero => rfl
   | succ j =>
    simp only [List.getElem?_cons_zero, Option.some.injEq, List.getElem?_cons_succ] at hi hj
    subst hi
    exact (hmem j b hj he hs).elim
  | succ i =>
   cases j with
   | zero =>
    simp only [List.getElem?_cons_zero, Option.some.injEq, List.getElem?_cons_succ] at hi hj
    subst hj
    exact (hmem i a hi he.symm (he ▸ hs)).elim
   | succ j =>
    simp only [List.getElem?_cons_succ] at hi hj
    rw [filterMap_inj g xs htail i j a b hi hj hs he]
def DJ (n : Nat) (l : List Oper) (k : Nat) (Φ : List (Value → World → Prop)) (f0 : Slots) (w0 : World) (listed : Array Bool) (a : Act) (w : World) : Prop :=
 ∃ f, a = acts n f ∧ (∀ t, (dstsK k l).contains t = false → f t = f0 t) ∧ Ext w0 w ∧ (∀ i, i < k → listed.getD i false = true → phi Φ i (f (dstD l i)) w) ∧
  ∀ i o, listed.getD i false = true → l[i]? = some o → ∀ j, onB o j = true → listed.getD j false = true
theorem wpAny_first {Q : Exit → Act → World → Prop} (hok : okD n k l = true) (hS : DSteps P n l k Φ f0 w0 0 l)
  (hend : ∀ f w, (∀ t, (dstsK k l).contains t = false → f t = f0 t) → Ext w0 w → (∀ i, Nat.blt i k = true → phi Φ i (f (dstD l i)) w) → WL P n l.toArray Q (l.drop k) f w) :
  ∀ (d : Nat) (listed : Array Bool) (a : Act) (w : World), listed.size = l.length → (∀ i, k ≤ i → listed.getD i false = false) → (listed.toList.filter (fun b => !b)).length = d →
   DJ n l k Φ f0 w0 listed a w → wpAny P .any l.toArray Q d listed a w := by
 have hok0 := hok
 simp only [okD, bA_] at hok
 obtain ⟨⟨⟨⟨⟨hE, hD⟩, hN⟩, hn⟩, hT⟩, hkl⟩ := hok
 simp only [Nat.ble_eq] at hkl
 intro d
 induction d with
 | zero =>
  intro listed a w hsz hge hd hJ
  have hall : ∀ i, i < l.length → listed.getD i false = true := by
   intro i hi
   have h0 := List.eq_nil_of_length_eq_zero hd
   rw [List.filter_eq_nil_iff] at h0
   have hi' : i < listed.size := by omega
   have := h0 listed[i] (by simp)
   simp at this
   simp [Array.getD, hi', this]
  have hkeq : k = l.length := by
   rcases Nat.lt_or_ge k l.length with h | h
   ·have h1 := hall k h
    rw [hge k (Nat.le_refl _)] at h1
    cases h1
   ·omega
  obtain ⟨f, rfl, hf, hx, hφ, hC⟩ := hJ
  have := hend f w hf hx (fun i hi => hφ i (by simpa using hi) (hall i (by have h9 : i < k := (by simpa using hi); omega)))
  refine wpAny_tail hE hT 0 l.length listed _ w (by omega) (by omega) (Nat.le_refl _) ⟨hsz, fun i hi => by rw [hall i hi]; simp [hi]⟩ ?_
  rw [hkeq] at this
  exact this
 | succ d ih =>
  intro listed a w hsz hge hd hJ
  by_cases hall : ∀ i, i < k → listed.getD i false = true
  ·obtain ⟨f, rfl, hf, hx, hφ, hC⟩ := hJ
   have := hend f w hf hx (fun i hi => hφ i (by simpa using hi) (hall i (by simpa using hi)))
   have hup : Upto l.length k listed := ⟨hsz, fun i hi => by
    by_cases hik : i < k
    ·rw [hall i hik]; simp [hik]
    ·rw [hge i (by omega)]; simp; omega⟩
   have hcount : d + 1 = l.length - k := by
    rw [← hd]
    have hl : listed.toList = List.replicate k true ++ List.replicate (l.length - k) false := by
     apply List.ext_getElem
     ·simp [hsz]; omega
     ·intro i h1 h2
      simp only [Array.length_toList] at h1
      have := hup.2 i (by omega)
      simp only [Array.getD, h1, dif_pos] at this
      rw [Array.getElem_toList]
      by_cases hik : i < k
      ·rw [List.getElem_append_left (by simpa using hik)]
       simp [Array.getInternal_eq_getElem, hik] at this ⊢
       exact this
      ·rw [List.getElem_append_right (by simpa using hik)]
       simp [Array.getInternal_eq_getElem, hik] at this ⊢
       exact this
    rw [hl]
    simp
   exact wpAny_tail hE hT (d + 1) k listed _ w (by omega) (Nat.le_refl _) hkl hup this
  ·obtain ⟨i0, hi0⟩ : ∃ i, i < k ∧ listed.getD i false = false := by
    apply Classical.byContradiction
    intro hno
    refine hall fun i hi => ?_
    cases hb : listed.getD i false with
    | true => rfl
    | false => exact (hno ⟨i, hi, hb⟩).elim
   -- the least that hasn't come up is ready
   obtain ⟨m, hm1, hm2⟩ := exists_least (p := fun i => i < k ∧ listed.getD i false = false) ⟨i0, hi0⟩
   have hml : m < l.length := by omega
   have hom : l[m]? = some l[m] := gE_ hml
   have hmr : m ∈ Region.ready .any l.toArray listed := by
    rw [mem_ready]
    refine ⟨?_, l[m], by simp, fun e he hb => ?_⟩
    ·rw [show listed.getD m true = listed.getD m false from getD_any (by omega) _ _]; exact hm1.2
    ·have hlt := okEdges_at l 0 hE m l[m] hom e he hb
     cases hb2 : listed.getD e.on false with
     | true => rfl
     | false =>
      have := hm2 e.on ⟨by omega, hb2⟩
      omega
   refine ⟨fun h0 => (by rw [h0] at hmr; cases hmr), fun i hi => ?_⟩
   obtain ⟨h0, o, ho, hedges⟩ := mem_ready.1 hi
   have hol : l[i]? = some o := by simpa using ho
   have hil : i < l.length := (gS_.1 hol).1
   have h0' : listed.getD i false = false := by
    rw [show listed.getD i false = listed.getD i true from getD_any (by omega) _ _]; exact h0
   have hik : i < k := by
    rcases Nat.lt_or_ge i k with h | h
    ·exact h
    ·exfalso
     obtain ⟨f, rfl, hf, hx, hφ, hC⟩ := hJ
     by_cases hik2 : i = k
     ·subst hik2
      have := reach_listed hC _ i m o hol (fun j hj => by
       obtain ⟨e, he, hbi, hon⟩ := onB_iff.1 hj
       rw [← hon]; exact hedges e he hbi) (okTail2_reach hT hil hm1.1)
      rw [hm1.2] at this
      cases this
     ·have hb := okTail2_direct hT (i := i) (by omega) hol
      obtain ⟨e, he, hbi, hon⟩ := onB_iff.1 hb
      have := hedges e he hbi
      rw [hon, hge (i - 1) (by omega)] at this
      cases this
   obtain ⟨f, rfl, hf, hx, hφ, hC⟩ := hJ
   have hstep := (DSteps.at_ l 0 hS i o hol (by simpa using hik))
   simp only [Nat.zero_add] at hstep
   have hSO := hstep.go f w hf hx (fun j hj hjk => by
    obtain ⟨e, he, hb, hon⟩ := onB_iff.1 hj
    subst hon
    exact hφ e.on (by simpa using hjk) (hedges e he hb))
   obtain ⟨di, hdi⟩ : ∃ di, o.dst = some di := by
    rw [List.all_eq_true] at hD
    have := hD o (mG_ (i := i) (by rw [List.getElem?_take, if_pos hik]; exact hol))
    exact Option.isSome_iff_exists.1 this
   refine wpOp_of_SO ho hSO fun f' w' hK => ?_
   obtain ⟨v, rfl, hxw, hv⟩ := hK
   refine ih (listed.setIfInBounds i true) _ w' (by simp [hsz]) (fun j hj => ?_) ?_ ?_
   ·rw [getD_set_ne false (by omega)]; exact hge j hj
   · -- one less is left
    have hii : i < listed.size := by omega
    have hget : listed.toList[i]? = some false := by
     rw [gE_ (by simpa using hii)]
     simp only [Array.getD, hii, dif_pos] at h0'
     simpa [Array.getInternal_eq_getElem] using h0'
    have key : ∀ (L : List Bool) (i : Nat), L[i]? = some false → ((L.set i true).filter (fun b => !b)).length + 1 = (L.filter (fun b => !b)).length := by
     intro L
     induction L with
     | nil => intro i h; simp at h
     | cons b L ihL =>
      intro i h
      cases i with
      | zero => simp at h; subst h; simp
      | succ i =>
       simp at h
       have := ihL i h
       cases b <;> simp at this ⊢ <;> omega
    have := key listed.toList i hget
    rw [Array.toList_setIfInBounds]
    omega
   ·refine ⟨updO f o.dst v, rfl, fun t ht => ?_, hx.trans hxw, fun j hjk hj => ?_, fun j oj hj hoj q hq => ?_⟩
    ·rw [hdi]
     have hne : t ≠ di := by
      rintro rfl
      have := mem_dstsK hol hik hdi
      rw [← List.contains_iff_mem, ht] at this
      cases this
     rw [show updO f (some di) v = upd f di v from rfl, upd_ne f v hne]
     exact hf t ht
    ·have hjl : j < l.length := by omega
     have hoj : l[j]? = some l[j] := gE_ hjl
     by_cases hji : i = j
     ·subst hji
      have : dstD l i = di := by unfold dstD; rw [hol]; simp [hdi]
      rw [this, hdi, show updO f (some di) v = upd f di v from rfl, upd_same]
      exact hv
     ·rw [getD_set_ne false hji] at hj
      have hφj := hφ j hjk hj
      have hstepj := (DSteps.at_ l 0 hS j l[j] hoj (by simpa using hjk))
      simp only [Nat.zero_add] at hstepj
      obtain ⟨dj, hdj⟩ : ∃ dj, (l[j]).dst = some dj := by
       rw [List.all_eq_true] at hD
       have := hD l[j] (mG_ (i := j) (by rw [List.getElem?_take, if_pos hjk]; exact hoj))
       exact Option.isSome_iff_exists.1 this
      have hDj : dstD l j = dj := by unfold dstD; rw [hoj]; simp [hdj]
      have hne : dj ≠ di := by
       rintro rfl
       have hnd := nodupB_nodup _ hN
       unfold dstsK at hnd
       exact hji (filterMap_inj (·.dst) (l.take k) hnd i j o l[j] (by rw [List.getElem?_take, if_pos hik]; exact hol) (by rw [List.getElem?_take, if_pos hjk]; exact hoj) (by simp [hdi]) (by simp [hdi, hdj]))
      rw [hDj] at hφj ⊢
      rw [hdi, show updO f (some di) v = upd f di v from rfl, upd_ne f v hne]
      exact hstepj.mono _ _ _ hxw hφj
    ·have hq2 : listed.getD q false = true := by
      by_cases hji : i = j
      ·subst hji
       rw [hol] at hoj
       cases hoj
       obtain ⟨e, he, hbi, hon⟩ := onB_iff.1 hq
       rw [← hon]; exact hedges e he hbi
      ·rw [getD_set_ne false hji] at hj
       exact hC j oj hj hoj q hq
     by_cases hqi : i = q
     ·subst hqi; rw [h0'] at hq2; cases hq2
     ·rw [getD_set_ne false hqi]; exact hq2
def okTail3 (l : List Oper) (k : Nat) : Bool := (List.range l.length).all fun i => Nat.blt i k || (List.range k).all fun m => reachB l (i + 1) i m
theorem okTail3_reach {l : List Oper} {k : Nat} (h : okTail3 l k = true) {i m : Nat} (hk : k ≤ i) (hi : i < l.length) (hm : m < k) : reachB l (i + 1) i m = true := by
 have := List.all_eq_true.1 h i (by rw [List.mem_range]; exact hi)
 have hf : Nat.blt i k = false := by
  cases hb : Nat.blt i k with
  | false => rfl
  | true => rw [Nat.blt_eq] at hb; omega
 rw [hf] at this
 simp only [Bool.false_or] at this
 exact List.all_eq_true.1 this m (by rw [List.mem_range]; exact hm)
def okD3 (n k : Nat) (l : List Oper) : Bool :=
 okEdges 0 l && (l.take k).all (fun o => o.dst.isSome) && nodupB (dstsK k l) && (dstsK k l).all (fun d => Nat.blt d n) && okTail3 l k && Nat.ble k l.length
def TA (P : Program) (n : Nat) (l : List Oper) (Q : Exit → Act → World → Prop) (d : Nat) (S : List Bool) (f : Slots) (w : World) : Prop := wpAny P .any l.toArray Q d S.toArray (acts n f) w
def TAll (P : Program) (n : Nat) (l : List Oper) (Q : Exit → Act → World → Prop) (d : Nat) (S : List Bool) (f : Slots) (w : World) : List Nat → Prop
 | [] => True
 | i :: r => (∃ o, l[i]? = some o ∧ SO P n l.toArray o f w (fun f' w' => TA P n l Q d (S.set i true) f' w')) ∧ TAll P n l Q d S f w r
theorem TAll.mem {Q : Exit → Act → World → Prop} {d : Nat} {S : List Bool} {f : Slots} {w : World} : ∀ {R : List Nat}, TAll P n l Q d S f w R → ∀ i ∈ R, ∃ o, l[i]? = some o ∧ SO P n l.toArray o f w (fun f' w' => TA P n l Q d (S.set i true) f' w')
 | [], _, i, hi => by cases hi
 | j :: r, h, i, hi => by
  rcases List.mem_cons.1 hi with rfl | hi
  ·exact h.1
  ·exact TAll.mem h.2 i hi
theorem ta {Q : Exit → Act → World → Prop} {d : Nat} {S : List Bool} {f : Slots} {w : World} (R : List Nat) (hr : Region.ready .any l.toArray S.toArray = R) (hne : R.isEmpty = false) (h : TAll P n l Q d S f w R) : TA P n l Q (d + 1) S f w := by
 refine ⟨fun h0 => ?_, fun i hi => ?_⟩
 ·rw [hr] at h0; rw [h0] at hne; cases hne
 ·rw [hr] at hi
  obtain ⟨o, ho, hs⟩ := h.mem i hi
  refine wpOp_of_SO (by simpa using ho) hs fun f' w' hK => ?_
  have he : S.toArray.setIfInBounds i true = (S.set i true).toArray := by simp
  rw [he]; exact hK
theorem ta0 {Q : Exit → Act → World → Prop} {S : List Bool} {f : Slots} {w : World} (hr : Region.ready .any l.toArray S.toArray = []) (h : Q .normal (acts n f) w) : TA P n l Q 0 S f w := ⟨hr, h⟩
theorem wpAny_first3 {Q : Exit → Act → World → Prop} (hok : okD3 n k l = true) (hS : DSteps P n l k Φ f0 w0 0 l)
  (hend : ∀ f w, (∀ t, (dstsK k l).contains t = false → f t = f0 t) → Ext w0 w → (∀ i, Nat.blt i k = true → phi Φ i (f (dstD l i)) w) → TA P n l Q (l.length - k) (List.replicate k true ++ List.replicate (l.length - k) false) f w) :
  ∀ (d : Nat) (listed : Array Bool) (a : Act) (w : World), listed.size = l.length → (∀ i, k ≤ i → listed.getD i false = false) → (listed.toList.filter (fun b => !b)).length = d →
   DJ n l k Φ f0 w0 listed a w → wpAny P .any l.toArray Q d listed a w := by
 have hok0 := hok
 simp only [okD3, bA_] at hok
 obtain ⟨⟨⟨⟨⟨hE, hD⟩, hN⟩, hn⟩, hT⟩, hkl⟩ := hok
 simp only [Nat.ble_eq] at hkl
 intro d
 induction d with
 | zero =>
  intro listed a w hsz hge hd hJ
  have hall : ∀ i, i < l.length → listed.getD i false = true := by
   intro i hi
   have h0 := List.eq_nil_of_length_eq_zero hd
   rw [List.filter_eq_nil_iff] at h0
   have hi' : i < listed.size := by omega
   have := h0 listed[i] (by simp)
   simp at this
   simp [Array.getD, hi', this]
  have hkeq : k = l.length := by
   rcases Nat.lt_or_ge k l.length with h | h
   ·have h1 := hall k h
    rw [hge k (Nat.le_refl _)] at h1
    cases h1
   ·omega
  obtain ⟨f, rfl, hf, hx, hφ, hC⟩ := hJ
  have := hend f w hf hx (fun i hi => hφ i (by simpa using hi) (hall i (by have h9 : i < k := (by simpa using hi); omega)))
  have hl : listed = (List.replicate k true ++ List.replicate (l.length - k) false).toArray := by
   apply Array.ext
   ·simp [hsz]; omega
   ·intro i h1 h2
    have := hall i (by omega)
    simp only [Array.getD, h1, dif_pos] at this
    simp [hkeq] at this ⊢
    simpa [Array.getInternal_eq_getElem, List.getElem_append, show i < l.length by omega] using this
  rw [show l.length - k = 0 from by omega] at this hl
  rw [hl]
  exact this
 | succ d ih =>
  intro listed a w hsz hge hd hJ
  by_cases hall : ∀ i, i < k → listed.getD i false = true
  ·obtain ⟨f, rfl, hf, hx, hφ, hC⟩ := hJ
   have := hend f w hf hx (fun i hi => hφ i (by simpa using hi) (hall i (by simpa using hi)))
   have hup : Upto l.length k listed := ⟨hsz, fun i hi => by
    by_cases hik : i < k
    ·rw [hall i hik]; simp [hik]
    ·rw [hge i (by omega)]; simp; omega⟩
   have hcount : d + 1 = l.length - k := by
    rw [← hd]
    have hl : listed.toList = List.replicate k true ++ List.replicate (l.length - k) false := by
     apply List.ext_getElem
     ·simp [hsz]; omega
     ·intro i h1 h2
      simp only [Array.length_toList] at h1
      have := hup.2 i (by omega)
      simp only [Array.getD, h1, dif_pos] at this
      rw [Array.getElem_toList]
      by_cases hik : i < k
      ·rw [List.getElem_append_left (by simpa using hik)]
       simp [Array.getInternal_eq_getElem, hik] at this ⊢
       exact this
      ·rw [List.getElem_append_right (by simpa using hik)]
       simp [Array.getInternal_eq_getElem, hik] at this ⊢
       exact this
    rw [hl]
    simp
   have hl2 : listed = (List.replicate k true ++ List.replicate (l.length - k) false).toArray := by
    apply Array.ext
    ·simp [hsz]; omega
    ·intro i h1 h2
     have := hup.2 i (by omega)
     simp only [Array.getD, h1, dif_pos] at this
     by_cases hik : i < k
     ·simp [Array.getInternal_eq_getElem, hik, List.getElem_append] at this ⊢
      exact this
     ·simp [Array.getInternal_eq_getElem, hik, List.getElem_append] at this ⊢
      exact this
   rw [hcount, hl2]
   exact this
  ·obtain ⟨i0, hi0⟩ : ∃ i, i < k ∧ listed.getD i false = false := by
    apply Classical.byContradiction
    intro hno
    refine hall fun i hi => ?_
    cases hb : listed.getD i false with
    | true => rfl
    | false => exact (hno ⟨i, hi, hb⟩).elim
   -- the least that hasn't come up is ready
   obtain ⟨m, hm1, hm2⟩ := exists_least (p := fun i => i < k ∧ listed.getD i false = false) ⟨i0, hi0⟩
   have hml : m < l.length := by omega
   have hom : l[m]? = some l[m] := gE_ hml
   have hmr : m ∈ Region.ready .any l.toArray listed := by
    rw [mem_ready]
    refine ⟨?_, l[m], by simp, fun e he hb => ?_⟩
    ·rw [show listed.getD m true = listed.getD m false from getD_any (by omega) _ _]; exact hm1.2
    ·have hlt := okEdges_at l 0 hE m l[m] hom e he hb
     cases hb2 : listed.getD e.on false with
     | true => rfl
     | false =>
      have := hm2 e.on ⟨by omega, hb2⟩
      omega
   refine ⟨fun h0 => (by rw [h0] at hmr; cases hmr), fun i hi => ?_⟩
   obtain ⟨h0, o, ho, hedges⟩ := mem_ready.1 hi
   have hol : l[i]? = some o := by simpa using ho
   have hil : i < l.length := (gS_.1 hol).1
   have h0' : listed.getD i false = false := by
    rw [show listed.getD i false = listed.getD i true from getD_any (by omega) _ _]; exact h0
   have hik : i < k := by
    rcases Nat.lt_or_ge i k with h | h
    ·exact h
    ·exfalso
     obtain ⟨f, rfl, hf, hx, hφ, hC⟩ := hJ
     have := reach_listed hC _ i m o hol (fun j hj => by
      obtain ⟨e, he, hbi, hon⟩ := onB_iff.1 hj
      rw [← hon]; exact hedges e he hbi) (okTail3_reach hT h hil hm1.1)
     rw [hm1.2] at this
     cases this
   obtain ⟨f, rfl, hf, hx, hφ, hC⟩ := hJ
   have hstep := (DSteps.at_ l 0 hS i o hol (by simpa using hik))
   simp only [Nat.zero_add] at hstep
   have hSO := hstep.go f w hf hx (fun j hj hjk => by
    obtain ⟨e, he, hb, hon⟩ := onB_iff.1 hj
    subst hon
    exact hφ e.on (by simpa using hjk) (hedges e he hb))
   obtain ⟨di, hdi⟩ : ∃ di, o.dst = some di := by
    rw [List.all_eq_true] at hD
    have := hD o (mG_ (i := i) (by rw [List.getElem?_take, if_pos hik]; exact hol))
    exact Option.isSome_iff_exists.1 this
   refine wpOp_of_SO ho hSO fun f' w' hK => ?_
   obtain ⟨v, rfl, hxw, hv⟩ := hK
   refine ih (listed.setIfInBounds i true) _ w' (by simp [hsz]) (fun j hj => ?_) ?_ ?_
   ·rw [getD_set_ne false (by omega)]; exact hge j hj
   · -- one less is left
    have hii : i < listed.size := by omega
    have hget : listed.toList[i]? = some false := by
     rw [gE_ (by simpa using hii)]
     simp only [Array.getD, hii, dif_pos] at h0'
     simpa [Array.getInternal_eq_getElem] using h0'
    have key : ∀ (L : List Bool) (i : Nat), L[i]? = some false → ((L.set i true).filter (fun b => !b)).length + 1 = (L.filter (fun b => !b)).length := by
     intro L
     induction L with
     | nil => intro i h; simp at h
     | cons b L ihL =>
      intro i h
      cases i with
      | zero => simp at h; subst h; simp
      | succ i =>
       simp at h
       have := ihL i h
       cases b <;> simp at this ⊢ <;> omega
    have := key listed.toList i hget
    rw [Array.toList_setIfInBounds]
    omega
   ·refine ⟨updO f o.dst v, rfl, fun t ht => ?_, hx.trans hxw, fun j hjk hj => ?_, fun j oj hj hoj q hq => ?_⟩
    ·rw [hdi]
     have hne : t ≠ di := by
      rintro rfl
      have := mem_dstsK hol hik hdi
      rw [← List.contains_iff_mem, ht] at this
      cases this
     rw [show updO f (some di) v = upd f di v from rfl, upd_ne f v hne]
     exact hf t ht
    ·have hjl : j < l.length := by omega
     have hoj : l[j]? = some l[j] := gE_ hjl
     by_cases hji : i = j
     ·subst hji
      have : dstD l i = di := by unfold dstD; rw [hol]; simp [hdi]
      rw [this, hdi, show updO f (some di) v = upd f di v from rfl, upd_same]
      exact hv
     ·rw [getD_set_ne false hji] at hj
      have hφj := hφ j hjk hj
      have hstepj := (DSteps.at_ l 0 hS j l[j] hoj (by simpa using hjk))
      simp only [Nat.zero_add] at hstepj
      obtain ⟨dj, hdj⟩ : ∃ dj, (l[j]).dst = some dj := by
       rw [List.all_eq_true] at hD
       have := hD l[j] (mG_ (i := j) (by rw [List.getElem?_take, if_pos hjk]; exact hoj))
       exact Option.isSome_iff_exists.1 this
      have hDj : dstD l j = dj := by unfold dstD; rw [hoj]; simp [hdj]
      have hne : dj ≠ di := by
       rintro rfl
       have hnd := nodupB_nodup _ hN
       unfold dstsK at hnd
       exact hji (filterMap_inj (·.dst) (l.take k) hnd i j o l[j] (by rw [List.getElem?_take, if_pos hik]; exact hol) (by rw [List.getElem?_take, if_pos hjk]; exact hoj) (by simp [hdi]) (by simp [hdi, hdj]))
      rw [hDj] at hφj ⊢
      rw [hdi, show updO f (some di) v = upd f di v from rfl, upd_ne f v hne]
      exact hstepj.mono _ _ _ hxw hφj
    ·have hq2 : listed.getD q false = true := by
      by_cases hji : i = j
      ·subst hji
       rw [hol] at hoj
       cases hoj
       obtain ⟨e, he, hbi, hon⟩ := onB_iff.1 hq
       rw [← hon]; exact hedges e he hbi
      ·rw [getD_set_ne false hji] at hj
       exact hC j oj hj hoj q hq
     by_cases hqi : i = q
     ·subst hqi; rw [h0'] at hq2; cases hq2
     ·rw [getD_set_ne false hqi]; exact hq2
theorem dr {id : Nat} {Q : Exit → Act → World → Prop} {f : Slots} {w : World} (k : Nat) (Φ : List (Value → World → Prop)) (hm : P.follows .mixedOrders = true) (hok : okD n k l = true)
  (hS : DSteps P n l k Φ f w 0 l)
  (hend : ∀ f' w', (∀ t, (dstsK k l).contains t = false → f' t = f t) → Ext w w' → (∀ i, Nat.blt i k = true → phi Φ i (f' (dstD l i)) w') → WL P n l.toArray Q (l.drop k) f' w') :
  WC P n (.region id l.toArray true) Q f w := by
 refine wp_region_any hm ?_
 have h := wpAny_first (P := P) (w0 := w) (f0 := f) (Q := Q) hok hS hend l.length (Array.replicate l.length false) (acts n f) w.drew (by simp) (fun i _ => by simp [Array.getD]) (by simp) ⟨f, rfl, fun _ _ => rfl, Ext.drew w, fun i hi h => (by
  have h2 : (Array.replicate l.length false).getD i false = false := by
   simp only [Array.getD]; split <;> simp
  rw [h2] at h; cases h), fun i o h _ _ _ => (by
  have h2 : (Array.replicate l.length false).getD i false = false := by
   simp only [Array.getD]; split <;> simp
  rw [h2] at h; cases h)⟩
 simpa using h
theorem dr3 {id : Nat} {Q : Exit → Act → World → Prop} {f : Slots} {w : World} (k : Nat) (Φ : List (Value → World → Prop)) (hm : P.follows .mixedOrders = true) (hok : okD3 n k l = true)
  (hS : DSteps P n l k Φ f w 0 l)
  (hend : ∀ f' w', (∀ t, (dstsK k l).contains t = false → f' t = f t) → Ext w w' → (∀ i, Nat.blt i k = true → phi Φ i (f' (dstD l i)) w') → TA P n l Q (l.length - k) (List.replicate k true ++ List.replicate (l.length - k) false) f' w') :
  WC P n (.region id l.toArray true) Q f w := by
 refine wp_region_any hm ?_
 have h := wpAny_first3 (P := P) (w0 := w) (f0 := f) (Q := Q) hok hS hend l.length (Array.replicate l.length false) (acts n f) w.drew (by simp) (fun i _ => by simp [Array.getD]) (by simp) ⟨f, rfl, fun _ _ => rfl, Ext.drew w, fun i hi h => (by
  have h2 : (Array.replicate l.length false).getD i false = false := by
   simp only [Array.getD]; split <;> simp
  rw [h2] at h; cases h), fun i o h _ _ _ => (by
  have h2 : (Array.replicate l.length false).getD i false = false := by
   simp only [Array.getD]; split <;> simp
  rw [h2] at h; cases h)⟩
 simpa using h
end
abbrev eV (x : Value) : Value → World → Prop := fun v _ => v = x
theorem d0 {f' f : Slots} {d : Option Nat} {v : Value} {w : World} {R : Value → World → Prop} (e : f' = updO f d v) (h : R v w) : ∃ v, f' = updO f d v ∧ Ext w w ∧ R v w := ⟨v, e, Ext.refl w, h⟩
theorem dc {P : Program} {n : Nat} {l : List Oper} {k : Nat} {Φ : List (Value → World → Prop)} {f0 : Slots} {w0 : World} {i : Nat} {o : Oper} {r : List Oper}
  (go : ∀ f w, (∀ t, (dstsK k l).contains t = false → f t = f0 t) → Ext w0 w → (∀ j, onB o j = true → Nat.blt j k = true → phi Φ j (f (dstD l j)) w) → SO P n l.toArray o f w (fun f' w' => ∃ v, f' = updO f o.dst v ∧ Ext w w' ∧ phi Φ i v w'))
  (rest : DSteps P n l k Φ f0 w0 (i + 1) r) (mono : ∀ v w w', Ext w w' → phi Φ i v w → phi Φ i v w' := by exact fun _ _ _ _ h => h) : DSteps P n l k Φ f0 w0 i (o :: r) := ⟨fun _ => ⟨go, mono⟩, rest⟩
abbrev iV (x : Int) : Value := .int .i64 x
abbrev pV (b o : Nat) : Value := .pointer (some ⟨b, o, none⟩)
theorem BL : (∀ b, (b && true) = b) ∧ (∀ b, (true && b) = b) ∧ (∀ b, (b && false) = false) ∧ (∀ b, (false && b) = false) ∧ (∀ b, (b || true) = true) ∧ (∀ b, (true || b) = true) ∧ (∀ b, (b || false) = b) ∧ (∀ b, (false || b) = b) ∧ ((!true) = false) ∧ ((!false) = true) ∧
  (∀ (α : Type) (x y : α), cond true x y = x) ∧ (∀ (α : Type) (x y : α), cond false x y = y) ∧ (∀ (α : Type) (x y : α), (some x).getD y = x) ∧ (∀ (α β : Type) (x : α) (f : α → β), (some x).map f = some (f x)) ∧ (∀ (α : Type) (l : List α) (i : Nat) (y : α), l.getD i y = (l[i]?).getD y) := by
 refine ⟨?_, ?_, ?_, ?_, ?_, ?_, ?_, ?_, rfl, rfl, fun _ _ _ => rfl, fun _ _ _ => rfl, fun _ _ _ => rfl, fun _ _ _ _ => rfl, fun _ _ _ _ => gD_⟩ <;> intro b <;> cases b <;> rfl
end Go.Ew
namespace Go.Ew
open Go.RowKit Go.IntWalk
abbrev U (x : BitVec 64) : Value := .int .u64 (x.toNat : Int)
def I64 (a : Int) : Prop := -9223372036854775808 ≤ a ∧ a ≤ 9223372036854775807
theorem w64 {a : Int} (h : I64 a) : IntKind.i64.wrap a = a := i64_in a h
theorem wrap_u64_bv (a : Int) : IntKind.u64.wrap a = ((BitVec.ofInt 64 a).toNat : Int) := by
 rw [IntKind.wrap_u64, BitVec.toNat_ofInt]
 have h1 : (0 : Int) ≤ a % 18446744073709551616 := Int.emod_nonneg _ (by decide)
 show a % 18446744073709551616 = (((a % ((2 ^ 64 : Nat) : Int)).toNat : Nat) : Int)
 rw [show ((2 ^ 64 : Nat) : Int) = 18446744073709551616 from rfl, Int.toNat_of_nonneg h1]
theorem ofInt_toNat (x : BitVec 64) : BitVec.ofInt 64 (x.toNat : Int) = x := by
 apply BitVec.eq_of_toNat_eq
 rw [BitVec.toNat_ofInt]
 have := x.isLt
 omega
section
variable {P : Program} {n : Nat} {ops : Array Oper} {f : Slots} {w : World} {K : Slots → World → Prop} {x y c : Operand} {d : Nat} {ty T T2 : TypeId} {ps : String} {af : Array Edge} {v v2 : Value} {a b : Int} {p q : Bool} {kk kk2 : IntKind} {s t : BitVec 64}
theorem mv (ox : okT n x = true) (hx : ev f x = v) (h : K (upd f d v) w) : SO P n ops ⟨some d, .move x, ty, ps, af, none⟩ f w K :=
 SO.value (v := v) (by simp [execOp, eval_acts ox, hx]) h
theorem asg (ox : okT n x = true) (hx : ev f x = v) (h : K (upd f d v) w) : SO P n ops ⟨some d, .assign x, ty, ps, af, none⟩ f w K :=
 SO.value (v := v) (by simp [execOp, eval_acts ox, hx]) h
theorem pickT (oc : okT n c = true) (ox : okT n x = true) (oy : okT n y = true) (hc : ev f c = .bool p) (hp : p = true) (hx : ev f x = v) (h : K (upd f d v) w) : SO P n ops ⟨some d, .pick c x y, ty, ps, af, none⟩ f w K :=
 SO.value (v := v) (by simp [execOp, asBool, eval_acts oc, eval_acts ox, eval_acts oy, hc, hp, hx]) h
theorem pickF (oc : okT n c = true) (ox : okT n x = true) (oy : okT n y = true) (hc : ev f c = .bool p) (hp : p = false) (hy : ev f y = v) (h : K (upd f d v) w) : SO P n ops ⟨some d, .pick c x y, ty, ps, af, none⟩ f w K :=
 SO.value (v := v) (by simp [execOp, asBool, eval_acts oc, eval_acts ox, eval_acts oy, hc, hp, hy]) h
theorem not_ (ox : okT n x = true) (hx : ev f x = .bool p) (h : K (upd f d (.bool (!p))) w) : SO P n ops ⟨some d, .unOp .not T x, ty, ps, af, none⟩ f w K :=
 SO.value (v := .bool (!p)) (by simp [execOp, eval_acts ox, hx, Op.unary]) h
theorem bin {op : BinOp} (ox : okT n x = true) (oy : okT n y = true) (hx : ev f x = .int kk a) (hy : ev f y = .int kk2 b) (hr : (binOp op T (.int kk a) (.int kk2 b)).run P w = .ok v w) (h : K (upd f d v) w) :
  SO P n ops ⟨some d, .binOp op T x y T2, ty, ps, af, none⟩ f w K :=
 SO.value (v := v) (by
  simp only [execOp, eval_acts ox, eval_acts oy, hx, hy]
  have hg : (eqGuard op T x y (.int kk a) (.int kk2 b)).run P w = .ok () w := by unfold eqGuard; split <;> rfl
  simp [hg, hr, Result.andThen]) h
theorem add (ox : okT n x = true) (oy : okT n y = true) (hx : ev f x = .int .i64 a) (hy : ev f y = .int .i64 b) (hi : I64 (a + b)) (h : K (upd f d (.int .i64 (a + b))) w) : SO P n ops ⟨some d, .binOp .add T x y T2, ty, ps, af, none⟩ f w K :=
 bin ox oy hx hy (by simp [binOp, Op.intArith, w64 hi]) h
theorem sub (ox : okT n x = true) (oy : okT n y = true) (hx : ev f x = .int .i64 a) (hy : ev f y = .int .i64 b) (hi : I64 (a - b)) (h : K (upd f d (.int .i64 (a - b))) w) : SO P n ops ⟨some d, .binOp .sub T x y T2, ty, ps, af, none⟩ f w K :=
 bin ox oy hx hy (by simp [binOp, Op.intArith, w64 hi]) h
theorem mul (ox : okT n x = true) (oy : okT n y = true) (hx : ev f x = .int .i64 a) (hy : ev f y = .int .i64 b) (hi : I64 (a * b)) (h : K (upd f d (.int .i64 (a * b))) w) : SO P n ops ⟨some d, .binOp .mul T x y T2, ty, ps, af, none⟩ f w K :=
 bin ox oy hx hy (by simp [binOp, Op.intArith, w64 hi]) h
theorem quo (ox : okT n x = true) (oy : okT n y = true) (hx : ev f x = .int .i64 a) (hy : ev f y = .int .i64 b) (hi : 0 ≤ a ∧ a ≤ 9223372036854775807 ∧ 1 ≤ b) (h : K (upd f d (.int .i64 (a / b))) w) : SO P n ops ⟨some d, .binOp .quo T x y T2, ty, ps, af, none⟩ f w K :=
 bin ox oy hx hy (by
  have hb : b ≠ 0 := by omega
  simp [binOp, Op.intDiv, hb]; exact i64_quo a b hi) h
theorem rem (ox : okT n x = true) (oy : okT n y = true) (hx : ev f x = .int kk a) (hy : ev f y = .int kk b) (hi : 0 ≤ a ∧ 1 ≤ b) (h : K (upd f d (.int kk (a % b))) w) : SO P n ops ⟨some d, .binOp .rem T x y T2, ty, ps, af, none⟩ f w K :=
 bin ox oy hx hy (by
  have hb : b ≠ 0 := by omega
  simp [binOp, Op.intDiv, hb, rem_in a b hi.1]) h
theorem lss (ox : okT n x = true) (oy : okT n y = true) (hx : ev f x = .int kk a) (hy : ev f y = .int kk b) (h : K (upd f d (.bool (decide (a < b)))) w) : SO P n ops ⟨some d, .binOp .lss T x y T2, ty, ps, af, none⟩ f w K :=
 bin ox oy hx hy (by simp [binOp, Op.intCmp]) h
theorem leq (ox : okT n x = true) (oy : okT n y = true) (hx : ev f x = .int kk a) (hy : ev f y = .int kk b) (h : K (upd f d (.bool (decide (a ≤ b)))) w) : SO P n ops ⟨some d, .binOp .leq T x y T2, ty, ps, af, none⟩ f w K :=
 bin ox oy hx hy (by simp [binOp, Op.intCmp]) h
theorem gtr (ox : okT n x = true) (oy : okT n y = true) (hx : ev f x = .int kk a) (hy : ev f y = .int kk b) (h : K (upd f d (.bool (decide (b < a)))) w) : SO P n ops ⟨some d, .binOp .gtr T x y T2, ty, ps, af, none⟩ f w K :=
 bin ox oy hx hy (by simp [binOp, Op.intCmp]) h
theorem geq (ox : okT n x = true) (oy : okT n y = true) (hx : ev f x = .int kk a) (hy : ev f y = .int kk b) (h : K (upd f d (.bool (decide (b ≤ a)))) w) : SO P n ops ⟨some d, .binOp .geq T x y T2, ty, ps, af, none⟩ f w K :=
 bin ox oy hx hy (by simp [binOp, Op.intCmp]) h
theorem eql (ox : okT n x = true) (oy : okT n y = true) (hx : ev f x = .int kk a) (hy : ev f y = .int kk b) (h : K (upd f d (.bool (decide (a = b)))) w) : SO P n ops ⟨some d, .binOp .eql T x y T2, ty, ps, af, none⟩ f w K :=
 bin ox oy hx hy (by simp [binOp, Op.intCmp]; rfl) h
theorem neq (ox : okT n x = true) (oy : okT n y = true) (hx : ev f x = .int kk a) (hy : ev f y = .int kk b) (h : K (upd f d (.bool (!decide (a = b)))) w) : SO P n ops ⟨some d, .binOp .neq T x y T2, ty, ps, af, none⟩ f w K :=
 bin ox oy hx hy (by simp [binOp, Op.intCmp]; rfl) h
theorem shrI (ox : okT n x = true) (oy : okT n y = true) (hx : ev f x = .int .i64 a) (hy : ev f y = .int .u64 6) (h : K (upd f d (.int .i64 (a / 64))) w) : SO P n ops ⟨some d, .binOp .shr T x y T2, ty, ps, af, none⟩ f w K :=
 bin ox oy hx hy (by
  simp [binOp, Op.shift]
  show a.fdiv (2 ^ min 6 64) = _
  rw [show (2 : Int) ^ min 6 64 = 64 from rfl, Int.fdiv_eq_ediv_of_nonneg _ (by decide)]) h
theorem and63 (ox : okT n x = true) (oy : okT n y = true) (hx : ev f x = .int .i64 a) (hy : ev f y = .int .i64 63) (h : K (upd f d (.int .i64 (a % 64))) w) : SO P n ops ⟨some d, .binOp .and T x y T2, ty, ps, af, none⟩ f w K :=
 bin ox oy hx hy (by
  simp only [binOp, Op.intBits, ne_eq, not_true, if_false, Sem.run_pure]
  have h1 : ((BitVec.ofInt IntKind.i64.bits a &&& BitVec.ofInt IntKind.i64.bits 63).toNat : Int) = a % 64 := by
   show ((BitVec.ofInt 64 a &&& BitVec.ofInt 64 63).toNat : Int) = a % 64
   rw [BitVec.toNat_and, BitVec.toNat_ofInt, show (BitVec.ofInt 64 63).toNat = 2 ^ 6 - 1 from rfl, Nat.and_two_pow_sub_one_eq_mod]
   have : (0 : Int) ≤ a % ((2 ^ 64 : Nat) : Int) := Int.emod_nonneg _ (by decide)
   omega
  rw [h1, w64 (by unfold I64; omega)]) h
theorem wrap_bv (r : BitVec 64) : IntKind.u64.wrap (r.toNat : Int) = (r.toNat : Int) := by rw [wrap_u64_bv, ofInt_toNat]
theorem andU (s t : BitVec 64) (ox : okT n x = true) (oy : okT n y = true) (hx : ev f x = U s) (hy : ev f y = U t) (h : K (upd f d (U (s &&& t))) w) : SO P n ops ⟨some d, .binOp .and T x y T2, ty, ps, af, none⟩ f w K :=
 bin ox oy hx hy (by
  have e1 : BitVec.ofInt IntKind.u64.bits (s.toNat : Int) = s := ofInt_toNat s
  have e2 : BitVec.ofInt IntKind.u64.bits (t.toNat : Int) = t := ofInt_toNat t
  simp only [binOp, Op.intBits, ne_eq, not_true, if_false, Sem.run_pure, e1, e2]; exact congrArg (fun z => Result.ok (Value.int .u64 z) w) (wrap_bv (s &&& t))) h
theorem orU (s t : BitVec 64) (ox : okT n x = true) (oy : okT n y = true) (hx : ev f x = U s) (hy : ev f y = U t) (h : K (upd f d (U (s ||| t))) w) : SO P n ops ⟨some d, .binOp .or T x y T2, ty, ps, af, none⟩ f w K :=
 bin ox oy hx hy (by
  have e1 : BitVec.ofInt IntKind.u64.bits (s.toNat : Int) = s := ofInt_toNat s
  have e2 : BitVec.ofInt IntKind.u64.bits (t.toNat : Int) = t := ofInt_toNat t
  simp only [binOp, Op.intBits, ne_eq, not_true, if_false, Sem.run_pure, e1, e2]; exact congrArg (fun z => Result.ok (Value.int .u64 z) w) (wrap_bv (s ||| t))) h
theorem addU (s t : BitVec 64) (ox : okT n x = true) (oy : okT n y = true) (hx : ev f x = U s) (hy : ev f y = U t) (h : K (upd f d (U (s + t))) w) : SO P n ops ⟨some d, .binOp .add T x y T2, ty, ps, af, none⟩ f w K :=
 bin ox oy hx hy (by
  simp only [binOp, Op.intArith, ne_eq, not_true, if_false, Sem.run_pure]
  refine congrArg (fun z => Result.ok (Value.int .u64 z) w) ?_
  rw [IntKind.wrap_u64, BitVec.toNat_add]; omega) h
theorem subU (s t : BitVec 64) (ox : okT n x = true) (oy : okT n y = true) (hx : ev f x = U s) (hy : ev f y = U t) (h : K (upd f d (U (s - t))) w) : SO P n ops ⟨some d, .binOp .sub T x y T2, ty, ps, af, none⟩ f w K :=
 bin ox oy hx hy (by
  simp only [binOp, Op.intArith, ne_eq, not_true, if_false, Sem.run_pure]
  refine congrArg (fun z => Result.ok (Value.int .u64 z) w) ?_
  have := t.isLt
  rw [IntKind.wrap_u64, BitVec.toNat_sub]; omega) h
theorem negU (s : BitVec 64) (ox : okT n x = true) (hx : ev f x = U s) (h : K (upd f d (U (-s))) w) : SO P n ops ⟨some d, .unOp .neg T x, ty, ps, af, none⟩ f w K :=
 SO.value (v := U (-s)) (by
  simp only [execOp, eval_acts ox, hx, Op.unary, Op.intArith, ne_eq, not_true, if_false]
  have e : IntKind.u64.wrap (0 - (s.toNat : Int)) = ((-s).toNat : Int) := by
   have := s.isLt
   rw [IntKind.wrap_u64, BitVec.toNat_neg]; omega
  rw [e]; simp) h
theorem mulU (s t : BitVec 64) (ox : okT n x = true) (oy : okT n y = true) (hx : ev f x = U s) (hy : ev f y = U t) (h : K (upd f d (U (s * t))) w) : SO P n ops ⟨some d, .binOp .mul T x y T2, ty, ps, af, none⟩ f w K :=
 bin ox oy hx hy (by
  simp only [binOp, Op.intArith, ne_eq, not_true, if_false, Sem.run_pure]
  refine congrArg (fun z => Result.ok (Value.int .u64 z) w) ?_
  rw [IntKind.wrap_u64, BitVec.toNat_mul]; exact (Int.natCast_emod _ _).symm) h
theorem quoU (s t : BitVec 64) (ht : t ≠ 0#64) (ox : okT n x = true) (oy : okT n y = true) (hx : ev f x = U s) (hy : ev f y = U t) (h : K (upd f d (U (s / t))) w) : SO P n ops ⟨some d, .binOp .quo T x y T2, ty, ps, af, none⟩ f w K :=
 bin ox oy hx hy (by
  have h0 : t.toNat ≠ 0 := fun h => ht (BitVec.eq_of_toNat_eq h)
  have h1 : (t.toNat : Int) ≠ 0 := by omega
  have hs := s.isLt
  simp only [binOp, Op.intDiv, ne_eq, not_true, if_false, h1, Sem.run_pure]
  refine congrArg (fun z => Result.ok (Value.int .u64 z) w) ?_
  rw [u64_quo _ _ (by omega), BitVec.toNat_udiv]; rfl) h
theorem remU (s t : BitVec 64) (ht : t ≠ 0#64) (ox : okT n x = true) (oy : okT n y = true) (hx : ev f x = U s) (hy : ev f y = U t) (h : K (upd f d (U (s % t))) w) : SO P n ops ⟨some d, .binOp .rem T x y T2, ty, ps, af, none⟩ f w K :=
 bin ox oy hx hy (by
  have h0 : t.toNat ≠ 0 := fun h => ht (BitVec.eq_of_toNat_eq h)
  have h1 : (t.toNat : Int) ≠ 0 := by omega
  simp only [binOp, Op.intDiv, ne_eq, not_true, if_false, h1, Sem.run_pure]
  refine congrArg (fun z => Result.ok (Value.int .u64 z) w) ?_
  rw [rem_in _ _ (by omega), BitVec.toNat_umod]; rfl) h
theorem shlU (s : BitVec 64) (b : Int) (hb : 0 ≤ b) (ox : okT n x = true) (oy : okT n y = true) (hx : ev f x = U s) (hy : ev f y = .int kk b) (h : K (upd f d (U (s <<< b.toNat))) w) : SO P n ops ⟨some d, .binOp .shl T x y T2, ty, ps, af, none⟩ f w K :=
 bin ox oy hx hy (by
  have h0 : ¬ b < 0 := by omega
  simp only [binOp, Op.shift, h0, if_false, Sem.run_pure]
  refine congrArg (fun z => Result.ok (Value.int .u64 z) w) ?_
  show IntKind.u64.wrap ((s.toNat : Int) * 2 ^ min b.toNat 64) = _
  rw [IntKind.wrap_u64, BitVec.toNat_shiftLeft, Nat.shiftLeft_eq]
  rcases Nat.lt_or_ge b.toNat 64 with hlt | hge
  ·rw [Nat.min_eq_left (by omega)]
   simp
  ·rw [Nat.min_eq_right hge]
   have e1 : s.toNat * 2 ^ b.toNat % 2 ^ 64 = 0 := by
    rw [show b.toNat = 64 + (b.toNat - 64) from by omega, Nat.pow_add, ← Nat.mul_assoc, Nat.mul_comm (s.toNat) _, Nat.mul_assoc]
    exact Nat.mul_mod_right _ _
   rw [e1]
   show (s.toNat : Int) * 18446744073709551616 % 18446744073709551616 = 0
   exact Int.mul_emod_left _ _) h
theorem shrU (s : BitVec 64) (b : Int) (hb : 0 ≤ b) (ox : okT n x = true) (oy : okT n y = true) (hx : ev f x = U s) (hy : ev f y = .int kk b) (h : K (upd f d (U (s >>> b.toNat))) w) : SO P n ops ⟨some d, .binOp .shr T x y T2, ty, ps, af, none⟩ f w K :=
 bin ox oy hx hy (by
  have h0 : ¬ b < 0 := by omega
  simp only [binOp, Op.shift, h0, if_false, Sem.run_pure]
  refine congrArg (fun z => Result.ok (Value.int .u64 z) w) ?_
  show (s.toNat : Int).fdiv (2 ^ min b.toNat 64) = _
  rw [Int.fdiv_eq_ediv_of_nonneg _ (by have : (0 : Int) < 2 ^ min b.toNat 64 := Int.pow_pos (by decide); omega), BitVec.toNat_ushiftRight, Nat.shiftRight_eq_div_pow]
  rcases Nat.lt_or_ge b.toNat 64 with hlt | hge
  ·rw [Nat.min_eq_left (by omega)]
   simp
  ·rw [Nat.min_eq_right hge]
   have hs := s.isLt
   have e1 : s.toNat / 2 ^ b.toNat = 0 := Nat.div_eq_of_lt (Nat.lt_of_lt_of_le hs (Nat.pow_le_pow_right (by decide) hge))
   rw [e1]
   show (s.toNat : Int) / 18446744073709551616 = 0
   omega) h
theorem shrUn (s : BitVec 64) (k : Nat) (ox : okT n x = true) (oy : okT n y = true) (hx : ev f x = U s) (hy : ev f y = .int kk ((k : Nat) : Int)) (h : K (upd f d (U (s >>> k))) w) : SO P n ops ⟨some d, .binOp .shr T x y T2, ty, ps, af, none⟩ f w K :=
 shrU s ((k : Nat) : Int) (by omega) ox oy hx hy (by rw [tN_]; exact h)
theorem eqU (s t : BitVec 64) (ox : okT n x = true) (oy : okT n y = true) (hx : ev f x = U s) (hy : ev f y = U t) (h : K (upd f d (.bool (decide (s = t)))) w) : SO P n ops ⟨some d, .binOp .eql T x y T2, ty, ps, af, none⟩ f w K :=
 bin ox oy hx hy (by
  simp only [binOp, Op.intCmp, ne_eq, not_true, if_false, Sem.run_pure]
  refine congrArg (fun z => Result.ok (Value.bool z) w) ?_
  by_cases e : s = t
  ·subst e; simp
  ·have : (s.toNat : Int) ≠ t.toNat := fun h => e (BitVec.eq_of_toNat_eq (by omega))
   simp [e, this]) h
theorem neU (s t : BitVec 64) (ox : okT n x = true) (oy : okT n y = true) (hx : ev f x = U s) (hy : ev f y = U t) (h : K (upd f d (.bool (!decide (s = t)))) w) : SO P n ops ⟨some d, .binOp .neq T x y T2, ty, ps, af, none⟩ f w K :=
 bin ox oy hx hy (by
  simp only [binOp, Op.intCmp, ne_eq, not_true, if_false, Sem.run_pure]
  refine congrArg (fun z => Result.ok (Value.bool z) w) ?_
  by_cases e : s = t
  ·subst e; simp
  ·have : (s.toNat : Int) ≠ t.toNat := fun h => e (BitVec.eq_of_toNat_eq (by omega))
   simp [e, this]) h
theorem gtU (s t : BitVec 64) (ox : okT n x = true) (oy : okT n y = true) (hx : ev f x = U s) (hy : ev f y = U t) (h : K (upd f d (.bool (decide (t.toNat < s.toNat)))) w) : SO P n ops ⟨some d, .binOp .gtr T x y T2, ty, ps, af, none⟩ f w K :=
 bin ox oy hx hy (by
  simp only [binOp, Op.intCmp, ne_eq, not_true, if_false, Sem.run_pure]
  refine congrArg (fun z => Result.ok (Value.bool z) w) ?_
  simp) h
theorem cv {e : TypeDesc} {k2 : IntKind} (ox : okT n x = true) (hx : ev f x = .int kk a) (h1 : P.underlying T = some e) (h2 : P.underlying T2 = some (.int k2)) (h : K (upd f d (.int k2 (k2.wrap a))) w) :
  SO P n ops ⟨some d, .convert T T2 x, ty, ps, af, none⟩ f w K :=
 SO.value (v := .int k2 (k2.wrap a)) (by simp [execOp, eval_acts ox, hx, convert, underlying, h1, h2, Conv.intToInt]) h
theorem cvU {e : TypeDesc} (ox : okT n x = true) (hx : ev f x = .int kk a) (h1 : P.underlying T = some e) (h2 : P.underlying T2 = some (.int .u64)) (h : K (upd f d (U (BitVec.ofInt 64 a))) w) :
  SO P n ops ⟨some d, .convert T T2 x, ty, ps, af, none⟩ f w K :=
 cv ox hx h1 h2 (by rw [wrap_u64_bv]; exact h)
theorem cvI {e : TypeDesc} (ox : okT n x = true) (hx : ev f x = .int kk a) (hi : I64 a) (h1 : P.underlying T = some e) (h2 : P.underlying T2 = some (.int .i64)) (h : K (upd f d (.int .i64 a)) w) :
  SO P n ops ⟨some d, .convert T T2 x, ty, ps, af, none⟩ f w K :=
 cv ox hx h1 h2 (by rw [w64 hi]; exact h)
theorem max2 (ox : okT n x = true) (oy : okT n y = true) (hx : ev f x = .int kk a) (hy : ev f y = .int kk b) {ats : Array TypeId} (h : K (upd f d (.int kk (max a b))) w) :
  SO P n ops ⟨some d, .call { callee := .builtin .max, args := #[x, y], argTypes := ats }, ty, ps, af, none⟩ f w K :=
 SO.value (v := .int kk (max a b)) (by
  have : (if b > a then b else a) = max a b := by split <;> omega
  simp [execOp, resolve, invoke, builtin, Builtin.max_, Builtin.max2, eval_acts ox, eval_acts oy, hx, hy, this]) h
theorem xt {i : Nat} {vs : Array Value} (ox : okT n x = true) (hx : ev f x = .tuple vs) (hi : vs[i]? = some v) (h : K (upd f d v) w) : SO P n ops ⟨some d, .extract x i, ty, ps, af, none⟩ f w K :=
 SO.value (v := v) (by simp [execOp, Instr.extract, eval_acts ox, hx, hi]) h
def okL (n : Nat) (L : List Operand) : Bool := L.all (okT n)
theorem eval_list {L : List Operand} (h : okL n L = true) : L.map (acts n f).eval = L.map (ev f) := by
 apply List.map_congr_left
 intro x hx
 exact eval_acts (List.all_eq_true.1 h x hx)
theorem mf {fn : Fn} {C : List Operand} (oc : okL n C = true) (h : K (upd f d (.func fn #[] (C.map (ev f)).toArray)) w) : SO P n ops ⟨some d, .makeFunc fn #[] C.toArray, ty, ps, af, none⟩ f w K :=
 SO.value (v := .func fn #[] (C.map (ev f)).toArray) (by simp [execOp, Instr.makeFunc, eval_list oc]) h
theorem callFunc_run {g : FuncId} {fn : Func} {c : Code} {args : Array Value} (hf : P.funcs[g]? = some fn) (hb : fn.body = some c) (hn : (fn.name == "runtime.NumGoroutine") = false) :
  (callFunc g args).run P w = .ok (.enter g args) w := by
 simp only [beq_eq_false_iff_ne, ne_eq] at hn
 simp [callFunc, hf, hb, hn]
def GoF (P : Program) (g : FuncId) : Prop := ∃ fn c, P.funcs[g]? = some fn ∧ fn.body = some c ∧ (fn.name == "runtime.NumGoroutine") = false
theorem e0 : ([] : List Operand).map (ev f) = [] := rfl
theorem ec {L : List Operand} {vs : List Value} (h : ev f x = v) (t : L.map (ev f) = vs) : (x :: L).map (ev f) = v :: vs := by
 rw [List.map_cons, h, t]
theorem ca {g : FuncId} {L : List Operand} {vs : List Value} {ats : Array TypeId} {R : Value → World → Prop} (G : GoF P g) (ol : okL n L = true) (hL : L.map (ev f) = vs)
  (hc : Calls P g vs.toArray w (Ret R)) (h : ∀ v w', R v w' → K (upd f d v) w') :
  SO P n ops ⟨some d, .call { callee := .value (.func g), args := L.toArray, argTypes := ats }, ty, ps, af, none⟩ f w K := by
 obtain ⟨fn, c, hf, hb, hn⟩ := G
 subst hL
 exact SO.enter (g := g) (args := (L.map (ev f)).toArray) (w' := w) (by
  simp only [execOp, resolve, List.map_toArray, eval_list ol]
  show ((Deferred.ofValue (.func (.func g) #[] #[]) (L.map (ev f)).toArray >>= fun d => invoke d.target d.args).run P w) = _
  simp [Deferred.ofValue, invoke, callFunc_run hf hb hn]) (hc.mono fun e w' hr => by
   obtain ⟨v, rfl, hv⟩ := hr
   exact ⟨v, rfl, h v w' hv⟩)
theorem cf {fx : Operand} {g : FuncId} {L : List Operand} {vs C : List Value} {ats : Array TypeId} {R : Value → World → Prop} (G : GoF P g)
  (ofx : okT n fx = true) (ol : okL n L = true) (hfx : ev f fx = .func (.func g) #[] C.toArray) (hL : L.map (ev f) = vs)
  (hc : Calls P g (vs ++ C).toArray w (Ret R)) (h : ∀ v w', R v w' → K (upd f d v) w') :
  SO P n ops ⟨some d, .call { callee := .value fx, args := L.toArray, argTypes := ats }, ty, ps, af, none⟩ f w K := by
 obtain ⟨fn, c, hf, hb, hn⟩ := G
 subst hL
 exact SO.enter (g := g) (args := (L.map (ev f) ++ C).toArray) (w' := w) (by
  simp only [execOp, resolve, List.map_toArray, eval_list ol, eval_acts ofx, hfx]
  simp [Deferred.ofValue, invoke, callFunc_run hf hb hn]) (hc.mono fun e w' hr => by
   obtain ⟨v, rfl, hv⟩ := hr
   exact ⟨v, rfl, h v w' hv⟩)
end
end Go.Ew
namespace Go.Ew
open Go.RowKit
def Up (M : Nat → Prop) (w : World) (M' : Nat → Prop) (w' : World) : Prop :=
 w.heap.size ≤ w'.heap.size ∧ ∀ b, b < w.heap.size → ¬ M b → w'.heap[b]? = w.heap[b]? ∧ ¬ M' b
theorem Up.refl (M : Nat → Prop) (w : World) : Up M w M w := ⟨Nat.le_refl _, fun _ _ h => ⟨rfl, h⟩⟩
theorem Up.trans {M M' M'' : Nat → Prop} {w w' w'' : World} (h : Up M w M' w') (k : Up M' w' M'' w'') : Up M w M'' w'' :=
 ⟨Nat.le_trans h.1 k.1, fun b hb hM => by
  have h1 := h.2 b hb hM
  have h2 := k.2 b (Nat.lt_of_lt_of_le hb h.1) h1.2
  exact ⟨h2.1.trans h1.1, h2.2⟩⟩
theorem Up.ext {M : Nat → Prop} {w w' : World} (h : Ext w w') : Up M w M w' := ⟨h.size, fun b hb hM => ⟨h.block b hb, hM⟩⟩
theorem Up.less {M M' : Nat → Prop} {w : World} (h : ∀ b, b < w.heap.size → M' b → M b) : Up M w M' w := ⟨Nat.le_refl _, fun b hb hM => ⟨rfl, fun h' => hM (h b hb h')⟩⟩
theorem block_lt_cell {w : World} {ad : Addr} {v : Value} (h : w.cell? ad = some v) : ad.block < w.heap.size := World.block_lt_of_cell? w ad h
theorem Up.cell {M M' : Nat → Prop} {w w' : World} (h : Up M w M' w') {ad : Addr} {v : Value} (hM : ¬ M ad.block) (hc : w.cell? ad = some v) : w'.cell? ad = some v :=
 (World.cell?_of_block (h.2 _ (block_lt_cell hc) hM).1).trans hc
theorem add_block (a : Addr) (j : Nat) : (a.add j).block = a.block := by unfold Addr.add; split <;> rfl
theorem add_add (a : Addr) (i j : Nat) : (a.add i).add j = a.add (i + j) := by
 unfold Addr.add
 by_cases hi : i = 0
 ·subst hi; simp
 ·by_cases hj : j = 0
  ·subst hj; simp
  ·simp [hi, hj, Nat.add_assoc]
class GT (α : Type) where
 size : Nat
 agg : Bool
 rep : (Nat → Prop) → World → List Value → α → Prop
 len : ∀ {M w cs x}, rep M w cs x → cs.length = size
 one : ∀ {M w cs x}, rep M w cs x → ∀ c ∈ cs, c.oneCell' = true
 single : agg = false → size = 1
 pos : 0 < size
 lift : ∀ {M w M' w' cs x}, rep M w cs x → Up M w M' w' → rep M' w' cs x
def mkv (agg : Bool) (cs : List Value) : Value := bif agg then .agg cs.toArray else cs.headD undef
theorem cells_mkv {agg : Bool} {cs : List Value} (h : agg = false → cs.length = 1) (h1 : ∀ c ∈ cs, c.oneCell' = true) : (mkv agg cs).cells = cs.toArray := by
 cases agg with
 | true => rfl
 | false =>
  match cs, h rfl with
  | [c], _ =>
   have := h1 c (by simp)
   cases c <;> first | rfl | cases this
def RV {α : Type} [GT α] (M : Nat → Prop) (w : World) (v : Value) (x : α) : Prop := ∃ cs, GT.rep M w cs x ∧ v = mkv (GT.agg α) cs
def At {α : Type} [GT α] (M : Nat → Prop) (w : World) (ad : Addr) (x : α) : Prop := ∃ cs, GT.rep M w cs x ∧ ¬ M ad.block ∧ ∀ j v, cs[j]? = some v → w.cell? (ad.add j) = some v
theorem RV.lift {α : Type} [GT α] {M M' : Nat → Prop} {w w' : World} {v : Value} {x : α} (h : RV M w v x) (u : Up M w M' w') : RV M' w' v x :=
 let ⟨cs, h1, h2⟩ := h; ⟨cs, GT.lift h1 u, h2⟩
theorem At.lift {α : Type} [GT α] {M M' : Nat → Prop} {w w' : World} {ad : Addr} {x : α} (h : At M w ad x) (u : Up M w M' w') : At M' w' ad x := by
 obtain ⟨cs, h1, h2, h3⟩ := h
 have hne : 0 < cs.length := by rw [GT.len h1]; exact GT.pos
 have hlt : ad.block < w.heap.size := by
  have := h3 0 cs[0] (gE_ hne)
  have := block_lt_cell this
  rwa [add_block] at this
 exact ⟨cs, GT.lift h1 u, (u.2 _ hlt h2).2, fun j v hv => u.cell (by rw [add_block]; exact h2) (h3 j v hv)⟩
instance gInt : GT Int where
 size := 1
 agg := false
 rep _ _ cs x := cs = [.int .i64 x] ∧ I64 x
 len h := by rw [h.1]; rfl
 one h := by rw [h.1]; simp [Value.oneCell']
 single _ := rfl
 pos := by decide
 lift h _ := h
instance gBV : GT (BitVec 64) where
 size := 1
 agg := false
 rep _ _ cs x := cs = [U x]
 len h := by rw [h]; rfl
 one h := by rw [h]; simp [Value.oneCell']
 single _ := rfl
 pos := by decide
 lift h _ := h
abbrev U8 (x : BitVec 8) : Value := .int .u8 (x.toNat : Int)
instance gB8 : GT (BitVec 8) where
 size := 1
 agg := false
 rep _ _ cs x := cs = [U8 x]
 len h := by rw [h]; rfl
 one h := by rw [h]; simp [Value.oneCell']
 single _ := rfl
 pos := by decide
 lift h _ := h
instance gBool : GT Bool where
 size := 1
 agg := false
 rep _ _ cs x := cs = [.bool x]
 len h := by rw [h]; rfl
 one h := by rw [h]; simp [Value.oneCell']
 single _ := rfl
 pos := by decide
 lift h _ := h
instance gStr : GT ByteArray where
 size := 1
 agg := false
 rep _ _ cs x := cs = [.string x] ∧ x.size ≤ maxLen
 len h := by rw [h.1]; rfl
 one h := by rw [h.1]; simp [Value.oneCell']
 single _ := rfl
 pos := by decide
 lift h _ := h
instance gProd {α β : Type} [GT α] [GT β] : GT (α × β) where
 size := GT.size α + GT.size β
 agg := true
 rep M w cs x := ∃ c1 c2, cs = c1 ++ c2 ∧ GT.rep M w c1 x.1 ∧ GT.rep M w c2 x.2
 len := by
  rintro M w cs x ⟨c1, c2, rfl, h1, h2⟩
  rw [lA_, GT.len h1, GT.len h2]
 one := by
  rintro M w cs x ⟨c1, c2, rfl, h1, h2⟩ c hc
  rcases List.mem_append.1 hc with h | h
  ·exact GT.one h1 c h
  ·exact GT.one h2 c h
 single h := by cases h
 pos := by have := GT.pos (α := α); omega
 lift := by
  rintro M w M' w' cs x ⟨c1, c2, rfl, h1, h2⟩ u
  exact ⟨c1, c2, rfl, GT.lift h1 u, GT.lift h2 u⟩
def Seg {α : Type} [GT α] (M : Nat → Prop) (w : World) (ad : Addr) (xs : List α) : Prop :=
 ∀ i x, xs[i]? = some x → At M w (ad.add (i * GT.size α)) x
def RS {α : Type} [GT α] (M : Nat → Prop) (w : World) (v : Value) (xs : List α) : Prop :=
 ∃ a n c, v = .slice a n c ∧ xs.length = n ∧ n ≤ c ∧ c ≤ maxLen ∧ (n = 0 ∨ ∃ ad, a = some ad ∧ Seg M w ad xs)
theorem RS.lift {α : Type} [GT α] {M M' : Nat → Prop} {w w' : World} {v : Value} {xs : List α} (h : RS M w v xs) (u : Up M w M' w') : RS M' w' v xs := by
 obtain ⟨a, n, c, h1, h2, h3, h4, h5⟩ := h
 refine ⟨a, n, c, h1, h2, h3, h4, ?_⟩
 rcases h5 with h5 | ⟨ad, h5, h6⟩
 ·exact .inl h5
 ·exact .inr ⟨ad, h5, fun i x hx => (h6 i x hx).lift u⟩
instance gList {α : Type} [GT α] : GT (List α) where
 size := 1
 agg := false
 rep M w cs xs := ∃ v, cs = [v] ∧ RS M w v xs
 len := by rintro M w cs x ⟨v, rfl, _⟩; rfl
 one := by
  rintro M w cs x ⟨v, rfl, a, n, c, rfl, _⟩ c hc
  simp at hc; subst hc; rfl
 single _ := rfl
 pos := by decide
 lift := by
  rintro M w M' w' cs x ⟨v, rfl, h⟩ u
  exact ⟨v, rfl, h.lift u⟩
theorem RV.int {M : Nat → Prop} {w : World} {v : Value} {x : Int} : RV M w v x ↔ v = .int .i64 x ∧ I64 x := by
 constructor
 ·rintro ⟨cs, ⟨rfl, h⟩, rfl⟩; exact ⟨rfl, h⟩
 ·rintro ⟨rfl, h⟩; exact ⟨_, ⟨rfl, h⟩, rfl⟩
theorem RV.bv {M : Nat → Prop} {w : World} {v : Value} {x : BitVec 64} : RV M w v x ↔ v = U x := by
 constructor
 ·rintro ⟨cs, rfl, rfl⟩; rfl
 ·rintro rfl; exact ⟨_, rfl, rfl⟩
theorem RV.b8 {M : Nat → Prop} {w : World} {v : Value} {x : BitVec 8} : RV M w v x ↔ v = U8 x := by
 constructor
 ·rintro ⟨cs, rfl, rfl⟩; rfl
 ·rintro rfl; exact ⟨_, rfl, rfl⟩
theorem RV.bool {M : Nat → Prop} {w : World} {v : Value} {x : Bool} : RV M w v x ↔ v = .bool x := by
 constructor
 ·rintro ⟨cs, rfl, rfl⟩; rfl
 ·rintro rfl; exact ⟨_, rfl, rfl⟩
theorem RV.str {M : Nat → Prop} {w : World} {v : Value} {x : ByteArray} : RV M w v x ↔ v = .string x ∧ x.size ≤ maxLen := by
 constructor
 ·rintro ⟨cs, ⟨rfl, h⟩, rfl⟩; exact ⟨rfl, h⟩
 ·rintro ⟨rfl, h⟩; exact ⟨_, ⟨rfl, h⟩, rfl⟩
theorem RV.list {α : Type} [GT α] {M : Nat → Prop} {w : World} {v : Value} {xs : List α} : RV M w v xs ↔ RS M w v xs := by
 constructor
 ·rintro ⟨cs, ⟨u, rfl, h⟩, rfl⟩; exact h
 ·intro h; exact ⟨[v], ⟨v, rfl, h⟩, rfl⟩
structure Item where
 blk : Option Nat
 holds : (Nat → Prop) → World → Prop
 lift : ∀ {M M' w w'}, holds M w → Up M w M' w' → (∀ b, blk = some b → w'.heap[b]? = w.heap[b]?) → holds M' w'
def imm {α : Type} [GT α] (v : Value) (x : α) : Item := ⟨none, fun M w => RV M w v x, fun h u _ => h.lift u⟩
def atI {α : Type} [GT α] (ad : Addr) (x : α) : Item := ⟨none, fun M w => At M w ad x, fun h u _ => h.lift u⟩
def box (b : Nat) (cs : Array Value) (t : TypeId) : Item := ⟨some b, fun M w => w.heap[b]? = some (.cells cs t (0, 0)), fun h u hb => (hb b rfl).trans h⟩
def Chunks {α : Type} [GT α] (M : Nat → Prop) (w : World) : List Value → List α → Prop
 | cs, [] => cs = []
 | cs, x :: xs => ∃ c1 c2, cs = c1 ++ c2 ∧ GT.rep M w c1 x ∧ Chunks M w c2 xs
theorem Chunks.lift {α : Type} [GT α] {M M' : Nat → Prop} {w w' : World} (u : Up M w M' w') : ∀ {xs : List α} {cs : List Value}, Chunks M w cs xs → Chunks M' w' cs xs
 | [], _, h => h
 | x :: xs, cs, ⟨c1, c2, h1, h2, h3⟩ => ⟨c1, c2, h1, GT.lift h2 u, Chunks.lift u h3⟩
theorem Chunks.length {α : Type} [GT α] {M : Nat → Prop} {w : World} : ∀ {xs : List α} {cs : List Value}, Chunks M w cs xs → cs.length = xs.length * GT.size α
 | [], _, h => by rw [show _ = [] from h]; simp
 | x :: xs, cs, ⟨c1, c2, h1, h2, h3⟩ => by rw [h1, lA_, GT.len h2, Chunks.length h3, lC_, Nat.add_mul]; omega
theorem Chunks.append {α : Type} [GT α] {M : Nat → Prop} {w : World} : ∀ {xs ys : List α} {cs ds : List Value}, Chunks M w cs xs → Chunks M w ds ys → Chunks M w (cs ++ ds) (xs ++ ys)
 | [], ys, cs, ds, h, k => by rw [show cs = [] from h]; exact k
 | x :: xs, ys, cs, ds, ⟨c1, c2, h1, h2, h3⟩, k => ⟨c1, c2 ++ ds, by rw [h1, List.append_assoc], h2, Chunks.append h3 k⟩
theorem Chunks.oneC {α : Type} [GT α] {M : Nat → Prop} {w : World} : ∀ {xs : List α} {cs : List Value}, Chunks M w cs xs → ∀ c ∈ cs, c.oneCell' = true
 | [], _, h, c, hc => by rw [show _ = [] from h] at hc; cases hc
 | x :: xs, cs, ⟨c1, c2, h1, h2, h3⟩, c, hc => by
  rw [h1] at hc
  rcases List.mem_append.1 hc with h | h
  ·exact GT.one h2 c h
  ·exact Chunks.oneC h3 c h
theorem Chunks.at_ {α : Type} [GT α] {M : Nat → Prop} {w : World} : ∀ {xs : List α} {cs : List Value}, Chunks M w cs xs → ∀ i x, xs[i]? = some x → ∃ c, GT.rep M w c x ∧ ∀ j v, c[j]? = some v → cs[i * GT.size α + j]? = some v
 | [], _, _, i, x, hx => by simp at hx
 | y :: xs, cs, ⟨c1, c2, h1, h2, h3⟩, i, x, hx => by
  cases i with
  | zero =>
   simp at hx; subst hx
   refine ⟨c1, h2, fun j v hv => ?_⟩
   have hj : j < c1.length := (gS_.1 hv).1
   rw [h1, Nat.zero_mul, Nat.zero_add, aL_ hj]; exact hv
  | succ i =>
   simp at hx
   obtain ⟨c, hc1, hc2⟩ := Chunks.at_ h3 i x hx
   refine ⟨c, hc1, fun j v hv => ?_⟩
   have hl := GT.len h2
   rw [h1, aR_ (by rw [hl, Nat.add_mul]; omega), hl]
   have := hc2 j v hv
   rw [show (i + 1) * GT.size α + j - GT.size α = i * GT.size α + j from by rw [Nat.add_mul]; omega]
   exact this
def own {α : Type} [GT α] (B : Nat) (e : TypeId) (v : Value) (xs : List α) : Item :=
 ⟨v.ownBlock, fun M w => ∃ cs, w.ownsRow B e (GT.size α) v xs.length cs ∧ Chunks M w cs xs, fun {M M' w w'} h u hb => by
  obtain ⟨cs, h1, h2⟩ := h
  refine ⟨cs, ⟨h1.1, ?_⟩, Chunks.lift u h2⟩
  rcases h1.2 with h3 | ⟨g, cap, cur, rfl, h4, h5, h6⟩
  ·exact .inl h3
  ·exact .inr ⟨g, cap, cur, rfl, h4, (hb g rfl).trans h5, h6⟩⟩
def MS (M0 : Nat → Prop) (l : List Item) (b : Nat) : Prop := M0 b ∨ ∃ it ∈ l, it.blk = some b
structure HI (M0 : Nat → Prop) (w0 w : World) (l : List Item) : Prop where
 below : Ext w0 w
 m0 : ∀ b, M0 b → b < w0.heap.size
 blks : ∀ it ∈ l, ∀ b, it.blk = some b → w0.heap.size ≤ b ∧ b < w.heap.size
 nodup : (l.filterMap (·.blk)).Nodup
 all : ∀ it ∈ l, it.holds (MS M0 l) w
section
variable {M0 : Nat → Prop} {w0 w w' : World} {l : List Item} {it it' : Item}
theorem HI.at_ (h : HI M0 w0 w l) (i : Nat) (hi : l[i]? = some it) : it.holds (MS M0 l) w := h.all it (mG_ hi)
theorem HI.mb (h : HI M0 w0 w l) : ∀ b, MS M0 l b → b < w.heap.size := by
 rintro b (hb | ⟨it, hit, hb⟩)
 ·exact Nat.lt_of_lt_of_le (h.m0 b hb) h.below.size
 ·exact (h.blks it hit b hb).2
theorem HI.start (hM : ∀ b, M0 b → b < w.heap.size) : HI M0 w w [] :=
 ⟨Ext.refl w, hM, fun _ h => (by cases h), List.nodup_nil, fun _ h => (by cases h)⟩
theorem HI.ext (h : HI M0 w0 w l) (x : Ext w w') : HI M0 w0 w' l :=
 ⟨h.below.trans x, h.m0, fun it hit b hb => ⟨(h.blks it hit b hb).1, Nat.lt_of_lt_of_le (h.blks it hit b hb).2 x.size⟩, h.nodup,
  fun it hit => it.lift (h.all it hit) (Up.ext x) fun b hb => x.block b (h.blks it hit b hb).2⟩
theorem MS_cons_none (hn : it.blk = none) : MS M0 (it :: l) = MS M0 l := by
 funext b
 simp only [MS, List.mem_cons, eq_iff_iff]
 constructor
 ·rintro (h | ⟨i, rfl | hi, hb⟩)
  ·exact .inl h
  ·rw [hn] at hb; cases hb
  ·exact .inr ⟨i, hi, hb⟩
 ·rintro (h | ⟨i, hi, hb⟩)
  ·exact .inl h
  ·exact .inr ⟨i, .inr hi, hb⟩
theorem HI.put (h : HI M0 w0 w l) (hn : it.blk = none) (hh : it.holds (MS M0 l) w) : HI M0 w0 w (it :: l) := by
 refine ⟨h.below, h.m0, ?_, by simpa [List.filterMap_cons, hn] using h.nodup, ?_⟩
 ·intro i hi b hb
  rcases List.mem_cons.1 hi with rfl | hi
  ·rw [hn] at hb; cases hb
  ·exact h.blks i hi b hb
 ·rw [MS_cons_none hn]
  intro i hi
  rcases List.mem_cons.1 hi with rfl | hi
  ·exact hh
  ·exact h.all i hi
theorem HI.new (h : HI M0 w0 w l) (x : Ext w w') (b : Nat) (hn : it.blk = some b) (hb : w.heap.size ≤ b) (hb' : b < w'.heap.size) (hh : it.holds (MS M0 (it :: l)) w') : HI M0 w0 w' (it :: l) := by
 refine ⟨h.below.trans x, h.m0, ?_, ?_, ?_⟩
 ·intro i hi c hc
  rcases List.mem_cons.1 hi with rfl | hi
  ·rw [hn] at hc; cases hc; exact ⟨Nat.le_trans h.below.size hb, hb'⟩
  ·exact ⟨(h.blks i hi c hc).1, Nat.lt_of_lt_of_le (h.blks i hi c hc).2 x.size⟩
 ·rw [List.filterMap_cons, hn]
  refine List.nodup_cons.2 ⟨?_, h.nodup⟩
  intro hm
  obtain ⟨i, hi, hib⟩ := List.mem_filterMap.1 hm
  have := (h.blks i hi b hib).2
  omega
 ·intro i hi
  rcases List.mem_cons.1 hi with rfl | hi
  ·exact hh
  ·refine i.lift (h.all i hi) ⟨x.size, fun c hc hM => ⟨x.block c hc, ?_⟩⟩ fun c hc => x.block c (h.blks i hi c hc).2
   rintro (hc' | ⟨j, hj, hjc⟩)
   ·exact hM (.inl hc')
   ·rcases List.mem_cons.1 hj with rfl | hj
    ·rw [hn] at hjc; cases hjc; omega
    ·exact hM (.inr ⟨j, hj, hjc⟩)
theorem HI.turn (h : HI M0 w0 w l) (i : Nat) (hi : l[i]? = some it) (hos : w'.os = w.os) (hta : w'.tape = w.tape) (hou : w'.output = w.output) (hs : w.heap.size ≤ w'.heap.size)
  (hk : ∀ c, c < w.heap.size → it.blk ≠ some c → w'.heap[c]? = w.heap[c]?)
  (hb : ∀ b, it'.blk = some b → b < w'.heap.size ∧ (it.blk = some b ∨ w.heap.size ≤ b))
  (hh : it'.holds (MS M0 (l.set i it')) w') : HI M0 w0 w' (l.set i it') := by
 have hil : i < l.length := (gS_.1 hi).1
 have hit : it ∈ l := mG_ hi
 have hmem : ∀ j, j ∈ l.set i it' → j = it' ∨ ∃ m, m ≠ i ∧ l[m]? = some j := by
  intro j hj
  obtain ⟨m, hm, rfl⟩ := List.mem_iff_getElem.1 hj
  rw [List.getElem_set]
  split
  ·exact .inl rfl
  ·rename_i hne
   exact .inr ⟨m, fun e => hne e.symm, gE_ (by simpa using hm)⟩
 -- blocks of the others differ from that of item i
 have hdis : ∀ m j b, m ≠ i → l[m]? = some j → j.blk = some b → it.blk ≠ some b := by
  intro m j b hm hj hjb hib
  exact hm (filterMap_inj (·.blk) l h.nodup m i j it hj hi (by rw [hjb]; rfl) (by rw [hjb, hib]))
 refine ⟨⟨hos.trans h.below.os, hta.trans h.below.tape, hou.trans h.below.output, Nat.le_trans h.below.size hs, fun c hc => ?_⟩, h.m0, ?_, ?_, ?_⟩
 ·rw [hk c (Nat.lt_of_lt_of_le hc h.below.size) (fun e => by have := (h.blks it hit c e).1; omega)]
  exact h.below.block c hc
 ·intro j hj b hjb
  rcases hmem j hj with rfl | ⟨m, hm, hjm⟩
  ·obtain ⟨h1, h2⟩ := hb b hjb
   refine ⟨?_, h1⟩
   rcases h2 with h2 | h2
   ·exact (h.blks it hit b h2).1
   ·exact Nat.le_trans h.below.size h2
  ·have := h.blks j (mG_ hjm) b hjb
   exact ⟨this.1, Nat.lt_of_lt_of_le this.2 hs⟩
 · -- no two have one block
  have hsplit : l = l.take i ++ it :: l.drop (i + 1) := by
   have h1 := List.take_append_drop i l
   rw [List.drop_eq_getElem_cons hil] at h1
   have h2 : l[i] = it := by
    have := gE_ hil
    rw [hi] at this
    exact (Option.some.inj this).symm
   rw [h2] at h1
   exact h1.symm
  have hset : l.set i it' = l.take i ++ it' :: l.drop (i + 1) := by
   rw [List.set_eq_take_append_cons_drop, if_pos hil]
  have hnd := h.nodup
  rw [hsplit] at hnd
  rw [hset]
  simp only [List.filterMap_append, List.filterMap_cons] at hnd ⊢
  have hsub : ((l.take i).filterMap (·.blk) ++ (l.drop (i + 1)).filterMap (·.blk)).Nodup := by
   refine List.Nodup.sublist ?_ hnd
   refine List.Sublist.append (List.Sublist.refl _) ?_
   cases it.blk with
   | none => exact List.Sublist.refl _
   | some b => exact List.sublist_cons_self _ _
  cases hbl : it'.blk with
  | none => simpa [hbl] using hsub
  | some b =>
   simp only []
   have hnot : ∀ j, (j ∈ l.take i ∨ j ∈ l.drop (i + 1)) → j.blk ≠ some b := by
    intro j hj hjb
    have hjm : ∃ m, m ≠ i ∧ l[m]? = some j := by
     rcases hj with hj | hj
     ·obtain ⟨m, hm, rfl⟩ := List.mem_iff_getElem.1 hj
      simp only [lT_] at hm
      exact ⟨m, by omega, by rw [List.getElem_take]; exact gE_ (by omega)⟩
     ·obtain ⟨m, hm, rfl⟩ := List.mem_iff_getElem.1 hj
      simp only [List.length_drop] at hm
      exact ⟨i + 1 + m, by omega, by rw [List.getElem_drop]; exact gE_ (by omega)⟩
    obtain ⟨m, hm, hjm⟩ := hjm
    rcases (hb b hbl).2 with h2 | h2
    ·exact hdis m j b hm hjm hjb h2
    ·have := (h.blks j (mG_ hjm) b hjb).2
     omega
   have : ((l.take i).filterMap (·.blk) ++ b :: (l.drop (i + 1)).filterMap (·.blk)).Nodup := by
    rw [List.nodup_append] at hsub ⊢
    refine ⟨hsub.1, List.nodup_cons.2 ⟨?_, hsub.2.1⟩, ?_⟩
    ·intro hm
     obtain ⟨j, hj, hjb⟩ := List.mem_filterMap.1 hm
     exact hnot j (.inr hj) hjb
    ·intro c hc c' hc' he
     subst he
     rcases List.mem_cons.1 hc' with rfl | hc'
     ·obtain ⟨j, hj, hjb⟩ := List.mem_filterMap.1 hc
      exact hnot j (.inl hj) hjb
     ·exact hsub.2.2 c hc c hc' rfl
   exact this
 ·intro j hj
  rcases hmem j hj with rfl | ⟨m, hm, hjm⟩
  ·exact hh
  ·have hjl := mG_ hjm
   refine j.lift (h.all j hjl) ⟨hs, fun c hc hM => ?_⟩ fun c hc => hk c (h.blks j hjl c hc).2 (hdis m j c hm hjm hc)
   refine ⟨hk c hc fun e => hM (.inr ⟨it, hit, e⟩), ?_⟩
   rintro (h1 | ⟨q, hq, hqc⟩)
   ·exact hM (.inl h1)
   ·rcases hmem q hq with rfl | ⟨m', hm', hqm⟩
    ·rcases (hb c hqc).2 with h2 | h2
     ·exact hM (.inr ⟨it, hit, h2⟩)
     ·omega
    ·exact hM (.inr ⟨q, mG_ hqm, hqc⟩)
theorem HI.pick (h : HI M0 w0 w l) (l' : List Item) (hs : ∀ it ∈ l', it ∈ l) (hn : (l'.filterMap (·.blk)).Nodup) : HI M0 w0 w l' :=
 ⟨h.below, h.m0, fun it hit => h.blks it (hs it hit), hn, fun it hit => it.lift (h.all it (hs it hit)) (Up.less fun b _ hb => by
  rcases hb with hb | ⟨j, hj, hjb⟩
  ·exact .inl hb
  ·exact .inr ⟨j, hs j hj, hjb⟩) fun _ _ => rfl⟩
theorem HI.drop (h : HI M0 w0 w l) (i : Nat) : HI M0 w0 w (l.eraseIdx i) :=
 h.pick _ (fun it hit => List.mem_of_mem_eraseIdx hit) (h.nodup.sublist ((List.eraseIdx_sublist l i).filterMap _))
theorem HI.out (h : HI M0 w0 w l) : Up (MS M0 l) w M0 w := Up.less fun b _ hb => .inl hb
end
def Gives {α : Type} [GT α] (M : Nat → Prop) (w0 : World) (x : α) (v : Value) (w : World) : Prop := Ext w0 w ∧ RV M w v x
def News {α : Type} [GT α] (w0 : World) (x : α) (v : Value) (w : World) : Prop := Ext w0 w ∧ RV (fun b => b < w0.heap.size) w v x
def Owns {α : Type} [GT α] (e : TypeId) (w0 : World) (xs : List α) (v : Value) (w : World) : Prop :=
 Ext w0 w ∧ (∀ b, v.ownBlock = some b → b < w.heap.size) ∧ (own w0.heap.size e v xs).holds (fun b => b < w0.heap.size ∨ v.ownBlock = some b) w
theorem bE (b : Bool) : b = true ∨ b = false := Bool.eq_false_or_eq_true b
theorem dT {p : Prop} [Decidable p] (h : decide p = true) : p := of_decide_eq_true h
theorem dF {p : Prop} [Decidable p] (h : decide p = false) : ¬ p := of_decide_eq_false h
abbrev OA := Option Addr
abbrev sL {α : Type} (a : Option Addr) (xs : List α) (c : Nat) : Value := .slice a xs.length c
abbrev iL {α : Type} [GT α] (a : Option Addr) (xs : List α) (c : Nat) : Item := imm (.slice a xs.length c) xs
abbrev oL {α : Type} [GT α] (w : World) (e : TypeId) (a : Option Addr) (xs : List α) (c : Nat) : Item := own w.heap.size e (.slice a xs.length c) xs
end Go.Ew
namespace Go.Ew
open Go.RowKit Go.IntWalk
def aggT (P : Program) (t : TypeId) : Option Bool := (P.underlying t).map fun | .struct _ | .array _ _ => true | _ => false
structure TyF (P : Program) (t : TypeId) (k : Nat) (agg : Bool) (bytes : Nat) (z : Value) : Prop where
 i : (P.info? t).map (fun i => (i.zero, i.size, i.bytes)) = some (some z, k, bytes)
 a : aggT P t = some agg
section
variable {P : Program} {t e : TypeId} {k bytes : Nat} {agg : Bool} {z : Value} {w : World}
theorem TyF.info (F : TyF P t k agg bytes z) : ∃ i, P.info? t = some i ∧ i.zero = some z ∧ i.size = k ∧ i.bytes = bytes := info_parts F.i
theorem TyF.run_isAgg (F : TyF P t k agg bytes z) (w : World) : (isAgg t).run P w = .ok agg w := by
 have h := F.a
 unfold aggT at h
 cases hu : P.underlying t with
 | none => rw [hu] at h; cases h
 | some d =>
  rw [hu] at h
  simp only [Option.map_some, Option.some.injEq] at h
  subst h
  cases d <;> simp [isAgg, underlying, hu]
theorem TyF.run_size (F : TyF P t k agg bytes z) (w : World) : (sizeOf t).run P w = .ok k w := by
 obtain ⟨i, h1, _, h2, _⟩ := F.info
 simp [sizeOf, typeInfo, h1, h2]
theorem TyF.run_zero (F : TyF P t k agg bytes z) (w : World) : (zeroValue t).run P w = .ok z w := by
 obtain ⟨i, h1, h2, _⟩ := F.info
 simp [zeroValue, typeInfo, h1, h2]
theorem run_und {d : TypeDesc} (h : P.underlying t = some d) (w : World) : (underlying t).run P w = .ok d w := by simp [underlying, h]
theorem run_loadVar (F : TyF P t k agg bytes z) (hk : agg = false → k = 1) {ad : Addr} {cs : List Value} (hl : cs.length = k) (hc : ∀ j v, cs[j]? = some v → w.cell? (ad.add j) = some v) :
  (loadVar t ad).run P w = .ok (mkv agg cs) w := by
 cases agg with
 | true =>
  subst hl
  simp [loadVar, F.run_isAgg, F.run_size, run_loadCells_list w ad cs hc, mkv]
 | false =>
  match cs, hl, hc with
  | [c], _, hc =>
   have h0 : w.cell? ad = some c := by
    have := hc 0 c rfl
    rwa [show ad.add 0 = ad from by simp [Addr.add]] at this
   simp [loadVar, F.run_isAgg, h0, mkv]
  | [], hl, _ => simp at hl; have := hk rfl; omega
  | _ :: _ :: _, hl, _ => simp at hl; have := hk rfl; omega
end
def AtW {α : Type} [GT α] (M : Nat → Prop) (w : World) (ad : Addr) (x : α) : Prop := ∃ cs, GT.rep M w cs x ∧ ∀ j v, cs[j]? = some v → w.cell? (ad.add j) = some v
theorem At.w {α : Type} [GT α] {M : Nat → Prop} {w : World} {ad : Addr} {x : α} (h : At M w ad x) : AtW M w ad x := let ⟨cs, h1, _, h3⟩ := h; ⟨cs, h1, h3⟩
theorem At.fst {α β : Type} [GT α] [GT β] {M : Nat → Prop} {w : World} {ad : Addr} {x : α × β} (h : At M w ad x) : At M w ad x.1 := by
 obtain ⟨_, ⟨c1, c2, rfl, h1, h2⟩, hM, hc⟩ := h
 exact ⟨c1, h1, hM, fun j v hv => hc j v (by rw [aL_ (gS_.1 hv).1]; exact hv)⟩
theorem At.snd {α β : Type} [GT α] [GT β] {M : Nat → Prop} {w : World} {ad : Addr} {x : α × β} (h : At M w ad x) : At M w (ad.add (GT.size α)) x.2 := by
 obtain ⟨_, ⟨c1, c2, rfl, h1, h2⟩, hM, hc⟩ := h
 refine ⟨c2, h2, by rw [add_block]; exact hM, fun j v hv => ?_⟩
 rw [add_add]
 refine hc _ v ?_
 rw [aR_ (by rw [GT.len h1]; omega), GT.len h1]
 rw [show GT.size α + j - GT.size α = j from by omega]
 exact hv
theorem AtW.fst {α β : Type} [GT α] [GT β] {M : Nat → Prop} {w : World} {ad : Addr} {x : α × β} (h : AtW M w ad x) : AtW M w ad x.1 := by
 obtain ⟨_, ⟨c1, c2, rfl, h1, h2⟩, hc⟩ := h
 exact ⟨c1, h1, fun j v hv => hc j v (by rw [aL_ (gS_.1 hv).1]; exact hv)⟩
theorem AtW.snd {α β : Type} [GT α] [GT β] {M : Nat → Prop} {w : World} {ad : Addr} {x : α × β} (h : AtW M w ad x) : AtW M w (ad.add (GT.size α)) x.2 := by
 obtain ⟨_, ⟨c1, c2, rfl, h1, h2⟩, hc⟩ := h
 refine ⟨c2, h2, fun j v hv => ?_⟩
 rw [add_add]
 refine hc _ v ?_
 rw [aR_ (by rw [GT.len h1]; omega), GT.len h1]
 rw [show GT.size α + j - GT.size α = j from by omega]
 exact hv
section
variable {P : Program} {n : Nat} {ops : Array Oper} {f : Slots} {w : World} {K : Slots → World → Prop} {x y c : Operand} {d : Nat} {ty T T2 e : TypeId} {ps : String} {af : Array Edge} {v v2 : Value} {a b : Int} {M M0 : Nat → Prop} {w0 : World} {l : List Item} {kk : IntKind} {bytes : Nat} {z : Value} {ad : Addr} {size : Nat} {agg : Bool}
theorem ldW {α : Type} [GT α] {xv : α} (hA : AtW M w ad xv) (F : TyF P T (GT.size α) (GT.agg α) bytes z) (ox : okT n x = true) (hx : ev f x = .pointer (some ad))
  (h : ∀ v, RV M w v xv → K (upd f d v) w) : SO P n ops ⟨some d, .load T x, ty, ps, af, none⟩ f w K := by
 obtain ⟨cs, h1, h2⟩ := hA
 exact SO.value (v := mkv (GT.agg α) cs) (by
  simp [execOp, eval_acts ox, hx, Instr.loadAt, Instr.sureAddr, run_loadVar F GT.single (GT.len h1) h2]) (h _ ⟨cs, h1, rfl⟩)
theorem ldI {i : Int} (hA : AtW M w ad i) (F : TyF P T 1 false bytes z) (ox : okT n x = true) (hx : ev f x = .pointer (some ad)) (h : I64 i → K (upd f d (.int .i64 i)) w) :
  SO P n ops ⟨some d, .load T x, ty, ps, af, none⟩ f w K := ldW hA F ox hx fun v hv => by obtain ⟨rfl, hi⟩ := RV.int.1 hv; exact h hi
theorem ldU {u : BitVec 64} (hA : AtW M w ad u) (F : TyF P T 1 false bytes z) (ox : okT n x = true) (hx : ev f x = .pointer (some ad)) (h : K (upd f d (U u)) w) :
  SO P n ops ⟨some d, .load T x, ty, ps, af, none⟩ f w K := ldW hA F ox hx fun v hv => by rw [RV.bv.1 hv]; exact h
theorem ld8 {u : BitVec 8} (hA : AtW M w ad u) (F : TyF P T 1 false bytes z) (ox : okT n x = true) (hx : ev f x = .pointer (some ad)) (h : K (upd f d (U8 u)) w) :
  SO P n ops ⟨some d, .load T x, ty, ps, af, none⟩ f w K := ldW hA F ox hx fun v hv => by rw [RV.b8.1 hv]; exact h
theorem ldB {u : Bool} (hA : AtW M w ad u) (F : TyF P T 1 false bytes z) (ox : okT n x = true) (hx : ev f x = .pointer (some ad)) (h : K (upd f d (.bool u)) w) :
  SO P n ops ⟨some d, .load T x, ty, ps, af, none⟩ f w K := ldW hA F ox hx fun v hv => by rw [RV.bool.1 hv]; exact h
theorem ldS {u : ByteArray} (hA : AtW M w ad u) (F : TyF P T 1 false bytes z) (ox : okT n x = true) (hx : ev f x = .pointer (some ad)) (h : u.size ≤ maxLen → K (upd f d (.string u)) w) :
  SO P n ops ⟨some d, .load T x, ty, ps, af, none⟩ f w K := ldW hA F ox hx fun v hv => by obtain ⟨rfl, hi⟩ := RV.str.1 hv; exact h hi
theorem RS.explicit {α : Type} [GT α] {xs : List α} (h : RS M w v xs) : ∃ a c, v = .slice a xs.length c ∧ RV M w (.slice a xs.length c) xs := by
 obtain ⟨a, n, c, rfl, rfl, h3⟩ := h
 exact ⟨a, c, rfl, RV.list.2 ⟨a, _, c, rfl, rfl, h3⟩⟩
theorem ldL {α : Type} [GT α] {xs : List α} (hA : AtW M w ad xs) (F : TyF P T 1 false bytes z) (ox : okT n x = true) (hx : ev f x = .pointer (some ad))
  (h : ∀ a c, RV M w (.slice a xs.length c) xs → K (upd f d (.slice a xs.length c)) w) : SO P n ops ⟨some d, .load T x, ty, ps, af, none⟩ f w K :=
 ldW hA F ox hx fun v hv => by obtain ⟨a, c, rfl, hr⟩ := (RV.list.1 hv).explicit; exact h a c hr
theorem ldX {bb off : Nat} {cs : Array Value} {t : TypeId} {k : Nat} (H : HI M0 w0 w l) (i : Nat) (hi : l[i]? = some (box bb cs t)) (F : TyF P T k agg bytes z) (ox : okT n x = true) (hx : ev f x = .pointer (some ⟨bb, off, none⟩))
  (hk : agg = false → k = 1) (hl : ((cs.toList.drop off).take k).length = k) (h : K (upd f d (mkv agg ((cs.toList.drop off).take k))) w) : SO P n ops ⟨some d, .load T x, ty, ps, af, none⟩ f w K := by
 have hb : w.heap[bb]? = some (.cells cs t (0, 0)) := H.at_ i hi
 refine SO.value (v := mkv agg ((cs.toList.drop off).take k)) ?_ h
 have hc : ∀ j u, ((cs.toList.drop off).take k)[j]? = some u → w.cell? ((⟨bb, off, none⟩ : Addr).add j) = some u := by
  intro j u hu
  rw [show (⟨bb, off, none⟩ : Addr).add j = ⟨bb, off + j, none⟩ from by unfold Addr.add; split <;> simp_all, cell_of_row w bb (off + j) cs t (0, 0) hb]
  have hj : j < k := by
   have := (gS_.1 hu).1
   omega
  rw [List.getElem?_take, if_pos hj, List.getElem?_drop] at hu
  simpa using hu
 simp [execOp, eval_acts ox, hx, Instr.loadAt, Instr.sureAddr, run_loadVar F hk hl hc]
theorem lx {bb off : Nat} {cs : Array Value} {t : TypeId} (H : HI M0 w0 w l) (i : Nat) (hi : l[i]? = some (box bb cs t)) (F : TyF P T 1 false bytes z) (ox : okT n x = true) (hx : ev f x = .pointer (some ⟨bb, off, none⟩))
  (hl : ((cs.toList.drop off).take 1).length = 1) (h : K (upd f d (mkv false ((cs.toList.drop off).take 1))) w) : SO P n ops ⟨some d, .load T x, ty, ps, af, none⟩ f w K := ldX H i hi F ox hx (fun _ => rfl) hl h
def wr (cs : Array Value) (off : Nat) (vs : List Value) : Array Value := (cs.toList.take off ++ vs ++ cs.toList.drop (off + vs.length)).toArray
theorem run_storeVar (F : TyF P T size agg bytes z) {g o : Nat} {cs : Array Value} {t : TypeId} (hg : w.heap[g]? = some (.cells cs t (0, 0))) (hs : v.cells.size = size) (hf : o + v.cells.toList.length ≤ cs.size) (h1 : ∀ u ∈ v.cells.toList, u.oneCell' = true) :
  (storeVar T ⟨g, o, none⟩ v).run P w = .ok () (w.setRow g (wr cs o v.cells.toList)) := by
 have hst := run_storeCells_at P g o t v.cells.toList 0 cs w hg (by simpa using hf) h1
 simp only [Nat.add_zero] at hst
 simp [storeVar, F.run_size, hs, hst, wr]
theorem HI.wrote {g : Nat} {cs cs' : Array Value} {t : TypeId} (H : HI M0 w0 w l) (i : Nat) (hi : l[i]? = some (box g cs t)) : HI M0 w0 (w.setRow g cs') (l.set i (box g cs' t)) := by
 have hb : w.heap[g]? = some (.cells cs t (0, 0)) := H.at_ i hi
 refine H.turn i hi rfl rfl rfl (by simp) (fun c hc hne => setRow_other w g c _ (fun e => hne (by rw [e]; rfl))) (fun b hb' => ?_) (setRow_heap w g cs _ t _ hb)
 refine ⟨?_, .inl hb'⟩
 rw [size_setRow]
 exact (H.blks _ (mG_ hi) b hb').2
theorem stX {dd : Option Nat} {bb off : Nat} {cs : Array Value} {t : TypeId} (H : HI M0 w0 w l) (i : Nat) (hi : l[i]? = some (box bb cs t)) (F : TyF P T size agg bytes z) (ox : okT n x = true) (oy : okT n y = true) (hx : ev f x = .pointer (some ⟨bb, off, none⟩)) (hy : ev f y = v)
  (hs : v.cells.size = size) (hf : Nat.ble (off + v.cells.toList.length) cs.size = true) (h1 : v.cells.toList.all Value.oneCell' = true)
  (h : ∀ w', HI M0 w0 w' (l.set i (box bb (wr cs off v.cells.toList) t)) → K (updO f dd undef) w') : SO P n ops ⟨dd, .store T x y, ty, ps, af, none⟩ f w K := by
 have hb : w.heap[bb]? = some (.cells cs t (0, 0)) := H.at_ i hi
 refine SO.skip ?_ (h _ (H.wrote i hi))
 simp [execOp, eval_acts ox, eval_acts oy, hx, hy, Instr.storeAt, Instr.sureAddr, run_storeVar F hb hs (by simpa using hf) (fun u hu => List.all_eq_true.1 h1 u hu)]
theorem newVar_run (t : TypeId) (v : Value) (w : World) : (newVar t v).run P w = .ok ⟨w.heap.size, 0, none⟩ (w.alloc (.cells v.cells t)) := by simp [newVar, newRow]
theorem HI.box_ (H : HI M0 w0 w l) (cs : Array Value) (t : TypeId) : HI M0 w0 (w.alloc (.cells cs t)) (box w.heap.size cs t :: l) :=
 H.new (Ext.alloc w _) w.heap.size rfl (Nat.le_refl _) (by simp) (heap_alloc_new w _)
theorem al (H : HI M0 w0 w l) (F : TyF P T size agg bytes z) (h : ∀ b w', Ext w w' → HI M0 w0 w' (box b z.cells T :: l) → K (upd f d (.pointer (some ⟨b, 0, none⟩))) w') :
  SO P n ops ⟨some d, .alloc T, ty, ps, af, none⟩ f w K :=
 SO.value (v := .pointer (some ⟨w.heap.size, 0, none⟩)) (w' := w.alloc (.cells z.cells T)) (by simp [execOp, Instr.alloc, F.run_zero, newVar_run]) (h _ _ (Ext.alloc w _) (H.box_ z.cells T))
theorem bx (H : HI M0 w0 w l) (ox : okT n x = true) (hx : ev f x = v) (h : ∀ b w', Ext w w' → HI M0 w0 w' (box b v.cells T :: l) → K (upd f d (.pointer (some ⟨b, 0, none⟩))) w') :
  SO P n ops ⟨some d, .box T x, ty, ps, af, none⟩ f w K :=
 SO.value (v := .pointer (some ⟨w.heap.size, 0, none⟩)) (w' := w.alloc (.cells v.cells T)) (by simp [execOp, Instr.box, eval_acts ox, hx, newVar_run]) (h _ _ (Ext.alloc w _) (H.box_ v.cells T))
structure FldF (P : Program) (s : TypeId) (j : Nat) (off : Nat) : Prop where
 h : ∃ fs fd, P.underlying s = some (.struct fs) ∧ fs[j]? = some fd ∧ fd.offset = off ∧ ((P.info? fd.type).map fun i => Nat.beq i.size 0) = some false
theorem fa {j off : Nat} (F : FldF P T j off) (ox : okT n x = true) (hx : ev f x = .pointer (some ad)) (h : K (upd f d (.pointer (some (ad.add off)))) w) : SO P n ops ⟨some d, .fieldAddr T x j, ty, ps, af, none⟩ f w K := by
 obtain ⟨fs, fd, h1, h2, rfl, h3⟩ := F.h
 obtain ⟨i, h4, h6⟩ := Option.map_eq_some_iff.1 h3
 have h5 : i.size ≠ 0 := by
  intro e
  rw [e] at h6
  cases h6
 exact SO.value (v := .pointer (some (ad.add fd.offset))) (by
  simp [execOp, eval_acts ox, hx, Instr.fieldAt, run_und h1, h2, Instr.sureAddr, fieldPlace, sizeOf, typeInfo, h4, h5]) h
theorem ia {α : Type} [GT α] {xs : List α} {i : Int} (hR : RV M w v xs) (ox : okT n x = true) (oy : okT n y = true) (hx : ev f x = v) (hy : ev f y = .int kk i) (hi : 0 ≤ i ∧ i < xs.length) (hu : P.underlying T = some (.slice e)) (F : TyF P e (GT.size α) agg bytes z)
  (h : ∀ ad xv, xs[i.toNat]? = some xv → At M w ad xv → K (upd f d (.pointer (some ad))) w) : SO P n ops ⟨some d, .indexAddr T x y, ty, ps, af, none⟩ f w K := by
 obtain ⟨a, m, c, rfl, h1, h2, h3, h4⟩ := RV.list.1 hR
 rcases h4 with h4 | ⟨ad, rfl, hs⟩
 ·omega
 ·have hlt : i.toNat < xs.length := by omega
  refine SO.value (v := .pointer (some (ad.add (i.toNat * GT.size α)))) ?_ (h _ xs[i.toNat] (gE_ hlt) (hs _ _ (gE_ hlt)))
  have hb : 0 ≤ i ∧ i < (m : Int) := by omega
  simp [execOp, eval_acts ox, eval_acts oy, hx, hy, Instr.indexAt, asIntOf, run_und hu, hb, F.run_size]
theorem iaO {α : Type} [GT α] {xs : List α} {B : Nat} {i : Int} (hO : (own B e v xs).holds M w) (ox : okT n x = true) (oy : okT n y = true) (hx : ev f x = v) (hy : ev f y = .int kk i) (hi : 0 ≤ i ∧ i < xs.length) (hu : P.underlying T = some (.slice e)) (F : TyF P e (GT.size α) agg bytes z)
  (h : ∀ g xv, v.ownBlock = some g → xs[i.toNat]? = some xv → AtW M w ⟨g, i.toNat * GT.size α, none⟩ xv → K (upd f d (.pointer (some ⟨g, i.toNat * GT.size α, none⟩))) w) : SO P n ops ⟨some d, .indexAddr T x y, ty, ps, af, none⟩ f w K := by
 obtain ⟨cs, h1, h2⟩ := hO
 rcases h1.2 with ⟨_, h3⟩ | ⟨g, cap, cur, rfl, h3, h4, h5, h6, h7, h8⟩
 ·omega
 ·have hlt : i.toNat < xs.length := by omega
  have hadd : (⟨g, 0, none⟩ : Addr).add (i.toNat * GT.size α) = ⟨g, i.toNat * GT.size α, none⟩ := by unfold Addr.add; split <;> simp_all
  refine SO.value (v := .pointer (some ⟨g, i.toNat * GT.size α, none⟩)) ?_ (h g xs[i.toNat] rfl (gE_ hlt) ?_)
  ·have hb : 0 ≤ i ∧ i < (xs.length : Int) := by omega
   simp [execOp, eval_acts ox, eval_acts oy, hx, hy, Instr.indexAt, asIntOf, run_und hu, hb, F.run_size, hadd]
  ·obtain ⟨c, hc1, hc2⟩ := Chunks.at_ h2 i.toNat xs[i.toNat] (gE_ hlt)
   refine ⟨c, hc1, fun j u hu => ?_⟩
   have hcell := h1.cells (g := g) rfl (i.toNat * GT.size α + j) u (hc2 j u hu)
   rwa [← add_add, hadd] at hcell
theorem Chunks.set {α : Type} [GT α] {M : Nat → Prop} {w : World} {y : α} {c : List Value} (hy : GT.rep M w c y) : ∀ {xs : List α} {cs : List Value} (i : Nat), i < xs.length → Chunks M w cs xs →
  Chunks M w (cs.take (i * GT.size α) ++ c ++ cs.drop (i * GT.size α + c.length)) (xs.set i y)
 | x :: xs, cs, 0, _, ⟨c1, c2, h1, h2, h3⟩ => by
  refine ⟨c, c2, ?_, hy, h3⟩
  rw [h1, Nat.zero_mul, List.take_zero, List.nil_append, Nat.zero_add, GT.len hy, ← GT.len h2, List.drop_left]
 | x :: xs, cs, i + 1, hi, ⟨c1, c2, h1, h2, h3⟩ => by
  have := Chunks.set hy i (by simpa using hi) h3
  refine ⟨c1, _, ?_, h2, this⟩
  have hl := GT.len h2
  rw [h1, show (i + 1) * GT.size α = c1.length + i * GT.size α from by rw [hl, Nat.add_mul]; omega, Nat.add_assoc]
  rw [List.take_append, List.drop_append, List.take_of_length_le (by omega), List.drop_eq_nil_of_le (by omega)]
  rw [show c1.length + i * GT.size α - c1.length = i * GT.size α from by omega, show c1.length + (i * GT.size α + c.length) - c1.length = i * GT.size α + c.length from by omega]
  simp [List.append_assoc]
theorem take_splice {β : Type} (cur cy : List β) (o n : Nat) (h : o + cy.length ≤ n) (hn : n ≤ cur.length) :
  (cur.take o ++ cy ++ cur.drop (o + cy.length)).take n = (cur.take n).take o ++ cy ++ (cur.take n).drop (o + cy.length) := by
 rw [List.take_append, List.take_append, List.drop_take, List.take_take, List.take_take, lA_, lT_]
 rw [show min n o = o from by omega, show min o n = o from by omega, show min o cur.length = o from by omega, List.take_of_length_le (l := cy) (by omega)]
theorem stO {dd : Option Nat} {α : Type} [GT α] {xs : List α} {yv : α} {B : Nat} {j g : Nat} {u : Value} (H : HI M0 w0 w l) (i : Nat) (hi : l[i]? = some (own B e v xs)) (hg : v.ownBlock = some g) (hB : B = w0.heap.size) (hj : j < xs.length) (F : TyF P T (GT.size α) agg bytes z) (ox : okT n x = true) (oy : okT n y = true)
  (hx : ev f x = .pointer (some ⟨g, j * GT.size α, none⟩)) (hy : ev f y = u) (hR : RV (MS M0 l) w u yv)
  (h : ∀ w', HI M0 w0 w' (l.set i (own B e v (xs.set j yv))) → K (updO f dd undef) w') : SO P n ops ⟨dd, .store T x y, ty, ps, af, none⟩ f w K := by
 subst hB
 obtain ⟨cs, h1, h2⟩ := H.at_ i hi
 rcases h1.2 with ⟨rfl, h3⟩ | ⟨g', cap, cur, rfl, h3, h4, h5, h6, h7, h8⟩
 ·cases hg
 ·have hgg : g' = g := by simpa [Value.ownBlock] using hg
  subst hgg
  obtain ⟨cy, hy1, rfl⟩ := hR
  have hcells := cells_mkv (agg := GT.agg α) (cs := cy) (fun h => by rw [GT.len hy1]; exact GT.single h) (GT.one hy1)
  have hclen := GT.len hy1
  have hfit : j * GT.size α + cy.length ≤ cur.size := by
   rw [h7, hclen]
   have : (j + 1) * GT.size α ≤ cap * GT.size α := Nat.mul_le_mul_right _ (by omega)
   rw [Nat.add_mul] at this
   omega
  have hrun := run_storeVar (P := P) (w := w) F (g := g') (o := j * GT.size α) (v := mkv (GT.agg α) cy) h4 (by rw [hcells]; simpa using hclen) (by rw [hcells]; simpa using hfit) (by rw [hcells]; simpa using GT.one hy1)
  rw [hcells] at hrun
  simp only [List.toList_toArray] at hrun
  refine SO.skip (w' := w.setRow g' (wr cur (j * GT.size α) cy)) ?_ (h _ ?_)
  ·simp [execOp, eval_acts ox, eval_acts oy, hx, hy, Instr.storeAt, Instr.sureAddr, hrun]
  ·have hother : ∀ c, c < w.heap.size → (own w0.heap.size e (Value.slice (some ⟨g', 0, none⟩) xs.length cap) xs).blk ≠ some c → (w.setRow g' (wr cur (j * GT.size α) cy)).heap[c]? = w.heap[c]? :=
    fun c hc hne => setRow_other w g' c _ (fun e => hne (by rw [e]; rfl))
   have hblk : ∀ b, (own w0.heap.size e (Value.slice (some ⟨g', 0, none⟩) xs.length cap) (xs.set j yv)).blk = some b → b < (w.setRow g' (wr cur (j * GT.size α) cy)).heap.size ∧ ((own w0.heap.size e (Value.slice (some ⟨g', 0, none⟩) xs.length cap) xs).blk = some b ∨ w.heap.size ≤ b) := by
    intro b hb
    refine ⟨?_, .inl hb⟩
    rw [size_setRow]
    exact (H.blks _ (mG_ hi) b hb).2
   refine H.turn i hi rfl rfl rfl (by simp) hother hblk ?_
   refine ⟨cs.take (j * GT.size α) ++ cy ++ cs.drop (j * GT.size α + cy.length), ?_, ?_⟩
   ·rw [List.length_set]
    have hlen : (cs.take (j * GT.size α) ++ cy ++ cs.drop (j * GT.size α + cy.length)).length = xs.length * GT.size α := by
     have hcl := h1.1
     have : (j + 1) * GT.size α ≤ xs.length * GT.size α := Nat.mul_le_mul_right _ (by omega)
     rw [Nat.add_mul] at this
     simp only [lA_, lT_, List.length_drop]
     omega
    refine ⟨hlen, .inr ⟨g', cap, wr cur (j * GT.size α) cy, rfl, h3, setRow_heap w g' cur _ e _ h4, h5, h6, ?_, ?_⟩⟩
    ·simp only [wr, List.size_toArray, lA_, lT_, List.length_drop, Array.length_toList]
     omega
    ·have hle : (j + 1) * GT.size α ≤ xs.length * GT.size α := Nat.mul_le_mul_right _ (by omega)
     rw [Nat.add_mul] at hle
     have hcl := h1.1
     have hsz : xs.length * GT.size α ≤ cur.size := by rw [h7]; exact Nat.mul_le_mul_right _ h5
     simp only [wr]
     rw [← h8]
     exact take_splice cur.toList cy (j * GT.size α) (xs.length * GT.size α) (by omega) (by simpa using hsz)
   · -- the elements
    have hup : Up (MS M0 l) w (MS M0 (l.set i (own w0.heap.size e (Value.slice (some ⟨g', 0, none⟩) xs.length cap) (xs.set j yv)))) (w.setRow g' (wr cur (j * GT.size α) cy)) := by
     refine ⟨by simp, fun b hb hM => ⟨setRow_other w g' b _ (fun e => hM (.inr ⟨_, mG_ hi, by rw [e]; rfl⟩)), ?_⟩⟩
     rintro (hM' | ⟨it, hit, hitb⟩)
     ·exact hM (.inl hM')
     ·rcases List.mem_or_eq_of_mem_set hit with hit | rfl
      ·exact hM (.inr ⟨it, hit, hitb⟩)
      ·exact hM (.inr ⟨_, mG_ hi, hitb⟩)
    exact Chunks.lift hup (Chunks.set hy1 j hj h2)
theorem lnS {ao : Option Addr} {m cc : Nat} (ox : okT n x = true) (hx : ev f x = .slice ao m cc) (hu : P.underlying T = some (.slice e)) (h : K (upd f d (.int .i64 (m : Int))) w) :
  SO P n ops ⟨some d, .call { callee := .builtin .len, args := #[x], argTypes := #[T] }, ty, ps, af, none⟩ f w K :=
 SO.value (v := .int .i64 (m : Int)) (by simp [execOp, resolve, invoke, builtin, Builtin.len_, eval_acts ox, hx, run_und hu, goInt]) h
theorem lnT {s : ByteArray} (ox : okT n x = true) (hx : ev f x = .string s) (hu : P.underlying T = some .string) (h : K (upd f d (.int .i64 (s.size : Int))) w) :
  SO P n ops ⟨some d, .call { callee := .builtin .len, args := #[x], argTypes := #[T] }, ty, ps, af, none⟩ f w K :=
 SO.value (v := .int .i64 (s.size : Int)) (by simp [execOp, resolve, invoke, builtin, Builtin.len_, eval_acts ox, hx, run_und hu, goInt]) h
theorem run_eqN {ao : Option Addr} {m cc : Nat} (hu : P.underlying T = some (.slice e)) : (binOp .eql T (.slice ao m cc) (.slice none 0 0)).run P w = .ok (.bool ao.isNone) w := by
 show ((Op.equal T (.slice ao m cc) (.slice none 0 0) >>= fun b => pure (Value.bool b)) : Sem Value).run P w = _
 have h : (Op.equal T (.slice ao m cc) (.slice none 0 0)).run P w = .ok ao.isNone w := by
  rw [show Op.equal T (.slice ao m cc) (.slice none 0 0) = Op.equalIn (9999 + 1) T (.slice ao m cc) (.slice none 0 0) from rfl]
  unfold Op.equalIn
  rw [Sem.run_bind, run_und hu]
  cases ao <;> rfl
 rw [Sem.run_bind, h]; rfl
theorem eqN {ao : Option Addr} {m cc : Nat} (ox : okT n x = true) (oy : okT n y = true) (hx : ev f x = .slice ao m cc) (hy : ev f y = .slice none 0 0) (hu : P.underlying T = some (.slice e)) (h : K (upd f d (.bool ao.isNone)) w) :
  SO P n ops ⟨some d, .binOp .eql T x y T2, ty, ps, af, none⟩ f w K :=
 SO.value (v := .bool ao.isNone) (by
  have hg : (eqGuard .eql T x y (.slice ao m cc) (.slice none 0 0)).run P w = .ok () w := by unfold eqGuard; rfl
  have hr := run_eqN (P := P) (w := w) (ao := ao) (m := m) (cc := cc) hu
  simp only [execOp, eval_acts ox, eval_acts oy, hx, hy, Sem.run_bind, hg, hr, Result.andThen_ok, Sem.run_pure]) h
end
end Go.Ew
namespace Go.Ew
open Go.RowKit Go.IntWalk
theorem Ext.grown {w w' : World} (h : w.grownBy w' none) : Ext w w' := ⟨h.os, h.tape, h.output, h.size, fun k hk => h.block k hk (by simp)⟩
def Src {α : Type} [GT α] (M : Nat → Prop) (w : World) (v : Value) (ys : List α) : Prop :=
 ∃ a c, v = .slice a ys.length c ∧ (ys.length = 0 ∨ ∃ ad, a = some ad ∧ ∃ cs, Chunks M w cs ys ∧ ∀ j u, cs[j]? = some u → w.cell? (ad.add j) = some u)
theorem Seg.chunks {α : Type} [GT α] {M : Nat → Prop} {w : World} : ∀ {xs : List α} {ad : Addr}, Seg M w ad xs → ∃ cs, Chunks M w cs xs ∧ ∀ j u, cs[j]? = some u → w.cell? (ad.add j) = some u
 | [], ad, _ => ⟨[], rfl, fun j u h => by simp at h⟩
 | x :: xs, ad, h => by
  obtain ⟨c1, h1, _, h2⟩ := h 0 x rfl
  have htail : Seg M w (ad.add (GT.size α)) xs := by
   intro i y hy
   have := h (i + 1) y (by simpa using hy)
   rw [add_add]
   rwa [show (i + 1) * GT.size α = GT.size α + i * GT.size α from by rw [Nat.add_mul]; omega] at this
  obtain ⟨c2, h3, h4⟩ := Seg.chunks htail
  refine ⟨c1 ++ c2, ⟨c1, c2, rfl, h1, h3⟩, fun j u hu => ?_⟩
  rw [List.getElem?_append] at hu
  have hl := GT.len h1
  split at hu
  ·have := h2 j u hu
   rwa [add_add, Nat.zero_mul, Nat.zero_add] at this
  ·have := h4 _ u hu
   rw [add_add, hl] at this
   rwa [show GT.size α + (j - GT.size α) = j from by omega] at this
theorem RV.src {α : Type} [GT α] {M : Nat → Prop} {w : World} {v : Value} {ys : List α} (h : RV M w v ys) : Src M w v ys := by
 obtain ⟨a, n, c, rfl, rfl, h3, h4, h5⟩ := RV.list.1 h
 refine ⟨a, c, rfl, ?_⟩
 rcases h5 with h5 | ⟨ad, h5, h6⟩
 ·exact .inl h5
 ·exact .inr ⟨ad, h5, h6.chunks⟩
theorem own_src {α : Type} [GT α] {M : Nat → Prop} {w : World} {v : Value} {ys : List α} {B : Nat} {e : TypeId} (h : (own B e v ys).holds M w) : Src M w v ys := by
 obtain ⟨cs, h1, h2⟩ := h
 rcases h1.2 with ⟨rfl, h3⟩ | ⟨g, cap, cur, rfl, h3, h4, h5, h6, h7, h8⟩
 ·exact ⟨none, 0, by rw [h3], .inl h3⟩
 ·exact ⟨_, cap, rfl, .inr ⟨_, rfl, cs, h2, h1.cells (g := g) rfl⟩⟩
theorem own_seg {α : Type} [GT α] {M M' : Nat → Prop} {w : World} {v : Value} {ys : List α} {B : Nat} {e : TypeId} (h : (own B e v ys).holds M w) (hM : ∀ b, b < w.heap.size → M' b → M b) (hv : ∀ b, v.ownBlock = some b → ¬ M' b) : RV M' w v ys := by
 obtain ⟨cs, h1, h2⟩ := h
 refine RV.list.2 ?_
 rcases h1.2 with ⟨rfl, h3⟩ | ⟨g, cap, cur, rfl, h3, h4, h5, h6, h7, h8⟩
 ·exact ⟨none, 0, 0, rfl, h3, Nat.le_refl _, by simp [maxLen], .inl rfl⟩
 ·refine ⟨_, _, cap, rfl, rfl, h5, h6, .inr ⟨_, rfl, fun i x hx => ?_⟩⟩
  obtain ⟨c, hc1, hc2⟩ := Chunks.at_ h2 i x hx
  refine ⟨c, GT.lift hc1 (Up.less hM), by rw [add_block]; exact hv g rfl, fun j u hu => ?_⟩
  rw [add_add]
  exact h1.cells (g := g) rfl _ u (hc2 j u hu)
section
variable {M0 : Nat → Prop} {w0 w w' : World} {l : List Item} {α : Type} [GT α] {v : Value} {xs : List α} {e : TypeId}
theorem own_blk_lt {B : Nat} (H : HI M0 w0 w l) {i : Nat} (hi : l[i]? = some (own B e v xs)) : ∀ b, v.ownBlock = some b → w0.heap.size ≤ b ∧ b < w.heap.size := H.blks _ (mG_ hi)
theorem HI.freeze {B : Nat} (H : HI M0 w0 w l) (i : Nat) (hi : l[i]? = some (own B e v xs)) : HI M0 w0 w (l.set i (imm v xs)) := by
 refine H.turn i hi rfl rfl rfl (Nat.le_refl _) (fun _ _ _ => rfl) (fun b hb => by cases hb) ?_
 have hO := H.at_ i hi
 refine own_seg hO (fun b hb hM => ?_) (fun b hb hM => ?_)
 ·rcases hM with hM | ⟨it, hit, hitb⟩
  ·exact .inl hM
  ·rcases List.mem_or_eq_of_mem_set hit with hit | rfl
   ·exact .inr ⟨it, hit, hitb⟩
   ·cases hitb
 ·have hbl := own_blk_lt H hi b hb
  rcases hM with hM | ⟨it, hit, hitb⟩
  ·have := H.m0 b hM; omega
  ·obtain ⟨m, hm, rfl⟩ := List.mem_iff_getElem.1 hit
   rw [List.getElem_set] at hitb
   split at hitb
   ·cases hitb
   ·rename_i hne
    have hml : m < l.length := by simpa using hm
    exact hne (filterMap_inj (·.blk) l H.nodup i m _ l[m] hi (gE_ hml) (by show (v.ownBlock).isSome = true; rw [hb]; rfl) (by rw [hitb]; exact hb))
theorem HI.nil_ (α : Type) [GT α] (H : HI M0 w0 w l) (e : TypeId) : HI M0 w0 w (own w0.heap.size e (.slice none 0 0) ([] : List α) :: l) :=
 H.put rfl ⟨[], World.ownsRow_nil w _ e _, rfl⟩
theorem HI.gives (H : HI M0 w0 w l) (h : Gives (MS M0 l) w xs v w') : HI M0 w0 w' (imm v xs :: l) := (H.ext h.1).put rfl h.2
theorem News.gives {β : Type} [GT β] {y : β} {M : Nat → Prop} (h : News w y v w') (hM : ∀ b, M b → b < w.heap.size) : Gives M w y v w' := ⟨h.1, h.2.lift (Up.less fun b _ hb => hM b hb)⟩
theorem HI.out_own (H : HI M0 w0 w l) (i : Nat) (hi : l[i]? = some (own w0.heap.size e v xs)) (hfresh : ∀ it ∈ l, ∀ b, it.blk = some b → True) : RV M0 w v xs := by
 have hO := H.at_ i hi
 refine own_seg hO (fun b _ hb => .inl hb) (fun b hb hM => ?_)
 have := own_blk_lt H hi b hb
 have := H.m0 b hM
 omega
end
section
variable {P : Program} {n : Nat} {ops : Array Oper} {f : Slots} {w : World} {K : Slots → World → Prop} {x y c : Operand} {d : Nat} {ty T T2 e : TypeId} {ps : String} {af : Array Edge} {v v2 u : Value} {a b : Int} {M M0 : Nat → Prop} {w0 : World} {l : List Item} {kk : IntKind} {bytes : Nat} {z : Value} {ad : Addr} {size : Nat} {agg : Bool}
theorem owns_explicit {B : Nat} {s m : Nat} {cs : List Value} (h : w.ownsRow B e s v m cs) : ∃ a c, v = .slice a m c := by
 rcases h.2 with ⟨rfl, rfl⟩ | ⟨g, cap, cur, rfl, _⟩
 ·exact ⟨none, 0, rfl⟩
 ·exact ⟨_, cap, rfl⟩
theorem ap {α : Type} [GT α] {xs ys : List α} {B : Nat} (H : HI M0 w0 w l) (i : Nat) (hi : l[i]? = some (own B e v xs)) (hB : B = w0.heap.size) (ox : okT n x = true) (oy : okT n y = true) (hx : ev f x = v) (hy : ev f y = u)
  (hs : Src (MS M0 l) w u ys) (hu : P.underlying T = some (.slice e)) (F : TyF P e (GT.size α) agg bytes z) (hz : z.cells.size = GT.size α) (hl : (xs.length + ys.length) * bytes ≤ 140737488355328) (hl2 : xs.length + ys.length ≤ 9223372036854775807)
  (h : ∀ a c w', HI M0 w0 w' (l.set i (own B e (.slice a (xs ++ ys).length c) (xs ++ ys))) → K (upd f d (.slice a (xs ++ ys).length c)) w') :
  SO P n ops ⟨some d, .call { callee := .builtin .append, args := #[x, y], argTypes := #[T, T] }, ty, ps, af, none⟩ f w K := by
 subst hB
 obtain ⟨cs, h1, h2⟩ := H.at_ i hi
 obtain ⟨a0, c0, rfl, hsrc⟩ := hs
 obtain ⟨inf, hi1, hi2, hi3, hi4⟩ := F.info
 have hlt : ∀ b, v.ownBlock = some b → w0.heap.size ≤ b ∧ b < w.heap.size := own_blk_lt H hi
 -- the run, whatever the source
 obtain ⟨v', w', hrun, hown, hgr, hch⟩ : ∃ v' w', (Builtin.append_ #[T, T] ty #[v, .slice a0 ys.length c0]).run P w = .ok v' w' ∧
   (∃ ds, w'.ownsRow w0.heap.size e (GT.size α) v' (xs.length + ys.length) (cs ++ ds) ∧ Chunks (MS M0 l) w ds ys) ∧ w.grownBy w' v.ownBlock ∧ (v'.ownBlock = v.ownBlock ∨ ∀ b, v'.ownBlock = some b → w.heap.size ≤ b ∧ b < w'.heap.size) := by
  rcases hsrc with h0 | ⟨ad, rfl, ds, hd1, hd2⟩
  ·have hys : ys = [] := List.eq_nil_of_length_eq_zero h0
   subst hys
   have hr : (Builtin.append_ #[T, T] ty #[v, .slice a0 0 c0]).run P w = .ok v w := by
    rcases h1.2 with ⟨rfl, hn⟩ | ⟨g, cap, cur, rfl, hb, hg, hnc, _⟩
    ·cases a0 <;> simp [Builtin.append_, run_und hu, sizeOf, typeInfo, hi1, Builtin.lenOf, Builtin.firstCells, loadCells, loadCellsFrom]
    ·have : xs.length ≤ cap := hnc
     cases a0 <;> simp [Builtin.append_, run_und hu, sizeOf, typeInfo, hi1, Builtin.lenOf, Builtin.firstCells, loadCells, loadCellsFrom, this, storeCells]
   exact ⟨v, w, by simpa using hr, ⟨[], by simpa using h1, rfl⟩, ⟨rfl, rfl, rfl, Nat.le_refl _, fun _ _ _ => rfl⟩, .inl rfl⟩
  ·obtain ⟨v', w', r1, r2, r3, _, r4⟩ := run_append_own_at (P := P) w w0.heap.size T ty e inf z (GT.size α) bytes hu hi1 hi2 hi3 hi4 hz GT.pos v xs.length cs h1 ad ys.length c0 ds (Chunks.length hd1) hd2 (Chunks.oneC hd1) (by simp only [maxLen]; omega) hl H.below.size
   refine ⟨v', w', r1, ⟨ds, r2, hd1⟩, r3, ?_⟩
   rcases r4 with hb | hb
   ·exact .inl hb
   ·refine .inr fun b hvb => ⟨?_, (r2.lt b hvb).2⟩
    rw [hb] at hvb
    cases hvb
    exact Nat.le_refl _
 obtain ⟨ds, ho, hds⟩ := hown
 obtain ⟨a', c', rfl⟩ := owns_explicit ho
 refine SO.value (v := .slice a' (xs.length + ys.length) c') (w' := w') ?_ ?_
 ·simp [execOp, resolve, invoke, builtin, eval_acts ox, eval_acts oy, hx, hy, hrun]
 ·have := h a' c' w'
  rw [lA_] at this
  refine this ?_
  have hblk : ∀ b, (own w0.heap.size e (.slice a' (xs.length + ys.length) c') (xs ++ ys)).blk = some b → b < w'.heap.size ∧ ((own w0.heap.size e v xs).blk = some b ∨ w.heap.size ≤ b) := by
   intro b hb
   refine ⟨(ho.lt b hb).2, ?_⟩
   rcases hch with hch | hch
   ·exact .inl (by rw [← hb]; exact hch.symm)
   ·exact .inr (hch b hb).1
  refine H.turn i hi hgr.os hgr.tape hgr.output hgr.size (fun c hc hne => hgr.block c hc (fun e => hne e.symm)) hblk ?_
  refine ⟨cs ++ ds, by rw [lA_]; exact ho, ?_⟩
  refine Chunks.lift ?_ (Chunks.append h2 hds)
  refine ⟨hgr.size, fun b hb hM => ⟨hgr.block b hb (fun e => hM (.inr ⟨_, mG_ hi, e.symm⟩)), ?_⟩⟩
  rintro (hM' | ⟨it, hit, hitb⟩)
  ·exact hM (.inl hM')
  ·rcases List.mem_or_eq_of_mem_set hit with hit | rfl
   ·exact hM (.inr ⟨it, hit, hitb⟩)
   ·rcases (hblk b hitb).2 with h' | h'
    ·exact hM (.inr ⟨_, mG_ hi, h'⟩)
    ·omega
theorem apB {α : Type} [GT α] {xs ys : List α} {B : Nat} (H : HI M0 w0 w l) (i : Nat) (hi : l[i]? = some (own B e v xs)) (hB : B = w0.heap.size) (ox : okT n x = true) (oy : okT n y = true) (hx : ev f x = v) (hy : ev f y = u)
  (hs : Src (MS M0 l) w u ys) (hu : P.underlying T = some (.slice e)) (F : TyF P e (GT.size α) agg bytes z) (hz : z.cells.size = GT.size α) (hl : (xs.length + ys.length) * bytes ≤ 140737488355328) (hb1 : Nat.ble 1 bytes = true)
  (h : ∀ a c w', HI M0 w0 w' (l.set i (own B e (.slice a (xs ++ ys).length c) (xs ++ ys))) → K (upd f d (.slice a (xs ++ ys).length c)) w') :
  SO P n ops ⟨some d, .call { callee := .builtin .append, args := #[x, y], argTypes := #[T, T] }, ty, ps, af, none⟩ f w K :=
 ap H i hi hB ox oy hx hy hs hu F hz hl (Nat.le_trans (Nat.le_mul_of_pos_right _ (Nat.le_of_ble_eq_true hb1)) (Nat.le_trans hl (by decide))) h
theorem lit_own {α : Type} [GT α] {M : Nat → Prop} {xs : List α} {cells : Array Value} {B : Nat} {w w' : World} (hx : Ext w w') (hB : B ≤ w.heap.size) (hh : w'.heap[w.heap.size]? = some (.cells cells e (0, 0))) (hc : Chunks M w cells.toList xs) (hl : xs.length ≤ maxLen) {M' : Nat → Prop} (hM : ∀ b, b < w.heap.size → M' b → M b) :
  (own B e (.slice (some ⟨w.heap.size, 0, none⟩) xs.length xs.length) xs).holds M' w' := by
 refine ⟨cells.toList, ⟨Chunks.length hc, .inr ⟨w.heap.size, xs.length, cells, rfl, hB, hh, Nat.le_refl _, hl, ?_, ?_⟩⟩, Chunks.lift ⟨hx.size, fun b hb hn => ⟨hx.block b hb, fun h => hn (hM b hb h)⟩⟩ hc⟩
 ·have := Chunks.length hc; simpa using this
 ·rw [List.take_of_length_le (by rw [Chunks.length hc]; exact Nat.le_refl _)]
theorem MS_new {it : Item} {b : Nat} (hn : it.blk = some b) : ∀ c, c < b → MS M0 (it :: l) c → MS M0 l c := by
 rintro c hc (h | ⟨j, hj, hjc⟩)
 ·exact .inl h
 ·rcases List.mem_cons.1 hj with rfl | hj
  ·rw [hn] at hjc; cases hjc; omega
  ·exact .inr ⟨j, hj, hjc⟩
theorem pb0 : (([] : List (Nat × Operand)).map fun p => (p.1, ev f p.2)) = [] := rfl
theorem pbc {i : Nat} {L : List (Nat × Operand)} {V : List (Nat × Value)} (h : ev f x = v) (t : (L.map fun p => (p.1, ev f p.2)) = V) : (((i, x) :: L).map fun p => (p.1, ev f p.2)) = (i, v) :: V := by
 rw [List.map_cons, t, h]
theorem bs {α : Type} [GT α] {xs : List α} {len : Nat} {L : List (Nat × Operand)} {V : List (Nat × Value)} {cells : Array Value} (H : HI M0 w0 w l) (ol : okL n (L.map (·.2)) = true) (hL : (L.map fun p => (p.1, ev f p.2)) = V)
  (hb : ∀ w, (Instr.buildSlice T len V.toArray).run P w = .ok (.slice (some ⟨w.heap.size, 0, none⟩) len len) (w.alloc (.cells cells e)))
  (hc : Chunks (MS M0 l) w cells.toList xs) (hl : xs.length = len) (hm : len ≤ maxLen)
  (h : ∀ g w', Ext w w' → HI M0 w0 w' (own w0.heap.size e (.slice (some ⟨g, 0, none⟩) len len) xs :: l) → K (upd f d (.slice (some ⟨g, 0, none⟩) len len)) w') :
  SO P n ops ⟨some d, .buildSlice T len L.toArray, ty, ps, af, none⟩ f w K := by
 subst hl hL
 refine SO.value (v := .slice (some ⟨w.heap.size, 0, none⟩) xs.length xs.length) (w' := w.alloc (.cells cells e)) ?_ (h _ _ (Ext.alloc w _) ?_)
 ·have he : (L.map fun p => (p.1, (acts n f).eval p.2)) = L.map fun p => (p.1, ev f p.2) := by
   apply List.map_congr_left
   intro p hp
   rw [eval_acts (List.all_eq_true.1 ol p.2 (List.mem_map.2 ⟨p, hp, rfl⟩))]
  simp only [execOp, List.map_toArray]
  have := hb w
  rw [← he] at this
  simp [this]
 ·refine H.new (Ext.alloc w _) w.heap.size rfl (Nat.le_refl _) (by simp) ?_
  exact lit_own (Ext.alloc w _) H.below.size (heap_alloc_new w _) hc hm (MS_new (b := w.heap.size) rfl)
theorem mk {α : Type} [GT α] {m : Nat} {zx : α} (H : HI M0 w0 w l) (ox : okT n x = true) (oy : okT n y = true) (hx : ev f x = .int .i64 (m : Int)) (hy : ev f y = .int .i64 (m : Int)) (hu : P.underlying T = some (.slice e)) (F : TyF P e (GT.size α) (GT.agg α) bytes z)
  (hz : ∀ M w, GT.rep (α := α) M w z.cells.toList zx) (hb : bytes * m ≤ 281474976710656) (hm : m ≤ 9223372036854775807)
  (h : ∀ g w', Ext w w' → HI M0 w0 w' (own w0.heap.size e (.slice (some ⟨g, 0, none⟩) m m) (List.replicate m zx) :: l) → K (upd f d (.slice (some ⟨g, 0, none⟩) m m)) w') :
  SO P n ops ⟨some d, .makeSlice T x y, ty, ps, af, none⟩ f w K := by
 obtain ⟨inf, hi1, hi2, hi3, hi4⟩ := F.info
 obtain ⟨w', hrun, hown, hgr⟩ := run_make_full (P := P) w w0.heap.size T e inf z (GT.size α) hu hi1 hi2 hi3 .i64 .i64 m (by rw [hi4]; exact hb) (by simp only [maxLen]; omega) H.below.size
 refine SO.value (v := .slice (some ⟨w.heap.size, 0, none⟩) m m) (w' := w') (by simp [execOp, eval_acts ox, eval_acts oy, hx, hy, hrun]) (h _ _ (Ext.grown hgr) ?_)
 refine H.new (Ext.grown hgr) w.heap.size rfl (Nat.le_refl _) ((hown.lt _ rfl).2) ?_
 refine ⟨_, by rw [lR_]; exact hown, ?_⟩
 -- the cells are m times the zero value's
 have hzl : z.cells.toList.length = GT.size α := GT.len (hz (fun _ => False) w)
 have key : ∀ k, (madeCells z.cells (k * GT.size α)).toList = (List.replicate k z.cells.toList).flatten := by
  intro k
  apply List.ext_getElem
  ·simp [madeCells, hzl, Nat.mul_comm]
  ·intro i h1 h2
   have hik : i < k * GT.size α := by simpa [madeCells] using h1
   simp only [madeCells]
   have hs : z.cells.size = GT.size α := by simpa using hzl
   have hpos : 0 < GT.size α := GT.pos
   have hlt : i % GT.size α < z.cells.size := by rw [hs]; exact Nat.mod_lt _ hpos
   have e2 : ((List.replicate k z.cells.toList).flatten)[i]? = z.cells.toList[i % GT.size α]? := by
    clear h1 h2 hlt
    induction k generalizing i with
    | zero => simp at hik
    | succ k ih =>
     rw [List.replicate_succ, List.flatten_cons, List.getElem?_append]
     split
     ·rename_i hl
      rw [hzl] at hl
      rw [Nat.mod_eq_of_lt hl]
     ·rename_i hl
      rw [hzl] at hl ⊢
      rw [ih (i - GT.size α) (by rw [Nat.add_mul] at hik; omega)]
      rw [show i % GT.size α = (i - GT.size α) % GT.size α from by
       rw [Nat.mod_eq_sub_mod (by omega)]]
   have e3 := gE_ h2
   rw [e2, gE_ (by simpa using hlt)] at e3
   rw [← Option.some.inj e3]
   simp only [Array.getElem_toList, Array.getElem_map, Array.getElem_range, hs]
   rw [getElem!_pos z.cells (i % GT.size α) hlt]
 have hcs : ∀ k M w, Chunks (α := α) M w ((List.replicate k z.cells.toList).flatten) (List.replicate k zx) := by
  intro k
  induction k with
  | zero => intro M w; rfl
  | succ k ih => intro M w; exact ⟨_, _, by rw [List.replicate_succ, List.flatten_cons], hz M w, ih M w⟩
 rw [key]
 exact hcs _ _ _
theorem mk0 {α : Type} [GT α] {m : Nat} (H : HI M0 w0 w l) (ox : okT n x = true) (oy : okT n y = true) (hx : ev f x = .int .i64 0) (hy : ev f y = .int .i64 (m : Int)) (hu : P.underlying T = some (.slice e)) (F : TyF P e (GT.size α) agg bytes z)
  (hb : bytes * m ≤ 281474976710656) (hm : m ≤ 9223372036854775807)
  (h : ∀ g w', Ext w w' → HI M0 w0 w' (own w0.heap.size e (.slice (some ⟨g, 0, none⟩) 0 m) ([] : List α) :: l) → K (upd f d (.slice (some ⟨g, 0, none⟩) 0 m)) w') :
  SO P n ops ⟨some d, .makeSlice T x y, ty, ps, af, none⟩ f w K := by
 obtain ⟨inf, hi1, hi2, hi3, hi4⟩ := F.info
 obtain ⟨w', hrun, hown, hgr⟩ := run_make_own (P := P) w w0.heap.size T e inf z (GT.size α) hu hi1 hi2 hi3 .i64 .i64 m (by rw [hi4]; exact hb) (by simp only [maxLen]; omega) H.below.size
 refine SO.value (v := .slice (some ⟨w.heap.size, 0, none⟩) 0 m) (w' := w') (by simp [execOp, eval_acts ox, eval_acts oy, hx, hy, hrun]) (h _ _ (Ext.grown hgr) ?_)
 exact H.new (Ext.grown hgr) w.heap.size rfl (Nat.le_refl _) ((hown.lt _ rfl).2) ⟨[], hown, rfl⟩
theorem RV.cut {α : Type} [GT α] {M : Nat → Prop} {w : World} {ao : Option Addr} {m cc : Nat} {xs : List α} (h : RV M w (.slice ao m cc) xs) (lo hi : Nat) (h1 : lo ≤ hi) (h2 : hi ≤ xs.length) (hc : cc = lo → xs.length = lo) :
  RV M w (.slice (if cc = lo then ao else ao.map (·.add (lo * GT.size α))) (hi - lo) (cc - lo)) ((xs.drop lo).take (hi - lo)) := by
 obtain ⟨a, n, c, he, h3, h4, h5, h6⟩ := RV.list.1 h
 simp only [Value.slice.injEq] at he
 obtain ⟨rfl, rfl, rfl⟩ := he
 refine RV.list.2 ⟨_, _, _, rfl, by simp; omega, by omega, by omega, ?_⟩
 by_cases h0 : hi - lo = 0
 ·exact .inl h0
 ·rcases h6 with h6 | ⟨ad, rfl, hs⟩
  ·omega
  ·have hne : cc ≠ lo := fun e => by have := hc e; omega
   refine .inr ⟨ad.add (lo * GT.size α), by simp [hne], fun i x hx => ?_⟩
   rw [List.getElem?_take] at hx
   split at hx
   ·rw [List.getElem?_drop] at hx
    have := hs (lo + i) x hx
    rw [add_add]
    rwa [← Nat.add_mul]
   ·cases hx
theorem bd {L : List (Nat × Operand)} {V : List (Nat × Value)} {v : Value} (ol : okL n (L.map (·.2)) = true) (hL : (L.map fun p => (p.1, ev f p.2)) = V) (hb : ∀ w, (Instr.build T V.toArray).run P w = .ok v w) (h : K (upd f d v) w) :
  SO P n ops ⟨some d, .build T L.toArray, ty, ps, af, none⟩ f w K := by
 subst hL
 refine SO.value (v := v) (w' := w) ?_ h
 have he : (L.map fun p => (p.1, (acts n f).eval p.2)) = L.map fun p => (p.1, ev f p.2) := by
  apply List.map_congr_left
  intro p hp
  rw [eval_acts (List.all_eq_true.1 ol p.2 (List.mem_map.2 ⟨p, hp, rfl⟩))]
 simp only [execOp, List.map_toArray]
 have := hb w
 rw [← he] at this
 simp [this]
theorem fd {i : Nat} {u v : Value} (ox : okT n x = true) (hx : ev f x = u) (hr : ∀ w, (Instr.field T u i).run P w = .ok v w) (h : K (upd f d v) w) : SO P n ops ⟨some d, .field T x i, ty, ps, af, none⟩ f w K :=
 SO.value (v := v) (by simp [execOp, eval_acts ox, hx, hr w]) h
theorem iaA {i : Int} {m : Nat} (ox : okT n x = true) (oy : okT n y = true) (hx : ev f x = .pointer (some ad)) (hy : ev f y = .int kk i) (hi : 0 ≤ i ∧ i < (m : Int)) (hu : P.underlying T = some (.array m e)) (F : TyF P e size agg bytes z)
  (h : K (upd f d (.pointer (some (ad.add (i.toNat * size))))) w) : SO P n ops ⟨some d, .indexAddr T x y, ty, ps, af, none⟩ f w K :=
 SO.value (v := .pointer (some (ad.add (i.toNat * size)))) (by
  simp [execOp, eval_acts ox, eval_acts oy, hx, hy, Instr.indexAt, asIntOf, run_und hu, Instr.sureAddr, hi.1, hi.2, F.run_size]) h
theorem iaAn {i m : Nat} (ox : okT n x = true) (oy : okT n y = true) (hx : ev f x = .pointer (some ad)) (hy : ev f y = .int kk ((i : Nat) : Int)) (hi : i < m) (hu : P.underlying T = some (.array m e)) (F : TyF P e size agg bytes z)
  (h : K (upd f d (.pointer (some (ad.add (i * size))))) w) : SO P n ops ⟨some d, .indexAddr T x y, ty, ps, af, none⟩ f w K :=
 iaA ox oy hx hy (by omega) hu F (by rw [tN_]; exact h)
theorem ixS {s : ByteArray} {i : Int} (ox : okT n x = true) (oy : okT n y = true) (hx : ev f x = .string s) (hy : ev f y = .int kk i) (hi : 0 ≤ i ∧ i < s.size) (hu : P.underlying T = some .string)
  (h : ∀ c, s[i.toNat]? = some c → K (upd f d (.int .u8 (c.toNat : Int))) w) : SO P n ops ⟨some d, .index T x y, ty, ps, af, none⟩ f w K := by
 have hlt : i.toNat < s.size := by omega
 have hg : s[i.toNat]? = some s[i.toNat] := getElem?_pos s i.toNat hlt
 exact SO.value (v := .int .u8 ((s[i.toNat]).toNat : Int)) (by
  simp [execOp, eval_acts ox, eval_acts oy, hx, hy, Instr.index, asIntOf, run_und hu, hi.1, hg]) (h _ hg)
theorem eqS {s t : ByteArray} (ox : okT n x = true) (oy : okT n y = true) (hx : ev f x = .string s) (hy : ev f y = .string t) (h : K (upd f d (.bool (decide (s = t)))) w) : SO P n ops ⟨some d, .binOp .eql T x y T2, ty, ps, af, none⟩ f w K :=
 SO.value (v := .bool (decide (s = t))) (by
  have e : (s.toList == t.toList) = decide (s = t) := by
   rw [← beq_toListBytes, Bool.eq_iff_iff]
   rcases s with ⟨a⟩
   rcases t with ⟨b⟩
   show (a == b) = true ↔ _
   simp
  have hg : (eqGuard .eql T x y (.string s) (.string t)).run P w = .ok () w := by unfold eqGuard; rfl
  simp only [execOp, eval_acts ox, eval_acts oy, hx, hy, Sem.run_bind, hg, Result.andThen_ok]
  simp [binOp, Op.stringOp, e]) h
theorem eqB {p q : Bool} (ox : okT n x = true) (oy : okT n y = true) (hx : ev f x = .bool p) (hy : ev f y = .bool q) (hu : P.underlying T = some .bool) (h : K (upd f d (.bool (p == q))) w) : SO P n ops ⟨some d, .binOp .eql T x y T2, ty, ps, af, none⟩ f w K :=
 SO.value (v := .bool (p == q)) (by
  have hg : (eqGuard .eql T x y (.bool p) (.bool q)).run P w = .ok () w := by unfold eqGuard; rfl
  have hr : (binOp .eql T (.bool p) (.bool q)).run P w = .ok (.bool (p == q)) w := by
   show ((Op.equal T (.bool p) (.bool q) >>= fun b => pure (Value.bool b)) : Sem Value).run P w = _
   have h : (Op.equal T (.bool p) (.bool q)).run P w = .ok (p == q) w := by
    rw [show Op.equal T (.bool p) (.bool q) = Op.equalIn (9999 + 1) T (.bool p) (.bool q) from rfl]
    unfold Op.equalIn
    rw [Sem.run_bind, run_und hu]; rfl
   rw [Sem.run_bind, h]; rfl
  simp only [execOp, eval_acts ox, eval_acts oy, hx, hy, Sem.run_bind, hg, hr, Result.andThen_ok, Sem.run_pure]) h
theorem op_ {op : BinOp} {u : Value} (ox : okT n x = true) (oy : okT n y = true) (hx : ev f x = v) (hy : ev f y = v2) (hg : (eqGuard op T x y v v2).run P w = .ok () w) (hr : (binOp op T v v2).run P w = .ok u w) (h : K (upd f d u) w) :
  SO P n ops ⟨some d, .binOp op T x y T2, ty, ps, af, none⟩ f w K :=
 SO.value (v := u) (by simp only [execOp, eval_acts ox, eval_acts oy, hx, hy, Sem.run_bind, hg, hr, Result.andThen_ok, Sem.run_pure]) h
end
end Go.Ew
namespace Go.Ew
open Go.RowKit
def PW (P : Program) (n : Nat) (ops : Array Oper) (w0 : World) (K : Slots → Prop) : List Oper → Slots → Prop
 | [], f => K f
 | o :: r, f => ∃ v, (∀ w, Ext w0 w → SO P n ops o f w (fun f' w' => f' = updO f o.dst v ∧ Ext w w')) ∧ PW P n ops w0 K r (updO f o.dst v)
def okLook (l : List Oper) : Nat → List Oper → Bool
 | _, [] => true
 | i, o :: r => (o.looksAt l.toArray).all (fun t => !(dstsK l.length l).contains t || (List.range i).any (fun j => onB o j && Nat.beq (dstD l j) t && ((l[j]?).bind (·.dst)).isSome)) &&
   (match o.op with | .select _ _ => false | _ => true) && okLook l (i + 1) r
def okDS (n : Nat) (l : List Oper) : Bool := okD n l.length l && okLook l 0 l
section
variable {P : Program} {n : Nat} {ops : Array Oper} {w0 : World} {K : Slots → Prop} {o : Oper} {f f2 : Slots} {w : World} {v : Value}
theorem acts_eval {x : Operand} (h : ∀ t, x = .tmp t → f2 t = f t) : (acts n f2).eval x = (acts n f).eval x := by
 cases x with
 | tmp t =>
  by_cases ht : t < n
  ·simp [Act.eval, acts, ht, h t rfl]
  ·simp [Act.eval, acts, ht]
 | _ => rfl
theorem acts_yielded (hg : ∀ j b, o.guard = some (j, b) → ∀ t, (ops[j]?).bind (·.dst) = some t → f2 t = f t) : Region.wanted o (yielded ops (acts n f2).tmps) = Region.wanted o (yielded ops (acts n f).tmps) := by
 unfold Region.wanted
 cases hgd : o.guard with
 | none => rfl
 | some gw =>
  obtain ⟨j, b⟩ := gw
  simp only []
  have : yielded ops (acts n f2).tmps j = yielded ops (acts n f).tmps j := by
   unfold yielded
   cases ht : (ops[j]?).bind (·.dst) with
   | none => rfl
   | some t =>
    have he := hg j b hgd t ht
    by_cases hn : t < n
    ·simp [acts, hn, he]
    ·simp [acts, hn]
  rw [this]
theorem acts_inj {d : Nat} {u v : Value} (hd : d < n) (h : acts n (upd f d u) = acts n (upd f d v)) : u = v := by
 have h1 : (acts n (upd f d u)).tmps[d]? = (acts n (upd f d v)).tmps[d]? := by rw [h]
 simpa [acts, hd, upd_same] using h1
theorem okLook_at {l : List Oper} : ∀ (r : List Oper) (i : Nat), okLook l i r = true → ∀ j o, r[j]? = some o → (∀ t ∈ o.looksAt l.toArray, (dstsK l.length l).contains t = false ∨ ∃ q, q < i + j ∧ onB o q = true ∧ dstD l q = t ∧ ((l[q]?).bind (·.dst)).isSome = true) ∧ ∀ cs b, o.op ≠ .select cs b
 | [], _, _, j, o, h => by simp at h
 | x :: r, i, h, j, o, hj => by
  simp only [okLook, bA_] at h
  cases j with
  | zero =>
   simp only [List.getElem?_cons_zero, Option.some.injEq] at hj
   subst hj
   refine ⟨fun t ht => ?_, fun cs b e => ?_⟩
   ·have := List.all_eq_true.1 h.1.1 t ht
    rcases Bool.or_eq_true_iff.1 this with h1 | h1
    ·exact .inl (by simpa using h1)
    ·obtain ⟨q, hq, hq2⟩ := List.any_eq_true.1 h1
     simp only [bA_, Nat.beq_eq] at hq2
     exact .inr ⟨q, by have := List.mem_range.1 hq; omega, hq2.1.1, by simpa using hq2.1.2, hq2.2⟩
   ·have := h.1.2
    rw [e] at this; cases this
  | succ j =>
   simp only [List.getElem?_cons_succ] at hj
   have := okLook_at r (i + 1) h.2 j o hj
   refine ⟨fun t ht => ?_, this.2⟩
   rcases this.1 t ht with h1 | ⟨q, h1, h2⟩
   ·exact .inl h1
   ·exact .inr ⟨q, by omega, h2⟩
end
theorem gu {P : Program} {n : Nat} {ops : Array Oper} {f : Slots} {w : World} {K : Slots → World → Prop} {d : Option Nat} {op : Op} {ty : TypeId} {ps : String} {af : Array Edge} {j t : Nat} {want : Bool}
  (hj : gdst ops j = some t) (ht : Nat.blt t n = true) (hv : f t = undef)
  (h : K (updO f d undef) w) : SO P n ops ⟨d, op, ty, ps, af, some (j, want)⟩ f w K := by
 intro Q rest hk
 have hy : yielded ops (acts n f).tmps j = none := by
  simp only [Nat.blt_eq] at ht
  unfold gdst at hj
  simp [yielded, hj, acts, ht, hv, undef]
 unfold wpList
 rw [if_neg (by simp [Region.wanted, hy])]
 rw [put_acts]
 exact hk _ _ h
section
variable {P : Program} {n : Nat} {ops : Array Oper} {w0 : World} {K : Slots → Prop} {f : Slots} {rest : List Oper}
theorem e1 {f : Slots} {w : World} : f = f ∧ Ext w w := ⟨rfl, Ext.refl w⟩
theorem e2 {f : Slots} {d : Nat} {v x : Value} {w w' : World} (h : v = x ∧ Ext w w') : updO f (some d) v = updO f (some d) x ∧ Ext w w' := ⟨by rw [h.1], h.2⟩
theorem kq {o : Oper} {v : Value} (h : ∀ w, Ext w0 w → SO P n ops o f w (fun f' w' => f' = updO f o.dst v ∧ Ext w w')) (r : PW P n ops w0 K rest (updO f o.dst v)) : PW P n ops w0 K (o :: rest) f := ⟨v, h, r⟩
theorem zq (h : K f) : PW P n ops w0 K [] f := h
variable {d : Option Nat} {op : Op} {ty : TypeId} {ps : String} {af : Array Edge} {j t : Nat} {want b : Bool}
theorem qy (hj : gdst ops j = some t) (ht : Nat.blt t n = true) (hv : f t = .bool b) (hb : b = want)
  (h : PW P n ops w0 K (⟨d, op, ty, ps, af, none⟩ :: rest) f) : PW P n ops w0 K (⟨d, op, ty, ps, af, some (j, want)⟩ :: rest) f := by
 obtain ⟨v, h1, h2⟩ := h
 exact ⟨v, fun w hw => gy hj ht hv hb (h1 w hw), h2⟩
theorem qn (hj : gdst ops j = some t) (ht : Nat.blt t n = true) (hv : f t = .bool b) (hb : b = !want)
  (h : PW P n ops w0 K rest (updO f d undef)) : PW P n ops w0 K (⟨d, op, ty, ps, af, some (j, want)⟩ :: rest) f :=
 ⟨undef, fun w hw => gn hj ht hv hb ⟨rfl, Ext.refl w⟩, h⟩
end
section
variable {P : Program} {n : Nat} {ops : Array Oper} {w0 : World} {K : Slots → Prop} {f : Slots} {rest : List Oper} {d : Nat} {ty : TypeId} {ps : String} {af : Array Edge} {M : Nat → Prop} {x y : Operand} {T e : TypeId} {kk : IntKind} {agg : Bool} {bytes : Nat} {z v : Value} {ad : Addr}
theorem q_ia {α : Type} [GT α] {xs : List α} {i : Int} (hR : RV M w0 v xs) (ox : okT n x = true) (oy : okT n y = true) (hx : ev f x = v) (hy : ev f y = .int kk i) (hi : 0 ≤ i ∧ i < xs.length) (hu : P.underlying T = some (.slice e)) (F : TyF P e (GT.size α) agg bytes z)
  (h : ∀ ad xv, xs[i.toNat]? = some xv → At M w0 ad xv → PW P n ops w0 K rest (upd f d (.pointer (some ad)))) : PW P n ops w0 K (⟨some d, .indexAddr T x y, ty, ps, af, none⟩ :: rest) f := by
 obtain ⟨a, m, c, rfl, h1, h2, h3, h4⟩ := RV.list.1 hR
 rcases h4 with h4 | ⟨ad, rfl, hs⟩
 ·omega
 ·have hlt : i.toNat < xs.length := by omega
  refine ⟨.pointer (some (ad.add (i.toNat * GT.size α))), fun w hw => SO.value (v := .pointer (some (ad.add (i.toNat * GT.size α)))) (w' := w) ?_ ⟨rfl, Ext.refl w⟩, h _ xs[i.toNat] (gE_ hlt) (hs _ _ (gE_ hlt))⟩
  have hb : 0 ≤ i ∧ i < (m : Int) := by omega
  simp [execOp, eval_acts ox, eval_acts oy, hx, hy, Instr.indexAt, asIntOf, run_und hu, hb, F.run_size]
theorem q_iaO {α : Type} [GT α] {xs : List α} {B : Nat} {i : Int} (hO : (own B e v xs).holds M w0) (ox : okT n x = true) (oy : okT n y = true) (hx : ev f x = v) (hy : ev f y = .int kk i) (hi : 0 ≤ i ∧ i < xs.length) (hu : P.underlying T = some (.slice e)) (F : TyF P e (GT.size α) agg bytes z)
  (h : ∀ ad xv, xs[i.toNat]? = some xv → AtW M w0 ad xv → PW P n ops w0 K rest (upd f d (.pointer (some ad)))) : PW P n ops w0 K (⟨some d, .indexAddr T x y, ty, ps, af, none⟩ :: rest) f := by
 obtain ⟨cs, h1, h2⟩ := hO
 rcases h1.2 with ⟨_, h3⟩ | ⟨g, cap, cur, rfl, h3, h4, h5, h6, h7, h8⟩
 ·omega
 ·have hlt : i.toNat < xs.length := by omega
  have hadd : (⟨g, 0, none⟩ : Addr).add (i.toNat * GT.size α) = ⟨g, i.toNat * GT.size α, none⟩ := by unfold Addr.add; split <;> simp_all
  refine ⟨.pointer (some ⟨g, i.toNat * GT.size α, none⟩), fun w hw => SO.value (v := .pointer (some ⟨g, i.toNat * GT.size α, none⟩)) (w' := w) ?_ ⟨rfl, Ext.refl w⟩, h _ xs[i.toNat] (gE_ hlt) ?_⟩
  ·have hb : 0 ≤ i ∧ i < (xs.length : Int) := by omega
   simp [execOp, eval_acts ox, eval_acts oy, hx, hy, Instr.indexAt, asIntOf, run_und hu, hb, F.run_size, hadd]
  ·obtain ⟨c, hc1, hc2⟩ := Chunks.at_ h2 i.toNat xs[i.toNat] (gE_ hlt)
   refine ⟨c, hc1, fun j u hu => ?_⟩
   have hcell := h1.cells (g := g) rfl (i.toNat * GT.size α + j) u (hc2 j u hu)
   rwa [← add_add, hadd] at hcell
theorem q_ldW {α : Type} [GT α] {xv : α} (hA : AtW M w0 ad xv) (F : TyF P T (GT.size α) (GT.agg α) bytes z) (ox : okT n x = true) (hx : ev f x = .pointer (some ad))
  (h : ∀ v, RV M w0 v xv → PW P n ops w0 K rest (upd f d v)) : PW P n ops w0 K (⟨some d, .load T x, ty, ps, af, none⟩ :: rest) f := by
 obtain ⟨cs, h1, h2⟩ := hA
 refine ⟨mkv (GT.agg α) cs, fun w hw => SO.value (v := mkv (GT.agg α) cs) (w' := w) ?_ ⟨rfl, Ext.refl w⟩, h _ ⟨cs, h1, rfl⟩⟩
 have h3 : ∀ j v, cs[j]? = some v → w.cell? (ad.add j) = some v := fun j v hv => (World.cell?_of_block (hw.block _ (block_lt_cell (h2 j v hv)))).trans (h2 j v hv)
 simp [execOp, eval_acts ox, hx, Instr.loadAt, Instr.sureAddr, run_loadVar F GT.single (GT.len h1) h3]
theorem q_ldI {i : Int} (hA : AtW M w0 ad i) (F : TyF P T 1 false bytes z) (ox : okT n x = true) (hx : ev f x = .pointer (some ad)) (h : I64 i → PW P n ops w0 K rest (upd f d (.int .i64 i))) :
  PW P n ops w0 K (⟨some d, .load T x, ty, ps, af, none⟩ :: rest) f := q_ldW hA F ox hx fun v hv => by obtain ⟨rfl, hi⟩ := RV.int.1 hv; exact h hi
theorem q_ldB {u : Bool} (hA : AtW M w0 ad u) (F : TyF P T 1 false bytes z) (ox : okT n x = true) (hx : ev f x = .pointer (some ad)) (h : PW P n ops w0 K rest (upd f d (.bool u))) :
  PW P n ops w0 K (⟨some d, .load T x, ty, ps, af, none⟩ :: rest) f := q_ldW hA F ox hx fun v hv => by rw [RV.bool.1 hv]; exact h
end
end Go.Ew
namespace Go.Ew
open Go.RowKit
abbrev UT := List (Nat × (Value → World → Prop))
def inU (U : UT) (t : Nat) : Bool := U.any (fun p => Nat.beq p.1 t)
section
variable {P : Program} {n : Nat} {ops : Array Oper} {w0 : World} {o : Oper} {f f2 : Slots} {w : World} {v : Value} {R : Value → World → Prop}
theorem SO.sameE (h : SO P n ops o f w (fun f' w' => ∃ v, f' = updO f o.dst v ∧ Ext w w' ∧ R v w')) (hs : ∀ cs b, o.op ≠ .select cs b) (hu : ∀ t ∈ o.looksAt ops, f2 t = f t) (hd : ∀ d, o.dst = some d → d < n) :
  SO P n ops o f2 w (fun f' w' => ∃ v, f' = updO f2 o.dst v ∧ Ext w w' ∧ R v w') := by
 intro Q rest hk
 have h1 := h (fun e a w' => match e with | .normal => ∃ v, a = acts n (updO f o.dst v) ∧ Ext w w' ∧ R v w' | _ => False) [] (fun f' w' hK => wpList_nil (by obtain ⟨v, h1, h2⟩ := hK; exact ⟨v, by rw [h1], h2⟩))
 have he : execOp (acts n f2).eval o = execOp (acts n f).eval o := execOp_congr o hs fun x hx => acts_eval fun t ht => hu t (by
  subst ht
  exact List.mem_append_left _ (List.mem_filterMap.2 ⟨.tmp t, by simpa using hx, rfl⟩))
 have hw : Region.wanted o (yielded ops (acts n f2).tmps) = Region.wanted o (yielded ops (acts n f).tmps) := acts_yielded fun j b hg t ht => hu t (by
  unfold Oper.looksAt
  rw [hg]
  refine List.mem_append_right _ ?_
  simp [ht])
 have key : ∀ u w', (∃ v, (acts n f).put o.dst u = acts n (updO f o.dst v) ∧ Ext w w' ∧ R v w') → wpList P ops Q rest ((acts n f2).put o.dst u) w' := by
  rintro u w' ⟨v, hq, h2, h3⟩
  rw [put_acts] at hq ⊢
  cases hdst : o.dst with
  | none => exact hk _ _ ⟨v, by rw [hdst]; rfl, h2, h3⟩
  | some d =>
   rw [hdst] at hq
   have huv : u = v := acts_inj (hd d hdst) hq
   subst huv
   exact hk _ _ ⟨u, by rw [hdst], h2, h3⟩
 unfold wpList at h1 ⊢
 rw [hw]
 split at h1
 ·rename_i hwt
  rw [if_pos hwt]
  refine .inl ?_
  rcases h1 with h2 | ⟨_, a0, w1, hq⟩
  ·unfold Oper.wp at h2 ⊢
   rw [he]
   generalize (execOp (acts n f).eval o).run P w = r at *
   cases r with
   | ok x w' =>
    cases x with
    | enter g args =>
     simp only [Oper.upon] at h2 ⊢
     refine Calls.mono h2 ?_
     intro e w'' he2
     cases e with
     | returned u => exact key u w'' he2
     | panicked c => exact he2.elim
     | outgrown => obtain ⟨a0, w1, hq⟩ := he2; exact hq.elim
    | row r args =>
     simp only [Oper.upon] at h2 ⊢
     exact Rows.mono h2 fun u w'' he2 => key u w'' he2
    | defer d =>
     simp only [Oper.upon] at h2 ⊢
     obtain ⟨v, h3, -⟩ := (show ∃ v, _ ∧ _ from h2)
     exfalso
     have h4 := congrArg (fun a => a.defers.length) h3
     cases hdst : o.dst <;> rw [hdst] at h4 <;> simp [Act.put, acts] at h4
    | value u =>
     simp only [Oper.upon] at h2 ⊢
     exact key u w' h2
    | skip =>
     simp only [Oper.upon] at h2 ⊢
     exact key undef w' h2
    | _ => exact (show False from h2).elim
   | halt x w' => cases x <;> simp only [Oper.upon] at h2 ⊢ <;> exact h2.elim
  ·exact hq.elim
 ·rename_i hwt
  rw [if_neg hwt]
  exact key undef w h1
def Agr (L : List Nat) (U : UT) (f g : Slots) (w : World) : Prop :=
 ∀ t ∈ L, (inU U t = false → g t = f t) ∧ (∀ (j : Nat) (Φ : Value → World → Prop), U[j]? = some (t, Φ) → Φ (g t) w)
def GO (P : Program) (n : Nat) (ops : Array Oper) (w0 : World) (o : Oper) (U : UT) (f : Slots) (R : Value → World → Prop) : Prop :=
 ∀ w g, Ext w0 w → Agr (o.looksAt ops) U f g w → SO P n ops o g w (fun f' w' => ∃ v, f' = updO g o.dst v ∧ Ext w w' ∧ R v w')
def PX (P : Program) (n : Nat) (ops : Array Oper) (w0 : World) (K : UT → Slots → Prop) : List Oper → UT → Slots → Prop
 | [], U, f => K U f
 | o :: r, U, f => (∃ X, GO P n ops w0 o U f (eV X) ∧ PX P n ops w0 K r U (updO f o.dst X)) ∨
   (∃ d Φ, o.dst = some d ∧ (∀ v w w', Ext w w' → Φ v w → Φ v w') ∧ GO P n ops w0 o U f Φ ∧ PX P n ops w0 K r ((d, Φ) :: U) f)
abbrev EN := Option Value × (Value → World → Prop)
def enF : List (Oper × EN) → Slots → Slots
 | [], f => f
 | (o, (some X, _)) :: r, f => enF r (updO f o.dst X)
 | (_, (none, _)) :: r, f => enF r f
def enU : List (Oper × EN) → UT → UT
 | [], U => U
 | (_, (some _, _)) :: r, U => enU r U
 | (o, (none, Φ)) :: r, U => enU r ((o.dst.getD 0, Φ) :: U)
theorem PX.values {K : UT → Slots → Prop} : ∀ (l : List Oper) (U : UT) (f : Slots), PX P n ops w0 K l U f → ∃ es : List EN, es.length = l.length ∧ (∀ e ∈ es, ∀ X, e.1 = some X → e.2 = eV X) ∧ (∀ e ∈ es, ∀ v w w', Ext w w' → e.2 v w → e.2 v w') ∧
  (∀ i o e, l[i]? = some o → es[i]? = some e → GO P n ops w0 o (enU (List.zip (l.take i) es) U) (enF (List.zip (l.take i) es) f) e.2) ∧ K (enU (List.zip l es) U) (enF (List.zip l es) f)
 | [], U, f, h => ⟨[], rfl, by simp, by simp, fun i o e hi => by simp at hi, h⟩
 | o :: r, U, f, .inl ⟨X, h1, h2⟩ => by
  obtain ⟨es, hl, hc, hm, hs, hK⟩ := PX.values r U _ h2
  refine ⟨(some X, eV X) :: es, by simp [hl], ?_, ?_, fun i o' e hi he => ?_, hK⟩
  ·intro e he Y hY
   rcases List.mem_cons.1 he with rfl | he
   ·cases hY; rfl
   ·exact hc e he Y hY
  ·intro e he
   rcases List.mem_cons.1 he with rfl | he
   ·exact fun _ _ _ _ h => h
   ·exact hm e he
  ·cases i with
   | zero =>
    simp only [List.getElem?_cons_zero, Option.some.injEq] at hi he
    subst hi; subst he
    exact h1
   | succ i =>
    simp only [List.getElem?_cons_succ] at hi he
    exact hs i o' e hi he
 | o :: r, U, f, .inr ⟨d, Φ, hd, hmo, h1, h2⟩ => by
  obtain ⟨es, hl, hc, hm, hs, hK⟩ := PX.values r _ f h2
  have e0 : ∀ l', enU ((o, ((none, Φ) : EN)) :: l') U = enU l' ((d, Φ) :: U) := fun l' => by show enU l' ((o.dst.getD 0, Φ) :: U) = _; rw [hd]; rfl
  refine ⟨(none, Φ) :: es, by simp [hl], ?_, ?_, fun i o' e hi he => ?_, ?_⟩
  ·intro e he Y hY
   rcases List.mem_cons.1 he with rfl | he
   ·cases hY
   ·exact hc e he Y hY
  ·intro e he
   rcases List.mem_cons.1 he with rfl | he
   ·exact hmo
   ·exact hm e he
  ·cases i with
   | zero =>
    simp only [List.getElem?_cons_zero, Option.some.injEq] at hi he
    subst hi; subst he
    exact h1
   | succ i =>
    simp only [List.getElem?_cons_succ] at hi he
    have := hs i o' e hi he
    show GO P n ops w0 o' (enU ((o, ((none, Φ) : EN)) :: List.zip (r.take i) es) U) (enF (List.zip (r.take i) es) f) e.2
    rw [e0]; exact this
  ·show K (enU ((o, ((none, Φ) : EN)) :: List.zip r es) U) (enF (List.zip r es) f)
   rw [e0]; exact hK
theorem enF_off : ∀ (l : List Oper) (es : List EN) (f : Slots) (t : Nat), (∀ o ∈ l, o.dst ≠ some t) → enF (List.zip l es) f t = f t
 | [], es, f, t, h => rfl
 | o :: l, [], f, t, h => rfl
 | o :: l, (some X, Φ) :: es, f, t, h => by
  show enF (List.zip l es) (updO f o.dst X) t = f t
  rw [enF_off l es _ t (fun o' ho => h o' (List.mem_cons_of_mem _ ho))]
  have := h o List.mem_cons_self
  cases hd : o.dst with
  | none => rfl
  | some d => exact upd_ne f X (fun e => this (by rw [hd, e]))
 | o :: l, (none, Φ) :: es, f, t, h => enF_off l es f t (fun o' ho => h o' (List.mem_cons_of_mem _ ho))
theorem enF_at : ∀ (l : List Oper) (es : List EN) (f : Slots) (i : Nat) (o : Oper) (d : Nat) (X : Value) (Φ : Value → World → Prop), (l.filterMap (·.dst)).Nodup → l[i]? = some o → es[i]? = some (some X, Φ) → o.dst = some d → enF (List.zip l es) f d = X
 | [], es, f, i, o, d, X, Φ, hn, hi, he, hd => by simp at hi
 | x :: l, [], f, i, o, d, X, Φ, hn, hi, he, hd => by simp at he
 | x :: l, e :: es, f, i, o, d, X, Φ, hn, hi, he, hd => by
  cases i with
  | zero =>
   simp only [List.getElem?_cons_zero, Option.some.injEq] at hi he
   subst hi; subst he
   show enF (List.zip l es) (updO f x.dst X) d = X
   rw [enF_off l es _ d (fun o' ho e => by
    rw [List.filterMap_cons, hd] at hn
    exact (List.nodup_cons.1 hn).1 (List.mem_filterMap.2 ⟨o', ho, e⟩)), hd]
   exact upd_same f d X
  | succ i =>
   simp only [List.getElem?_cons_succ] at hi he
   have hn' : (l.filterMap (·.dst)).Nodup := by
    rw [List.filterMap_cons] at hn
    split at hn
    ·exact hn
    ·exact (List.nodup_cons.1 hn).2
   obtain ⟨a, b⟩ := e
   cases a with
   | none => exact enF_at l es f i o d X Φ hn' hi he hd
   | some Y => exact enF_at l es _ i o d X Φ hn' hi he hd
theorem enU_mem : ∀ (l : List Oper) (es : List EN) (U : UT) (p : Nat × (Value → World → Prop)), p ∈ enU (List.zip l es) U → p ∈ U ∨ ∃ (i : Nat) (o : Oper), l[i]? = some o ∧ es[i]? = some (none, p.2) ∧ o.dst.getD 0 = p.1
 | [], es, U, p, h => .inl h
 | o :: l, [], U, p, h => .inl h
 | o :: l, (some X, Φ) :: es, U, p, h => by
  rcases enU_mem l es U p h with h1 | ⟨i, o', h1, h2, h3⟩
  ·exact .inl h1
  ·exact .inr ⟨i + 1, o', h1, h2, h3⟩
 | o :: l, (none, Φ) :: es, U, p, h => by
  rcases enU_mem l es _ p h with h1 | ⟨i, o', h1, h2, h3⟩
  ·rcases List.mem_cons.1 h1 with rfl | h1
   ·exact .inr ⟨0, o, rfl, rfl, rfl⟩
   ·exact .inl h1
  ·exact .inr ⟨i + 1, o', h1, h2, h3⟩
theorem enU_has : ∀ (l : List Oper) (es : List EN) (U : UT) (i : Nat) (o : Oper) (Φ : Value → World → Prop), l[i]? = some o → es[i]? = some (none, Φ) → (o.dst.getD 0, Φ) ∈ enU (List.zip l es) U ∧ inU (enU (List.zip l es) U) (o.dst.getD 0) = true := by
 have hin : ∀ (U : UT) (t : Nat) (Φ : Value → World → Prop), (t, Φ) ∈ U → inU U t = true := fun U t Φ h => List.any_eq_true.2 ⟨_, h, by simp⟩
 have keep : ∀ (l : List Oper) (es : List EN) (U : UT) (p : Nat × (Value → World → Prop)), p ∈ U → p ∈ enU (List.zip l es) U := by
  intro l
  induction l with
  | nil => intro es U p h; exact h
  | cons o l ih =>
   intro es U p h
   cases es with
   | nil => exact h
   | cons e es =>
    obtain ⟨a, Φ⟩ := e
    cases a with
    | none => exact ih es _ p (List.mem_cons_of_mem _ h)
    | some X => exact ih es U p h
 intro l
 induction l with
 | nil => intro es U i o Φ hi; simp at hi
 | cons x l ih =>
  intro es U i o Φ hi he
  cases es with
  | nil => simp at he
  | cons e es =>
   cases i with
   | zero =>
    simp only [List.getElem?_cons_zero, Option.some.injEq] at hi he
    subst hi; subst he
    have := keep l es ((x.dst.getD 0, Φ) :: U) (x.dst.getD 0, Φ) List.mem_cons_self
    exact ⟨this, hin _ _ _ this⟩
   | succ i =>
    simp only [List.getElem?_cons_succ] at hi he
    obtain ⟨a, Ψ⟩ := e
    cases a with
    | none => exact ih es _ i o Φ hi he
    | some X => exact ih es U i o Φ hi he
end
def KX (n : Nat) (Q : Exit → Act → World → Prop) (w0 : World) (U : UT) (f : Slots) : Prop :=
 ∀ (w' : World) (g : Slots), Ext w0 w' → (∀ t, inU U t = false → g t = f t) → (∀ (j t : Nat) (Φ : Value → World → Prop), U[j]? = some (t, Φ) → Φ (g t) w') → Q .normal (acts n g) w'
section
variable {P : Program} {n : Nat}
theorem drX {id : Nat} {l : List Oper} {Q : Exit → Act → World → Prop} {f : Slots} {w : World} (hm : P.follows .mixedOrders = true) (hok : okDS n l = true)
  (h : PX P n l.toArray w (KX n Q w) l [] f) : WC P n (.region id l.toArray true) Q f w := by
 obtain ⟨es, hl, hc, hmo, hs, hK⟩ := PX.values l [] f h
 simp only [okDS, bA_] at hok
 obtain ⟨hokD, hokU⟩ := hok
 have hok0 := hokD
 simp only [okD, bA_] at hokD
 obtain ⟨⟨⟨⟨⟨hE, hD⟩, hN⟩, hn⟩, hT⟩, hkl⟩ := hokD
 have hnd : (l.filterMap (·.dst)).Nodup := by
  have := nodupB_nodup _ hN
  unfold dstsK at this
  rwa [List.take_length] at this
 have hlt : ∀ (i : Nat) (o : Oper) (d : Nat), l[i]? = some o → o.dst = some d → d < n := by
  intro i o d hi hd
  have := List.all_eq_true.1 hn d (mem_dstsK hi (gS_.1 hi).1 hd)
  simpa using this
 have hdst : ∀ (i : Nat) (o : Oper), l[i]? = some o → ∃ d, o.dst = some d := by
  intro i o hi
  rw [List.take_length] at hD
  exact Option.isSome_iff_exists.1 (List.all_eq_true.1 hD o (mG_ hi))
 have hpos : ∀ (i : Nat) (o : Oper) (d : Nat), l[i]? = some o → o.dst = some d → dstD l i = d := by
  intro i o d hi hd
  unfold dstD
  rw [hi]; show (o.dst).getD 0 = d
  rw [hd]; rfl
 have hes : ∀ (i : Nat), i < l.length → ∃ e, es[i]? = some e := fun i hi => ⟨_, gE_ (by omega)⟩
 have hphi : ∀ (i : Nat) (e : EN) (v : Value) (w' : World), es[i]? = some e → (phi (es.map (·.2)) i v w' ↔ e.2 v w') := by
  intro i e v w' he
  unfold phi
  rw [gD_, List.getElem?_map, he]
  exact Iff.rfl
 have huniq : ∀ (i j : Nat) (o o' : Oper), l[i]? = some o → l[j]? = some o' → o.dst.getD 0 = o'.dst.getD 0 → i = j := by
  intro i j o o' hi hj he
  obtain ⟨d, hd⟩ := hdst i o hi
  obtain ⟨d', hd'⟩ := hdst j o' hj
  exact filterMap_inj (·.dst) l hnd i j o o' hi hj (by show o.dst.isSome = true; rw [hd]; rfl) (by show o.dst = o'.dst; rw [hd, hd'] at he ⊢; rw [show d = d' from he])
 -- what is known of the slots of the first m operations
 have hknow : ∀ (m : Nat), m ≤ l.length → ∀ (g : Slots) (w' : World) (t : Nat),
   ((dstsK l.length l).contains t = false → g t = f t) → (∀ (q : Nat) (o : Oper) (e : EN), q < m → l[q]? = some o → es[q]? = some e → o.dst = some t → e.2 (g t) w') →
   (∀ (q : Nat) (o : Oper), l[q]? = some o → o.dst = some t → q < m) →
   (inU (enU (List.zip (l.take m) es) []) t = false → g t = enF (List.zip (l.take m) es) f t) ∧ ∀ (j : Nat) (Φ : Value → World → Prop), (enU (List.zip (l.take m) es) [])[j]? = some (t, Φ) → Φ (g t) w' := by
  intro m hm g w' t h1 h2 h3
  constructor
  ·intro hu
   by_cases ht : (dstsK l.length l).contains t = true
   ·have hm2 : t ∈ l.filterMap (·.dst) := by
     have := List.contains_iff_mem.1 ht
     unfold dstsK at this
     rwa [List.take_length] at this
    obtain ⟨o, ho, hot⟩ := List.mem_filterMap.1 hm2
    obtain ⟨q, hq⟩ := List.mem_iff_getElem?.1 ho
    have hqm := h3 q o hq hot
    obtain ⟨e, he⟩ := hes q (gS_.1 hq).1
    have htake : (l.take m)[q]? = some o := by rw [List.getElem?_take, if_pos hqm]; exact hq
    obtain ⟨a, Φ⟩ := e
    cases a with
    | none =>
     have := (enU_has (l.take m) es [] q o Φ htake he).2
     rw [hot] at this
     rw [show (some t).getD 0 = t from rfl] at this
     rw [hu] at this; cases this
    | some X =>
     have hv := h2 q o _ hqm hq he hot
     rw [hc _ (mG_ he) X rfl] at hv
     rw [enF_at (l.take m) es f q o t X Φ (hnd.sublist ((List.take_sublist m l).filterMap _)) htake he hot]
     exact hv
   ·rw [h1 (by simpa using ht), enF_off]
    intro o' ho' he
    obtain ⟨j, hj⟩ := List.mem_iff_getElem?.1 (List.mem_of_mem_take ho')
    exact ht (List.contains_iff_mem.2 (mem_dstsK hj (gS_.1 hj).1 he))
  ·intro j Φ hj
   rcases enU_mem (l.take m) es [] (t, Φ) (mG_ hj) with h4 | ⟨q, o, hq, he, hd⟩
   ·cases h4
   ·have hqm : q < m := by have := (gS_.1 hq).1; rw [lT_] at this; omega
    rw [List.getElem?_take, if_pos hqm] at hq
    obtain ⟨d, hdd⟩ := hdst q o hq
    have hdt : d = t := by have h9 : o.dst.getD 0 = t := hd; rw [hdd] at h9; exact h9
    rw [hdt] at hdd
    exact h2 q o _ hqm hq he hdd
 have hof : ∀ (r : List Oper) (i : Nat), (∀ j o, r[j]? = some o → DStep P n l l.length (es.map (·.2)) f w (i + j) o) → DSteps P n l l.length (es.map (·.2)) f w i r := by
  intro r
  induction r with
  | nil => intro i _; trivial
  | cons x r ih =>
   intro i hx
   refine ⟨fun _ => hx 0 x rfl, ih (i + 1) fun j o hj => ?_⟩
   have := hx (j + 1) o (by simpa using hj)
   rwa [show i + (j + 1) = i + 1 + j from by omega] at this
 refine dr l.length (es.map (·.2)) hm hok0 (hof l 0 fun i o hi => ?_) fun g w' hg hx hp => ?_
 ·rw [Nat.zero_add]
  have hil := (gS_.1 hi).1
  obtain ⟨e, he⟩ := hes i hil
  refine ⟨fun g w' hg hx hp => ?_, fun v w1 w2 hx h => by rw [hphi i e v _ he] at h ⊢; exact hmo e (mG_ he) v w1 w2 hx h⟩
  refine (hs i o e hi he w' g hx fun t ht => ?_).mono ?_
  ·refine hknow i (Nat.le_of_lt hil) g w' t (hg t) (fun q o' e' hq hoq heq hot => ?_) (fun q o' hoq hot => ?_)
   ·rcases (okLook_at l 0 hokU i o hi).1 t ht with h1 | ⟨q', hq', hon, hqt, hqd⟩
    ·have := mem_dstsK hoq (gS_.1 hoq).1 hot
     rw [List.contains_iff_mem.2 this] at h1; cases h1
    ·have hql : q' < l.length := by omega
     obtain ⟨d', hd'⟩ := hdst q' l[q'] (gE_ hql)
     have := hpos q' _ d' (gE_ hql) hd'
     have hqq : q' = q := huniq q' q _ _ (gE_ hql) hoq (by rw [hd', hot]; show d' = t; rw [← this, hqt])
     subst hqq
     have h5 := hp q' hon (by simpa using hql)
     rw [hqt] at h5
     exact (hphi q' e' _ w' heq).1 h5
   ·rcases (okLook_at l 0 hokU i o hi).1 t ht with h1 | ⟨q', hq', hon, hqt, hqd⟩
    ·have := mem_dstsK hoq (gS_.1 hoq).1 hot
     rw [List.contains_iff_mem.2 this] at h1; cases h1
    ·have hql : q' < l.length := by omega
     obtain ⟨d', hd'⟩ := hdst q' l[q'] (gE_ hql)
     have := hpos q' _ d' (gE_ hql) hd'
     have hqq : q' = q := huniq q' q _ _ (gE_ hql) hoq (by rw [hd', hot]; show d' = t; rw [← this, hqt])
     omega
  ·rintro f'' w'' ⟨v, rfl, hx2, hv⟩
   exact ⟨v, rfl, hx2, (hphi i e _ _ he).2 hv⟩
 ·rw [List.drop_eq_nil_of_le (Nat.le_refl _)]
  refine z ?_
  have hall : ∀ t, _ := fun t => hknow l.length (Nat.le_refl _) g w' t (hg t) (fun q o e hq hoq heq hot => by
   have h5 := hp q (by simpa using hq)
   rw [hpos q o t hoq hot] at h5
   exact (hphi q e _ w' heq).1 h5) (fun q o hoq hot => (gS_.1 hoq).1)
  rw [List.take_length] at hall
  exact hK w' g hx (fun t ht => (hall t).1 ht) (fun j t Φ hj => (hall t).2 j Φ hj)
end
section
variable {P : Program} {n : Nat} {ops : Array Oper} {w0 : World} {K : UT → Slots → Prop} {f : Slots} {rest : List Oper} {U : UT} {o : Oper} {v X : Value} {Φ Ψ : Value → World → Prop} {d d2 : Nat}
def freeU (ops : Array Oper) (o : Oper) (U : UT) : Bool := (o.looksAt ops).all (fun t => !inU U t)
def freeB (ops : Array Oper) (o : Oper) (U : UT) (d : Nat) : Bool := (o.looksAt ops).all (fun t => Nat.beq t d || !inU U t)
def simpleO (n : Nat) (o : Oper) : Bool := (match o.op with | .select _ _ => false | _ => true) && (match o.dst with | some d => Nat.blt d n | none => true)
theorem simple_op (h : simpleO n o = true) : (∀ cs b, o.op ≠ .select cs b) ∧ ∀ d, o.dst = some d → d < n := by
 unfold simpleO at h
 rw [bA_] at h
 refine ⟨fun cs b e => (by rw [e] at h; have h1 := h.1; cases h1), fun d hd => ?_⟩
 have := h.2
 rw [hd] at this
 simpa using this
theorem free_agr (h : freeU ops o U = true) {g : Slots} {w : World} (ha : Agr (o.looksAt ops) U f g w) : ∀ t ∈ o.looksAt ops, g t = f t := by
 intro t ht
 have := List.all_eq_true.1 h t ht
 exact (ha t ht).1 (by simpa using this)
theorem xk (hf : (simpleO n o && freeU ops o U) = true) (h : ∀ w, Ext w0 w → SO P n ops o f w (fun f' w' => f' = updO f o.dst X ∧ Ext w w')) (r : PX P n ops w0 K rest U (updO f o.dst X)) : PX P n ops w0 K (o :: rest) U f := by
 rw [bA_] at hf
 refine .inl ⟨X, fun w g hx ha => ?_, r⟩
 exact SO.sameE ((h w hx).mono fun f' w' hq => ⟨X, hq.1, hq.2, rfl⟩) (simple_op hf.1).1 (free_agr hf.2 ha) (simple_op hf.1).2
theorem xu (Φ : Value → World → Prop) (hd : o.dst = some d) (hm : ∀ v w w', Ext w w' → Φ v w → Φ v w') (hf : (simpleO n o && freeU ops o U) = true) (h : ∀ w, Ext w0 w → SO P n ops o f w (fun f' w' => ∃ v, f' = updO f o.dst v ∧ Ext w w' ∧ Φ v w')) (r : PX P n ops w0 K rest ((d, Φ) :: U) f) : PX P n ops w0 K (o :: rest) U f := by
 rw [bA_] at hf
 exact .inr ⟨d, Φ, hd, hm, fun w g hx ha => SO.sameE (h w hx) (simple_op hf.1).1 (free_agr hf.2 ha) (simple_op hf.1).2, r⟩
theorem one_agr {j : Nat} (hU : U[j]? = some (d, Ψ)) (h : freeB ops o U d = true) {g : Slots} {w : World} (ha : Agr (o.looksAt ops) U f g w) (hl : (o.looksAt ops).contains d = true) : Ψ (g d) w ∧ ∀ t ∈ o.looksAt ops, g t = upd f d (g d) t := by
 refine ⟨(ha d (List.contains_iff_mem.1 hl)).2 j Ψ hU, fun t ht => ?_⟩
 by_cases e : t = d
 ·subst e; exact (upd_same _ _ _).symm
 ·rw [upd_ne _ _ e]
  have := List.all_eq_true.1 h t ht
  rcases Bool.or_eq_true_iff.1 this with h1 | h1
  ·exact absurd (Nat.eq_of_beq_eq_true h1) e
  ·exact (ha t ht).1 (by simpa using h1)
theorem xk1 (j : Nat) (hU : U[j]? = some (d, Ψ)) (hf : (simpleO n o && freeB ops o U d && (o.looksAt ops).contains d) = true) (h : ∀ w v, Ext w0 w → Ψ v w → SO P n ops o (upd f d v) w (fun f' w' => f' = updO (upd f d v) o.dst X ∧ Ext w w')) (r : PX P n ops w0 K rest U (updO f o.dst X)) : PX P n ops w0 K (o :: rest) U f := by
 rw [bA_, bA_] at hf
 refine .inl ⟨X, fun w g hx ha => ?_, r⟩
 obtain ⟨h1, h2⟩ := one_agr hU hf.1.2 ha hf.2
 exact SO.sameE ((h w (g d) hx h1).mono fun f' w' hq => ⟨X, hq.1, hq.2, rfl⟩) (simple_op hf.1.1).1 h2 (simple_op hf.1.1).2
theorem xu1 (Φ : Value → World → Prop) (j : Nat) (hU : U[j]? = some (d, Ψ)) (hd : o.dst = some d2) (hm : ∀ v w w', Ext w w' → Φ v w → Φ v w') (hf : (simpleO n o && freeB ops o U d && (o.looksAt ops).contains d) = true) (h : ∀ w v, Ext w0 w → Ψ v w → SO P n ops o (upd f d v) w (fun f' w' => ∃ u, f' = updO (upd f d v) o.dst u ∧ Ext w w' ∧ Φ u w')) (r : PX P n ops w0 K rest ((d2, Φ) :: U) f) : PX P n ops w0 K (o :: rest) U f := by
 rw [bA_, bA_] at hf
 refine .inr ⟨d2, Φ, hd, hm, fun w g hx ha => ?_, r⟩
 obtain ⟨h1, h2⟩ := one_agr hU hf.1.2 ha hf.2
 exact SO.sameE (h w (g d) hx h1) (simple_op hf.1.1).1 h2 (simple_op hf.1.1).2
theorem zx (h : K U f) : PX P n ops w0 K [] U f := h
theorem xq (hf : (simpleO n o && freeU ops o U) = true) (h : PW P n ops w0 (fun f' => PX P n ops w0 K rest U f') [o] f) : PX P n ops w0 K (o :: rest) U f := by
 obtain ⟨X, h1, h2⟩ := h
 exact xk hf h1 h2
end
section
variable {P : Program} {n : Nat} {ops : Array Oper} {w0 : World}
theorem PW.toX {K : Slots → Prop} : ∀ (l : List Oper) (f : Slots), (∀ o ∈ l, (∀ cs b, o.op ≠ .select cs b) ∧ ∀ d, o.dst = some d → d < n) → PW P n ops w0 K l f → PX P n ops w0 (fun U f => U = [] ∧ K f) l [] f
 | [], f, _, h => ⟨rfl, h⟩
 | o :: r, f, ho, ⟨X, h1, h2⟩ => .inl ⟨X, fun w g hx ha => SO.sameE ((h1 w hx).mono fun f' w' hq => ⟨X, hq.1, hq.2, rfl⟩) (ho o List.mem_cons_self).1 (fun t ht => (ha t ht).1 rfl) (ho o List.mem_cons_self).2, PW.toX r _ (fun o' ho' => ho o' (List.mem_cons_of_mem _ ho')) h2⟩
theorem PX.mono {K K' : UT → Slots → Prop} (hK : ∀ U f, K U f → K' U f) : ∀ (l : List Oper) (U : UT) (f : Slots), PX P n ops w0 K l U f → PX P n ops w0 K' l U f
 | [], U, f, h => hK U f h
 | o :: r, U, f, .inl ⟨X, h1, h2⟩ => .inl ⟨X, h1, PX.mono hK r U _ h2⟩
 | o :: r, U, f, .inr ⟨d, Φ, h0, hm, h1, h2⟩ => .inr ⟨d, Φ, h0, hm, h1, PX.mono hK r _ f h2⟩
theorem drS {id : Nat} {l : List Oper} {Q : Exit → Act → World → Prop} {f : Slots} {w : World} (hm : P.follows .mixedOrders = true) (hok : okDS n l = true)
  (h : PW P n l.toArray w (fun f' => ∀ w', Ext w w' → Q .normal (acts n f') w') l f) : WC P n (.region id l.toArray true) Q f w := by
 have hok' := hok
 simp only [okDS, bA_] at hok'
 obtain ⟨hokD, hokU⟩ := hok'
 simp only [okD, bA_] at hokD
 obtain ⟨⟨⟨⟨⟨hE, hD⟩, hN⟩, hn⟩, hT⟩, hkl⟩ := hokD
 refine drX hm hok (PX.mono ?_ l [] f (PW.toX l f ?_ h))
 ·rintro U g ⟨rfl, hK⟩ w' g' hx hg _
  have e : g' = g := by funext t; exact hg t rfl
  rw [e]; exact hK w' hx
 ·intro o ho
  obtain ⟨i, hi⟩ := List.mem_iff_getElem?.1 ho
  refine ⟨(okLook_at l 0 hokU i o hi).2, fun d hd => ?_⟩
  have := List.all_eq_true.1 hn d (mem_dstsK hi (gS_.1 hi).1 hd)
  simpa using this
end
end Go.Ew
namespace Go.Ew
open Go.RowKit Go.IntWalk
theorem ieq {v : Value} {kk : IntKind} {a b : Int} (h : v = .int kk a) (e : a = b) : v = .int kk b := e ▸ h
theorem ueq {v : Value} {a b : BitVec 64} (h : v = U a) (e : a = b) : v = U b := e ▸ h
theorem nott {b : Bool} (h : (!b) = true) : b = false := by cases b <;> simp_all
theorem notf {b : Bool} (h : (!b) = false) : b = true := by cases b <;> simp_all
theorem AtW.ext {α : Type} [GT α] {M : Nat → Prop} {w w' : World} {ad : Addr} {x : α} (h : AtW M w ad x) (e : Ext w w') : AtW M w' ad x := by
 obtain ⟨cs, h1, h2⟩ := h
 refine ⟨cs, GT.lift h1 (Up.ext e), fun j v hv => ?_⟩
 have hc := h2 j v hv
 exact (World.cell?_of_block (e.block _ (block_lt_cell hc))).trans hc
theorem rs_nil {α : Type} [GT α] (M : Nat → Prop) (w : World) : RS M w (.slice none 0 0) ([] : List α) := ⟨none, 0, 0, rfl, rfl, Nat.le_refl _, by simp [maxLen], .inl rfl⟩
theorem rv_nil {α : Type} [GT α] (M : Nat → Prop) (w : World) : RV M w (.slice none 0 0) ([] : List α) := RV.list.2 (rs_nil M w)
theorem MS_nil {M0 : Nat → Prop} : MS M0 [] = M0 := by funext b; simp [MS]
class Flat (α : Type) [GT α] : Prop where
 flat : ∀ {M w M' w' cs} {x : α}, GT.rep M w cs x → GT.rep M' w' cs x
instance : Flat Int := ⟨fun h => h⟩
instance : Flat (BitVec 64) := ⟨fun h => h⟩
instance : Flat (BitVec 8) := ⟨fun h => h⟩
instance : Flat Bool := ⟨fun h => h⟩
instance : Flat ByteArray := ⟨fun h => h⟩
instance {α β : Type} [GT α] [GT β] [Flat α] [Flat β] : Flat (α × β) := ⟨fun h => by
 obtain ⟨c1, c2, h0, h1, h2⟩ := h
 exact ⟨c1, c2, h0, Flat.flat h1, Flat.flat h2⟩⟩
theorem Chunks.flat {α : Type} [GT α] [Flat α] {M M' : Nat → Prop} {w w' : World} : ∀ {xs : List α} {cs : List Value}, Chunks M w cs xs → Chunks M' w' cs xs
 | [], _, h => h
 | x :: xs, cs, ⟨c1, c2, h1, h2, h3⟩ => ⟨c1, c2, h1, Flat.flat h2, Chunks.flat h3⟩
section
variable {M0 : Nat → Prop} {w0 w w' : World} {l l' : List Item} {α : Type} [GT α] {v : Value} {xs : List α} {x : α} {e : TypeId} {ad : Addr}
theorem HI.rv (H : HI M0 w0 w l) (i : Nat) (hi : l[i]? = some (imm v x)) : RV (MS M0 l) w v x := H.at_ i hi
theorem HI.atv (H : HI M0 w0 w l) (i : Nat) (hi : l[i]? = some (atI ad x)) : At (MS M0 l) w ad x := H.at_ i hi
theorem HI.gives_out (H : HI M0 w0 w l) (i : Nat) (hi : l[i]? = some (imm v x)) : RV M0 w v x := (H.rv i hi).lift H.out
theorem HI.outO (H : HI M0 w0 w l) (i : Nat) (hi : l[i]? = some (own w0.heap.size e v xs)) : RV M0 w v xs := H.out_own i hi (fun _ _ _ _ => trivial)
theorem nodup_filterMap {β γ : Type} (g : β → Option γ) : ∀ (is : List β), is.Nodup → (∀ i ∈ is, ∀ j ∈ is, ∀ b, g i = some b → g j = some b → i = j) → (is.filterMap g).Nodup
 | [], _, _ => List.nodup_nil
 | i :: is, hn, hg => by
  have hn' := List.nodup_cons.1 hn
  have ih := nodup_filterMap g is hn'.2 (fun a ha b hb => hg a (List.mem_cons_of_mem _ ha) b (List.mem_cons_of_mem _ hb))
  rw [List.filterMap_cons]
  cases hgi : g i with
  | none => exact ih
  | some b =>
   refine List.nodup_cons.2 ⟨fun hm => ?_, ih⟩
   obtain ⟨j, hj, hgj⟩ := List.mem_filterMap.1 hm
   have := hg i (List.mem_cons_self) j (List.mem_cons_of_mem _ hj) b hgi hgj
   exact hn'.1 (this ▸ hj)
theorem HI.pickN (H : HI M0 w0 w l) (is : List Nat) (hn : is.Nodup) (he : is.filterMap (fun i => l[i]?) = l') : HI M0 w0 w l' := by
 subst he
 refine H.pick _ (fun it hit => ?_) ?_
 ·obtain ⟨i, _, hi⟩ := List.mem_filterMap.1 hit
  exact mG_ hi
 ·rw [List.filterMap_filterMap]
  refine nodup_filterMap _ is hn fun i _ j _ b hi hj => ?_
  obtain ⟨a, ha, hab⟩ := Option.bind_eq_some_iff.1 hi
  obtain ⟨c, hc, hcb⟩ := Option.bind_eq_some_iff.1 hj
  exact filterMap_inj (·.blk) l H.nodup i j a c ha hc (by rw [hab]; rfl) (by rw [hab, hcb])
end
theorem DSteps.rest {P : Program} {n : Nat} {l : List Oper} {k : Nat} {Φ : List (Value → World → Prop)} {f0 : Slots} {w0 : World} {i : Nat} (h : Nat.ble k i = true) : ∀ r, DSteps P n l k Φ f0 w0 i r := by
 intro r
 induction r generalizing i with
 | nil => trivial
 | cons o r ih =>
  refine ⟨fun hb => ?_, ih ?_⟩
  ·simp at h hb; omega
  ·simp at h ⊢; omega
theorem Owns.rv {α : Type} [GT α] {e : TypeId} {w w' : World} {xs : List α} {v : Value} {M : Nat → Prop} (h : Owns e w xs v w') (hM : ∀ b, M b → b < w.heap.size) : RV M w' v xs := by
 obtain ⟨_, hb, ho⟩ := h
 refine own_seg ho (fun b _ hb' => .inl (hM b hb')) (fun b hvb hMb => ?_)
 obtain ⟨cs, h1, _⟩ := ho
 have := (h1.lt b hvb).1
 have := hM b hMb
 omega
section
variable {P : Program} {n : Nat} {fn : Func} {R : Value → World → Prop} {f : Slots} {w w0 : World} {M0 : Nat → Prop} {l : List Item} {agg : Bool} {bytes : Nat} {z : Value} {k : Nat}
theorem tmp_get {t : Nat} (h : Nat.blt t n = true) : (acts n f).tmps.getD t undef = f t := tmp_acts h
theorem run_resultLoad {T : TypeId} {b : Nat} {cs : Array Value} {ty : TypeId} (H : HI M0 w0 w l) (i : Nat) (hi : l[i]? = some (box b cs ty)) (F : TyF P T k agg bytes z) (hk : agg = false → k = 1) (hl : ((cs.toList.drop 0).take k).length = k) :
  (loadVar T ⟨b, 0, none⟩).run P w = .ok (mkv agg ((cs.toList.drop 0).take k)) w := by
 have hb : w.heap[b]? = some (.cells cs ty (0, 0)) := H.at_ i hi
 refine run_loadVar F hk hl fun j u hu => ?_
 rw [show (⟨b, 0, none⟩ : Addr).add j = ⟨b, j, none⟩ from by unfold Addr.add; split <;> simp_all, cell_of_row w b j cs ty (0, 0) hb]
 have hj : j < k := by
  have := (gS_.1 hu).1
  omega
 rw [List.getElem?_take, if_pos hj, List.getElem?_drop] at hu
 simpa using hu
theorem rc1 {T : TypeId} {b : Nat} {cs : Array Value} {ty : TypeId} {p : Nat} (H : HI M0 w0 w l) (i : Nat) (hi : l[i]? = some (box b cs ty)) (F : TyF P T k agg bytes z) (hr : fn.results = #[.cell p T]) (hp : Nat.blt p n = true) (hx : f p = .pointer (some ⟨b, 0, none⟩)) (hl : ((cs.toList.drop 0).take k).length = k) (hk : agg = false → k = 1)
  (h : R (mkv agg ((cs.toList.drop 0).take k)) w) : retQ P n fn R .ret (acts n f) w := by
 refine ⟨f, rfl, _, ?_, h⟩
 have h := run_resultLoad (P := P) H i hi F hk hl
 have h0 : (acts n f).tmps.getD p undef = .pointer (some ⟨b, 0, none⟩) := by rw [tmp_get hp, hx]
 simp only [results, hr, List.mapM_toArray]
 simp only [List.mapM_cons, List.mapM_nil]
 simp [h, h0, asAddr]
theorem rc2 {T : TypeId} {b : Nat} {cs : Array Value} {ty : TypeId} {p t : Nat} (H : HI M0 w0 w l) (i : Nat) (hi : l[i]? = some (box b cs ty)) (F : TyF P T k agg bytes z) (hr : fn.results = #[.cell p T, .tmp t]) (hp : Nat.blt p n = true) (ht : Nat.blt t n = true) (hx : f p = .pointer (some ⟨b, 0, none⟩)) (hl : ((cs.toList.drop 0).take k).length = k) (hk : agg = false → k = 1)
  (h : R (.tuple #[mkv agg ((cs.toList.drop 0).take k), f t]) w) : retQ P n fn R .ret (acts n f) w := by
 refine ⟨f, rfl, _, ?_, h⟩
 have h := run_resultLoad (P := P) H i hi F hk hl
 have h0 : (acts n f).tmps.getD p undef = .pointer (some ⟨b, 0, none⟩) := by rw [tmp_get hp, hx]
 have h2 := tmp_get (f := f) ht
 simp only [results, hr, List.mapM_toArray]
 simp only [List.mapM_cons, List.mapM_nil]
 simp [h, h0, asAddr, h2]
theorem r3 {t t2 t3 : Nat} (hr : fn.results = #[.tmp t, .tmp t2, .tmp t3]) (ht : Nat.blt t n = true) (ht2 : Nat.blt t2 n = true) (ht3 : Nat.blt t3 n = true)
  (h : R (.tuple #[f t, f t2, f t3]) w) : retQ P n fn R .ret (acts n f) w := by
 refine ⟨f, rfl, _, ?_, h⟩
 have h2 := tmp_get (f := f) ht
 have h3 := tmp_get (f := f) ht2
 have h4 := tmp_get (f := f) ht3
 simp only [results, hr, List.mapM_toArray]
 simp only [List.mapM_cons, List.mapM_nil]
 simp [h2, h3, h4]
end
theorem rv_none {α : Type} [GT α] {M : Nat → Prop} {w : World} {a : Option Addr} {n c : Nat} {xs : List α} (h : RV M w (.slice a n c) xs) (ha : a.isNone = true) : xs = [] := by
 cases a with
 | some _ => cases ha
 | none =>
  obtain ⟨a, m, c', e, h2, -, -, h5⟩ := RV.list.1 h
  injection e with e1 e2 e3
  subst e1
  rcases h5 with h5 | ⟨ad, h5, -⟩
  ·exact List.length_eq_zero_iff.1 (h2.trans h5)
  ·cases h5
end Go.Ew
namespace Go.Ew
open Go.RowKit
def ro (b : Nat) (cs : Array Value) (t : TypeId) : Item := ⟨none, fun M w => w.heap[b]? = some (.cells cs t (0, 0)) ∧ ¬ M b, fun h u _ => by
 have hb : b < _ := (Array.getElem?_eq_some_iff.1 h.1).1
 have := u.2 b hb h.2
 exact ⟨this.1.trans h.1, this.2⟩⟩
section
variable {P : Program} {n : Nat} {ops : Array Oper} {f : Slots} {w w0 w' : World} {K : Slots → World → Prop} {M0 : Nat → Prop} {l : List Item}
variable {d : Nat} {T ty e : TypeId} {ps : String} {af : Array Edge} {x y : Operand} {v : Value}
theorem ldR {bb off : Nat} {cs : Array Value} {t : TypeId} {k bytes : Nat} {agg : Bool} {z : Value} (H : HI M0 w0 w l) (i : Nat) (hi : l[i]? = some (ro bb cs t)) (F : TyF P T k agg bytes z) (ox : okT n x = true) (hx : ev f x = .pointer (some ⟨bb, off, none⟩))
  (hk : agg = false → k = 1) (hl : ((cs.toList.drop off).take k).length = k) (h : K (upd f d (mkv agg ((cs.toList.drop off).take k))) w) : SO P n ops ⟨some d, .load T x, ty, ps, af, none⟩ f w K := by
 have hb : w.heap[bb]? = some (.cells cs t (0, 0)) := (H.at_ i hi).1
 refine SO.value (v := mkv agg ((cs.toList.drop off).take k)) ?_ h
 have hc : ∀ j u, ((cs.toList.drop off).take k)[j]? = some u → w.cell? ((⟨bb, off, none⟩ : Addr).add j) = some u := by
  intro j u hu
  rw [show (⟨bb, off, none⟩ : Addr).add j = ⟨bb, off + j, none⟩ from by unfold Addr.add; split <;> simp_all, cell_of_row w bb (off + j) cs t (0, 0) hb]
  have hj : j < k := by
   have := (gS_.1 hu).1
   omega
  rw [List.getElem?_take, if_pos hj, List.getElem?_drop] at hu
  simpa using hu
 simp [execOp, eval_acts ox, hx, Instr.loadAt, Instr.sureAddr, run_loadVar F hk hl hc]
theorem lr {bb off : Nat} {cs : Array Value} {t : TypeId} {bytes : Nat} {z : Value} (H : HI M0 w0 w l) (i : Nat) (hi : l[i]? = some (ro bb cs t)) (F : TyF P T 1 false bytes z) (ox : okT n x = true) (hx : ev f x = .pointer (some ⟨bb, off, none⟩))
  (hl : ((cs.toList.drop off).take 1).length = 1) (h : K (upd f d (mkv false ((cs.toList.drop off).take 1))) w) : SO P n ops ⟨some d, .load T x, ty, ps, af, none⟩ f w K := ldR H i hi F ox hx (fun _ => rfl) hl h
end
def FP {α : Type} [GT α] (P : Program) (g : FuncId) (C : List Value) (M : Nat → Prop) (w : World) (xs : List α) (p : α → Bool) : Prop :=
 GoF P g ∧ ∀ w1 v x, x ∈ xs → Ext w w1 → RV M w1 v x → Calls P g ([v] ++ C).toArray w1 (Ret fun u w2 => u = .bool (p x) ∧ Ext w1 w2)
theorem FP.sub {α : Type} [GT α] {P : Program} {g : FuncId} {C : List Value} {M M' : Nat → Prop} {w w' : World} {xs : List α} {p : α → Bool} (h : FP P g C M w xs p) (e : Ext w w') (hM : ∀ b, M b → M' b) : FP P g C M' w' xs p :=
 ⟨h.1, fun w1 v x hx e' hv => h.2 w1 v x hx (e.trans e') (hv.lift (Up.less fun b _ hb => hM b hb))⟩
theorem MS_sub {M0 : Nat → Prop} {l : List Item} : ∀ b, M0 b → MS M0 l b := fun _ h => .inl h
theorem take_at {α : Type} {r : List α} {k : Nat} {x : α} (h : r[((k : Nat) : Int).toNat]? = some x) : r.take (k + 1) = r.take k ++ [x] := by
 rw [tN_] at h
 rw [List.take_add_one, h]; rfl
theorem take_end {α : Type} {r : List α} {k : Nat} (h : r.length ≤ k) : r.take k = r := List.take_of_length_le h
theorem any_step {α : Type} {r : List α} {k : Nat} {x : α} {p : α → Bool} (h : r[((k : Nat) : Int).toNat]? = some x) (h1 : (r.take k).any p = false) (h2 : p x = false) : (r.take (k + 1)).any p = false := by
 rw [take_at h]; simp [h1, h2]
def idxF {α : Type} (p : α → Bool) (r : List α) : Int := match r.findIdx? p with | some i => i | none => -1
theorem idxF_hit {α : Type} {r : List α} {k : Nat} {x : α} {p : α → Bool} (h : r[((k : Nat) : Int).toNat]? = some x) (h1 : (r.take k).any p = false) (h2 : p x = true) : (k : Int) = idxF p r := by
 rw [tN_] at h
 obtain ⟨hk, hx⟩ := gS_.1 h
 have : r.findIdx? p = some k := by
  rw [List.findIdx?_eq_some_iff_getElem]
  refine ⟨hk, by rw [hx]; exact h2, fun j hj => ?_⟩
  have hm : r[j] ∈ r.take k := by
   rw [List.mem_take_iff_getElem]
   exact ⟨j, by omega, rfl⟩
  have := List.any_eq_false.1 h1 _ hm
  simpa using this
 simp [idxF, this]
theorem idxF_miss {α : Type} {r : List α} {k : Nat} {p : α → Bool} (h1 : (r.take k).any p = false) (h2 : r.length ≤ k) : (-1 : Int) = idxF p r := by
 rw [take_end h2] at h1
 have : r.findIdx? p = none := by
  rw [List.findIdx?_eq_none_iff]
  intro x hx
  simpa using List.any_eq_false.1 h1 x hx
 simp [idxF, this]
theorem idxF_any {α : Type} {p : α → Bool} {r : List α} : decide ((0 : Int) ≤ idxF p r) = r.any p := by
 unfold idxF
 cases h : r.findIdx? p with
 | none =>
  rw [List.findIdx?_eq_none_iff] at h
  have : r.any p = false := List.any_eq_false.2 (by intro x hx; simp [h x hx])
  simp [this]
 | some i =>
  rw [List.findIdx?_eq_some_iff_getElem] at h
  obtain ⟨hi, hp, _⟩ := h
  have : r.any p = true := List.any_eq_true.2 ⟨_, List.getElem_mem hi, hp⟩
  simp [this]
theorem idxF_range {α : Type} {p : α → Bool} {r : List α} : -1 ≤ idxF p r ∧ idxF p r ≤ r.length := by
 unfold idxF
 cases h : r.findIdx? p with
 | none => simp only []; omega
 | some i =>
  rw [List.findIdx?_eq_some_iff_getElem] at h
  obtain ⟨hi, _⟩ := h
  simp only []; omega
theorem rv_len {α : Type} [GT α] {M : Nat → Prop} {w : World} {a : Option Addr} {n c : Nat} {xs : List α} (h : RV M w (.slice a n c) xs) : xs.length ≤ 9223372036854775807 := by
 obtain ⟨a', m, c', e, h2, h3, h4, -⟩ := RV.list.1 h
 injection e with e1 e2 e3
 unfold maxLen at h4
 omega
def OwnsG {α : Type} [GT α] (M : Nat → Prop) (e : TypeId) (w0 : World) (xs : List α) (v : Value) (w : World) : Prop :=
 Ext w0 w ∧ (∀ b, v.ownBlock = some b → b < w.heap.size) ∧ (own w0.heap.size e v xs).holds (fun b => M b ∨ v.ownBlock = some b) w
section
variable {M0 : Nat → Prop} {w0 w w' : World} {l : List Item} {α : Type} [GT α] {v : Value} {xs : List α} {e : TypeId}
theorem HI.ownsG (H : HI M0 w0 w l) (h : OwnsG (MS M0 l) e w xs v w') : HI M0 w0 w' (own w0.heap.size e v xs :: l) := by
 obtain ⟨hx, hb, cs, h1, h2⟩ := h
 have hown : ∀ (B : Nat), B ≤ w.heap.size → w'.ownsRow B e (GT.size α) v xs.length cs := by
  intro B hB
  refine ⟨h1.1, ?_⟩
  rcases h1.2 with h3 | ⟨g, cap, cur, rfl, h3, h4⟩
  ·exact .inl h3
  ·exact .inr ⟨g, cap, cur, rfl, Nat.le_trans hB h3, h4⟩
 have hge : ∀ b, v.ownBlock = some b → w.heap.size ≤ b := fun b hvb => (h1.lt b hvb).1
 cases hv : v.ownBlock with
 | none =>
  refine (H.ext hx).put hv ⟨cs, hown _ H.below.size, Chunks.lift (Up.less ?_) h2⟩
  intro b hbl hM
  exact .inl hM
 | some b =>
  refine H.new hx b hv (hge b hv) (hb b hv) ⟨cs, hown _ H.below.size, Chunks.lift (Up.less ?_) h2⟩
  rintro c hc (hM | ⟨it, hit, hitc⟩)
  ·exact .inl (.inl hM)
  ·rcases List.mem_cons.1 hit with rfl | hit
   ·exact .inr hitc
   ·exact .inl (.inr ⟨it, hit, hitc⟩)
theorem HI.ownsG_out (H : HI M0 w0 w l) (i : Nat) (hi : l[i]? = some (own w0.heap.size e v xs)) : OwnsG M0 e w0 xs v w := by
 obtain ⟨cs, h1, h2⟩ := H.at_ i hi
 refine ⟨H.below, fun b hb => (own_blk_lt H hi b hb).2, cs, h1, Chunks.lift (Up.less ?_) h2⟩
 rintro b _ (hM | hb)
 ·exact .inl hM
 ·exact .inr ⟨_, mG_ hi, hb⟩
theorem ownsG_nil {M : Nat → Prop} (h : Ext w0 w) : OwnsG M e w0 ([] : List α) (.slice none 0 0) w := ⟨h, fun b hb => (by cases hb), [], World.ownsRow_nil w _ e _, rfl⟩
theorem OwnsG.rv {M : Nat → Prop} (h : OwnsG M e w xs v w') (hM : ∀ b, M b → b < w.heap.size) : RV M w' v xs := by
 obtain ⟨_, hb, ho⟩ := h
 refine own_seg ho (fun b _ hb' => .inl hb') (fun b hvb hMb => ?_)
 obtain ⟨cs, h1, _⟩ := ho
 have := (h1.lt b hvb).1
 have := hM b hMb
 omega
end
section
variable {α : Type} {β : Type} {γ : Type} {δ : Type} {ε : Type} {ζ : Type} {V : Type} {a a' : α} {b b' : β} {c c' : γ} {d d' : δ} {e e' : ε} {z z' : ζ}
theorem cg1 (f : α → V) (h1 : a = a') : f a = f a' := by rw [h1]
theorem cg2 (f : α → β → V) (h1 : a = a') (h2 : b = b') : f a b = f a' b' := by rw [h1, h2]
theorem cg3 (f : α → β → γ → V) (h1 : a = a') (h2 : b = b') (h3 : c = c') : f a b c = f a' b' c' := by rw [h1, h2, h3]
theorem cg4 (f : α → β → γ → δ → V) (h1 : a = a') (h2 : b = b') (h3 : c = c') (h4 : d = d') : f a b c d = f a' b' c' d' := by rw [h1, h2, h3, h4]
theorem cg6 (f : α → β → γ → δ → ε → ζ → V) (h1 : a = a') (h2 : b = b') (h3 : c = c') (h4 : d = d') (h5 : e = e') (h6 : z = z') : f a b c d e z = f a' b' c' d' e' z' := by rw [h1, h2, h3, h4, h5, h6]
end
theorem rv_drop {α : Type} [GT α] {M0 : Nat → Prop} {l : List Item} {it : Item} {w : World} {v : Value} {x : α} (hn : it.blk = none) (h : RV (MS M0 (it :: l)) w v x) : RV (MS M0 l) w v x := by rwa [MS_cons_none hn] at h
end Go.Ew
namespace Go.Ew
open Go.RowKit Go.WideShapes Go.ChangeShapes
abbrev NoM : Nat → Prop := fun _ => False
def Opens (P : Program) (t : TypeId) (α : Type) [GT α] : Prop :=
 P.cellsOf t = GT.size α ∧ ∀ {H : Type} (enc : TypeId × Value → H) (W : World) (n : Nat) (cs : List Value) (x : DataW H × List MemPlace),
  DataW.trod enc P W 0 (fun _ => true) true n t cs = some x → ∃ y : α, GT.rep NoM W cs y
section
variable {P : Program} {t e : TypeId}
theorem cells_get {W : World} {a : Addr} {n : Nat} {cs : List Value} (h : W.cells? 0 a n = some cs) : ∀ j v, cs[j]? = some v → W.cell? (a.add j) = some v := by
 intro j v hv
 simp only [World.cells?, Nat.zero_le, if_true] at h
 have hl := mapM_some_length h
 have hj : j < cs.length := (gS_.1 hv).1
 rw [List.length_range] at hl
 have := mapM_some_get h j j (by rw [List.getElem?_range (by omega)])
 rw [this, hv]
theorem choose_list {α : Type} {Q : Nat → α → Prop} : ∀ n : Nat, (∀ i, i < n → ∃ y, Q i y) → ∃ l : List α, l.length = n ∧ ∀ (i : Nat) (y : α), l[i]? = some y → Q i y
 | 0, _ => ⟨[], rfl, fun i y h => by simp at h⟩
 | n + 1, h => by
  obtain ⟨l, hl, hq⟩ := choose_list n fun i hi => h i (by omega)
  obtain ⟨y, hy⟩ := h n (by omega)
  refine ⟨l ++ [y], by simp [hl], fun i z hz => ?_⟩
  by_cases hi : i < l.length
  ·rw [aL_ hi] at hz; exact hq i z hz
  ·rw [aR_ (by omega)] at hz
   have hi0 : i - l.length = 0 := by
    have := (gS_.1 hz).1
    simp at this; omega
   rw [hi0] at hz
   simp at hz
   subst hz
   rw [show i = n from by omega]
   exact hy
section
variable {H : Type} {enc : TypeId × Value → H} {W : World} {base : Nat} {v : Value} {d : DataW H} {ps : List MemPlace}
theorem top_int {k : IntKind} (ht : P.underlying t = some (.int k)) (hv : Value.okWide P W .any base t v) (h : DataW.Trod enc P W 0 (fun _ => true) true t v d ps) : ∃ n : Int, v = .int k n ∧ (Lit.int k n).wf = true := by
 obtain ⟨n, h⟩ := h
 obtain ⟨m, rfl⟩ := okWide_int ht hv
 obtain ⟨m', e, -, hw⟩ := DataW.trod_int ht h
 simp [Value.cells] at e
 subst e
 exact ⟨m, rfl, hw⟩
theorem top_i64 (ht : P.underlying t = some (.int .i64)) (hv : Value.okWide P W .any base t v) (h : DataW.Trod enc P W 0 (fun _ => true) true t v d ps) : ∃ n : Int, v = .int .i64 n ∧ I64 n := by
 obtain ⟨n, rfl, hw⟩ := top_int ht hv h
 exact ⟨n, rfl, bounds_i64 hw⟩
theorem top_struct {α : Type} [GT α] {fs : Array Field} (ht : P.underlying t = some (.struct fs)) (ha : GT.agg α = true) (O : Opens P t α) (hv : Value.okWide P W .any base t v) (h : DataW.Trod enc P W 0 (fun _ => true) true t v d ps) : ∃ y : α, RV NoM W v y := by
 obtain ⟨cs, rfl, -⟩ := okWide_struct ht hv
 obtain ⟨n, h⟩ := h
 obtain ⟨y, hy⟩ := O.2 enc W n _ _ h
 exact ⟨y, _, hy, by rw [ha]; simp [mkv, Value.cells]⟩
theorem trodAll_ext {W' : World} {T : TypeId → Prop} (K : Kids P T) (hz : ∀ t e, T t → P.underlying t = some (.slice e) → 0 < P.cellsOf e) (e : Ext W W') {sp : Nat → Bool} :
  ∀ {ts : List TypeId} {vs : List Value} {ds : List (DataW H)} {ps : List MemPlace}, (∀ t ∈ ts, T t) → DataW.TrodAll enc P W 0 (fun _ => true) true ts vs ds ps → (∀ p ∈ ps, sp p.block = true) → DataW.TrodAll enc P W' 0 sp true ts vs ds ps
 | [], [], [], _, _, h, _ => h
 | t :: _, v :: _, _ :: _, _, hT, ⟨p, q, ⟨n, h1⟩, h2, hp⟩, hs => by
  refine ⟨p, q, ⟨n, ?_⟩, trodAll_ext K hz e (fun t ht => hT t (List.mem_cons.2 (Or.inr ht))) h2 (fun x hx => hs x (by rw [hp]; exact List.mem_append_right _ hx)), hp⟩
  have hr := DataW.trod_respare K hz n _ _ _ (hT _ (List.mem_cons.2 (Or.inl rfl))) h1 (spare' := sp) (fun x hx => hs x (by rw [hp]; exact List.mem_append_left _ hx))
  exact DataW.trod_carry n _ _ _ hr fun x hx => Below.same e (DataW.trod_lt n _ _ _ h1 x hx)
 | [], [], _ :: _, _, _, h, _ => h.elim
 | [], _ :: _, _, _, _, h, _ => h.elim
 | _ :: _, [], _, _, _, h, _ => h.elim
 | _ :: _, _ :: _, [], _, _, h, _ => h.elim
theorem law_close {f : Func} {s : ChangeSpec} {apart fresh handsOn again : Bool} {W W' : World} {args : Array Value} {ds gs : List (DataW H)} {before : List MemPlace} {tb : TypeId}
  (K : Kids P (· < P.types.size)) (hz : ∀ t e, t < P.types.size → P.underlying t = some (.slice e) → 0 < P.cellsOf e) (hts : ∀ t ∈ f.params.toList, t < P.types.size)
  (hvars : s.vars = []) (hW : DataW.Whole enc P f.params.toList s.vars apart W args.toList ds gs before) (e : Ext W W') (hrt : f.resultTypes = #[tb]) (hu : P.underlying tb = some .bool)
  (h1 : (s.fn H (ds ++ gs)).results = [.lit (.bool true)]) (h2 : (s.fn H (ds ++ gs)).args = ds) (h3 : (s.fn H (ds ++ gs)).vars = []) :
  s.post enc P f apart fresh handsOn again W args (.bool true) W' := by
 have hlt : ∀ p ∈ before, p.block < W.heap.size := fun p hp => hW.lt p hp
 have hW2 := hW
 obtain ⟨p, q, hA, hV, hpq, hfz, hnd⟩ := hW2
 rw [hvars] at hV
 have hq : gs = [] ∧ q = [] := by
  cases gs with
  | nil => exact ⟨rfl, hV⟩
  | cons _ _ => exact hV.elim
 obtain ⟨rfl, rfl⟩ := hq
 rw [List.append_nil] at hpq
 subst hpq
 have hold : ∀ x ∈ before, (fun b => decide (b < W.heap.size)) x.block = true := fun x hx => by simpa using hlt x hx
 have hres : ∀ (b : Nat) (sp : Nat → Bool) (hd : Bool), DataW.TrodAll enc P W' b sp hd f.resultTypes.toList ((Value.bool true).resultList f.resultTypes.size) (s.fn H (ds ++ [])).results [] := by
  intro b sp hd
  rw [h1, hrt]
  exact trodAll_mk1 (shut_bool hu _)
 have hargs : ∀ sp : Nat → Bool, (∀ x ∈ before, sp x.block = true) → DataW.TrodAll enc P W' 0 sp true f.params.toList args.toList (s.fn H (ds ++ [])).args before := by
  intro sp hsp
  rw [h2]
  exact trodAll_ext K hz e hts hA hsp
 have hvs : ∀ sp : Nat → Bool, DataW.TrodVars enc P W' sp s.vars (s.fn H (ds ++ [])).vars [] := by
  intro sp
  rw [h3, hvars]
  rfl
 refine ⟨ds, [], before, [], before, [], hW, hres _ _ _, hargs _ hold, hvs _, World.keptBut_mono (fun x hx => ⟨hx, .inr (.inl hx)⟩) (e.frame (· ∈ before)), fun _ => ?_⟩
 refine ⟨ok_one (by rw [hrt]) rfl (okWide_bool_mk hu _), (s.fn H (ds ++ [])).results ++ (s.fn H (ds ++ [])).args, (s.fn H (ds ++ [])).vars, ([] ++ before) ++ [], ⟨[] ++ before, [], trodAll_append (hargs _ (fun _ _ => rfl)) (hres _ _ _), hvs _, rfl, ?_, ?_⟩, ?_⟩
 ·intro b off hp
  have hin : MemPlace.cell b off ∈ before := by simpa using hp
  rw [Below.frozen e (hlt _ hin)]
  exact hfz b off hin
 ·intro ha
  simpa using hnd ha
 ·intro x hx _
  simpa using hx
end
end
end Go.Ew
namespace Go.Ew
open Go.RowKit
def phiI (Φ : List (Nat → Nat → Value → World → Prop)) (i lo hi : Nat) : Value → World → Prop := Φ.getD i (fun _ _ _ _ => True) lo hi
structure DStepI (P : Program) (n : Nat) (l : List Oper) (k : Nat) (Φ : List (Nat → Nat → Value → World → Prop)) (f0 : Slots) (w0 : World) (i : Nat) (o : Oper) : Prop where
 go : ∀ f w, (∀ t, (dstsK k l).contains t = false → f t = f0 t) → Ext w0 w → (∀ j, onB o j = true → Nat.blt j k = true → ∃ lo hi, w0.heap.size ≤ lo ∧ hi ≤ w.heap.size ∧ phiI Φ j lo hi (f (dstD l j)) w) →
  SO P n l.toArray o f w (fun f' w' => ∃ v, f' = updO f o.dst v ∧ Ext w w' ∧ phiI Φ i w.heap.size w'.heap.size v w')
 mono : ∀ lo hi v w w', Ext w w' → phiI Φ i lo hi v w → phiI Φ i lo hi v w'
def DStepsI (P : Program) (n : Nat) (l : List Oper) (k : Nat) (Φ : List (Nat → Nat → Value → World → Prop)) (f0 : Slots) (w0 : World) : Nat → List Oper → Prop
 | _, [] => True
 | i, o :: r => (Nat.blt i k = true → DStepI P n l k Φ f0 w0 i o) ∧ DStepsI P n l k Φ f0 w0 (i + 1) r
section
variable {P : Program} {n : Nat} {l : List Oper} {k : Nat} {Φ : List (Nat → Nat → Value → World → Prop)} {f0 : Slots} {w0 : World}
theorem DStepsI.at_ : ∀ (r : List Oper) (i : Nat), DStepsI P n l k Φ f0 w0 i r → ∀ j o, r[j]? = some o → Nat.blt (i + j) k = true → DStepI P n l k Φ f0 w0 (i + j) o
 | [], _, _, j, o, h, _ => by simp at h
 | x :: r, i, h, 0, o, hj, hk => by
  simp only [List.getElem?_cons_zero, Option.some.injEq] at hj
  subst hj
  exact h.1 hk
 | x :: r, i, h, j + 1, o, hj, hk => by
  simp only [List.getElem?_cons_succ] at hj
  have := DStepsI.at_ r (i + 1) h.2 j o hj (by rw [show i + 1 + j = i + (j + 1) from by omega]; exact hk)
  rwa [show i + 1 + j = i + (j + 1) from by omega] at this
theorem DStepsI.rest {i : Nat} (h : Nat.ble k i = true) : ∀ r, DStepsI P n l k Φ f0 w0 i r := by
 intro r
 induction r generalizing i with
 | nil => exact trivial
 | cons o r ih =>
  simp only [Nat.ble_eq] at h
  exact ⟨fun hk => by simp only [Nat.blt_eq] at hk; omega, ih (by simp only [Nat.ble_eq]; omega)⟩
section
variable {M0 : Nat → Prop} {w00 w w' : World} {l : List Item} {v : Value} {z : Value} {T : TypeId} {lo hi : Nat}
def LaidB (b : Nat) (cs : Array Value) (t : TypeId) (lo hi : Nat) (w : World) : Prop := lo ≤ b ∧ b < hi ∧ w.heap[b]? = some (.cells cs t (0, 0))
theorem LaidB.ext {b : Nat} {cs : Array Value} {t : TypeId} (h : LaidB b cs t lo hi w) (e : Ext w w') : LaidB b cs t lo hi w' :=
 ⟨h.1, h.2.1, (e.block b (Array.getElem?_eq_some_iff.1 h.2.2).1).trans h.2.2⟩
theorem HI.laid {b : Nat} {cs : Array Value} {t : TypeId} (H : HI M0 w00 w l) (x : Ext w w') (hb : w.heap.size ≤ b) (h : w'.heap[b]? = some (.cells cs t (0, 0))) : HI M0 w00 w' (box b cs t :: l) :=
 H.new x b rfl hb (Array.getElem?_eq_some_iff.1 h).1 h
theorem HI.lays (H : HI M0 w00 w l) (x : Ext w w') (bs : List (Nat × Array Value × TypeId)) (hb : ∀ q ∈ bs, w.heap.size ≤ q.1 ∧ w'.heap[q.1]? = some (.cells q.2.1 q.2.2 (0, 0))) (hn : (bs.map (·.1)).Nodup) :
  HI M0 w00 w' (bs.map (fun q => box q.1 q.2.1 q.2.2) ++ l) := by
 have hsz : ∀ q ∈ bs, q.1 < w'.heap.size := fun q hq => (Array.getElem?_eq_some_iff.1 (hb q hq).2).1
 have hfm : (bs.map (fun q => box q.1 q.2.1 q.2.2)).filterMap (·.blk) = bs.map (·.1) := by
  clear hb hn hsz
  induction bs with
  | nil => rfl
  | cons q bs ih => simp only [List.map_cons, List.filterMap_cons, ih]; rfl
 refine ⟨H.below.trans x, H.m0, ?_, ?_, ?_⟩
 ·intro it hit b hbl
  rcases List.mem_append.1 hit with h | h
  ·obtain ⟨q, hq, rfl⟩ := List.mem_map.1 h
   cases hbl
   exact ⟨Nat.le_trans H.below.size (hb q hq).1, hsz q hq⟩
  ·exact ⟨(H.blks it h b hbl).1, Nat.lt_of_lt_of_le (H.blks it h b hbl).2 x.size⟩
 ·rw [List.filterMap_append, hfm, List.nodup_append]
  refine ⟨hn, H.nodup, ?_⟩
  intro b hb1 c hc e
  subst e
  obtain ⟨q, hq, rfl⟩ := List.mem_map.1 hb1
  obtain ⟨it, hit, hib⟩ := List.mem_filterMap.1 hc
  have := (H.blks it hit _ hib).2
  have := (hb q hq).1
  omega
 ·intro it hit
  rcases List.mem_append.1 hit with h | h
  ·obtain ⟨q, hq, rfl⟩ := List.mem_map.1 h
   exact (hb q hq).2
  ·refine it.lift (H.all it h) ⟨x.size, fun c hc hM => ⟨x.block c hc, ?_⟩⟩ fun c hc => x.block c (H.blks it h c hc).2
   rintro (hc' | ⟨j, hj, hjc⟩)
   ·exact hM (.inl hc')
   ·rcases List.mem_append.1 hj with hj | hj
    ·obtain ⟨q, hq, rfl⟩ := List.mem_map.1 hj
     cases hjc
     have := (hb q hq).1
     omega
    ·exact hM (.inr ⟨j, hj, hjc⟩)
end
section
variable {x : Operand} {v : Value} {ops : Array Oper} {f : Slots} {w : World} {K : Slots → World → Prop} {d : Nat} {ty T : TypeId} {ps : String} {af : Array Edge} {bytes size : Nat} {agg : Bool} {z : Value}
end
end
end Go.Ew
namespace Go.Ew
open Go.RowKit
inductive Kd where
 | v
 | n
 | s (a j : Nat)
def isSt : Kd → Option Nat
 | .s a _ => some a
 | _ => none
def kdAt (Ks : List Kd) (i : Nat) : Kd := Ks.getD i .v
def phiV (Φ : List (Value → Prop)) (i : Nat) : Value → Prop := Φ.getD i (fun _ => True)
def zAt (Z : List (Array Value × TypeId)) (i : Nat) : Array Value × TypeId := Z.getD i (#[], 0)
def okS (n : Nat) (l : List Oper) (Ks : List Kd) : Bool :=
 okEdges 0 l && nodupB (dstsK l.length l) && (dstsK l.length l).all (fun d => Nat.blt d n) && nodupB (Ks.filterMap isSt) && Nat.beq Ks.length l.length
def SStep (P : Program) (n : Nat) (l : List Oper) (Ks : List Kd) (Φ : List (Value → Prop)) (Z : List (Array Value × TypeId)) (f0 : Slots) (w0 : World) (i : Nat) (o : Oper) : Prop :=
 match kdAt Ks i with
 | .v => o.dst.isSome = true ∧ ∀ f w, (∀ t, (dstsK l.length l).contains t = false → f t = f0 t) → Ext w0 w → (∀ j, onB o j = true → (∃ x, l[j]? = some x ∧ x.dst.isSome = true) → phiV Φ j (f (dstD l j))) →
   SO P n l.toArray o f w (fun f' w' => ∃ v, f' = updO f o.dst v ∧ w' = w ∧ phiV Φ i v)
 | .n => o.dst.isSome = true ∧ ∀ f w, (∀ t, (dstsK l.length l).contains t = false → f t = f0 t) → Ext w0 w → (∀ j, onB o j = true → (∃ x, l[j]? = some x ∧ x.dst.isSome = true) → phiV Φ j (f (dstD l j))) →
   SO P n l.toArray o f w (fun f' w' => f' = updO f o.dst (.pointer (some ⟨w.heap.size, 0, none⟩)) ∧ w' = w.alloc (.cells (zAt Z i).1 (zAt Z i).2) ∧ phiV Φ i (.pointer (some ⟨w.heap.size, 0, none⟩)))
 | .s a j => o.dst = none ∧ onB o a = true ∧ onB o j = true ∧ (∃ x, l[a]? = some x ∧ x.dst.isSome = true) ∧ (∃ x, l[j]? = some x ∧ x.dst.isSome = true) ∧ (match kdAt Ks a with | .n => True | _ => False) ∧ (∀ v, phiV Φ j v → v.cells.size = (zAt Z a).1.size) ∧
   ∀ f w b cur, Ext w0 w → f (dstD l a) = .pointer (some ⟨b, 0, none⟩) → w.heap[b]? = some (.cells cur (zAt Z a).2 (0, 0)) → cur.size = (zAt Z a).1.size → phiV Φ j (f (dstD l j)) →
   SO P n l.toArray o f w (fun f' w' => f' = f ∧ w' = w.setRow b (f (dstD l j)).cells)
def SSteps (P : Program) (n : Nat) (l : List Oper) (Ks : List Kd) (Φ : List (Value → Prop)) (Z : List (Array Value × TypeId)) (f0 : Slots) (w0 : World) : Nat → List Oper → Prop
 | _, [] => True
 | i, o :: r => SStep P n l Ks Φ Z f0 w0 i o ∧ SSteps P n l Ks Φ Z f0 w0 (i + 1) r
section
variable {P : Program} {n : Nat} {l : List Oper} {Ks : List Kd} {Φ : List (Value → Prop)} {Z : List (Array Value × TypeId)} {f0 : Slots} {w0 : World}
theorem SSteps.at_ : ∀ (r : List Oper) (i : Nat), SSteps P n l Ks Φ Z f0 w0 i r → ∀ j o, r[j]? = some o → SStep P n l Ks Φ Z f0 w0 (i + j) o
 | [], _, _, j, o, h => by simp at h
 | x :: r, i, h, 0, o, hj => by
  simp only [List.getElem?_cons_zero, Option.some.injEq] at hj
  subst hj
  exact h.1
 | x :: r, i, h, j + 1, o, hj => by
  simp only [List.getElem?_cons_succ] at hj
  have := SSteps.at_ r (i + 1) h.2 j o hj
  rwa [show i + 1 + j = i + (j + 1) from by omega] at this
def Cont (l : List Oper) (Ks : List Kd) (Z : List (Array Value × TypeId)) (L : Nat → Bool) (f : Slots) (i : Nat) (cur : Array Value) : Prop :=
 cur.size = (zAt Z i).1.size ∧ (∀ s j, Ks[s]? = some (.s i j) → L s = true → cur = (f (dstD l j)).cells) ∧ ((∀ s j, Ks[s]? = some (.s i j) → L s = false) → cur = (zAt Z i).1)
theorem dst_ne (hN : nodupB (dstsK l.length l) = true) {i j : Nat} {oi oj : Oper} (hi : l[i]? = some oi) (hj : l[j]? = some oj) {di dj : Nat} (hdi : oi.dst = some di) (hdj : oj.dst = some dj) (hne : i ≠ j) : dj ≠ di := by
 rintro rfl
 have hnd := nodupB_nodup _ hN
 unfold dstsK at hnd
 rw [List.take_length] at hnd
 exact hne (filterMap_inj (·.dst) l hnd i j oi oj hi hj (by simp [hdi]) (by simp [hdi, hdj]))
theorem dstD_of {i : Nat} {o : Oper} (hi : l[i]? = some o) {d : Nat} (hd : o.dst = some d) : dstD l i = d := by unfold dstD; rw [hi]; simp [hd]
theorem once {s s' a j j' : Nat} (h : nodupB (Ks.filterMap isSt) = true) (h1 : Ks[s]? = some (.s a j)) (h2 : Ks[s']? = some (.s a j')) : s = s' :=
 filterMap_inj isSt Ks (nodupB_nodup _ h) s s' _ _ h1 h2 rfl rfl
theorem kd_get {s a j : Nat} (h : kdAt Ks s = .s a j) : Ks[s]? = some (.s a j) := by
 unfold kdAt at h
 rw [gD_] at h
 cases hk : Ks[s]? with
 | none => rw [hk] at h; cases h
 | some x => rw [hk] at h; simp at h; rw [h]
theorem stS {ops : Array Oper} {f : Slots} {w : World} {x y : Operand} {ty T : TypeId} {ps : String} {af : Array Edge} {bytes size : Nat} {agg : Bool} {z v : Value} {b : Nat} {cur : Array Value} {tt : TypeId}
  (F : TyF P T size agg bytes z) (ox : okT n x = true) (oy : okT n y = true) (hx : ev f x = .pointer (some ⟨b, 0, none⟩)) (hy : ev f y = v) (hb : w.heap[b]? = some (.cells cur tt (0, 0))) (hs : v.cells.size = size) (hc : cur.size = size) (h1 : v.cells.toList.all Value.oneCell' = true) :
  SO P n ops ⟨none, .store T x y, ty, ps, af, none⟩ f w (fun f' w' => f' = f ∧ w' = w.setRow b v.cells) := by
 refine SO.skip (w' := w.setRow b v.cells) ?_ ⟨rfl, rfl⟩
 have e : wr cur 0 v.cells.toList = v.cells := by
  unfold wr
  have : cur.toList.drop (0 + v.cells.toList.length) = [] := by
   rw [List.drop_eq_nil_iff]; simp; omega
  rw [this]; simp
 have := run_storeVar F (v := v) (o := 0) hb hs (by simp; omega) (fun u hu => List.all_eq_true.1 h1 u hu)
 rw [e] at this
 simp [execOp, eval_acts ox, eval_acts oy, hx, hy, Instr.storeAt, Instr.sureAddr, this]
end
theorem alS {P : Program} {n : Nat} {ops : Array Oper} {f : Slots} {w : World} {d : Nat} {ty T : TypeId} {ps : String} {af : Array Edge} {bytes size : Nat} {agg : Bool} {z : Value} {K : Slots → World → Prop}
  (F : TyF P T size agg bytes z) (h : K (upd f d (.pointer (some ⟨w.heap.size, 0, none⟩))) (w.alloc (.cells z.cells T))) : SO P n ops ⟨some d, .alloc T, ty, ps, af, none⟩ f w K :=
 SO.value (v := .pointer (some ⟨w.heap.size, 0, none⟩)) (w' := w.alloc (.cells z.cells T)) (by simp [execOp, Instr.alloc, F.run_zero, newVar_run]) h
theorem Cont.zero {l : List Oper} {Ks : List Kd} {Z : List (Array Value × TypeId)} {f : Slots} {i : Nat} {cur : Array Value} (h : Cont l Ks Z (fun _ => true) f i cur) (hn : (Ks.filterMap isSt).contains i = false) : cur = (zAt Z i).1 := by
 refine h.2.2 fun s j hs => ?_
 exfalso
 have : i ∈ Ks.filterMap isSt := List.mem_filterMap.2 ⟨_, mG_ hs, rfl⟩
 rw [← List.contains_iff_mem, hn] at this
 cases this
section
variable {P : Program} {n : Nat} {ops : Array Oper} {f : Slots} {w ws : World} {K : Slots → World → Prop} {x y : Operand} {d : Nat} {ty T e : TypeId} {ps : String} {af : Array Edge} {v : Value} {M : Nat → Prop} {kk : IntKind} {bytes : Nat} {z : Value} {ad : Addr} {size : Nat} {agg : Bool}
theorem ldWx {α : Type} [GT α] {xv : α} (hA : AtW M ws ad xv) (E : Ext ws w) (F : TyF P T (GT.size α) (GT.agg α) bytes z) (ox : okT n x = true) (hx : ev f x = .pointer (some ad))
  (h : ∀ v, RV M ws v xv → K (upd f d v) w) : SO P n ops ⟨some d, .load T x, ty, ps, af, none⟩ f w K := by
 obtain ⟨cs, h1, h2⟩ := hA
 have h3 : ∀ j v, cs[j]? = some v → w.cell? (ad.add j) = some v := fun j v hv => by
  have h4 := h2 j v hv
  have hlt : (ad.add j).block < ws.heap.size := block_lt_cell h4
  exact (World.cell?_of_block (E.block _ hlt)).trans h4
 exact SO.value (v := mkv (GT.agg α) cs) (by
  simp [execOp, eval_acts ox, hx, Instr.loadAt, Instr.sureAddr, run_loadVar F GT.single (GT.len h1) h3]) (h _ ⟨cs, h1, rfl⟩)
theorem iax {α : Type} [GT α] {xs : List α} {i : Int} (hR : RV M ws v xs) (ox : okT n x = true) (oy : okT n y = true) (hx : ev f x = v) (hy : ev f y = .int kk i) (hi : 0 ≤ i ∧ i < xs.length) (hu : P.underlying T = some (.slice e)) (F : TyF P e (GT.size α) agg bytes z)
  (h : ∀ ad xv, xs[i.toNat]? = some xv → At M ws ad xv → K (upd f d (.pointer (some ad))) w) : SO P n ops ⟨some d, .indexAddr T x y, ty, ps, af, none⟩ f w K := by
 obtain ⟨a, m, c, rfl, h1, h2, h3, h4⟩ := RV.list.1 hR
 rcases h4 with h4 | ⟨ad, rfl, hs⟩
 ·omega
 ·have hlt : i.toNat < xs.length := by omega
  refine SO.value (v := .pointer (some (ad.add (i.toNat * GT.size α)))) ?_ (h _ xs[i.toNat] (gE_ hlt) (hs _ _ (gE_ hlt)))
  have hb : 0 ≤ i ∧ i < (m : Int) := by omega
  simp [execOp, eval_acts ox, eval_acts oy, hx, hy, Instr.indexAt, asIntOf, run_und hu, hb, F.run_size]
end
end Go.Ew
namespace Go.Ew
open Go.RowKit
def isN (k : Kd) : Prop := match k with | .n => True | _ => False
def phiN (Φ : List ((Nat → Prop) → Value → World → Prop)) (i : Nat) : (Nat → Prop) → Value → World → Prop := Φ.getD i (fun _ _ _ => True)
def KeepsN (N N' : Nat → Prop) (w w' : World) : Prop := w.heap.size ≤ w'.heap.size ∧ (∀ c, c < w.heap.size → ¬ N c → w'.heap[c]? = w.heap[c]?) ∧ ∀ c, c < w.heap.size → N' c → N c
def NStep (P : Program) (n : Nat) (l : List Oper) (Ks : List Kd) (Φ : List ((Nat → Prop) → Value → World → Prop)) (Z : List (Array Value × TypeId)) (f0 : Slots) (w0 : World) (i : Nat) (o : Oper) : Prop :=
 (∀ N N' v w w', KeepsN N N' w w' → phiN Φ i N v w → phiN Φ i N' v w') ∧
 match kdAt Ks i with
 | .v => o.dst.isSome = true ∧ ∀ f w N, (∀ t, (dstsK l.length l).contains t = false → f t = f0 t) → Ext w0 w → (∀ c, N c → w0.heap.size ≤ c ∧ c < w.heap.size) → (∀ j, onB o j = true → (∃ x, l[j]? = some x ∧ x.dst.isSome = true) → phiN Φ j N (f (dstD l j)) w) →
   SO P n l.toArray o f w (fun f' w' => ∃ v, f' = updO f o.dst v ∧ Ext w w' ∧ phiN Φ i N v w')
 | .n => o.dst.isSome = true ∧ (∀ N v w, phiN Φ i N v w) ∧ ∀ f w N, (∀ t, (dstsK l.length l).contains t = false → f t = f0 t) → Ext w0 w → (∀ c, N c → w0.heap.size ≤ c ∧ c < w.heap.size) → (∀ j, onB o j = true → (∃ x, l[j]? = some x ∧ x.dst.isSome = true) → phiN Φ j N (f (dstD l j)) w) →
   SO P n l.toArray o f w (fun f' w' => f' = updO f o.dst (.pointer (some ⟨w.heap.size, 0, none⟩)) ∧ w' = w.alloc (.cells (zAt Z i).1 (zAt Z i).2))
 | .s a j => o.dst = none ∧ onB o a = true ∧ onB o j = true ∧ (∃ x, l[a]? = some x ∧ x.dst.isSome = true) ∧ (∃ x, l[j]? = some x ∧ x.dst.isSome = true) ∧ a ≠ j ∧ (match kdAt Ks a with | .n => True | _ => False) ∧ (∀ N v w, phiN Φ j N v w → v.cells.size = (zAt Z a).1.size) ∧
   ∀ f w N b cur, Ext w0 w → f (dstD l a) = .pointer (some ⟨b, 0, none⟩) → w.heap[b]? = some (.cells cur (zAt Z a).2 (0, 0)) → cur.size = (zAt Z a).1.size → phiN Φ j N (f (dstD l j)) w →
   SO P n l.toArray o f w (fun f' w' => f' = f ∧ w' = w.setRow b (f (dstD l j)).cells)
def NSteps (P : Program) (n : Nat) (l : List Oper) (Ks : List Kd) (Φ : List ((Nat → Prop) → Value → World → Prop)) (Z : List (Array Value × TypeId)) (f0 : Slots) (w0 : World) : Nat → List Oper → Prop
 | _, [] => True
 | i, o :: r => NStep P n l Ks Φ Z f0 w0 i o ∧ NSteps P n l Ks Φ Z f0 w0 (i + 1) r
section
variable {P : Program} {n : Nat} {l : List Oper} {Ks : List Kd} {Φ : List ((Nat → Prop) → Value → World → Prop)} {Z : List (Array Value × TypeId)} {f0 : Slots} {w0 : World}
theorem NSteps.at_ : ∀ (r : List Oper) (i : Nat), NSteps P n l Ks Φ Z f0 w0 i r → ∀ j o, r[j]? = some o → NStep P n l Ks Φ Z f0 w0 (i + j) o
 | [], _, _, j, o, h => by simp at h
 | x :: r, i, h, 0, o, hj => by
  simp only [List.getElem?_cons_zero, Option.some.injEq] at hj
  subst hj
  exact h.1
 | x :: r, i, h, j + 1, o, hj => by
  simp only [List.getElem?_cons_succ] at hj
  have := NSteps.at_ r (i + 1) h.2 j o hj
  rwa [show i + 1 + j = i + (j + 1) from by omega] at this
def NB (l : List Oper) (Ks : List Kd) (L : Nat → Bool) (B : Nat → Nat) (c : Nat) : Prop := ∃ i, i < l.length ∧ L i = true ∧ isN (kdAt Ks i) ∧ c = B i
def JN (n : Nat) (l : List Oper) (Ks : List Kd) (Φ : List ((Nat → Prop) → Value → World → Prop)) (Z : List (Array Value × TypeId)) (f0 : Slots) (w0 : World) (listed : Array Bool) (a : Act) (w : World) : Prop :=
 ∃ (f : Slots) (B : Nat → Nat), a = acts n f ∧ (∀ t, (dstsK l.length l).contains t = false → f t = f0 t) ∧ Ext w0 w ∧ (∀ i, i < l.length → listed.getD i false = true → (∃ x, l[i]? = some x ∧ x.dst.isSome = true) → phiN Φ i (NB l Ks (fun s => listed.getD s false) B) (f (dstD l i)) w) ∧
  (∀ i, i < l.length → listed.getD i false = true → isN (kdAt Ks i) → f (dstD l i) = .pointer (some ⟨B i, 0, none⟩) ∧ w0.heap.size ≤ B i ∧ B i < w.heap.size ∧ ∃ cur, w.heap[B i]? = some (.cells cur (zAt Z i).2 (0, 0)) ∧ Cont l Ks Z (fun s => listed.getD s false) f i cur) ∧
  (∀ i j, i < l.length → j < l.length → i ≠ j → listed.getD i false = true → listed.getD j false = true → isN (kdAt Ks i) → isN (kdAt Ks j) → B i ≠ B j) ∧
  ∀ i o, listed.getD i false = true → l[i]? = some o → ∀ j, onB o j = true → listed.getD j false = true
theorem wpAny_N {Q : Exit → Act → World → Prop} (hok : okS n l Ks = true) (hS : NSteps P n l Ks Φ Z f0 w0 0 l)
  (hend : ∀ (f : Slots) (w : World) (B : Nat → Nat), (∀ t, (dstsK l.length l).contains t = false → f t = f0 t) → Ext w0 w → (∀ i x, l[i]? = some x → x.dst.isSome = true → phiN Φ i (NB l Ks (fun _ => true) B) (f (dstD l i)) w) →
   (∀ i, i < l.length → isN (kdAt Ks i) → f (dstD l i) = .pointer (some ⟨B i, 0, none⟩) ∧ w0.heap.size ≤ B i ∧ B i < w.heap.size ∧ ∃ cur, w.heap[B i]? = some (.cells cur (zAt Z i).2 (0, 0)) ∧ Cont l Ks Z (fun _ => true) f i cur) →
   (∀ i j, i < l.length → j < l.length → i ≠ j → isN (kdAt Ks i) → isN (kdAt Ks j) → B i ≠ B j) → Q .normal (acts n f) w) :
  ∀ (d : Nat) (listed : Array Bool) (a : Act) (w : World), listed.size = l.length → (listed.toList.filter (fun b => !b)).length = d →
   JN n l Ks Φ Z f0 w0 listed a w → wpAny P .any l.toArray Q d listed a w := by
 simp only [okS, bA_, Nat.beq_eq_true_eq] at hok
 obtain ⟨⟨⟨⟨hE, hN⟩, hn⟩, hO⟩, hKl⟩ := hok
 intro d
 induction d with
 | zero =>
  intro listed a w hsz hd hJ
  have hall : ∀ i, i < l.length → listed.getD i false = true := by
   intro i hi
   have h0 := List.eq_nil_of_length_eq_zero hd
   rw [List.filter_eq_nil_iff] at h0
   have hi' : i < listed.size := by omega
   have := h0 listed[i] (by simp)
   simp at this
   simp [Array.getD, hi', this]
  refine ⟨?_, ?_⟩
  ·apply List.eq_nil_iff_forall_not_mem.2
   intro i hi
   obtain ⟨h0, o, ho, -⟩ := mem_ready.1 hi
   have hol : l[i]? = some o := by simpa using ho
   have hil : i < l.length := (gS_.1 hol).1
   rw [show listed.getD i true = listed.getD i false from getD_any (by omega) _ _, hall i hil] at h0
   cases h0
  ·obtain ⟨f, B, rfl, hf, hx, hφ, hB, hd2, hC⟩ := hJ
   have hlen : ∀ {i x}, l[i]? = some x → i < l.length := fun hi => (gS_.1 hi).1
   have hNB : NB l Ks (fun s => listed.getD s false) B = NB l Ks (fun _ => true) B := by
    funext c
    apply propext
    exact ⟨fun ⟨i, h1, h2, h3⟩ => ⟨i, h1, rfl, h3⟩, fun ⟨i, h1, h2, h3⟩ => ⟨i, h1, hall i h1, h3⟩⟩
   refine hend f w B hf hx (fun i x hi hdx => ?_) (fun i hi hk => ?_) (fun i j hi hj hne => hd2 i j hi hj hne (hall i hi) (hall j hj))
   ·rw [← hNB]
    exact hφ i (hlen hi) (hall i (hlen hi)) ⟨x, hi, hdx⟩
   ·obtain ⟨h1, h2, h3, cur, h4, h5, h6, h7⟩ := hB i hi (hall i hi) hk
    refine ⟨h1, h2, h3, cur, h4, h5, fun s j hs _ => h6 s j hs (hall s ?_), fun hno => h7 fun s j hs => ?_⟩
    ·have h9 := (gS_.1 hs).1
     have h8 := Nat.eq_of_beq_eq_true hKl
     omega
    ·have := hno s j hs; cases this
 | succ d ih =>
  intro listed a w hsz hd hJ
  obtain ⟨i0, hi0⟩ : ∃ i, i < l.length ∧ listed.getD i false = false := by
   apply Classical.byContradiction
   intro hno
   have : listed.toList.filter (fun b => !b) = [] := by
    rw [List.filter_eq_nil_iff]
    intro b hb
    obtain ⟨i, hi, rfl⟩ := List.mem_iff_getElem.1 hb
    simp only [Array.length_toList] at hi
    cases hb2 : listed.toList[i] with
    | true => simp
    | false =>
     exfalso
     refine hno ⟨i, by omega, ?_⟩
     simp only [Array.getElem_toList] at hb2
     simp [Array.getD, hi, hb2]
   rw [this] at hd; cases hd
  obtain ⟨m, hm1, hm2⟩ := exists_least (p := fun i => i < l.length ∧ listed.getD i false = false) ⟨i0, hi0⟩
  have hml : m < l.length := by omega
  have hom : l[m]? = some l[m] := gE_ hml
  have hmr : m ∈ Region.ready .any l.toArray listed := by
   rw [mem_ready]
   refine ⟨?_, l[m], by simp, fun e he hb => ?_⟩
   ·rw [show listed.getD m true = listed.getD m false from getD_any (by omega) _ _]; exact hm1.2
   ·have hlt := okEdges_at l 0 hE m l[m] hom e he hb
    cases hb2 : listed.getD e.on false with
    | true => rfl
    | false =>
     have := hm2 e.on ⟨by omega, hb2⟩
     omega
  refine ⟨fun h0 => (by rw [h0] at hmr; cases hmr), fun i hi => ?_⟩
  obtain ⟨h0, o, ho, hedges⟩ := mem_ready.1 hi
  have hol : l[i]? = some o := by simpa using ho
  have hil : i < l.length := (gS_.1 hol).1
  have h0' : listed.getD i false = false := by
   rw [show listed.getD i false = listed.getD i true from getD_any (by omega) _ _]; exact h0
  obtain ⟨f, B, rfl, hf, hx, hφ, hB, hd2, hC⟩ := hJ
  have hstep := NSteps.at_ l 0 hS i o hol
  simp only [Nat.zero_add] at hstep
  have hmono : ∀ j x, l[j]? = some x → ∀ N N' v w w', KeepsN N N' w w' → phiN Φ j N v w → phiN Φ j N' v w' := by
   intro j x hj
   have := (NSteps.at_ l 0 hS j x hj).1
   simpa only [Nat.zero_add] using this
  have hdone : ∀ j, onB o j = true → listed.getD j false = true := by
   intro j hj
   obtain ⟨e, he, hb, hon⟩ := onB_iff.1 hj
   subst hon
   exact hedges e he hb
  have hlt : ∀ j, listed.getD j false = true → j < l.length := by
   intro j hj
   refine Classical.byContradiction fun hn => ?_
   rw [show listed.getD j false = false from by simp [Array.getD]; omega] at hj
   cases hj
  have hcount : ((listed.setIfInBounds i true).toList.filter (fun b => !b)).length = d := by
   have hii : i < listed.size := by omega
   have hget : listed.toList[i]? = some false := by
    rw [gE_ (by simpa using hii)]
    simp only [Array.getD, hii, dif_pos] at h0'
    simpa [Array.getInternal_eq_getElem] using h0'
   have key : ∀ (L : List Bool) (i : Nat), L[i]? = some false → ((L.set i true).filter (fun b => !b)).length + 1 = (L.filter (fun b => !b)).length := by
    intro L
    induction L with
    | nil => intro i h; simp at h
    | cons b L ihL =>
     intro i h
     cases i with
     | zero => simp at h; subst h; simp
     | succ i =>
      simp at h
      have := ihL i h
      cases b <;> simp at this ⊢ <;> omega
   have := key listed.toList i hget
   rw [Array.toList_setIfInBounds]
   omega
  have hClosed : ∀ j oj, (listed.setIfInBounds i true).getD j false = true → l[j]? = some oj → ∀ q, onB oj q = true → (listed.setIfInBounds i true).getD q false = true := by
   intro j oj hj hoj q hq
   have hq2 : listed.getD q false = true := by
    by_cases hji : i = j
    ·subst hji
     rw [hol] at hoj
     cases hoj
     exact hdone q hq
    ·rw [getD_set_ne false hji] at hj
     exact hC j oj hj hoj q hq
   by_cases hqi : i = q
   ·subst hqi; rw [h0'] at hq2; cases hq2
   ·rw [getD_set_ne false hqi]; exact hq2
  have hset : ∀ j, (listed.setIfInBounds i true).getD j false = true → j ≠ i → listed.getD j false = true := by
   intro j hj hne
   rwa [getD_set_ne false (fun e => hne e.symm)] at hj
  have hkeep : ∀ j, listed.getD j false = true → (listed.setIfInBounds i true).getD j false = true := by
   intro j hj
   by_cases hji : i = j
   ·subst hji; rw [h0'] at hj; cases hj
   ·rw [getD_set_ne false hji]; exact hj
  have hNlt : ∀ c, NB l Ks (fun s => listed.getD s false) B c → w0.heap.size ≤ c ∧ c < w.heap.size := by
   rintro c ⟨j, h1, h2, h3, rfl⟩
   obtain ⟨-, h4, h5, -⟩ := hB j h1 h2 h3
   exact ⟨h4, h5⟩
  -- an operation that gives a value v, in a world in which old blocks stand
  have giv : ∀ (v : Value) (w' : World) (hdi : o.dst.isSome = true), Ext w w' → (phiN Φ i (NB l Ks (fun s => listed.getD s false) B) v w' ∧ ¬ isN (kdAt Ks i) ∨ ∀ N v w, phiN Φ i N v w) → (∀ s j, kdAt Ks i ≠ .s s j) →
    (isN (kdAt Ks i) → v = .pointer (some ⟨w.heap.size, 0, none⟩) ∧ w'.heap.size = w.heap.size + 1 ∧ w'.heap[w.heap.size]? = some (.cells (zAt Z i).1 (zAt Z i).2 (0, 0))) →
    JN n l Ks Φ Z f0 w0 (listed.setIfInBounds i true) (acts n (updO f o.dst v)) w' := by
   intro v w' hdi hxw hv hns hnew
   obtain ⟨di, hdi⟩ := Option.isSome_iff_exists.1 hdi
   have hDi := dstD_of hol hdi
   have hself : updO f o.dst v (dstD l i) = v := by rw [hDi, hdi]; exact upd_same f di v
   have hoth : ∀ j oj, l[j]? = some oj → oj.dst.isSome = true → j ≠ i → updO f o.dst v (dstD l j) = f (dstD l j) := by
    intro j oj hoj hdj hne
    obtain ⟨dj, hdj⟩ := Option.isSome_iff_exists.1 hdj
    rw [dstD_of hoj hdj, hdi]
    exact upd_ne f v (dst_ne hN hol hoj hdi hdj (fun e => hne e.symm))
   have hsrc : ∀ s a j, Ks[s]? = some (.s a j) → listed.getD s false = true → updO f o.dst v (dstD l j) = f (dstD l j) := by
    intro s a j hs hls
    have hsl := hlt s hls
    have hos : l[s]? = some l[s] := gE_ hsl
    have hst := NSteps.at_ l 0 hS s l[s] hos
    simp only [Nat.zero_add] at hst
    have hk : kdAt Ks s = .s a j := by unfold kdAt; rw [gD_, hs]; rfl
    have hst := hst.2
    rw [hk] at hst
    obtain ⟨-, -, hoj, -, ⟨x, hxj, hxd⟩, -⟩ := hst
    have hlj := hC s l[s] hls hos j hoj
    refine hoth j x hxj hxd ?_
    rintro rfl
    rw [h0'] at hlj; cases hlj
   have hKN : KeepsN (NB l Ks (fun s => listed.getD s false) B) (NB l Ks (fun s => (listed.setIfInBounds i true).getD s false) (fun j => if j = i then w.heap.size else B j)) w w' := by
    refine ⟨hxw.size, fun c hc _ => hxw.block c hc, ?_⟩
    rintro c hc ⟨j, h1, h2, h3, h4⟩
    dsimp only at h4
    by_cases hji : j = i
    ·rw [if_pos hji] at h4; omega
    ·rw [if_neg hji] at h4
     exact ⟨j, h1, hset j h2 hji, h3, h4⟩
   refine ⟨updO f o.dst v, fun j => if j = i then w.heap.size else B j, rfl, fun t ht => ?_, hx.trans hxw, fun j hj hlj hdj => ?_, fun j hj hlj hkj => ?_, fun p q hp hq hpq hlp hlq hkp hkq => ?_, hClosed⟩
   ·have hne : t ≠ di := by
     rintro rfl
     have := mem_dstsK (k := l.length) hol hil hdi
     rw [← List.contains_iff_mem, ht] at this
     cases this
    rw [hdi, show updO f (some di) v = upd f di v from rfl, upd_ne f v hne]
    exact hf t ht
   ·by_cases hji : j = i
    ·subst hji
     rw [hself]
     rcases hv with ⟨hv, hnn⟩ | hv
     ·refine hmono j o hol _ _ _ _ _ ⟨Nat.le_refl _, fun _ _ _ => rfl, ?_⟩ hv
      rintro c hc ⟨q, h1, h2, h3, h4⟩
      dsimp only at h4
      by_cases hqj : q = j
      ·subst hqj; exact absurd h3 hnn
      ·rw [if_neg hqj] at h4
       exact ⟨q, h1, hset q h2 hqj, h3, h4⟩
     ·exact hv _ _ _
    ·obtain ⟨x, hxj, hxd⟩ := hdj
     rw [hoth j x hxj hxd hji]
     exact hmono j x hxj _ _ _ _ _ hKN (hφ j hj (hset j hlj hji) ⟨x, hxj, hxd⟩)
   ·by_cases hji : j = i
    ·subst hji
     obtain ⟨n1, n2, n4⟩ := hnew hkj
     rw [hself]
     dsimp only
     rw [if_pos rfl]
     refine ⟨n1, hx.size, by omega, _, n4, rfl, fun s q hs hls => ?_, fun _ => rfl⟩
     exfalso
     have hsi : s ≠ j := by
      rintro rfl
      have : kdAt Ks s = .s s q := by unfold kdAt; rw [gD_, hs]; rfl
      exact hns _ _ this
     have hls' := hset s hls hsi
     have hsl := hlt s hls'
     have hos : l[s]? = some l[s] := gE_ hsl
     have hst := NSteps.at_ l 0 hS s l[s] hos
     simp only [Nat.zero_add] at hst
     have hk : kdAt Ks s = .s j q := by unfold kdAt; rw [gD_, hs]; rfl
     have hst := hst.2
     rw [hk] at hst
     have := hC s l[s] hls' hos j hst.2.1
     rw [h0'] at this; cases this
    ·have hlj' := hset j hlj hji
     obtain ⟨b1, b2, b3, cur, b4, b5, b6, b7⟩ := hB j hj hlj' hkj
     have hoj : l[j]? = some l[j] := gE_ hj
     have hst := NSteps.at_ l 0 hS j l[j] hoj
     simp only [Nat.zero_add] at hst
     have hdj : (l[j]).dst.isSome = true := by
      have hst := hst.2
      revert hkj hst
      cases kdAt Ks j <;> intro hkj hst
      ·exact hkj.elim
      ·exact hst.1
      ·exact hkj.elim
     rw [hoth j l[j] hoj hdj hji]
     dsimp only
     rw [if_neg hji]
     refine ⟨b1, b2, Nat.lt_of_lt_of_le b3 hxw.size, cur, by rw [hxw.block _ b3]; exact b4, b5, fun s q hs hls => ?_, fun hno => b7 fun s q hs => ?_⟩
     ·have hsi : s ≠ i := by
       rintro rfl
       have : kdAt Ks s = .s j q := by unfold kdAt; rw [gD_, hs]; rfl
       exact hns _ _ this
      have hls' := hset s hls hsi
      rw [hsrc s j q hs hls']
      exact b6 s q hs hls'
     ·have this : (listed.setIfInBounds i true).getD s false = false := hno s q hs
      show listed.getD s false = false
      cases hc : listed.getD s false with
      | false => rfl
      | true => rw [hkeep s hc] at this; cases this
   ·have hold : ∀ c, c < l.length → c ≠ i → (listed.setIfInBounds i true).getD c false = true → isN (kdAt Ks c) → B c < w.heap.size := by
     intro c hc hci hl hk
     exact (hB c hc (hset c hl hci) hk).2.2.1
    by_cases ea : p = i
    ·have eb : q ≠ i := fun e => hpq (ea.trans e.symm)
     have q1 := hold q hq eb hlq hkq
     simp only [if_pos ea, if_neg eb]
     omega
    ·have p1 := hold p hp ea hlp hkp
     by_cases eb : q = i
     ·simp only [if_neg ea, if_pos eb]
      omega
     ·simp only [if_neg ea, if_neg eb]
      exact hd2 p q hp hq hpq (hset p hlp ea) (hset q hlq eb) hkp hkq
  have hdeps : ∀ j, onB o j = true → (∃ x, l[j]? = some x ∧ x.dst.isSome = true) → phiN Φ j (NB l Ks (fun s => listed.getD s false) B) (f (dstD l j)) w := fun j hj hd => hφ j (hlt j (hdone j hj)) (hdone j hj) hd
  have hself : (listed.setIfInBounds i true).getD i false = true := by
   have hii : i < listed.size := by omega
   simp [Array.getD, hii]
  have hstep := hstep.2
  cases hk : kdAt Ks i with
  | v =>
   rw [hk] at hstep
   obtain ⟨hd1, hgo⟩ := hstep
   refine wpOp_of_SO ho (hgo f w _ hf hx hNlt hdeps) fun f' w' hK => ?_
   obtain ⟨v, rfl, hxw, hv⟩ := hK
   exact ih _ _ _ (by simp [hsz]) hcount (giv v _ hd1 hxw (.inl ⟨hv, fun hn => by rw [hk] at hn; exact hn⟩) (by intro s j e; rw [hk] at e; cases e) (fun hn => by rw [hk] at hn; exact hn.elim))
  | n =>
   rw [hk] at hstep
   obtain ⟨hd1, hphi, hgo⟩ := hstep
   refine wpOp_of_SO ho (hgo f w _ hf hx hNlt hdeps) fun f' w' hK => ?_
   obtain ⟨rfl, rfl⟩ := hK
   exact ih _ _ _ (by simp [hsz]) hcount (giv _ _ hd1 (Ext.alloc w _) (.inr hphi) (by intro s j e; rw [hk] at e; cases e) (fun _ => ⟨rfl, by simp, heap_alloc_new w _⟩))
  | s a j =>
   rw [hk] at hstep
   obtain ⟨hd0, hoa, hoj, ⟨xa, hxa, hxad⟩, ⟨xj, hxj, hxjd⟩, haj, hka, hsz2, hgo⟩ := hstep
   have hal := hlt a (hdone a hoa)
   obtain ⟨b1, b2, b3, cur, b4, b5, b6, b7⟩ := hB a hal (hdone a hoa) hka
   have kj3 := hφ j (hlt j (hdone j hoj)) (hdone j hoj) ⟨xj, hxj, hxjd⟩
   refine wpOp_of_SO ho (hgo f w _ (B a) cur hx b1 b4 b5 kj3) fun f' w' hK => ?_
   obtain ⟨rfl, rfl⟩ := hK
   have hki := kd_get hk
   have hKN : KeepsN (NB l Ks (fun s => listed.getD s false) B) (NB l Ks (fun s => (listed.setIfInBounds i true).getD s false) B) w (w.setRow (B a) (f' (dstD l j)).cells) := by
    refine ⟨by simp, fun c hc hnc => setRow_other w (B a) c _ fun e => hnc ⟨a, hal, hdone a hoa, hka, e⟩, ?_⟩
    rintro c hc ⟨q, h1, h2, h3, h4⟩
    have hqi : q ≠ i := by rintro rfl; rw [hk] at h3; exact h3
    exact ⟨q, h1, hset q h2 hqi, h3, h4⟩
   refine ih _ _ _ (by simp [hsz]) hcount ⟨f', B, rfl, hf, ⟨hx.os, hx.tape, hx.output, by simpa using hx.size, fun c hc => ?_⟩, fun q hq hlq hdq => ?_, fun q hq hlq hkq => ?_, fun p q hp hq hpq hlp hlq hkp hkq => ?_, hClosed⟩
   ·rw [setRow_other w (B a) c _ (by omega)]; exact hx.block c hc
   ·have hqi : q ≠ i := by
     rintro rfl
     obtain ⟨x, hx1, hx2⟩ := hdq
     rw [hol] at hx1
     cases hx1
     rw [hd0] at hx2; cases hx2
    obtain ⟨x, hx1, hx2⟩ := hdq
    exact hmono q x hx1 _ _ _ _ _ hKN (hφ q hq (hset q hlq hqi) ⟨x, hx1, hx2⟩)
   ·have hqi : q ≠ i := by rintro rfl; rw [hk] at hkq; exact hkq
    have hlq' := hset q hlq hqi
    obtain ⟨c1, c2, c3, cur', c4, c5, c6, c7⟩ := hB q hq hlq' hkq
    by_cases hqa : q = a
    ·subst hqa
     refine ⟨c1, c2, by simpa using c3, _, setRow_heap w (B q) cur _ _ _ b4, hsz2 _ _ _ kj3, fun s q' hs hls => ?_, fun hno => ?_⟩
     ·have := once hO hs hki
      subst this
      rw [hki] at hs
      cases hs
      rfl
     ·have this : (listed.setIfInBounds i true).getD i false = false := hno i j hki
      rw [hself] at this; cases this
    ·have hbb : B q ≠ B a := hd2 q a hq hal hqa hlq' (hdone a hoa) hkq hka
     refine ⟨c1, c2, by simpa using c3, cur', by rw [setRow_other w (B a) (B q) _ hbb]; exact c4, c5, fun s q' hs hls => ?_, fun hno => c7 fun s q' hs => ?_⟩
     ·have hsi : s ≠ i := by rintro rfl; rw [hki] at hs; cases hs; exact hqa rfl
      exact c6 s q' hs (hset s hls hsi)
     ·have this : (listed.setIfInBounds i true).getD s false = false := hno s q' hs
      show listed.getD s false = false
      cases hc : listed.getD s false with
      | false => rfl
      | true => rw [hkeep s hc] at this; cases this
   ·have hpi : p ≠ i := by rintro rfl; rw [hk] at hkp; exact hkp
    have hqi : q ≠ i := by rintro rfl; rw [hk] at hkq; exact hkq
    exact hd2 p q hp hq hpq (hset p hlp hpi) (hset q hlq hqi) hkp hkq
theorem drn {id : Nat} {Q : Exit → Act → World → Prop} {f : Slots} {w : World} (Ks : List Kd) (Φ : List ((Nat → Prop) → Value → World → Prop)) (Z : List (Array Value × TypeId)) (hm : P.follows .mixedOrders = true) (hok : okS n l Ks = true)
  (hS : NSteps P n l Ks Φ Z f w 0 l)
  (hend : ∀ (f' : Slots) (w' : World) (B : Nat → Nat), (∀ t, (dstsK l.length l).contains t = false → f' t = f t) → Ext w w' → (∀ i x, l[i]? = some x → x.dst.isSome = true → phiN Φ i (NB l Ks (fun _ => true) B) (f' (dstD l i)) w') →
   (∀ i, i < l.length → isN (kdAt Ks i) → f' (dstD l i) = .pointer (some ⟨B i, 0, none⟩) ∧ w.heap.size ≤ B i ∧ B i < w'.heap.size ∧ ∃ cur, w'.heap[B i]? = some (.cells cur (zAt Z i).2 (0, 0)) ∧ Cont l Ks Z (fun _ => true) f' i cur) →
   (∀ i j, i < l.length → j < l.length → i ≠ j → isN (kdAt Ks i) → isN (kdAt Ks j) → B i ≠ B j) → Q .normal (acts n f') w') :
  WC P n (.region id l.toArray true) Q f w := by
 refine wp_region_any hm ?_
 have h3 : ∀ i, (Array.replicate l.length false).getD i false = false := by
  intro i
  simp only [Array.getD]; split <;> simp
 have h := wpAny_N (P := P) (w0 := w) (f0 := f) (Q := Q) hok hS hend l.length (Array.replicate l.length false) (acts n f) w.drew (by simp) (by simp) ⟨f, fun _ => 0, rfl, fun _ _ => rfl, Ext.drew w, fun i hi h => (by
  rw [h3] at h; cases h), fun i hi h => (by rw [h3] at h; cases h), fun i j _ _ _ h => (by rw [h3] at h; cases h), fun i o h _ _ _ => (by
  rw [h3] at h; cases h)⟩
 simpa using h
end
def MN (M N : Nat → Prop) (c : Nat) : Prop := M c ∨ N c
section
variable {α : Type} [GT α] {M N N' : Nat → Prop} {w0 w w' : World} {v : Value} {x : α}
theorem rvn_keep (h : RV (MN M N) w v x) (k : KeepsN N N' w w') : RV (MN M N') w' v x :=
 h.lift ⟨k.1, fun c hc hn => ⟨k.2.1 c hc fun h1 => hn (.inr h1), by
  rintro (h1 | h1)
  ·exact hn (.inl h1)
  ·exact hn (.inr (k.2.2 c hc h1))⟩⟩
theorem rvn_old (h : RV M w0 v x) (e : Ext w0 w) (hN : ∀ c, N c → w0.heap.size ≤ c ∧ c < w.heap.size) : RV (MN M N) w v x :=
 h.lift ⟨e.size, fun c hc hn => ⟨e.block c hc, by
  rintro (h1 | h1)
  ·exact hn h1
  ·have := (hN c h1).1; omega⟩⟩
theorem mn_below (hM : ∀ b, M b → b < w0.heap.size) (e : Ext w0 w) (hN : ∀ c, N c → w0.heap.size ≤ c ∧ c < w.heap.size) : ∀ b, MN M N b → b < w.heap.size := by
 rintro b (h | h)
 ·exact Nat.lt_of_lt_of_le (hM b h) e.size
 ·exact (hN b h).2
end
theorem rvn_out {α : Type} [GT α] {M0 N : Nat → Prop} {l : List Item} {w : World} {v : Value} {x : α} (bs : List (Nat × Array Value × TypeId)) (h : RV (MN (MS M0 l) N) w v x) (hb : ∀ q ∈ bs, N q.1) : RV (MS M0 (bs.map (fun q => box q.1 q.2.1 q.2.2) ++ l)) w v x :=
 h.lift (Up.less fun c hc hn => by
  rcases hn with h1 | ⟨it, hit, hib⟩
  ·exact .inl (.inl h1)
  ·rcases List.mem_append.1 hit with h2 | h2
   ·obtain ⟨q, hq, rfl⟩ := List.mem_map.1 h2
    cases hib
    exact .inr (hb q hq)
   ·exact .inl (.inr ⟨it, h2, hib⟩))
end Go.Ew
namespace Go.Ew
open Go.RowKit
def FP2 {α β : Type} [GT α] [GT β] (P : Program) (g : FuncId) (C : List Value) (M : Nat → Prop) (w : World) (xs : List α) (ys : List β) (q : α → β → Bool) : Prop :=
 GoF P g ∧ ∀ w1 v x u y, x ∈ xs → y ∈ ys → Ext w w1 → RV M w1 v x → RV M w1 u y → Calls P g ([v, u] ++ C).toArray w1 (Ret fun r w2 => r = .bool (q x y) ∧ Ext w1 w2)
theorem FP2.sub {α β : Type} [GT α] [GT β] {P : Program} {g : FuncId} {C : List Value} {M M' : Nat → Prop} {w w' : World} {xs : List α} {ys : List β} {q : α → β → Bool} (h : FP2 P g C M w xs ys q) (e : Ext w w') (hM : ∀ b, M b → M' b) : FP2 P g C M' w' xs ys q :=
 ⟨h.1, fun w1 v x u y hx hy e' hv hu => h.2 w1 v x u y hx hy (e.trans e') (hv.lift (Up.less fun b _ hb => hM b hb)) (hu.lift (Up.less fun b _ hb => hM b hb))⟩
end Go.Ew
namespace Go.Ew
open Go.RowKit
structure SV where
 a : Option Addr
 n : Nat
 c : Nat
def SV.v (s : SV) : Value := .slice s.a s.n s.c
instance gSV : GT SV where
 size := 1
 agg := false
 rep _ _ cs s := cs = [s.v]
 len h := by rw [h]; rfl
 one h := by rw [h]; simp [Value.oneCell', SV.v]
 single _ := rfl
 pos := by decide
 lift h _ := h
theorem RV.sv {M : Nat → Prop} {w : World} {v : Value} {s : SV} : RV M w v s ↔ v = s.v := by
 constructor
 ·rintro ⟨cs, rfl, rfl⟩; rfl
 ·rintro rfl; exact ⟨_, rfl, rfl⟩
section
variable {α : Type} [GT α] {B : Nat} {e E : TypeId} {ss : List SV} {xs : List (List α)} {l l' : List Item} {M0 : Nat → Prop} {w0 w w' : World} {s : SV} {x y : List α} {i : Nat}
def rowItems (B : Nat) (e : TypeId) (ss : List SV) (xs : List (List α)) : List Item := List.zipWith (fun s x => own B e s.v x) ss xs
def rowImms (ss : List SV) (xs : List (List α)) : List Item := List.zipWith (fun s x => imm s.v x) ss xs
theorem row_at (hs : ss[i]? = some s) (hx : xs[i]? = some x) : (l ++ rowItems B e ss xs)[l.length + i]? = some (own B e s.v x) := by
 rw [aR_ (by omega), show l.length + i - l.length = i from by omega]
 unfold rowItems
 rw [List.getElem?_zipWith, hs, hx]
theorem row_set (hs : ss[i]? = some s) : (l ++ rowItems B e ss xs).set (l.length + i) (own B e s.v y) = l ++ rowItems B e ss (xs.set i y) := by
 rw [List.set_append_right _ _ (by omega), show l.length + i - l.length = i from by omega]
 congr 1
 unfold rowItems
 apply List.ext_getElem?
 intro j
 rw [List.getElem?_set, List.getElem?_zipWith, List.getElem?_zipWith, List.getElem?_set, List.length_zipWith]
 by_cases e : i = j
 ·subst e
  have hl := (gS_.1 hs).1
  by_cases hx : i < xs.length
  ·rw [if_pos rfl, if_pos rfl, if_pos (by omega), if_pos hx, hs]
  ·rw [if_pos rfl, if_pos rfl, if_neg (by omega), if_neg hx, hs]
 ·rw [if_neg e, if_neg e]
theorem rows_snoc (h : ss.length = xs.length) : rowItems B e (ss ++ [s]) (xs ++ [x]) = rowItems B e ss xs ++ [own B e s.v x] := by
 unfold rowItems
 rw [List.zipWith_append h]; rfl
theorem HI.perm (H : HI M0 w0 w l) (hp : l'.Perm l) : HI M0 w0 w l' :=
 H.pick l' (fun it hit => hp.mem_iff.1 hit) ((hp.filterMap _).nodup_iff.2 H.nodup)
theorem HI.rowEnd (H : HI M0 w0 w (own B e s.v x :: (l ++ rowItems B e ss xs))) (h : ss.length = xs.length) : HI M0 w0 w (l ++ rowItems B e (ss ++ [s]) (xs ++ [x])) := by
 rw [rows_snoc h, ← List.append_assoc]
 exact H.perm (List.perm_append_singleton _ _)
theorem fm_congr {A B : Type} {f g : A → Option B} : ∀ {l : List A}, (∀ a ∈ l, f a = g a) → l.filterMap f = l.filterMap g
 | [], _ => rfl
 | a :: l, h => by rw [List.filterMap_cons, List.filterMap_cons, h a List.mem_cons_self, fm_congr fun b hb => h b (List.mem_cons_of_mem _ hb)]
theorem fm_range {A : Type} : ∀ t : List A, (List.range t.length).filterMap (fun i => t[i]?) = t
 | [] => rfl
 | a :: t => by
  rw [lC_, List.range_succ_eq_map, List.filterMap_cons, List.filterMap_map]
  have : ((fun i => (a :: t)[i]?) ∘ Nat.succ) = fun i => t[i]? := by funext i; rfl
  rw [this, fm_range t]; rfl
theorem HI.pickT {t : List Item} (H : HI M0 w0 w (l ++ t)) (is : List Nat) (hn : is.Nodup) (hb : is.all (fun i => Nat.blt i l.length) = true) (he : is.filterMap (fun i => l[i]?) = l') : HI M0 w0 w (l' ++ t) := by
 refine H.pickN (is ++ (List.range t.length).map (l.length + ·)) ?_ ?_
 ·rw [List.nodup_append]
  refine ⟨hn, ?_, ?_⟩
  ·rw [List.nodup_iff_pairwise_ne, List.pairwise_map]
   exact List.Pairwise.imp (fun h => by omega) List.nodup_range
  ·intro a ha b hb' hab
   subst hab
   obtain ⟨j, -, rfl⟩ := List.mem_map.1 hb'
   have := List.all_eq_true.1 hb _ ha
   have : l.length + j < l.length := by simpa using this
   omega
 ·rw [List.filterMap_append, ← he]
  congr 1
  ·refine fm_congr fun i hi => ?_
   have := List.all_eq_true.1 hb _ hi
   rw [aL_ (by simpa using this)]
  ·rw [List.filterMap_map]
   have : ((fun i => (l ++ t)[i]?) ∘ (l.length + ·)) = fun i => t[i]? := by
    funext i
    simp only [Function.comp]
    rw [aR_ (by omega), show l.length + i - l.length = i from by omega]
   rw [this]
   exact fm_range t
theorem HI.freezeRows : ∀ (ss : List SV) (xs : List (List α)) (l : List Item), HI M0 w0 w (l ++ rowItems B e ss xs) → HI M0 w0 w (l ++ rowImms ss xs)
 | [], xs, l, H => H
 | s :: ss, [], l, H => H
 | s :: ss, x :: xs, l, H => by
  have h1 : (l ++ rowItems B e (s :: ss) (x :: xs))[l.length]? = some (own B e s.v x) := by rw [aR_ (Nat.le_refl _), Nat.sub_self]; rfl
  have H1 := H.freeze l.length h1
  have h2 : (l ++ rowItems B e (s :: ss) (x :: xs)).set l.length (imm s.v x) = (l ++ [imm s.v x]) ++ rowItems B e ss xs := by
   rw [List.set_append_right _ _ (Nat.le_refl _), Nat.sub_self, List.append_assoc]; rfl
  rw [h2] at H1
  have H2 := HI.freezeRows ss xs _ H1
  rwa [List.append_assoc] at H2
theorem chunks_deep {M : Nat → Prop} : ∀ {ss : List SV} {xs : List (List α)} {cs : List Value}, ss.length = xs.length → (∀ (i : Nat) (s : SV) (x : List α), ss[i]? = some s → xs[i]? = some x → RV M w s.v x) → Chunks M w cs ss → Chunks M w cs xs
 | [], [], cs, _, _, h => h
 | s :: ss, x :: xs, cs, hl, hr, ⟨c1, c2, h1, h2, h3⟩ => by
  refine ⟨c1, c2, h1, ⟨s.v, h2, RV.list.1 (hr 0 s x rfl rfl)⟩, chunks_deep (by simpa using hl) (fun i s' x' hs hx => hr (i + 1) s' x' hs hx) h3⟩
 | [], _ :: _, _, h, _, _ => by cases h
 | _ :: _, [], _, h, _, _ => by cases h
theorem HI.deep {v : Value} (H : HI M0 w0 w (own B E v ss :: (l ++ rowItems B e ss xs))) (hl : ss.length = xs.length) : HI M0 w0 w (own B E v xs :: l) := by
 have H1 : HI M0 w0 w (own B E v ss :: (l ++ rowImms ss xs)) := HI.freezeRows ss xs (own B E v ss :: l) H
 obtain ⟨cs, h1, h2⟩ := H1.at_ 0 rfl
 have key : ∀ (i : Nat) (s : SV) (x : List α), ss[i]? = some s → xs[i]? = some x → RV (MS M0 (own B E v ss :: (l ++ rowImms ss xs))) w s.v x := by
  intro i s x hs hx
  refine H1.all (imm s.v x) (List.mem_cons_of_mem _ (List.mem_append_right _ ?_))
  unfold rowImms
  exact mG_ (i := i) (by rw [List.getElem?_zipWith, hs, hx])
 have H2 := H1.turn (it' := own B E v xs) 0 rfl rfl rfl rfl (Nat.le_refl _) (fun _ _ _ => rfl) (fun b hb => ⟨(H1.blks _ (List.mem_cons_self) b hb).2, .inl hb⟩) (by
  refine ⟨cs, ?_, Chunks.lift (M := MS M0 (own B E v ss :: (l ++ rowImms ss xs))) (Up.less ?_) (chunks_deep hl key h2)⟩
  ·rw [← hl]; exact h1
  ·rintro b _ (hb | ⟨it, hit, hb⟩)
   ·exact .inl hb
   ·rcases List.mem_cons.1 hit with rfl | hit
    ·exact .inr ⟨_, List.mem_cons_self, hb⟩
    ·exact .inr ⟨it, List.mem_cons_of_mem _ hit, hb⟩)
 refine H2.pick _ (fun it hit => ?_) ?_
 ·rcases List.mem_cons.1 hit with rfl | hit
  ·exact List.mem_cons_self
  ·exact List.mem_cons_of_mem _ (List.mem_append_left _ hit)
 ·refine List.Nodup.sublist ?_ H2.nodup
  refine List.Sublist.filterMap _ ?_
  exact (List.sublist_append_left l _).cons_cons _
theorem HI.join (H : HI M0 w0 w l) (H' : HI (MS M0 l) w w' l') : HI M0 w0 w' (l' ++ l) := by
 have hM : ∀ b, MS (MS M0 l) l' b ↔ MS M0 (l' ++ l) b := by
  intro b
  constructor
  ·rintro ((h | ⟨it, hit, hb⟩) | ⟨it, hit, hb⟩)
   ·exact .inl h
   ·exact .inr ⟨it, List.mem_append_right _ hit, hb⟩
   ·exact .inr ⟨it, List.mem_append_left _ hit, hb⟩
  ·rintro (h | ⟨it, hit, hb⟩)
   ·exact .inl (.inl h)
   ·rcases List.mem_append.1 hit with hit | hit
    ·exact .inr ⟨it, hit, hb⟩
    ·exact .inl (.inr ⟨it, hit, hb⟩)
 refine ⟨H.below.trans H'.below, H.m0, ?_, ?_, ?_⟩
 ·intro it hit b hb
  rcases List.mem_append.1 hit with hit | hit
  ·exact ⟨Nat.le_trans H.below.size (H'.blks it hit b hb).1, (H'.blks it hit b hb).2⟩
  ·exact ⟨(H.blks it hit b hb).1, Nat.lt_of_lt_of_le (H.blks it hit b hb).2 H'.below.size⟩
 ·rw [List.filterMap_append, List.nodup_append]
  refine ⟨H'.nodup, H.nodup, fun b hb c hc hbc => ?_⟩
  subst hbc
  obtain ⟨i, hi, hib⟩ := List.mem_filterMap.1 hb
  obtain ⟨j, hj, hjb⟩ := List.mem_filterMap.1 hc
  have h1 := (H'.blks i hi b hib).1
  have h2 := (H.blks j hj b hjb).2
  omega
 ·intro it hit
  rcases List.mem_append.1 hit with hit | hit
  ·exact it.lift (H'.all it hit) (Up.less fun b _ hb => (hM b).2 hb) fun _ _ => rfl
  ·refine it.lift (H.all it hit) ⟨H'.below.size, fun c hc hMc => ⟨H'.below.block c hc, fun hb => ?_⟩⟩ fun b hb => H'.below.block b (H.blks it hit b hb).2
   rcases (hM c).2 hb with hb | ⟨i, hi, hib⟩
   ·exact hMc hb
   ·have := (H'.blks i hi c hib).1; omega
theorem HI.weaken (H : HI M0 w0 w l) (hl : l'.map (·.blk) = l.map (·.blk)) (hh : ∀ (i : Nat) it it', l[i]? = some it → l'[i]? = some it' → ∀ M, it.holds M w → it'.holds M w) : HI M0 w0 w l' := by
 have hlen : l'.length = l.length := by simpa using congrArg List.length hl
 have hget : ∀ (i : Nat) it', l'[i]? = some it' → ∃ it, l[i]? = some it ∧ it.blk = it'.blk := by
  intro i it' hi
  have h1 := congrArg (fun z => z[i]?) hl
  simp only [List.getElem?_map, hi, Option.map_some] at h1
  cases hl2 : l[i]? with
  | none => rw [hl2] at h1; cases h1
  | some it => rw [hl2] at h1; exact ⟨it, rfl, (Option.some.inj h1).symm⟩
 have hMS : ∀ b, MS M0 l' b → MS M0 l b := by
  rintro b (h | ⟨it', hit, hb⟩)
  ·exact .inl h
  ·obtain ⟨i, hi⟩ := List.mem_iff_getElem?.1 hit
   obtain ⟨it, h1, h2⟩ := hget i it' hi
   exact .inr ⟨it, mG_ h1, h2.trans hb⟩
 refine ⟨H.below, H.m0, ?_, ?_, ?_⟩
 ·intro it' hit b hb
  obtain ⟨i, hi⟩ := List.mem_iff_getElem?.1 hit
  obtain ⟨it, h1, h2⟩ := hget i it' hi
  exact H.blks it (mG_ h1) b (h2.trans hb)
 ·have : ∀ m : List Item, m.filterMap (·.blk) = (m.map (·.blk)).filterMap id := by intro m; rw [List.filterMap_map]; rfl
  rw [this, hl, ← this]; exact H.nodup
 ·intro it' hit
  obtain ⟨i, hi⟩ := List.mem_iff_getElem?.1 hit
  obtain ⟨it, h1, h2⟩ := hget i it' hi
  have := hh i it it' h1 hi _ (H.all it (mG_ h1))
  exact it'.lift this (Up.less fun b _ hb => hMS b hb) fun _ _ => rfl
theorem own_low {β : Type} [GT β] {B B' : Nat} {v : Value} {ys : List β} {M : Nat → Prop} (hB : B' ≤ B) (h : (own B e v ys).holds M w) : (own B' e v ys).holds M w := by
 obtain ⟨cs, h1, h2⟩ := h
 refine ⟨cs, ⟨h1.1, ?_⟩, h2⟩
 rcases h1.2 with h3 | ⟨g, cap, cur, rfl, h3, h4⟩
 ·exact .inl h3
 ·exact .inr ⟨g, cap, cur, rfl, Nat.le_trans hB h3, h4⟩
def OwnsR (M : Nat → Prop) (E e : TypeId) (w0 : World) (ss : List SV) (xs : List (List α)) (v : Value) (w : World) : Prop := ss.length = xs.length ∧ HI M w0 w (own w0.heap.size E v ss :: rowItems w0.heap.size e ss xs)
theorem HI.ownsR {v : Value} (H : HI M0 w0 w l) (h : OwnsR (MS M0 l) E e w ss xs v w') : HI M0 w0 w' (own w0.heap.size E v ss :: (l ++ rowItems w0.heap.size e ss xs)) := by
 have H1 := H.join h.2
 have H2 : HI M0 w0 w' ((own w0.heap.size E v ss :: rowItems w0.heap.size e ss xs) ++ l) := by
  refine H1.weaken ?_ ?_
  ·simp only [List.map_append, List.map_cons]
   congr 2
   unfold rowItems
   rw [List.map_zipWith, List.map_zipWith]; rfl
  ·intro i it it' hi hi' M hh
   have hB : w0.heap.size ≤ w.heap.size := H.below.size
   cases i with
   | zero =>
    simp only [List.cons_append, List.getElem?_cons_zero, Option.some.injEq] at hi hi'
    subst hi; subst hi'; exact own_low hB hh
   | succ i =>
    simp only [List.cons_append, List.getElem?_cons_succ] at hi hi'
    have hlen : ∀ B, (rowItems B e ss xs).length = min ss.length xs.length := by intro B; unfold rowItems; simp
    by_cases hil : i < min ss.length xs.length
    ·rw [aL_ (by rw [hlen]; exact hil)] at hi hi'
     unfold rowItems at hi hi'
     rw [List.getElem?_zipWith, gE_ (by omega), gE_ (by omega)] at hi hi'
     simp only [Option.some.injEq] at hi hi'
     subst hi; subst hi'; exact own_low hB hh
    ·rw [aR_ (by rw [hlen]; omega), hlen] at hi hi'
     rw [hi] at hi'
     cases hi'; exact hh
 refine H2.perm ?_
 exact List.Perm.cons _ List.perm_append_comm
theorem row_get (H : HI M0 w0 w (l ++ rowItems B e ss xs)) (hl : ss.length = xs.length) {i : Nat} (hi : i < ss.length) : ∃ (a : Option Addr) (x : List α) (c : Nat), ss[i]? = some (⟨a, x.length, c⟩ : SV) ∧ xs[i]? = some x := by
 have hs : ss[i]? = some ss[i] := gE_ hi
 have hx : xs[i]? = some (xs[i]'(by omega)) := gE_ (by omega)
 obtain ⟨cs, h1, h2⟩ := H.at_ _ (row_at (l := l) (B := B) (e := e) hs hx)
 have hn : ss[i].n = (xs[i]'(by omega)).length := by
  rcases h1.2 with ⟨h3, h4⟩ | ⟨g, cap, cur, h3, -⟩
  ·rw [h4]; unfold SV.v at h3; injection h3
  ·unfold SV.v at h3; injection h3
 refine ⟨ss[i].a, xs[i]'(by omega), ss[i].c, ?_, hx⟩
 rw [hs, ← hn]
theorem HI.rowPut {M : Nat → Prop} {it : Item} (H : HI M0 w0 w ((l ++ rowItems B e ss xs).set (l.length + i) (own B e s.v y))) (hs : ss[i]? = some s) : HI M0 w0 w (l ++ rowItems B e ss (xs.set i y)) := by
 rw [row_set hs] at H; exact H
theorem row_rv (H : HI M0 w0 w (l ++ rowItems B e ss xs)) (hs : ss[i]? = some s) (hx : xs[i]? = some x) : RV (fun _ => False) w s.v x :=
 own_seg (H.at_ _ (row_at (l := l) (B := B) (e := e) hs hx)) (fun _ _ h => h.elim) (fun _ _ h => h.elim)
end
section
variable {P : Program} {n : Nat} {ops : Array Oper} {f : Slots} {w : World} {K : Slots → World → Prop} {M : Nat → Prop} {ad : Addr} {T : TypeId} {bytes : Nat} {z : Value} {x : Operand} {d : Nat} {ty : TypeId} {ps : String} {af : Array Edge}
theorem ldV {s : SV} (hA : AtW M w ad s) (F : TyF P T 1 false bytes z) (ox : okT n x = true) (hx : ev f x = .pointer (some ad)) (h : K (upd f d s.v) w) :
  SO P n ops ⟨some d, .load T x, ty, ps, af, none⟩ f w K := ldW hA F ox hx fun v hv => by rw [RV.sv.1 hv]; exact h
end
end Go.Ew
namespace Go.Ew
open Go.RowKit
def ownQ {α : Type} [GT α] (B : Nat) (e : TypeId) (v : Value) (xs : List α) : Item :=
 ⟨v.ownBlock, fun M w => ∃ cs, Chunks M w cs xs ∧ ((v = .slice none 0 0 ∧ xs = []) ∨ ∃ g o c cur, v = .slice (some ⟨g, o, none⟩) xs.length c ∧ B ≤ g ∧ w.heap[g]? = some (.cells cur e (0, 0)) ∧ xs.length ≤ c ∧ c ≤ maxLen ∧ o + c * GT.size α ≤ cur.size ∧ (cur.toList.drop o).take (xs.length * GT.size α) = cs), fun {M M' w w'} h u hb => by
  obtain ⟨cs, h2, h1⟩ := h
  refine ⟨cs, Chunks.lift u h2, ?_⟩
  rcases h1 with h3 | ⟨g, o, c, cur, rfl, h4, h5, h6⟩
  ·exact .inl h3
  ·exact .inr ⟨g, o, c, cur, rfl, h4, (hb g rfl).trans h5, h6⟩⟩
theorem ownQ_of {α : Type} [GT α] {B : Nat} {e : TypeId} {v : Value} {xs : List α} {M : Nat → Prop} {w : World} (h : (own B e v xs).holds M w) : (ownQ B e v xs).holds M w := by
 obtain ⟨cs, h1, h2⟩ := h
 refine ⟨cs, h2, ?_⟩
 rcases h1.2 with ⟨rfl, h3⟩ | ⟨g, cap, cur, rfl, h3, h4, h5, h6, h7, h8⟩
 ·exact .inl ⟨rfl, List.eq_nil_of_length_eq_zero h3⟩
 ·exact .inr ⟨g, 0, cap, cur, rfl, h3, h4, h5, h6, by omega, by rw [List.drop_zero]; exact h8⟩
section
variable {P : Program} {n : Nat} {ops : Array Oper} {f : Slots} {w : World} {K : Slots → World → Prop} {x y : Operand} {d : Nat} {ty T e : TypeId} {ps : String} {af : Array Edge} {v u : Value} {M M0 : Nat → Prop} {w0 : World} {l : List Item} {bytes : Nat} {z : Value} {B : Nat} {kk : IntKind} {agg : Bool} {α : Type} [GT α] {xs ys : List α}
theorem HI.toQ (H : HI M0 w0 w l) (i : Nat) (hi : l[i]? = some (own B e v xs)) : HI M0 w0 w (l.set i (ownQ B e v xs)) := by
 have hil := (gS_.1 hi).1
 refine H.weaken ?_ ?_
 ·apply List.ext_getElem?
  intro j
  rw [List.getElem?_map, List.getElem?_map]
  by_cases h : i = j
  ·subst h; rw [List.getElem?_set_self hil, hi]; rfl
  ·rw [List.getElem?_set_ne h]
 ·intro j it it' hj hj' M hh
  by_cases h : i = j
  ·subst h
   rw [List.getElem?_set_self hil] at hj'
   rw [hi] at hj
   cases hj; cases hj'
   exact ownQ_of hh
  ·rw [List.getElem?_set_ne h, hj] at hj'; cases hj'; exact hh
theorem iaQ {i : Int} (hO : (ownQ B e v xs).holds M w) (ox : okT n x = true) (oy : okT n y = true) (hx : ev f x = v) (hy : ev f y = .int kk i) (hi : 0 ≤ i ∧ i < xs.length) (hu : P.underlying T = some (.slice e)) (F : TyF P e (GT.size α) agg bytes z)
  (h : ∀ ad xv, xs[i.toNat]? = some xv → AtW M w ad xv → K (upd f d (.pointer (some ad))) w) : SO P n ops ⟨some d, .indexAddr T x y, ty, ps, af, none⟩ f w K := by
 obtain ⟨cs, h2, h1⟩ := hO
 rcases h1 with ⟨_, h3⟩ | ⟨g, o, c, cur, rfl, h3, h4, h5, h6, h7, h8⟩
 ·rw [h3] at hi; simp at hi; omega
 ·have hlt : i.toNat < xs.length := by omega
  have hadd : ∀ j, (⟨g, o, none⟩ : Addr).add j = ⟨g, o + j, none⟩ := fun j => by unfold Addr.add; split <;> simp_all
  refine SO.value (v := .pointer (some ⟨g, o + i.toNat * GT.size α, none⟩)) ?_ (h _ xs[i.toNat] (gE_ hlt) ?_)
  ·have hb : 0 ≤ i ∧ i < (xs.length : Int) := by omega
   simp [execOp, eval_acts ox, eval_acts oy, hx, hy, Instr.indexAt, asIntOf, run_und hu, hb, F.run_size, hadd]
  ·obtain ⟨c', hc1, hc2⟩ := Chunks.at_ h2 i.toNat xs[i.toNat] (gE_ hlt)
   refine ⟨c', hc1, fun j u hu => ?_⟩
   have hcell := hc2 j u hu
   have hadd2 : (⟨g, o + i.toNat * GT.size α, none⟩ : Addr).add j = ⟨g, o + i.toNat * GT.size α + j, none⟩ := by unfold Addr.add; split <;> simp_all
   rw [hadd2, cell_of_row w g _ cur e (0, 0) h4]
   rw [← h8] at hcell
   obtain ⟨h9, h10⟩ := gS_.1 hcell
   rw [List.getElem?_take_of_lt (by rw [lT_] at h9; omega), List.getElem?_drop, ← Nat.add_assoc] at hcell
   rw [← hcell, Array.getElem?_toList]
theorem slQ {lo : Int} {ylo : Operand} (H : HI M0 w0 w l) (i : Nat) (hi : l[i]? = some (ownQ B e v xs)) (ox : okT n x = true) (ol : okT n ylo = true) (hx : ev f x = v) (hl : ev f ylo = .int kk lo) (hb : 0 ≤ lo ∧ lo ≤ xs.length) (hu : P.underlying T = some (.slice e)) (F : TyF P e (GT.size α) agg bytes z)
  (h : ∀ a c, HI M0 w0 w (l.set i (ownQ B e (.slice a (xs.drop lo.toNat).length c) (xs.drop lo.toNat))) → K (upd f d (.slice a (xs.drop lo.toNat).length c)) w) :
  SO P n ops ⟨some d, .slice T x (some ylo) none none, ty, ps, af, none⟩ f w K := by
 have hO := H.at_ i hi
 have hil := (gS_.1 hi).1
 obtain ⟨cs, h2, h1⟩ := hO
 have hlen : (xs.drop lo.toNat).length = xs.length - lo.toNat := by simp
 obtain ⟨ao, cc, rfl, hcc⟩ : ∃ ao cc, v = .slice ao xs.length cc ∧ xs.length ≤ cc := by
  rcases h1 with ⟨rfl, h3⟩ | ⟨g, o, c, cur, rfl, h3, h4, h5, h6⟩
  ·exact ⟨none, 0, by rw [h3]; rfl, by rw [h3]; exact Nat.le_refl _⟩
  ·exact ⟨_, _, rfl, h5⟩
 refine SO.value (v := .slice (if cc = lo.toNat then ao else ao.map (·.add (lo.toNat * GT.size α))) (xs.length - lo.toNat) (cc - lo.toNat)) (w' := w) ?_ ?_
 ·have hel : P.underlying T = some (.slice (P.elem T)) := by rw [hu]; simp [Program.elem, hu]
  have hel2 : P.elem T = e := by simp [Program.elem, hu]
  simp [execOp, eval_acts ox, eval_acts ol, hx, hl, Instr.sliceAt, run_und hu]
  have := run_slice_l (P := P) (w := w) T ao xs.length cc hel kk lo hb.1 (by omega)
  rw [hel2, F.run_size] at this
  simp [this, sliced]
 ·rw [hlen] at h
  refine h _ _ ?_
  have hblk : ∀ (aa : Option Addr) (c1 c2 c3 c4 : Nat) (f2 : Addr → Addr), (∀ q, (f2 q).block = q.block) → Value.ownBlock (.slice (aa.map f2) c1 c2) = Value.ownBlock (.slice aa c3 c4) := by
   intro aa c1 c2 c3 c4 f2 hf
   cases aa with
   | none => rfl
   | some q => show some _ = some _; rw [hf]
  refine H.weaken ?_ ?_
  ·apply List.ext_getElem?
   intro j
   rw [List.getElem?_map, List.getElem?_map]
   by_cases hj : i = j
   ·subst hj
    rw [List.getElem?_set_self hil, hi]
    show some (Value.ownBlock _) = some (Value.ownBlock _)
    split
    ·cases ao <;> rfl
    ·rw [hblk ao _ _ xs.length cc _ (fun q => add_block q _)]
   ·rw [List.getElem?_set_ne hj]
  ·intro j it it' hj hj' M' hh
   by_cases hji : i = j
   ·subst hji
    rw [List.getElem?_set_self hil] at hj'
    rw [hi] at hj
    cases hj; cases hj'
    obtain ⟨ds, k2, k1⟩ := hh
    rcases k1 with ⟨k3, k4⟩ | ⟨g, o, c, cur, k3, k4, k5, k6, k7, k8, k9⟩
    ·have e1 : lo.toNat = 0 := by rw [k4] at hb; simp at hb; omega
     subst k4
     injection k3 with k3a k3b k3c
     subst k3a; subst k3c
     refine ⟨[], by simp; rfl, .inl ⟨?_, by simp⟩⟩
     rw [e1]; rfl
    ·injection k3 with k3a k3b k3c
     subst k3a; subst k3c
     have hadd : ∀ j, (⟨g, o, none⟩ : Addr).add j = ⟨g, o + j, none⟩ := fun j => by unfold Addr.add; split <;> simp_all
     refine ⟨ds.drop (lo.toNat * GT.size α), ?_, .inr ?_⟩
     ·have : ∀ (k : Nat) (xs : List α) (cs : List Value), k ≤ xs.length → Chunks M' w cs xs → Chunks M' w (cs.drop (k * GT.size α)) (xs.drop k) := by
       intro k
       induction k with
       | zero => intro xs cs _ hc; simpa using hc
       | succ k ih =>
        intro xs cs hk hc
        cases xs with
        | nil => simp at hk
        | cons q xs =>
         obtain ⟨c1, c2, rfl, m1, m2⟩ := hc
         have := ih xs c2 (by simpa using hk) m2
         rw [List.drop_succ_cons, show (k + 1) * GT.size α = c1.length + k * GT.size α from by rw [GT.len m1, Nat.add_mul]; omega, ← List.drop_drop, List.drop_left]
         exact this
      exact this _ _ _ (by omega) k2
     ·by_cases hcl : cc = lo.toNat
      ·rw [if_pos hcl]
       have hz : xs.drop lo.toNat = [] := List.drop_eq_nil_of_le (by omega)
       refine ⟨g, o, cc - lo.toNat, cur, by rw [hlen], k4, k5, by rw [hlen]; omega, by omega, ?_, ?_⟩
       ·have : (cc - lo.toNat) * GT.size α ≤ cc * GT.size α := Nat.mul_le_mul_right _ (by omega)
        omega
       ·rw [hz, ← k9]
        rw [lN_, Nat.zero_mul, List.take_zero, List.drop_eq_nil_of_le]
        rw [lT_]
        have : xs.length * GT.size α ≤ lo.toNat * GT.size α := Nat.mul_le_mul_right _ (by omega)
        omega
      ·rw [if_neg hcl]
       refine ⟨g, o + lo.toNat * GT.size α, cc - lo.toNat, cur, by rw [hlen]; simp [hadd], k4, k5, by rw [hlen]; omega, by omega, ?_, ?_⟩
       ·have : lo.toNat * GT.size α + (cc - lo.toNat) * GT.size α = cc * GT.size α := by rw [← Nat.add_mul]; congr 1; omega
        omega
       ·rw [← k9, hlen, List.drop_take, List.drop_drop]
        congr 1
        rw [← Nat.sub_mul]
   ·rw [List.getElem?_set_ne hji, hj] at hj'; cases hj'; exact hh
theorem apQ (H : HI M0 w0 w l) (i : Nat) (hi : l[i]? = some (ownQ B e v xs)) (hB : B = w0.heap.size) (ox : okT n x = true) (oy : okT n y = true) (hx : ev f x = v) (hy : ev f y = u)
  (hs : Src (MS M0 l) w u ys) (hne : 0 < ys.length) (hu : P.underlying T = some (.slice e)) (F : TyF P e (GT.size α) agg bytes z) (hz : z.cells.size = GT.size α) (hl : (xs.length + ys.length) * bytes ≤ 140737488355328) (hl2 : xs.length + ys.length ≤ 9223372036854775807)
  (h : ∀ a c w', HI M0 w0 w' (l.set i (ownQ B e (.slice a (xs ++ ys).length c) (xs ++ ys))) → K (upd f d (.slice a (xs ++ ys).length c)) w') :
  SO P n ops ⟨some d, .call { callee := .builtin .append, args := #[x, y], argTypes := #[T, T] }, ty, ps, af, none⟩ f w K := by
 subst hB
 obtain ⟨cs, h2, h1⟩ := H.at_ i hi
 obtain ⟨a0, c0, rfl, hsrc⟩ := hs
 obtain ⟨inf, hi1, hi2, hi3, hi4⟩ := F.info
 have hlt : ∀ b, v.ownBlock = some b → w0.heap.size ≤ b ∧ b < w.heap.size := H.blks _ (mG_ hi)
 obtain ⟨ad, rfl, ds, hd1, hd2⟩ : ∃ ad, a0 = some ad ∧ ∃ cs, Chunks (MS M0 l) w cs ys ∧ ∀ j u, cs[j]? = some u → w.cell? (ad.add j) = some u := by
  rcases hsrc with h0 | h0
  ·omega
  ·exact h0
 have hcl := Chunks.length h2
 have hdl := Chunks.length hd1
 have fromRow : ∀ (v' : Value) (w' : World) (B' : Nat) (qs : List α) (M' : Nat → Prop) (es : List Value), w0.heap.size ≤ B' → w'.ownsRow B' e (GT.size α) v' qs.length es → Chunks M' w' es qs → (ownQ w0.heap.size e v' qs).holds M' w' := by
  intro v' w' B' qs M' es hB' ho hc
  refine ownQ_of ⟨es, ⟨ho.1, ?_⟩, hc⟩
  rcases ho.2 with h3 | ⟨g, cap, cur, rfl, h3, h4⟩
  ·exact .inl h3
  ·exact .inr ⟨g, cap, cur, rfl, Nat.le_trans hB' h3, h4⟩
 obtain ⟨a', c', w', hrun, hgr, hch, hhold⟩ : ∃ a' c' w', (Builtin.append_ #[T, T] ty #[v, .slice (some ad) ys.length c0]).run P w = .ok (.slice a' (xs.length + ys.length) c') w' ∧ w.grownBy w' v.ownBlock ∧
   ((Value.slice a' (xs.length + ys.length) c').ownBlock = v.ownBlock ∨ ∀ b, (Value.slice a' (xs.length + ys.length) c').ownBlock = some b → w.heap.size ≤ b ∧ b < w'.heap.size) ∧
   ∀ M', Up (MS M0 l) w M' w' → (ownQ w0.heap.size e (.slice a' (xs ++ ys).length c') (xs ++ ys)).holds M' w' := by
  rcases h1 with ⟨rfl, rfl⟩ | ⟨g, o, c, cur, rfl, h3, h4, h5, h6, h7, h8⟩
  ·obtain ⟨v', w', r1, r2, r3, _, r4⟩ := run_append_own_at (P := P) w w0.heap.size T ty e inf z (GT.size α) bytes hu hi1 hi2 hi3 hi4 hz GT.pos (.slice none 0 0) 0 [] (World.ownsRow_nil w _ e _) ad ys.length c0 ds hdl hd2 (Chunks.oneC hd1) (by simp only [maxLen]; simp at hl2; omega) (by simpa using hl) H.below.size
   obtain ⟨a', c', rfl⟩ := owns_explicit r2
   refine ⟨a', c', w', by simpa using r1, r3, ?_, fun M' hup => ?_⟩
   ·rcases r4 with hb | hb
    ·exact .inl (by simpa using hb)
    ·refine .inr fun b hvb => ⟨?_, (r2.lt b (by simpa using hvb)).2⟩
     simp only [lN_, Nat.zero_add] at hvb hb
     rw [hb] at hvb; cases hvb; exact Nat.le_refl _
   ·refine fromRow _ _ w0.heap.size _ M' ds (Nat.le_refl _) ?_ ?_
    ·simpa using r2
    ·simpa using Chunks.lift hup hd1
  ·by_cases hroom : xs.length + ys.length ≤ c
   ·have hfit : o + xs.length * GT.size α + ds.length ≤ cur.size := by
     have : (xs.length + ys.length) * GT.size α ≤ c * GT.size α := Nat.mul_le_mul_right _ hroom
     rw [Nat.add_mul] at this
     omega
    have hf := run_firstCells_some (P := P) w inf.size ys.length ad ys.length c0 ds (by rw [hi3]; exact hdl) hd2
    rw [hi3] at hf
    have hst := run_storeCells_at P g (o + xs.length * GT.size α) e ds 0 cur w h4 (by simpa using hfit) (Chunks.oneC hd1)
    simp only [Nat.add_zero] at hst
    have hadd : ∀ j, (⟨g, o, none⟩ : Addr).add j = ⟨g, o + j, none⟩ := fun j => by unfold Addr.add; split <;> simp_all
    have hrun : (Builtin.append_ #[T, T] ty #[.slice (some ⟨g, o, none⟩) xs.length c, .slice (some ad) ys.length c0]).run P w = .ok (.slice (some ⟨g, o, none⟩) (xs.length + ys.length) c) (w.setRow g (cur.toList.take (o + xs.length * GT.size α) ++ ds ++ cur.toList.drop (o + xs.length * GT.size α + ds.length)).toArray) := by
     simp [Builtin.append_, run_und hu, sizeOf, typeInfo, hi1, Builtin.lenOf, hroom, hf, hi3, hadd, hst]
    refine ⟨_, _, _, hrun, ⟨rfl, rfl, rfl, by simp, fun k _ hk => setRow_other w g k _ (fun e => hk (by simp [Value.ownBlock, e]))⟩, .inl rfl, fun M' hup => ?_⟩
    refine ⟨cs ++ ds, Chunks.append (Chunks.lift hup h2) (Chunks.lift hup hd1), .inr ⟨g, o, c, _, rfl, h3, setRow_heap w g cur _ e _ h4, by rw [lA_]; exact hroom, h6, ?_, ?_⟩⟩
    ·simp only [List.size_toArray, lA_, lT_, List.length_drop, Array.length_toList]
     omega
    ·rw [lA_, Nat.add_mul, ← hdl]
     have hcur : cur.toList.length = cur.size := by simp
     have e1 : (cur.toList.take (o + xs.length * GT.size α)).length = o + xs.length * GT.size α := by rw [lT_]; omega
     show List.take _ (List.drop o (cur.toList.take (o + xs.length * GT.size α) ++ ds ++ cur.toList.drop (o + xs.length * GT.size α + ds.length))) = _
     rw [List.append_assoc, List.drop_append_of_le_length (by omega), List.drop_take, show o + xs.length * GT.size α - o = xs.length * GT.size α from by omega, h8]
     rw [← List.append_assoc, List.take_left' (by rw [lA_, hcl])]
   ·have holds : ∀ j u, cs[j]? = some u → w.cell? ((⟨g, o, none⟩ : Addr).add j) = some u := by
     intro j u hju
     have hadd : (⟨g, o, none⟩ : Addr).add j = ⟨g, o + j, none⟩ := by unfold Addr.add; split <;> simp_all
     rw [hadd, cell_of_row w g _ cur e (0, 0) h4]
     rw [← h8] at hju
     obtain ⟨k1, k2⟩ := gS_.1 hju
     rw [List.getElem?_take_of_lt (by rw [lT_] at k1; omega), List.getElem?_drop] at hju
     rw [← hju, Array.getElem?_toList]
    obtain ⟨v', w', r1, r2, r3⟩ := run_append_arg_grows (P := P) w T ty e inf z (GT.size α) bytes hu hi1 hi2 hi3 hi4 hz GT.pos ⟨g, o, none⟩ xs.length c cs hcl holds ad ys.length c0 ds hdl hd2 (by omega) (by simp only [maxLen]; omega) hl
    obtain ⟨a', c', rfl⟩ := owns_explicit r2
    refine ⟨a', c', w', r1, ⟨r3.os, r3.tape, r3.output, r3.size, fun k hk _ => r3.block k hk (by simp)⟩, .inr fun b hvb => r2.lt b hvb, fun M' hup => ?_⟩
    refine fromRow _ _ w.heap.size _ M' (cs ++ ds) H.below.size (by rw [lA_]; exact r2) (Chunks.append (Chunks.lift hup h2) (Chunks.lift hup hd1))
 refine SO.value (v := .slice a' (xs.length + ys.length) c') (w' := w') ?_ ?_
 ·simp [execOp, resolve, invoke, builtin, eval_acts ox, eval_acts oy, hx, hy, hrun]
 ·have := h a' c' w'
  rw [lA_] at this
  refine this ?_
  have hblk : ∀ b, (ownQ w0.heap.size e (.slice a' (xs.length + ys.length) c') (xs ++ ys)).blk = some b → b < w'.heap.size ∧ ((ownQ w0.heap.size e v xs).blk = some b ∨ w.heap.size ≤ b) := by
   intro b hb
   rcases hch with hch | hch
   ·have hb2 : v.ownBlock = some b := hch.symm.trans hb
    exact ⟨Nat.lt_of_lt_of_le (hlt b hb2).2 hgr.size, .inl hb2⟩
   ·exact ⟨(hch b hb).2, .inr (hch b hb).1⟩
  refine H.turn i hi hgr.os hgr.tape hgr.output hgr.size (fun c hc hne => hgr.block c hc (fun e => hne e.symm)) hblk ?_
  have h9 := hhold (MS M0 (l.set i (ownQ w0.heap.size e (.slice a' (xs.length + ys.length) c') (xs ++ ys)))) ?_
  ·rw [lA_] at h9; exact h9
  ·refine ⟨hgr.size, fun b hb hM => ⟨hgr.block b hb (fun e => hM (.inr ⟨_, mG_ hi, e.symm⟩)), ?_⟩⟩
   rintro (hM' | ⟨it, hit, hitb⟩)
   ·exact hM (.inl hM')
   ·rcases List.mem_or_eq_of_mem_set hit with hit | rfl
    ·exact hM (.inr ⟨it, hit, hitb⟩)
    ·rcases (hblk b hitb).2 with h' | h'
     ·exact hM (.inr ⟨_, mG_ hi, h'⟩)
     ·omega
end
end Go.Ew
namespace Go.Ew
open Go.RowKit
section
variable {P : Program} {n : Nat} {ops : Array Oper} {f : Slots} {w : World} {K : Slots → World → Prop} {x y : Operand} {d : Nat} {ty T e : TypeId} {ps : String} {af : Array Edge} {v u : Value} {M M0 : Nat → Prop} {w0 : World} {l : List Item} {bytes : Nat} {z : Value} {B : Nat}
theorem cpO {xs ys : List (BitVec 64)} (H : HI M0 w0 w l) (i : Nat) (hi : l[i]? = some (own B e v xs)) (hB : B = w0.heap.size) (ox : okT n x = true) (oy : okT n y = true) (hx : ev f x = v) (hy : ev f y = u)
  (hs : Src (MS M0 l) w u ys) (hu : P.underlying T = some (.slice e)) (F : TyF P e 1 false bytes z) (hl : ys.length = xs.length) (hp : 0 < xs.length)
  (h : ∀ w', HI M0 w0 w' (l.set i (own B e v ys)) → K (upd f d (.int .i64 (ys.length : Int))) w') :
  SO P n ops ⟨some d, .call { callee := .builtin .copy, args := #[x, y], argTypes := #[T, T] }, ty, ps, af, none⟩ f w K := by
 subst hB
 obtain ⟨cs, h1, h2⟩ := H.at_ i hi
 obtain ⟨a0, c0, rfl, hsrc⟩ := hs
 obtain ⟨inf, hi1, hi2, hi3, hi4⟩ := F.info
 rcases h1.2 with ⟨rfl, h3⟩ | ⟨g', cap, cur, rfl, h3, h4, h5, h6, h7, h8⟩
 ·omega
 ·rcases hsrc with h0 | ⟨ad, rfl, ds, hd1, hd2⟩
  ·omega
  ·have hdl : ds.length = ys.length := by have := Chunks.length hd1; simpa [GT.size] using this
   have hsz : cur.size = cap := by rw [h7]; simp [GT.size]
   have hrun := run_copy_row (P := P) w T T ty e g' 0 xs.length cap ad ys.length c0 cur e ds hu (by rw [hi1]; simp [hi3]) h4 (by rw [hdl, hl]; simp) hd2 (by omega) (Chunks.oneC hd1)
   refine SO.value (v := .int .i64 (ys.length : Int)) (w' := w.setRow g' (wr cur 0 ds)) ?_ (h _ ?_)
   ·have hr2 : (Builtin.copy_ #[T, T] ty #[.slice (some ⟨g', 0, none⟩) xs.length cap, .slice (some ad) ys.length c0]).run P w = .ok (.int .i64 (ys.length : Int)) (w.setRow g' (wr cur 0 ds)) := by
     rw [hrun, ← hdl]; rfl
    simp [execOp, resolve, invoke, builtin, eval_acts ox, eval_acts oy, hx, hy, hr2]
   ·have hother : ∀ c, c < w.heap.size → (own w0.heap.size e (Value.slice (some ⟨g', 0, none⟩) xs.length cap) xs).blk ≠ some c → (w.setRow g' (wr cur 0 ds)).heap[c]? = w.heap[c]? :=
     fun c hc hne => setRow_other w g' c _ (fun e => hne (by rw [e]; rfl))
    have hblk : ∀ b, (own w0.heap.size e (Value.slice (some ⟨g', 0, none⟩) xs.length cap) ys).blk = some b → b < (w.setRow g' (wr cur 0 ds)).heap.size ∧ ((own w0.heap.size e (Value.slice (some ⟨g', 0, none⟩) xs.length cap) xs).blk = some b ∨ w.heap.size ≤ b) := by
     intro b hb
     refine ⟨?_, .inl hb⟩
     rw [size_setRow]
     exact (H.blks _ (mG_ hi) b hb).2
    refine H.turn i hi rfl rfl rfl (by simp) hother hblk ?_
    refine ⟨ds, ⟨by simpa [GT.size] using hdl, .inr ⟨g', cap, wr cur 0 ds, by rw [hl], h3, setRow_heap w g' cur _ e _ h4, by omega, h6, ?_, ?_⟩⟩, ?_⟩
    ·simp only [wr, List.size_toArray, lA_, lT_, List.length_drop, Array.length_toList]
     omega
    ·simp only [wr]
     rw [List.take_zero, List.nil_append, Nat.zero_add, List.take_left' (by simpa [GT.size] using hdl)]
    ·have hup : Up (MS M0 l) w (MS M0 (l.set i (own w0.heap.size e (Value.slice (some ⟨g', 0, none⟩) xs.length cap) ys))) (w.setRow g' (wr cur 0 ds)) := by
      refine ⟨by simp, fun b hb hM => ⟨setRow_other w g' b _ (fun e => hM (.inr ⟨_, mG_ hi, by rw [e]; rfl⟩)), ?_⟩⟩
      rintro (hM' | ⟨it, hit, hitb⟩)
      ·exact hM (.inl hM')
      ·rcases List.mem_or_eq_of_mem_set hit with hit | rfl
       ·exact hM (.inr ⟨it, hit, hitb⟩)
       ·exact hM (.inr ⟨_, mG_ hi, hitb⟩)
     exact Chunks.lift hup hd1
end
theorem join_ne {α : Type} {ss : List SV} {xs : List (List α)} {i k L : Nat} {s s2 : SV} {x x2 : List α} (hs : ss[i]? = some s) (hs2 : ss[k]? = some s2) (hx : xs[i]? = some x) (hx2 : xs[k]? = some x2) : L + i ≠ L + k ∨ (s.v = s2.v ∧ x2 = x) := by
 by_cases h : i = k
 ·subst h
  right
  rw [hs] at hs2; rw [hx] at hx2
  cases hs2; cases hx2
  exact ⟨rfl, rfl⟩
 ·left; omega
end Go.Ew
