/- Engine, part A: a frame's temporaries as a function; single operations in continuation form; regions, loops, cuts. Independent of any program. -/
import Derived.WalkKit
import Derived.Deep.LoopGhost
import Derived.Maps.AppendAt
import Derived.ProofKit
import Derived.OpenShut
import Derived.ReadAgain
import Derived.ChangeStays
import Derived.Below
import Derived.ChangeSame
import Derived.ArgAppend
import Derived.Laws.CopyRow
import Derived.LaidMore
import Derived.Stop.Joined
namespace Go.Ew
open Go.RowKit
set_option linter.unusedVariables false
abbrev Slots := Nat → Value
def upd (f : Slots) (d : Nat) (v : Value) : Slots := fun t => bif Nat.beq t d then v else f t
def updO (f : Slots) : Option Nat → Value → Slots
  | some d, v => upd f d v
  | none, _ => f
def acts (n : Nat) (f : Slots) : Act := ⟨Array.ofFn (fun i : Fin n => f i), []⟩
def ev (f : Slots) : Operand → Value
  | .tmp t => f t
  | .const v => v
  | .global g => .pointer (some ⟨g, 0, none⟩)
  | .func k => .func (.func k) #[] #[]
def okT (n : Nat) : Operand → Bool
  | .tmp t => Nat.blt t n
  | _ => true
theorem eval_acts {n : Nat} {f : Slots} {x : Operand} (h : okT n x = true) : (acts n f).eval x = ev f x := by
  cases x with
  | tmp t =>
    simp only [okT, Nat.blt_eq] at h
    simp [Act.eval, acts, ev, h]
  | _ => rfl
theorem upd_same (f : Slots) (d : Nat) (v : Value) : upd f d v d = v := by simp [upd]
theorem upd_ne (f : Slots) {d t : Nat} (v : Value) (h : t ≠ d) : upd f d v t = f t := by
  have : Nat.beq t d = false := by
    cases hb : Nat.beq t d with
    | false => rfl
    | true => exact absurd (Nat.eq_of_beq_eq_true hb) h
  simp only [upd, this, cond_false]
theorem put_acts (n : Nat) (f : Slots) (d : Option Nat) (v : Value) : (acts n f).put d v = acts n (updO f d v) := by
  cases d with
  | none => rfl
  | some d =>
    simp only [Act.put, acts, updO, Act.mk.injEq, and_true]
    apply Array.ext
    · simp
    · intro i h1 h2
      simp only [Array.size_ofFn] at h2
      by_cases hi : i = d
      · subst hi
        simp [upd]
      · rw [Array.getElem_setIfInBounds_ne (by simpa using h2) (by omega)]
        simp only [Array.getElem_ofFn]
        exact (upd_ne f v hi).symm
theorem acts_of (n : Nat) (tmps : Array Value) (h : tmps.size = n) : (⟨tmps, []⟩ : Act) = acts n (fun t => tmps.getD t undef) := by
  simp only [acts, Act.mk.injEq, and_true]
  apply Array.ext
  · simp [h]
  · intro i h1 h2
    simp [h1]
def gdst (ops : Array Oper) (j : Nat) : Option Nat := (ops[j]?).bind (·.dst)
theorem yielded_acts {n : Nat} {f : Slots} {ops : Array Oper} {j t : Nat} {b : Bool} (h : gdst ops j = some t) (ht : Nat.blt t n = true) (hv : f t = .bool b) :
    yielded ops (acts n f).tmps j = some b := by
  simp only [Nat.blt_eq] at ht
  unfold gdst at h
  simp [yielded, h, acts, ht, hv]
def SO (P : Program) (n : Nat) (ops : Array Oper) (o : Oper) (f : Slots) (w : World) (K : Slots → World → Prop) : Prop :=
  ∀ (Q : Exit → Act → World → Prop) (rest : List Oper), (∀ f' w', K f' w' → wpList P ops Q rest (acts n f') w') → wpList P ops Q (o :: rest) (acts n f) w
theorem SO.mono {P : Program} {n : Nat} {ops : Array Oper} {o : Oper} {f : Slots} {w : World} {K K' : Slots → World → Prop} (h : SO P n ops o f w K) (hk : ∀ f' w', K f' w' → K' f' w') : SO P n ops o f w K' :=
  fun Q rest hr => h Q rest fun f' w' hK => hr f' w' (hk f' w' hK)
section
variable {P : Program} {n : Nat} {ops : Array Oper} {f : Slots} {w : World} {K : Slots → World → Prop} {Q : Exit → Act → World → Prop} {rest : List Oper} {o : Oper}
theorem SO.value {d : Option Nat} {op : Op} {ty : TypeId} {ps : String} {af : Array Edge} {v : Value} {w' : World}
    (hr : (execOp (acts n f).eval ⟨d, op, ty, ps, af, none⟩).run P w = .ok (.value v) w') (h : K (updO f d v) w') : SO P n ops ⟨d, op, ty, ps, af, none⟩ f w K := by
  intro Q rest hk
  refine wpList_plain rfl fun K' hK' => ?_
  simp only [Oper.wp, hr, Oper.upon]
  rw [put_acts]
  exact hK' _ _ (hk _ _ h)
theorem SO.skip {d : Option Nat} {op : Op} {ty : TypeId} {ps : String} {af : Array Edge} {w' : World}
    (hr : (execOp (acts n f).eval ⟨d, op, ty, ps, af, none⟩).run P w = .ok .skip w') (h : K (updO f d undef) w') : SO P n ops ⟨d, op, ty, ps, af, none⟩ f w K := by
  intro Q rest hk
  refine wpList_plain rfl fun K' hK' => ?_
  simp only [Oper.wp, hr, Oper.upon]
  rw [put_acts]
  exact hK' _ _ (hk _ _ h)
theorem SO.enter {d : Option Nat} {op : Op} {ty : TypeId} {ps : String} {af : Array Edge} {g : FuncId} {args : Array Value} {w' : World}
    (hr : (execOp (acts n f).eval ⟨d, op, ty, ps, af, none⟩).run P w = .ok (.enter g args) w')
    (h : Calls P g args w' fun e w'' => ∃ v, e = .returned v ∧ K (updO f d v) w'') : SO P n ops ⟨d, op, ty, ps, af, none⟩ f w K := by
  intro Q rest hk
  refine wpList_plain rfl fun K' hK' => ?_
  simp only [Oper.wp, hr, Oper.upon]
  refine h.mono ?_
  rintro e w'' ⟨v, rfl, hv⟩
  show K' ((acts n f).put d v) w''
  rw [put_acts]
  exact hK' _ _ (hk _ _ hv)
theorem gy {d : Option Nat} {op : Op} {ty : TypeId} {ps : String} {af : Array Edge} {j t : Nat} {want b : Bool}
    (hj : gdst ops j = some t) (ht : Nat.blt t n = true) (hv : f t = .bool b) (hb : b = want)
    (h : SO P n ops ⟨d, op, ty, ps, af, none⟩ f w K) : SO P n ops ⟨d, op, ty, ps, af, some (j, want)⟩ f w K := by
  subst hb
  intro Q rest hk
  have h1 := h Q rest hk
  have hy := yielded_acts (n := n) hj ht hv
  unfold wpList at h1 ⊢
  rw [if_pos (by simp [Region.wanted])] at h1
  rw [if_pos (by simp [Region.wanted, hy])]
  exact h1
theorem gn {d : Option Nat} {op : Op} {ty : TypeId} {ps : String} {af : Array Edge} {j t : Nat} {want b : Bool}
    (hj : gdst ops j = some t) (ht : Nat.blt t n = true) (hv : f t = .bool b) (hb : b = !want)
    (h : K (updO f d undef) w) : SO P n ops ⟨d, op, ty, ps, af, some (j, want)⟩ f w K := by
  subst hb
  intro Q rest hk
  have hy := yielded_acts (n := n) hj ht hv
  unfold wpList
  rw [if_neg (by simp [Region.wanted, hy])]
  rw [put_acts]
  exact hk _ _ h
def WL (P : Program) (n : Nat) (ops : Array Oper) (Q : Exit → Act → World → Prop) : List Oper → Slots → World → Prop
  | l, f, w => wpList P ops Q l (acts n f) w
def WC (P : Program) (n : Nat) (c : Code) (Q : Exit → Act → World → Prop) (f : Slots) (w : World) : Prop := c.wp P Q (acts n f) w
theorem k (h : SO P n ops o f w (WL P n ops Q rest)) : WL P n ops Q (o :: rest) f w := h Q rest fun _ _ h => h
theorem z (h : Q .normal (acts n f) w) : WL P n ops Q [] f w := wpList_nil (P := P) (ops := ops) h
theorem rg {id : Nat} {l : List Oper} (h : WL P n l.toArray Q l f w) : WC P n (.region id l.toArray false) Q f w := wp_region_lit h
theorem sq {x y : Code} (h : WC P n x (Exit.then (fun a w => y.wp P Q a w) Q) f w) : WC P n (.seq x y) Q f w := wp_seq h
theorem nx {y : Code} (h : WC P n y Q f w) : Exit.then (fun a w => y.wp P Q a w) Q .normal (acts n f) w := h
theorem sk (h : Q .normal (acts n f) w) : WC P n .skip Q f w := wp_skip h
theorem rt (h : Q .ret (acts n f) w) : WC P n .ret Q f w := wp_ret h
theorem ex {id : Nat} (h : Q (.exit id) (acts n f) w) : WC P n (.exit id) Q f w := wp_exit h
theorem bk {id : Nat} {c : Code} (h : WC P n c (Exit.inBlock id Q) f w) : WC P n (.block id c) Q f w := wp_block h
theorem inb_normal {id : Nat} {a : Act} (h : Q .normal a w) : Exit.inBlock id Q .normal a w := h
theorem inb_ret {id : Nat} {a : Act} (h : Q .ret a w) : Exit.inBlock id Q .ret a w := h
theorem inb_here {id : Nat} {a : Act} (h : Q .normal a w) : Exit.inBlock id Q (.exit id) a w := by
  show (if id = id then _ else _); rw [if_pos rfl]; exact h
theorem then_ret {next : Act → World → Prop} {a : Act} (h : Q .ret a w) : Exit.then next Q .ret a w := h
theorem then_exit {next : Act → World → Prop} {id : Nat} {a : Act} (h : Q (.exit id) a w) : Exit.then next Q (.exit id) a w := h
theorem cd {c : Operand} {x y : Code} {b : Bool} (hc : okT n c = true) (hv : ev f c = .bool b) (ht : b = true → WC P n x Q f w) (hf : b = false → WC P n y Q f w) : WC P n (.cond c x y) Q f w :=
  wp_cond_split (by rw [eval_acts hc, hv]) ht hf
theorem cdT {c : Operand} {x y : Code} {b : Bool} (hc : okT n c = true) (hv : ev f c = .bool b) (hb : b = true) (h : WC P n x Q f w) : WC P n (.cond c x y) Q f w :=
  wp_cond_true (by rw [eval_acts hc, hv, hb]) h
theorem cdF {c : Operand} {x y : Code} {b : Bool} (hc : okT n c = true) (hv : ev f c = .bool b) (hb : b = false) (h : WC P n y Q f w) : WC P n (.cond c x y) Q f w :=
  wp_cond_false (by rw [eval_acts hc, hv, hb]) h
def cutQ (n : Nat) (R : Slots → World → Prop) (Q : Exit → Act → World → Prop) : Exit → Act → World → Prop
  | .normal, a, w => ∃ f, a = acts n f ∧ R f w
  | e, a, w => Q e a w
theorem cut {x y : Code} (R : Slots → World → Prop) (h : WC P n x (cutQ n R Q) f w) (h2 : ∀ f' w', R f' w' → WC P n y Q f' w') : WC P n (.seq x y) Q f w := by
  refine wp_seq (wp_mono h ?_)
  intro e a w' hq
  cases e with
  | normal => obtain ⟨f', rfl, hR⟩ := hq; exact h2 f' w' hR
  | _ => exact hq
theorem cutN {R : Slots → World → Prop} (h : R f w) : cutQ n R Q .normal (acts n f) w := ⟨f, rfl, h⟩
def loopQ (n : Nat) (I : Nat → Slots → World → Prop) (m : Nat) (Q : Exit → Act → World → Prop) : Exit → Act → World → Prop
  | .normal, a, w => ∃ f m', a = acts n f ∧ m' < m ∧ I m' f w
  | e, a, w => Q e a w
theorem lp {c : Code} (I : Nat → Slots → World → Prop) (m0 : Nat) (h0 : I m0 f w)
    (hr : ∀ m f w, I m f w → WC P n c (loopQ n I m Q) f w) : WC P n (.loop c) Q f w := by
  have key : ∀ m, ∀ f w, I m f w → ∀ b k cs,
      ∃ e a' w', Q e a' w' ∧ Arrives P (lone (b.at (acts n f) (.code c :: .inLoop c :: k)) cs w) b k cs e a' w' := by
    intro m
    induction m using Nat.strongRecOn with
    | _ m ih =>
      intro f w hI b k cs
      obtain ⟨e, a₁, w₁, hq, harr⟩ := hr m f w hI b (.inLoop c :: k) cs
      cases e with
      | normal =>
        obtain ⟨f', m', rfl, hlt, hI'⟩ := hq
        obtain ⟨e₂, a₂, w₂, hq₂, harr₂⟩ := ih m' hlt f' w₁ hI' b k cs
        exact ⟨e₂, a₂, w₂, hq₂, .of_steps (Steps.trans harr (.one step_inLoop)) harr₂⟩
      | exit id => exact ⟨_, a₁, w₁, hq, .pass (x := .inLoop c) rfl (fun _ _ => .inl (by simp)) harr⟩
      | goto l => exact ⟨_, a₁, w₁, hq, .pass (x := .inLoop c) rfl (fun _ _ => .inl (by simp)) harr⟩
      | ret => exact ⟨_, a₁, w₁, hq, .pass (x := .inLoop c) rfl (fun _ _ => .inl (by simp)) harr⟩
      | panic ch => exact ⟨_, a₁, w₁, hq, .pass (x := .inLoop c) rfl (fun _ _ => .inl (by simp)) harr⟩
      | outgrown => exact ⟨_, a₁, w₁, hq, .pass (x := .inLoop c) rfl (fun _ _ => .inl (by simp)) harr⟩
  intro b k cs
  obtain ⟨e, a', w', hq, harr⟩ := key m0 f w h0 b k cs
  exact ⟨e, a', w', hq, .of_steps (.one step_loop) harr⟩
theorem loopN {I : Nat → Slots → World → Prop} {m : Nat} (m' : Nat) (hm : m' < m) (h : I m' f w) : loopQ n I m Q .normal (acts n f) w := ⟨f, m', rfl, hm, h⟩
theorem loop_ret {I : Nat → Slots → World → Prop} {m : Nat} {a : Act} (h : Q .ret a w) : loopQ n I m Q .ret a w := h
theorem loop_exit {I : Nat → Slots → World → Prop} {m : Nat} {a : Act} {id : Nat} (h : Q (.exit id) a w) : loopQ n I m Q (.exit id) a w := h
end
def retQ (P : Program) (n : Nat) (fn : Func) (R : Value → World → Prop) : Exit → Act → World → Prop
  | .normal, a, w | .ret, a, w => ∃ f, a = acts n f ∧ ∃ v, (results fn (acts n f).tmps).run P w = .ok v w ∧ R v w
  | _, _, _ => False
def Ret (R : Value → World → Prop) : Ending → World → Prop := fun e w => ∃ v, e = .returned v ∧ R v w
theorem enter {P : Program} {g : FuncId} {fn : Func} {c : Code} {args : Array Value} {w : World} {R : Value → World → Prop} (n : Nat)
    (hf : P.funcs[g]? = some fn) (hb : fn.body = some c) (hn : fn.ntmps = n) (ha : Nat.ble args.size n = true)
    (h : ∀ f : Slots, (∀ i, (_ : i < args.size) → f i = args[i]) → WC P n c (retQ P n fn R) f w) : Calls P g args w (Ret R) := by
  refine calls_of_wp hf hb ?_
  subst hn
  simp only [Nat.ble_eq] at ha
  rw [acts_of fn.ntmps (args ++ Array.replicate (fn.ntmps - args.size) undef) (by simp; omega)]
  have h1 := h (fun t => (args ++ Array.replicate (fn.ntmps - args.size) undef).getD t undef) (fun i hi => by
    simp [Array.getElem?_append_left, hi])
  refine wp_mono h1 ?_
  intro e a w' hq
  cases e with
  | normal => obtain ⟨f', rfl, v, h1, h2⟩ := hq; exact ⟨rfl, v, h1, v, rfl, h2⟩
  | ret => obtain ⟨f', rfl, v, h1, h2⟩ := hq; exact ⟨rfl, v, h1, v, rfl, h2⟩
  | _ => exact hq.elim
section
variable {P : Program} {n : Nat} {fn : Func} {R : Value → World → Prop} {f : Slots} {w : World}
theorem tmp_acts {t : Nat} (h : Nat.blt t n = true) : (acts n f).tmps.getD t undef = f t := by
  simp only [Nat.blt_eq] at h
  simp [acts, h]
theorem r1 {t : Nat} (hr : fn.results = #[.tmp t]) (ht : Nat.blt t n = true) (h : R (f t) w) : retQ P n fn R .ret (acts n f) w :=
  ⟨f, rfl, f t, by rw [results_tmp hr, tmp_acts ht], h⟩
theorem r2 {t u : Nat} (hr : fn.results = #[.tmp t, .tmp u]) (ht : Nat.blt t n = true) (hu : Nat.blt u n = true) (h : R (.tuple #[f t, f u]) w) : retQ P n fn R .ret (acts n f) w :=
  ⟨f, rfl, _, by rw [results_tmp2 hr, tmp_acts ht, tmp_acts hu], h⟩
theorem r0n (hr : fn.results = #[]) (h : R (.tuple #[]) w) : retQ P n fn R .normal (acts n f) w :=
  ⟨f, rfl, _, results_none hr _ _ _, h⟩
end
end Go.Ew
namespace Go.Ew
open Go.RowKit
set_option linter.unusedVariables false
def Ext (w w' : World) : Prop := Below w.heap.size w w'
theorem Ext.refl (w : World) : Ext w w := Below.refl _ _
theorem Ext.trans {a b c : World} (h : Ext a b) (k : Ext b c) : Ext a c := Below.trans h (Below.mono k h.size)
theorem Ext.drew (w : World) : Ext w w.drew := Below.drew (Below.refl _ _)
theorem Ext.alloc (w : World) (o : Obj) : Ext w (w.alloc o) := Below.alloc (Below.refl _ _) (Nat.le_refl _) o
def onB (o : Oper) (j : Nat) : Bool := o.after.toList.any fun e => Region.binds .any e && e.on == j
def dstD (l : List Oper) (i : Nat) : Nat := (((l[i]?).bind (·.dst)).getD 0)
def dstsK (k : Nat) (l : List Oper) : List Nat := (l.take k).filterMap (·.dst)
def nodupB : List Nat → Bool
  | [] => true
  | x :: xs => !xs.contains x && nodupB xs
def okEdges : Nat → List Oper → Bool
  | _, [] => true
  | i, o :: r => o.after.all (fun e => !Region.binds .any e || Nat.blt e.on i) && okEdges (i + 1) r
def reachB (l : List Oper) : Nat → Nat → Nat → Bool
  | 0, _, _ => false
  | n + 1, i, m => match l[i]? with
    | none => false
    | some o => onB o m || (List.range i).any fun j => onB o j && reachB l n j m
def okTail2 (l : List Oper) (k : Nat) : Bool :=
  (Nat.ble l.length k || (List.range k).all fun m => reachB l (k + 1) k m) &&
    (List.range l.length).all fun i => Nat.ble i k || match l[i]? with
      | some o => onB o (i - 1)
      | none => true
def okD (n k : Nat) (l : List Oper) : Bool :=
  okEdges 0 l && (l.take k).all (fun o => o.dst.isSome) && nodupB (dstsK k l) && (dstsK k l).all (fun d => Nat.blt d n) && okTail2 l k && Nat.ble k l.length
def phi (Φ : List (Value → World → Prop)) (i : Nat) : Value → World → Prop := Φ.getD i (fun _ _ => True)
structure DStep (P : Program) (n : Nat) (l : List Oper) (k : Nat) (Φ : List (Value → World → Prop)) (f0 : Slots) (w0 : World) (i : Nat) (o : Oper) : Prop where
  go : ∀ f w, (∀ t, (dstsK k l).contains t = false → f t = f0 t) → Ext w0 w → (∀ j, onB o j = true → Nat.blt j k = true → phi Φ j (f (dstD l j)) w) →
    SO P n l.toArray o f w (fun f' w' => ∃ v, f' = updO f o.dst v ∧ Ext w w' ∧ phi Φ i v w')
  mono : ∀ v w w', Ext w w' → phi Φ i v w → phi Φ i v w'
def DSteps (P : Program) (n : Nat) (l : List Oper) (k : Nat) (Φ : List (Value → World → Prop)) (f0 : Slots) (w0 : World) : Nat → List Oper → Prop
  | _, [] => True
  | i, o :: r => (Nat.blt i k = true → DStep P n l k Φ f0 w0 i o) ∧ DSteps P n l k Φ f0 w0 (i + 1) r
section
variable {P : Program} {n : Nat} {l : List Oper} {k : Nat} {Φ : List (Value → World → Prop)} {f0 : Slots} {w0 : World}
theorem DSteps.at_ : ∀ (r : List Oper) (i : Nat), DSteps P n l k Φ f0 w0 i r → ∀ j o, r[j]? = some o → Nat.blt (i + j) k = true → DStep P n l k Φ f0 w0 (i + j) o
  | [], _, _, j, o, h, _ => by simp at h
  | x :: r, i, h, 0, o, hj, hk => by
    simp only [List.getElem?_cons_zero, Option.some.injEq] at hj
    subst hj
    exact h.1 hk
  | x :: r, i, h, j + 1, o, hj, hk => by
    simp only [List.getElem?_cons_succ] at hj
    have := DSteps.at_ r (i + 1) h.2 j o hj (by rw [show i + 1 + j = i + (j + 1) from by omega]; exact hk)
    rwa [show i + 1 + j = i + (j + 1) from by omega] at this
theorem okEdges_at : ∀ (r : List Oper) (i : Nat), okEdges i r = true → ∀ j o, r[j]? = some o → ∀ e ∈ o.after, Region.binds .any e = true → e.on < i + j
  | [], _, _, j, o, h, _, _, _ => by simp at h
  | x :: r, i, h, j, o, hj, e, he, hb => by
    simp only [okEdges, Bool.and_eq_true, Array.all_eq_true_iff_forall_mem, Bool.or_eq_true, Bool.not_eq_true', Nat.blt_eq] at h
    cases j with
    | zero =>
      simp only [List.getElem?_cons_zero, Option.some.injEq] at hj
      subst hj
      rcases h.1 e he with h1 | h1
      · rw [hb] at h1; cases h1
      · omega
    | succ j =>
      simp only [List.getElem?_cons_succ] at hj
      have := okEdges_at r (i + 1) h.2 j o hj e he hb
      omega
theorem onB_iff {o : Oper} {j : Nat} : onB o j = true ↔ ∃ e ∈ o.after, Region.binds .any e = true ∧ e.on = j := by
  simp only [onB, List.any_eq_true, Array.mem_toList_iff]
  constructor
  · rintro ⟨e, he, h⟩
    simp only [Bool.and_eq_true, beq_iff_eq] at h
    exact ⟨e, he, h.1, h.2⟩
  · rintro ⟨e, he, h1, h2⟩
    exact ⟨e, he, by simp [h1, h2]⟩
theorem okTail2_direct {l : List Oper} {k : Nat} (h : okTail2 l k = true) {i : Nat} {o : Oper} (hk : k < i) (ho : l[i]? = some o) : onB o (i - 1) = true := by
  simp only [okTail2, Bool.and_eq_true] at h
  have := List.all_eq_true.1 h.2 i (by rw [List.mem_range]; exact (List.getElem?_eq_some_iff.1 ho).1)
  rw [ho] at this
  have hf : Nat.ble i k = false := by
    cases hb : Nat.ble i k with
    | false => rfl
    | true => rw [Nat.ble_eq] at hb; omega
  rw [hf] at this
  simpa using this
theorem okTail2_reach {l : List Oper} {k : Nat} (h : okTail2 l k = true) (hk : k < l.length) {m : Nat} (hm : m < k) : reachB l (k + 1) k m = true := by
  simp only [okTail2, Bool.and_eq_true, Bool.or_eq_true] at h
  rcases h.1 with h1 | h1
  · rw [Nat.ble_eq] at h1; omega
  · exact List.all_eq_true.1 h1 m (by rw [List.mem_range]; exact hm)
theorem reach_listed {l : List Oper} {listed : Array Bool} (hC : ∀ i o, listed.getD i false = true → l[i]? = some o → ∀ j, onB o j = true → listed.getD j false = true) :
    ∀ (n i m : Nat) (o : Oper), l[i]? = some o → (∀ j, onB o j = true → listed.getD j false = true) → reachB l n i m = true → listed.getD m false = true
  | 0, _, _, _, _, _, h => by cases h
  | n + 1, i, m, o, ho, hd, h => by
    simp only [reachB, ho, Bool.or_eq_true] at h
    rcases h with h | h
    · exact hd m h
    · obtain ⟨j, _, hj⟩ := List.any_eq_true.1 h
      simp only [Bool.and_eq_true] at hj
      have hlj := hd j hj.1
      cases hoj : l[j]? with
      | none =>
        have h2 := hj.2
        cases n with
        | zero => cases h2
        | succ n => simp [reachB, hoj] at h2
      | some o' => exact reach_listed hC n j m o' hoj (hC j o' hlj hoj) hj.2
theorem nodupB_nodup : ∀ (l : List Nat), nodupB l = true → l.Nodup
  | [], _ => List.nodup_nil
  | x :: xs, h => by
    simp only [nodupB, Bool.and_eq_true, Bool.not_eq_true'] at h
    refine List.nodup_cons.2 ⟨?_, nodupB_nodup xs h.2⟩
    intro hx
    have := List.contains_iff_mem.2 hx
    rw [h.1] at this
    cases this
theorem wpOp_of_SO {ops : Array Oper} {i : Nat} {o : Oper} {f : Slots} {w : World} {K : Slots → World → Prop} {Q : Exit → Act → World → Prop} {K' : Act → World → Prop}
    (hi : ops[i]? = some o) (h : SO P n ops o f w K) (hk : ∀ f' w', K f' w' → K' (acts n f') w') : wpOp P ops Q i K' (acts n f) w := by
  have h1 := h (fun e a w => match e with | .normal => K' a w | e => Q e a w) [] (fun f' w' hK => hk f' w' hK)
  unfold wpOp
  simp only [hi]
  unfold wpList at h1
  split at h1
  · rename_i hw
    rw [if_pos hw]
    refine h1.imp (fun h2 => ?_) (fun h2 => ?_)
    · unfold Oper.wp at h2 ⊢
      generalize (execOp (acts n f).eval o).run P w = r at *
      cases r with
      | ok x w' =>
        cases x <;> simp only [Oper.upon] at h2 ⊢ <;> first
          | exact h2
          | (refine Calls.mono h2 ?_; intro e w'' he; cases e <;> first | exact he | (obtain ⟨a0, w1, hq⟩ := he; exact ⟨a0, w1, hq⟩))
      | halt x w' => cases x <;> simp only [Oper.upon] at h2 ⊢ <;> exact h2
    · obtain ⟨ha, a0, w1, hq⟩ := h2
      exact ⟨ha, a0, w1, hq⟩
  · rename_i hw
    rw [if_neg hw]
    exact h1
def Upto (N m : Nat) (listed : Array Bool) : Prop := listed.size = N ∧ ∀ i, i < N → listed.getD i false = decide (i < m)
theorem getD_any {listed : Array Bool} {i : Nat} (h : i < listed.size) (a b : Bool) : listed.getD i a = listed.getD i b := by
  simp [Array.getD, h]
theorem wpAny_tail {Q : Exit → Act → World → Prop} (hE : okEdges 0 l = true) (hT : okTail2 l k = true) :
    ∀ (d m : Nat) (listed : Array Bool) (a : Act) (w : World), l.length - m = d → k ≤ m → m ≤ l.length → Upto l.length m listed → wpList P l.toArray Q (l.drop m) a w → wpAny P .any l.toArray Q d listed a w := by
  intro d
  induction d with
  | zero =>
    intro m listed a w hd hk hm hl h
    have hml : m = l.length := by omega
    subst hml
    rw [List.drop_eq_nil_of_le (Nat.le_refl _)] at h
    refine ⟨?_, h⟩
    unfold Region.ready
    rw [List.filter_eq_nil_iff]
    intro i hi
    simp only [List.size_toArray, List.mem_range] at hi
    have := hl.2 i hi
    rw [show listed.getD i true = listed.getD i false from getD_any (by rw [hl.1]; exact hi) _ _, this]
    simp [hi]
  | succ d ih =>
    intro m listed a w hd hk hm hl h
    have hml : m < l.length := by omega
    have hom : l[m]? = some l[m] := List.getElem?_eq_getElem hml
    have hready : ∀ i, i ∈ Region.ready .any l.toArray listed ↔ i = m := by
      intro i
      rw [mem_ready]
      constructor
      · rintro ⟨h0, o, ho, hall⟩
        have hil : i < l.length := by
          have := (Array.getElem?_eq_some_iff.1 ho).1
          simpa using this
        have hnm : ¬ i < m := by
          intro him
          rw [show listed.getD i true = listed.getD i false from getD_any (by rw [hl.1]; exact hil) _ _, hl.2 i hil] at h0
          simp [him] at h0
        by_cases him : i = m
        · exact him
        · exfalso
          have hoi : l[i]? = some o := by simpa using ho
          have hb := okTail2_direct hT (i := i) (by omega) hoi
          obtain ⟨e, he, hbi, hon⟩ := onB_iff.1 hb
          have := hall e he hbi
          rw [hon, hl.2 (i - 1) (by omega)] at this
          simp at this
          omega
      · rintro rfl
        refine ⟨?_, l[i], by simp, ?_⟩
        · rw [show listed.getD i true = listed.getD i false from getD_any (by rw [hl.1]; exact hml) _ _, hl.2 i hml]
          simp
        · intro e he hbi
          have := okEdges_at l 0 hE i l[i] hom e he hbi
          rw [hl.2 e.on (by omega)]
          simp; omega
    have hdrop : l.drop m = l[m] :: l.drop (m + 1) := List.drop_eq_getElem_cons hml
    refine ⟨fun h0 => ?_, fun i hi => ?_⟩
    · have := (hready m).2 rfl
      rw [h0] at this
      cases this
    · obtain rfl := (hready i).1 hi
      rw [hdrop] at h
      have hup : Upto l.length (i + 1) (listed.setIfInBounds i true) := by
        refine ⟨by simp [hl.1], fun j hj => ?_⟩
        by_cases hji : i = j
        · subst hji
          simp [hl.1, hml]
        · rw [getD_set_ne false hji, hl.2 j hj]
          simp; omega
      unfold wpOp
      rw [show (l.toArray)[i]? = some l[i] from by simp]
      simp only
      unfold wpList at h
      split at h
      · rename_i hw
        rw [if_pos hw]
        refine h.imp (Oper.wp_mono fun a w h' => ih (i + 1) _ a w (by omega) (by omega) (by omega) hup h') id
      · rename_i hw
        rw [if_neg hw]
        exact ih (i + 1) _ _ w (by omega) (by omega) (by omega) hup h
theorem mem_dstsK {i : Nat} {o : Oper} (hi : l[i]? = some o) (hk : i < k) {d : Nat} (hd : o.dst = some d) : d ∈ dstsK k l := by
  unfold dstsK
  rw [List.mem_filterMap]
  refine ⟨o, ?_, hd⟩
  have : (l.take k)[i]? = some o := by rw [List.getElem?_take, if_pos hk]; exact hi
  exact List.mem_of_getElem? this
theorem filterMap_inj {α β : Type} (g : α → Option β) : ∀ (l : List α), (l.filterMap g).Nodup → ∀ (i j : Nat) (a b : α), l[i]? = some a → l[j]? = some b → (g a).isSome → g a = g b → i = j
  | [], _, i, _, _, _, hi, _, _, _ => by simp at hi
  | x :: xs, h, i, j, a, b, hi, hj, hs, he => by
    have htail : (xs.filterMap g).Nodup := by
      rw [List.filterMap_cons] at h
      split at h
      · exact h
      · exact (List.nodup_cons.1 h).2
    have hmem : ∀ (m : Nat) (c : α), xs[m]? = some c → g x = g c → (g x).isSome → False := by
      intro m c hm hc hx
      obtain ⟨y, hy⟩ := Option.isSome_iff_exists.1 hx
      rw [List.filterMap_cons, hy] at h
      exact (List.nodup_cons.1 h).1 (List.mem_filterMap.2 ⟨c, List.mem_of_getElem? hm, by rw [← hc, hy]⟩)
    cases i with
    | zero =>
      cases j with
      | zero => rfl
      | succ j =>
        simp only [List.getElem?_cons_zero, Option.some.injEq, List.getElem?_cons_succ] at hi hj
        subst hi
        exact (hmem j b hj he hs).elim
    | succ i =>
      cases j with
      | zero =>
        simp only [List.getElem?_cons_zero, Option.some.injEq, List.getElem?_cons_succ] at hi hj
        subst hj
        exact (hmem i a hi he.symm (he ▸ hs)).elim
      | succ j =>
        simp only [List.getElem?_cons_succ] at hi hj
        rw [filterMap_inj g xs htail i j a b hi hj hs he]
def DJ (n : Nat) (l : List Oper) (k : Nat) (Φ : List (Value → World → Prop)) (f0 : Slots) (w0 : World) (listed : Array Bool) (a : Act) (w : World) : Prop :=
  ∃ f, a = acts n f ∧ (∀ t, (dstsK k l).contains t = false → f t = f0 t) ∧ Ext w0 w ∧ (∀ i, i < k → listed.getD i false = true → phi Φ i (f (dstD l i)) w) ∧
    ∀ i o, listed.getD i false = true → l[i]? = some o → ∀ j, onB o j = true → listed.getD j false = true
theorem wpAny_first {Q : Exit → Act → World → Prop} (hok : okD n k l = true) (hS : DSteps P n l k Φ f0 w0 0 l)
    (hend : ∀ f w, (∀ t, (dstsK k l).contains t = false → f t = f0 t) → Ext w0 w → (∀ i, Nat.blt i k = true → phi Φ i (f (dstD l i)) w) → WL P n l.toArray Q (l.drop k) f w) :
    ∀ (d : Nat) (listed : Array Bool) (a : Act) (w : World), listed.size = l.length → (∀ i, k ≤ i → listed.getD i false = false) → (listed.toList.filter (fun b => !b)).length = d →
      DJ n l k Φ f0 w0 listed a w → wpAny P .any l.toArray Q d listed a w := by
  have hok0 := hok
  simp only [okD, Bool.and_eq_true] at hok
  obtain ⟨⟨⟨⟨⟨hE, hD⟩, hN⟩, hn⟩, hT⟩, hkl⟩ := hok
  simp only [Nat.ble_eq] at hkl
  intro d
  induction d with
  | zero =>
    intro listed a w hsz hge hd hJ
    have hall : ∀ i, i < l.length → listed.getD i false = true := by
      intro i hi
      have h0 := List.eq_nil_of_length_eq_zero hd
      rw [List.filter_eq_nil_iff] at h0
      have hi' : i < listed.size := by omega
      have := h0 listed[i] (by simp)
      simp at this
      simp [Array.getD, hi', this]
    have hkeq : k = l.length := by
      rcases Nat.lt_or_ge k l.length with h | h
      · have h1 := hall k h
        rw [hge k (Nat.le_refl _)] at h1
        cases h1
      · omega
    obtain ⟨f, rfl, hf, hx, hφ, hC⟩ := hJ
    have := hend f w hf hx (fun i hi => hφ i (by simpa using hi) (hall i (by have h9 : i < k := (by simpa using hi); omega)))
    refine wpAny_tail hE hT 0 l.length listed _ w (by omega) (by omega) (Nat.le_refl _) ⟨hsz, fun i hi => by rw [hall i hi]; simp [hi]⟩ ?_
    rw [hkeq] at this
    exact this
  | succ d ih =>
    intro listed a w hsz hge hd hJ
    by_cases hall : ∀ i, i < k → listed.getD i false = true
    · obtain ⟨f, rfl, hf, hx, hφ, hC⟩ := hJ
      have := hend f w hf hx (fun i hi => hφ i (by simpa using hi) (hall i (by simpa using hi)))
      have hup : Upto l.length k listed := ⟨hsz, fun i hi => by
        by_cases hik : i < k
        · rw [hall i hik]; simp [hik]
        · rw [hge i (by omega)]; simp; omega⟩
      have hcount : d + 1 = l.length - k := by
        rw [← hd]
        have hl : listed.toList = List.replicate k true ++ List.replicate (l.length - k) false := by
          apply List.ext_getElem
          · simp [hsz]; omega
          · intro i h1 h2
            simp only [Array.length_toList] at h1
            have := hup.2 i (by omega)
            simp only [Array.getD, h1, dif_pos] at this
            rw [Array.getElem_toList]
            by_cases hik : i < k
            · rw [List.getElem_append_left (by simpa using hik)]
              simp [Array.getInternal_eq_getElem, hik] at this ⊢
              exact this
            · rw [List.getElem_append_right (by simpa using hik)]
              simp [Array.getInternal_eq_getElem, hik] at this ⊢
              exact this
        rw [hl]
        simp
      exact wpAny_tail hE hT (d + 1) k listed _ w (by omega) (Nat.le_refl _) hkl hup this
    · obtain ⟨i0, hi0⟩ : ∃ i, i < k ∧ listed.getD i false = false := by
        apply Classical.byContradiction
        intro hno
        refine hall fun i hi => ?_
        cases hb : listed.getD i false with
        | true => rfl
        | false => exact (hno ⟨i, hi, hb⟩).elim
      -- the least that hasn't come up is ready
      obtain ⟨m, hm1, hm2⟩ := exists_least (p := fun i => i < k ∧ listed.getD i false = false) ⟨i0, hi0⟩
      have hml : m < l.length := by omega
      have hom : l[m]? = some l[m] := List.getElem?_eq_getElem hml
      have hmr : m ∈ Region.ready .any l.toArray listed := by
        rw [mem_ready]
        refine ⟨?_, l[m], by simp, fun e he hb => ?_⟩
        · rw [show listed.getD m true = listed.getD m false from getD_any (by omega) _ _]; exact hm1.2
        · have hlt := okEdges_at l 0 hE m l[m] hom e he hb
          cases hb2 : listed.getD e.on false with
          | true => rfl
          | false =>
            have := hm2 e.on ⟨by omega, hb2⟩
            omega
      refine ⟨fun h0 => (by rw [h0] at hmr; cases hmr), fun i hi => ?_⟩
      obtain ⟨h0, o, ho, hedges⟩ := mem_ready.1 hi
      have hol : l[i]? = some o := by simpa using ho
      have hil : i < l.length := (List.getElem?_eq_some_iff.1 hol).1
      have h0' : listed.getD i false = false := by
        rw [show listed.getD i false = listed.getD i true from getD_any (by omega) _ _]; exact h0
      have hik : i < k := by
        rcases Nat.lt_or_ge i k with h | h
        · exact h
        · exfalso
          obtain ⟨f, rfl, hf, hx, hφ, hC⟩ := hJ
          by_cases hik2 : i = k
          · subst hik2
            have := reach_listed hC _ i m o hol (fun j hj => by
              obtain ⟨e, he, hbi, hon⟩ := onB_iff.1 hj
              rw [← hon]; exact hedges e he hbi) (okTail2_reach hT hil hm1.1)
            rw [hm1.2] at this
            cases this
          · have hb := okTail2_direct hT (i := i) (by omega) hol
            obtain ⟨e, he, hbi, hon⟩ := onB_iff.1 hb
            have := hedges e he hbi
            rw [hon, hge (i - 1) (by omega)] at this
            cases this
      obtain ⟨f, rfl, hf, hx, hφ, hC⟩ := hJ
      have hstep := (DSteps.at_ l 0 hS i o hol (by simpa using hik))
      simp only [Nat.zero_add] at hstep
      have hSO := hstep.go f w hf hx (fun j hj hjk => by
        obtain ⟨e, he, hb, hon⟩ := onB_iff.1 hj
        subst hon
        exact hφ e.on (by simpa using hjk) (hedges e he hb))
      obtain ⟨di, hdi⟩ : ∃ di, o.dst = some di := by
        rw [List.all_eq_true] at hD
        have := hD o (List.mem_of_getElem? (i := i) (by rw [List.getElem?_take, if_pos hik]; exact hol))
        exact Option.isSome_iff_exists.1 this
      refine wpOp_of_SO ho hSO fun f' w' hK => ?_
      obtain ⟨v, rfl, hxw, hv⟩ := hK
      refine ih (listed.setIfInBounds i true) _ w' (by simp [hsz]) (fun j hj => ?_) ?_ ?_
      · rw [getD_set_ne false (by omega)]; exact hge j hj
      · -- one less is left
        have hii : i < listed.size := by omega
        have hget : listed.toList[i]? = some false := by
          rw [List.getElem?_eq_getElem (by simpa using hii)]
          simp only [Array.getD, hii, dif_pos] at h0'
          simpa [Array.getInternal_eq_getElem] using h0'
        have key : ∀ (L : List Bool) (i : Nat), L[i]? = some false → ((L.set i true).filter (fun b => !b)).length + 1 = (L.filter (fun b => !b)).length := by
          intro L
          induction L with
          | nil => intro i h; simp at h
          | cons b L ihL =>
            intro i h
            cases i with
            | zero => simp at h; subst h; simp
            | succ i =>
              simp at h
              have := ihL i h
              cases b <;> simp at this ⊢ <;> omega
        have := key listed.toList i hget
        rw [Array.toList_setIfInBounds]
        omega
      · refine ⟨updO f o.dst v, rfl, fun t ht => ?_, hx.trans hxw, fun j hjk hj => ?_, fun j oj hj hoj q hq => ?_⟩
        · rw [hdi]
          have hne : t ≠ di := by
            rintro rfl
            have := mem_dstsK hol hik hdi
            rw [← List.contains_iff_mem, ht] at this
            cases this
          rw [show updO f (some di) v = upd f di v from rfl, upd_ne f v hne]
          exact hf t ht
        · have hjl : j < l.length := by omega
          have hoj : l[j]? = some l[j] := List.getElem?_eq_getElem hjl
          by_cases hji : i = j
          · subst hji
            have : dstD l i = di := by unfold dstD; rw [hol]; simp [hdi]
            rw [this, hdi, show updO f (some di) v = upd f di v from rfl, upd_same]
            exact hv
          · rw [getD_set_ne false hji] at hj
            have hφj := hφ j hjk hj
            have hstepj := (DSteps.at_ l 0 hS j l[j] hoj (by simpa using hjk))
            simp only [Nat.zero_add] at hstepj
            obtain ⟨dj, hdj⟩ : ∃ dj, (l[j]).dst = some dj := by
              rw [List.all_eq_true] at hD
              have := hD l[j] (List.mem_of_getElem? (i := j) (by rw [List.getElem?_take, if_pos hjk]; exact hoj))
              exact Option.isSome_iff_exists.1 this
            have hDj : dstD l j = dj := by unfold dstD; rw [hoj]; simp [hdj]
            have hne : dj ≠ di := by
              rintro rfl
              have hnd := nodupB_nodup _ hN
              unfold dstsK at hnd
              exact hji (filterMap_inj (·.dst) (l.take k) hnd i j o l[j] (by rw [List.getElem?_take, if_pos hik]; exact hol) (by rw [List.getElem?_take, if_pos hjk]; exact hoj) (by simp [hdi]) (by simp [hdi, hdj]))
            rw [hDj] at hφj ⊢
            rw [hdi, show updO f (some di) v = upd f di v from rfl, upd_ne f v hne]
            exact hstepj.mono _ _ _ hxw hφj
        · have hq2 : listed.getD q false = true := by
            by_cases hji : i = j
            · subst hji
              rw [hol] at hoj
              cases hoj
              obtain ⟨e, he, hbi, hon⟩ := onB_iff.1 hq
              rw [← hon]; exact hedges e he hbi
            · rw [getD_set_ne false hji] at hj
              exact hC j oj hj hoj q hq
          by_cases hqi : i = q
          · subst hqi; rw [h0'] at hq2; cases hq2
          · rw [getD_set_ne false hqi]; exact hq2
theorem dr {id : Nat} {Q : Exit → Act → World → Prop} {f : Slots} {w : World} (k : Nat) (Φ : List (Value → World → Prop)) (hm : P.follows .mixedOrders = true) (hok : okD n k l = true)
    (hS : DSteps P n l k Φ f w 0 l)
    (hend : ∀ f' w', (∀ t, (dstsK k l).contains t = false → f' t = f t) → Ext w w' → (∀ i, Nat.blt i k = true → phi Φ i (f' (dstD l i)) w') → WL P n l.toArray Q (l.drop k) f' w') :
    WC P n (.region id l.toArray true) Q f w := by
  refine wp_region_any hm ?_
  have h := wpAny_first (P := P) (w0 := w) (f0 := f) (Q := Q) hok hS hend l.length (Array.replicate l.length false) (acts n f) w.drew (by simp) (fun i _ => by simp [Array.getD]) (by simp) ⟨f, rfl, fun _ _ => rfl, Ext.drew w, fun i hi h => (by
    have h2 : (Array.replicate l.length false).getD i false = false := by
      simp only [Array.getD]; split <;> simp
    rw [h2] at h; cases h), fun i o h _ _ _ => (by
    have h2 : (Array.replicate l.length false).getD i false = false := by
      simp only [Array.getD]; split <;> simp
    rw [h2] at h; cases h)⟩
  simpa using h
end
abbrev eV (x : Value) : Value → World → Prop := fun v _ => v = x
theorem d0 {f' f : Slots} {d : Option Nat} {v : Value} {w : World} {R : Value → World → Prop} (e : f' = updO f d v) (h : R v w) : ∃ v, f' = updO f d v ∧ Ext w w ∧ R v w := ⟨v, e, Ext.refl w, h⟩
theorem dc {P : Program} {n : Nat} {l : List Oper} {k : Nat} {Φ : List (Value → World → Prop)} {f0 : Slots} {w0 : World} {i : Nat} {o : Oper} {r : List Oper}
    (go : ∀ f w, (∀ t, (dstsK k l).contains t = false → f t = f0 t) → Ext w0 w → (∀ j, onB o j = true → Nat.blt j k = true → phi Φ j (f (dstD l j)) w) → SO P n l.toArray o f w (fun f' w' => ∃ v, f' = updO f o.dst v ∧ Ext w w' ∧ phi Φ i v w'))
    (rest : DSteps P n l k Φ f0 w0 (i + 1) r) (mono : ∀ v w w', Ext w w' → phi Φ i v w → phi Φ i v w' := by exact fun _ _ _ _ h => h) : DSteps P n l k Φ f0 w0 i (o :: r) := ⟨fun _ => ⟨go, mono⟩, rest⟩
abbrev iV (x : Int) : Value := .int .i64 x
abbrev pV (b o : Nat) : Value := .pointer (some ⟨b, o, none⟩)
theorem BL : (∀ b, (b && true) = b) ∧ (∀ b, (true && b) = b) ∧ (∀ b, (b && false) = false) ∧ (∀ b, (false && b) = false) ∧ (∀ b, (b || true) = true) ∧ (∀ b, (true || b) = true) ∧ (∀ b, (b || false) = b) ∧ (∀ b, (false || b) = b) ∧ ((!true) = false) ∧ ((!false) = true) := by
  refine ⟨?_, ?_, ?_, ?_, ?_, ?_, ?_, ?_, rfl, rfl⟩ <;> intro b <;> cases b <;> rfl
end Go.Ew
namespace Go.Ew
open Go.RowKit Go.IntWalk
set_option linter.unusedVariables false
set_option linter.unusedSimpArgs false
abbrev U (x : BitVec 64) : Value := .int .u64 (x.toNat : Int)
def I64 (a : Int) : Prop := -9223372036854775808 ≤ a ∧ a ≤ 9223372036854775807
theorem w64 {a : Int} (h : I64 a) : IntKind.i64.wrap a = a := i64_in a h
theorem wrap_u64_bv (a : Int) : IntKind.u64.wrap a = ((BitVec.ofInt 64 a).toNat : Int) := by
  rw [IntKind.wrap_u64, BitVec.toNat_ofInt]
  have h1 : (0 : Int) ≤ a % 18446744073709551616 := Int.emod_nonneg _ (by decide)
  show a % 18446744073709551616 = (((a % ((2 ^ 64 : Nat) : Int)).toNat : Nat) : Int)
  rw [show ((2 ^ 64 : Nat) : Int) = 18446744073709551616 from rfl, Int.toNat_of_nonneg h1]
theorem ofInt_toNat (x : BitVec 64) : BitVec.ofInt 64 (x.toNat : Int) = x := by
  apply BitVec.eq_of_toNat_eq
  rw [BitVec.toNat_ofInt]
  have := x.isLt
  omega
section
variable {P : Program} {n : Nat} {ops : Array Oper} {f : Slots} {w : World} {K : Slots → World → Prop} {x y c : Operand} {d : Nat} {ty T T2 : TypeId} {ps : String} {af : Array Edge} {v v2 : Value} {a b : Int} {p q : Bool} {kk kk2 : IntKind} {s t : BitVec 64}
theorem mv (ox : okT n x = true) (hx : ev f x = v) (h : K (upd f d v) w) : SO P n ops ⟨some d, .move x, ty, ps, af, none⟩ f w K :=
  SO.value (v := v) (by simp [execOp, eval_acts ox, hx]) h
theorem asg (ox : okT n x = true) (hx : ev f x = v) (h : K (upd f d v) w) : SO P n ops ⟨some d, .assign x, ty, ps, af, none⟩ f w K :=
  SO.value (v := v) (by simp [execOp, eval_acts ox, hx]) h
theorem pickT (oc : okT n c = true) (ox : okT n x = true) (oy : okT n y = true) (hc : ev f c = .bool p) (hp : p = true) (hx : ev f x = v) (h : K (upd f d v) w) : SO P n ops ⟨some d, .pick c x y, ty, ps, af, none⟩ f w K :=
  SO.value (v := v) (by simp [execOp, asBool, eval_acts oc, eval_acts ox, eval_acts oy, hc, hp, hx]) h
theorem pickF (oc : okT n c = true) (ox : okT n x = true) (oy : okT n y = true) (hc : ev f c = .bool p) (hp : p = false) (hy : ev f y = v) (h : K (upd f d v) w) : SO P n ops ⟨some d, .pick c x y, ty, ps, af, none⟩ f w K :=
  SO.value (v := v) (by simp [execOp, asBool, eval_acts oc, eval_acts ox, eval_acts oy, hc, hp, hy]) h
theorem not_ (ox : okT n x = true) (hx : ev f x = .bool p) (h : K (upd f d (.bool (!p))) w) : SO P n ops ⟨some d, .unOp .not T x, ty, ps, af, none⟩ f w K :=
  SO.value (v := .bool (!p)) (by simp [execOp, eval_acts ox, hx, Op.unary]) h
theorem bin {op : BinOp} (ox : okT n x = true) (oy : okT n y = true) (hx : ev f x = .int kk a) (hy : ev f y = .int kk2 b) (hr : (binOp op T (.int kk a) (.int kk2 b)).run P w = .ok v w) (h : K (upd f d v) w) :
    SO P n ops ⟨some d, .binOp op T x y T2, ty, ps, af, none⟩ f w K :=
  SO.value (v := v) (by
    simp only [execOp, eval_acts ox, eval_acts oy, hx, hy]
    have hg : (eqGuard op T x y (.int kk a) (.int kk2 b)).run P w = .ok () w := by unfold eqGuard; split <;> rfl
    simp [hg, hr, Result.andThen]) h
theorem add (ox : okT n x = true) (oy : okT n y = true) (hx : ev f x = .int .i64 a) (hy : ev f y = .int .i64 b) (hi : I64 (a + b)) (h : K (upd f d (.int .i64 (a + b))) w) : SO P n ops ⟨some d, .binOp .add T x y T2, ty, ps, af, none⟩ f w K :=
  bin ox oy hx hy (by simp [binOp, Op.intArith, w64 hi]) h
theorem sub (ox : okT n x = true) (oy : okT n y = true) (hx : ev f x = .int .i64 a) (hy : ev f y = .int .i64 b) (hi : I64 (a - b)) (h : K (upd f d (.int .i64 (a - b))) w) : SO P n ops ⟨some d, .binOp .sub T x y T2, ty, ps, af, none⟩ f w K :=
  bin ox oy hx hy (by simp [binOp, Op.intArith, w64 hi]) h
theorem mul (ox : okT n x = true) (oy : okT n y = true) (hx : ev f x = .int .i64 a) (hy : ev f y = .int .i64 b) (hi : I64 (a * b)) (h : K (upd f d (.int .i64 (a * b))) w) : SO P n ops ⟨some d, .binOp .mul T x y T2, ty, ps, af, none⟩ f w K :=
  bin ox oy hx hy (by simp [binOp, Op.intArith, w64 hi]) h
theorem quo (ox : okT n x = true) (oy : okT n y = true) (hx : ev f x = .int .i64 a) (hy : ev f y = .int .i64 b) (hi : 0 ≤ a ∧ a ≤ 9223372036854775807 ∧ 1 ≤ b) (h : K (upd f d (.int .i64 (a / b))) w) : SO P n ops ⟨some d, .binOp .quo T x y T2, ty, ps, af, none⟩ f w K :=
  bin ox oy hx hy (by
    have hb : b ≠ 0 := by omega
    simp [binOp, Op.intDiv, hb]; exact i64_quo a b hi) h
theorem rem (ox : okT n x = true) (oy : okT n y = true) (hx : ev f x = .int kk a) (hy : ev f y = .int kk b) (hi : 0 ≤ a ∧ 1 ≤ b) (h : K (upd f d (.int kk (a % b))) w) : SO P n ops ⟨some d, .binOp .rem T x y T2, ty, ps, af, none⟩ f w K :=
  bin ox oy hx hy (by
    have hb : b ≠ 0 := by omega
    simp [binOp, Op.intDiv, hb, rem_in a b hi.1]) h
theorem lss (ox : okT n x = true) (oy : okT n y = true) (hx : ev f x = .int kk a) (hy : ev f y = .int kk b) (h : K (upd f d (.bool (decide (a < b)))) w) : SO P n ops ⟨some d, .binOp .lss T x y T2, ty, ps, af, none⟩ f w K :=
  bin ox oy hx hy (by simp [binOp, Op.intCmp]) h
theorem leq (ox : okT n x = true) (oy : okT n y = true) (hx : ev f x = .int kk a) (hy : ev f y = .int kk b) (h : K (upd f d (.bool (decide (a ≤ b)))) w) : SO P n ops ⟨some d, .binOp .leq T x y T2, ty, ps, af, none⟩ f w K :=
  bin ox oy hx hy (by simp [binOp, Op.intCmp]) h
theorem gtr (ox : okT n x = true) (oy : okT n y = true) (hx : ev f x = .int kk a) (hy : ev f y = .int kk b) (h : K (upd f d (.bool (decide (b < a)))) w) : SO P n ops ⟨some d, .binOp .gtr T x y T2, ty, ps, af, none⟩ f w K :=
  bin ox oy hx hy (by simp [binOp, Op.intCmp]) h
theorem geq (ox : okT n x = true) (oy : okT n y = true) (hx : ev f x = .int kk a) (hy : ev f y = .int kk b) (h : K (upd f d (.bool (decide (b ≤ a)))) w) : SO P n ops ⟨some d, .binOp .geq T x y T2, ty, ps, af, none⟩ f w K :=
  bin ox oy hx hy (by simp [binOp, Op.intCmp]) h
theorem eql (ox : okT n x = true) (oy : okT n y = true) (hx : ev f x = .int kk a) (hy : ev f y = .int kk b) (h : K (upd f d (.bool (decide (a = b)))) w) : SO P n ops ⟨some d, .binOp .eql T x y T2, ty, ps, af, none⟩ f w K :=
  bin ox oy hx hy (by simp [binOp, Op.intCmp]; rfl) h
theorem neq (ox : okT n x = true) (oy : okT n y = true) (hx : ev f x = .int kk a) (hy : ev f y = .int kk b) (h : K (upd f d (.bool (!decide (a = b)))) w) : SO P n ops ⟨some d, .binOp .neq T x y T2, ty, ps, af, none⟩ f w K :=
  bin ox oy hx hy (by simp [binOp, Op.intCmp]; rfl) h
theorem shrI (ox : okT n x = true) (oy : okT n y = true) (hx : ev f x = .int .i64 a) (hy : ev f y = .int .u64 6) (h : K (upd f d (.int .i64 (a / 64))) w) : SO P n ops ⟨some d, .binOp .shr T x y T2, ty, ps, af, none⟩ f w K :=
  bin ox oy hx hy (by
    simp [binOp, Op.shift]
    show a.fdiv (2 ^ min 6 64) = _
    rw [show (2 : Int) ^ min 6 64 = 64 from rfl, Int.fdiv_eq_ediv_of_nonneg _ (by decide)]) h
theorem and63 (ox : okT n x = true) (oy : okT n y = true) (hx : ev f x = .int .i64 a) (hy : ev f y = .int .i64 63) (h : K (upd f d (.int .i64 (a % 64))) w) : SO P n ops ⟨some d, .binOp .and T x y T2, ty, ps, af, none⟩ f w K :=
  bin ox oy hx hy (by
    simp only [binOp, Op.intBits, ne_eq, not_true, if_false, Sem.run_pure]
    have h1 : ((BitVec.ofInt IntKind.i64.bits a &&& BitVec.ofInt IntKind.i64.bits 63).toNat : Int) = a % 64 := by
      show ((BitVec.ofInt 64 a &&& BitVec.ofInt 64 63).toNat : Int) = a % 64
      rw [BitVec.toNat_and, BitVec.toNat_ofInt, show (BitVec.ofInt 64 63).toNat = 2 ^ 6 - 1 from rfl, Nat.and_two_pow_sub_one_eq_mod]
      have : (0 : Int) ≤ a % ((2 ^ 64 : Nat) : Int) := Int.emod_nonneg _ (by decide)
      omega
    rw [h1, w64 (by unfold I64; omega)]) h
theorem wrap_bv (r : BitVec 64) : IntKind.u64.wrap (r.toNat : Int) = (r.toNat : Int) := by rw [wrap_u64_bv, ofInt_toNat]
theorem andU (s t : BitVec 64) (ox : okT n x = true) (oy : okT n y = true) (hx : ev f x = U s) (hy : ev f y = U t) (h : K (upd f d (U (s &&& t))) w) : SO P n ops ⟨some d, .binOp .and T x y T2, ty, ps, af, none⟩ f w K :=
  bin ox oy hx hy (by
    have e1 : BitVec.ofInt IntKind.u64.bits (s.toNat : Int) = s := ofInt_toNat s
    have e2 : BitVec.ofInt IntKind.u64.bits (t.toNat : Int) = t := ofInt_toNat t
    simp only [binOp, Op.intBits, ne_eq, not_true, if_false, Sem.run_pure, e1, e2]; exact congrArg (fun z => Result.ok (Value.int .u64 z) w) (wrap_bv (s &&& t))) h
theorem orU (s t : BitVec 64) (ox : okT n x = true) (oy : okT n y = true) (hx : ev f x = U s) (hy : ev f y = U t) (h : K (upd f d (U (s ||| t))) w) : SO P n ops ⟨some d, .binOp .or T x y T2, ty, ps, af, none⟩ f w K :=
  bin ox oy hx hy (by
    have e1 : BitVec.ofInt IntKind.u64.bits (s.toNat : Int) = s := ofInt_toNat s
    have e2 : BitVec.ofInt IntKind.u64.bits (t.toNat : Int) = t := ofInt_toNat t
    simp only [binOp, Op.intBits, ne_eq, not_true, if_false, Sem.run_pure, e1, e2]; exact congrArg (fun z => Result.ok (Value.int .u64 z) w) (wrap_bv (s ||| t))) h
theorem subU (s t : BitVec 64) (ox : okT n x = true) (oy : okT n y = true) (hx : ev f x = U s) (hy : ev f y = U t) (h : K (upd f d (U (s - t))) w) : SO P n ops ⟨some d, .binOp .sub T x y T2, ty, ps, af, none⟩ f w K :=
  bin ox oy hx hy (by
    simp only [binOp, Op.intArith, ne_eq, not_true, if_false, Sem.run_pure]
    refine congrArg (fun z => Result.ok (Value.int .u64 z) w) ?_
    have := t.isLt
    rw [IntKind.wrap_u64, BitVec.toNat_sub]; omega) h
theorem negU (s : BitVec 64) (ox : okT n x = true) (hx : ev f x = U s) (h : K (upd f d (U (-s))) w) : SO P n ops ⟨some d, .unOp .neg T x, ty, ps, af, none⟩ f w K :=
  SO.value (v := U (-s)) (by
    simp only [execOp, eval_acts ox, hx, Op.unary, Op.intArith, ne_eq, not_true, if_false]
    have e : IntKind.u64.wrap (0 - (s.toNat : Int)) = ((-s).toNat : Int) := by
      have := s.isLt
      rw [IntKind.wrap_u64, BitVec.toNat_neg]; omega
    rw [e]; simp) h
theorem mulU (s t : BitVec 64) (ox : okT n x = true) (oy : okT n y = true) (hx : ev f x = U s) (hy : ev f y = U t) (h : K (upd f d (U (s * t))) w) : SO P n ops ⟨some d, .binOp .mul T x y T2, ty, ps, af, none⟩ f w K :=
  bin ox oy hx hy (by
    simp only [binOp, Op.intArith, ne_eq, not_true, if_false, Sem.run_pure]
    refine congrArg (fun z => Result.ok (Value.int .u64 z) w) ?_
    rw [IntKind.wrap_u64, BitVec.toNat_mul]; exact (Int.natCast_emod _ _).symm) h
theorem shlU (s : BitVec 64) (b : Int) (hb : 0 ≤ b) (ox : okT n x = true) (oy : okT n y = true) (hx : ev f x = U s) (hy : ev f y = .int kk b) (h : K (upd f d (U (s <<< b.toNat))) w) : SO P n ops ⟨some d, .binOp .shl T x y T2, ty, ps, af, none⟩ f w K :=
  bin ox oy hx hy (by
    have h0 : ¬ b < 0 := by omega
    simp only [binOp, Op.shift, h0, if_false, Sem.run_pure]
    refine congrArg (fun z => Result.ok (Value.int .u64 z) w) ?_
    show IntKind.u64.wrap ((s.toNat : Int) * 2 ^ min b.toNat 64) = _
    rw [IntKind.wrap_u64, BitVec.toNat_shiftLeft, Nat.shiftLeft_eq]
    rcases Nat.lt_or_ge b.toNat 64 with hlt | hge
    · rw [Nat.min_eq_left (by omega)]
      simp
    · rw [Nat.min_eq_right hge]
      have e1 : s.toNat * 2 ^ b.toNat % 2 ^ 64 = 0 := by
        rw [show b.toNat = 64 + (b.toNat - 64) from by omega, Nat.pow_add, ← Nat.mul_assoc, Nat.mul_comm (s.toNat) _, Nat.mul_assoc]
        exact Nat.mul_mod_right _ _
      rw [e1]
      show (s.toNat : Int) * 18446744073709551616 % 18446744073709551616 = 0
      exact Int.mul_emod_left _ _) h
theorem shrU (s : BitVec 64) (b : Int) (hb : 0 ≤ b) (ox : okT n x = true) (oy : okT n y = true) (hx : ev f x = U s) (hy : ev f y = .int kk b) (h : K (upd f d (U (s >>> b.toNat))) w) : SO P n ops ⟨some d, .binOp .shr T x y T2, ty, ps, af, none⟩ f w K :=
  bin ox oy hx hy (by
    have h0 : ¬ b < 0 := by omega
    simp only [binOp, Op.shift, h0, if_false, Sem.run_pure]
    refine congrArg (fun z => Result.ok (Value.int .u64 z) w) ?_
    show (s.toNat : Int).fdiv (2 ^ min b.toNat 64) = _
    rw [Int.fdiv_eq_ediv_of_nonneg _ (by have : (0 : Int) < 2 ^ min b.toNat 64 := Int.pow_pos (by decide)
                                         omega), BitVec.toNat_ushiftRight, Nat.shiftRight_eq_div_pow]
    rcases Nat.lt_or_ge b.toNat 64 with hlt | hge
    · rw [Nat.min_eq_left (by omega)]
      simp
    · rw [Nat.min_eq_right hge]
      have hs := s.isLt
      have e1 : s.toNat / 2 ^ b.toNat = 0 := Nat.div_eq_of_lt (Nat.lt_of_lt_of_le hs (Nat.pow_le_pow_right (by decide) hge))
      rw [e1]
      show (s.toNat : Int) / 18446744073709551616 = 0
      omega) h
theorem shrUn (s : BitVec 64) (k : Nat) (ox : okT n x = true) (oy : okT n y = true) (hx : ev f x = U s) (hy : ev f y = .int kk ((k : Nat) : Int)) (h : K (upd f d (U (s >>> k))) w) : SO P n ops ⟨some d, .binOp .shr T x y T2, ty, ps, af, none⟩ f w K :=
  shrU s ((k : Nat) : Int) (by omega) ox oy hx hy (by rw [Int.toNat_natCast]; exact h)
theorem eqU (s t : BitVec 64) (ox : okT n x = true) (oy : okT n y = true) (hx : ev f x = U s) (hy : ev f y = U t) (h : K (upd f d (.bool (decide (s = t)))) w) : SO P n ops ⟨some d, .binOp .eql T x y T2, ty, ps, af, none⟩ f w K :=
  bin ox oy hx hy (by
    simp only [binOp, Op.intCmp, ne_eq, not_true, if_false, Sem.run_pure]
    refine congrArg (fun z => Result.ok (Value.bool z) w) ?_
    by_cases e : s = t
    · subst e; simp
    · have : (s.toNat : Int) ≠ t.toNat := fun h => e (BitVec.eq_of_toNat_eq (by omega))
      simp [e, this]) h
theorem neU (s t : BitVec 64) (ox : okT n x = true) (oy : okT n y = true) (hx : ev f x = U s) (hy : ev f y = U t) (h : K (upd f d (.bool (!decide (s = t)))) w) : SO P n ops ⟨some d, .binOp .neq T x y T2, ty, ps, af, none⟩ f w K :=
  bin ox oy hx hy (by
    simp only [binOp, Op.intCmp, ne_eq, not_true, if_false, Sem.run_pure]
    refine congrArg (fun z => Result.ok (Value.bool z) w) ?_
    by_cases e : s = t
    · subst e; simp
    · have : (s.toNat : Int) ≠ t.toNat := fun h => e (BitVec.eq_of_toNat_eq (by omega))
      simp [e, this]) h
theorem gtU (s t : BitVec 64) (ox : okT n x = true) (oy : okT n y = true) (hx : ev f x = U s) (hy : ev f y = U t) (h : K (upd f d (.bool (decide (t.toNat < s.toNat)))) w) : SO P n ops ⟨some d, .binOp .gtr T x y T2, ty, ps, af, none⟩ f w K :=
  bin ox oy hx hy (by
    simp only [binOp, Op.intCmp, ne_eq, not_true, if_false, Sem.run_pure]
    refine congrArg (fun z => Result.ok (Value.bool z) w) ?_
    simp) h
theorem cv {e : TypeDesc} {k2 : IntKind} (ox : okT n x = true) (hx : ev f x = .int kk a) (h1 : P.underlying T = some e) (h2 : P.underlying T2 = some (.int k2)) (h : K (upd f d (.int k2 (k2.wrap a))) w) :
    SO P n ops ⟨some d, .convert T T2 x, ty, ps, af, none⟩ f w K :=
  SO.value (v := .int k2 (k2.wrap a)) (by simp [execOp, eval_acts ox, hx, convert, underlying, h1, h2, Conv.intToInt]) h
theorem cvU {e : TypeDesc} (ox : okT n x = true) (hx : ev f x = .int kk a) (h1 : P.underlying T = some e) (h2 : P.underlying T2 = some (.int .u64)) (h : K (upd f d (U (BitVec.ofInt 64 a))) w) :
    SO P n ops ⟨some d, .convert T T2 x, ty, ps, af, none⟩ f w K :=
  cv ox hx h1 h2 (by rw [wrap_u64_bv]; exact h)
theorem cvI {e : TypeDesc} (ox : okT n x = true) (hx : ev f x = .int kk a) (hi : I64 a) (h1 : P.underlying T = some e) (h2 : P.underlying T2 = some (.int .i64)) (h : K (upd f d (.int .i64 a)) w) :
    SO P n ops ⟨some d, .convert T T2 x, ty, ps, af, none⟩ f w K :=
  cv ox hx h1 h2 (by rw [w64 hi]; exact h)
theorem max2 (ox : okT n x = true) (oy : okT n y = true) (hx : ev f x = .int kk a) (hy : ev f y = .int kk b) {ats : Array TypeId} (h : K (upd f d (.int kk (max a b))) w) :
    SO P n ops ⟨some d, .call { callee := .builtin .max, args := #[x, y], argTypes := ats }, ty, ps, af, none⟩ f w K :=
  SO.value (v := .int kk (max a b)) (by
    have : (if b > a then b else a) = max a b := by split <;> omega
    simp [execOp, resolve, invoke, builtin, Builtin.max_, Builtin.max2, eval_acts ox, eval_acts oy, hx, hy, this]) h
theorem xt {i : Nat} {vs : Array Value} (ox : okT n x = true) (hx : ev f x = .tuple vs) (hi : vs[i]? = some v) (h : K (upd f d v) w) : SO P n ops ⟨some d, .extract x i, ty, ps, af, none⟩ f w K :=
  SO.value (v := v) (by simp [execOp, Instr.extract, eval_acts ox, hx, hi]) h
def okL (n : Nat) (L : List Operand) : Bool := L.all (okT n)
theorem eval_list {L : List Operand} (h : okL n L = true) : L.map (acts n f).eval = L.map (ev f) := by
  apply List.map_congr_left
  intro x hx
  exact eval_acts (List.all_eq_true.1 h x hx)
theorem mf {fn : Fn} {C : List Operand} (oc : okL n C = true) (h : K (upd f d (.func fn #[] (C.map (ev f)).toArray)) w) : SO P n ops ⟨some d, .makeFunc fn #[] C.toArray, ty, ps, af, none⟩ f w K :=
  SO.value (v := .func fn #[] (C.map (ev f)).toArray) (by simp [execOp, Instr.makeFunc, eval_list oc]) h
theorem callFunc_run {g : FuncId} {fn : Func} {c : Code} {args : Array Value} (hf : P.funcs[g]? = some fn) (hb : fn.body = some c) (hn : (fn.name == "runtime.NumGoroutine") = false) :
    (callFunc g args).run P w = .ok (.enter g args) w := by
  simp only [beq_eq_false_iff_ne, ne_eq] at hn
  simp [callFunc, hf, hb, hn]
def GoF (P : Program) (g : FuncId) : Prop := ∃ fn c, P.funcs[g]? = some fn ∧ fn.body = some c ∧ (fn.name == "runtime.NumGoroutine") = false
theorem e0 : ([] : List Operand).map (ev f) = [] := rfl
theorem ec {L : List Operand} {vs : List Value} (h : ev f x = v) (t : L.map (ev f) = vs) : (x :: L).map (ev f) = v :: vs := by
  rw [List.map_cons, h, t]
theorem ca {g : FuncId} {L : List Operand} {vs : List Value} {ats : Array TypeId} {R : Value → World → Prop} (G : GoF P g) (ol : okL n L = true) (hL : L.map (ev f) = vs)
    (hc : Calls P g vs.toArray w (Ret R)) (h : ∀ v w', R v w' → K (upd f d v) w') :
    SO P n ops ⟨some d, .call { callee := .value (.func g), args := L.toArray, argTypes := ats }, ty, ps, af, none⟩ f w K := by
  obtain ⟨fn, c, hf, hb, hn⟩ := G
  subst hL
  exact SO.enter (g := g) (args := (L.map (ev f)).toArray) (w' := w) (by
    simp only [execOp, resolve, List.map_toArray, eval_list ol]
    show ((Deferred.ofValue (.func (.func g) #[] #[]) (L.map (ev f)).toArray >>= fun d => invoke d.target d.args).run P w) = _
    simp [Deferred.ofValue, invoke, callFunc_run hf hb hn]) (hc.mono fun e w' hr => by
      obtain ⟨v, rfl, hv⟩ := hr
      exact ⟨v, rfl, h v w' hv⟩)
theorem cf {fx : Operand} {g : FuncId} {L : List Operand} {vs C : List Value} {ats : Array TypeId} {R : Value → World → Prop} (G : GoF P g)
    (ofx : okT n fx = true) (ol : okL n L = true) (hfx : ev f fx = .func (.func g) #[] C.toArray) (hL : L.map (ev f) = vs)
    (hc : Calls P g (vs ++ C).toArray w (Ret R)) (h : ∀ v w', R v w' → K (upd f d v) w') :
    SO P n ops ⟨some d, .call { callee := .value fx, args := L.toArray, argTypes := ats }, ty, ps, af, none⟩ f w K := by
  obtain ⟨fn, c, hf, hb, hn⟩ := G
  subst hL
  exact SO.enter (g := g) (args := (L.map (ev f) ++ C).toArray) (w' := w) (by
    simp only [execOp, resolve, List.map_toArray, eval_list ol, eval_acts ofx, hfx]
    simp [Deferred.ofValue, invoke, callFunc_run hf hb hn]) (hc.mono fun e w' hr => by
      obtain ⟨v, rfl, hv⟩ := hr
      exact ⟨v, rfl, h v w' hv⟩)
end
end Go.Ew
namespace Go.Ew
open Go.RowKit
set_option linter.unusedVariables false
set_option linter.unusedSimpArgs false
def Up (M : Nat → Prop) (w : World) (M' : Nat → Prop) (w' : World) : Prop :=
  w.heap.size ≤ w'.heap.size ∧ ∀ b, b < w.heap.size → ¬ M b → w'.heap[b]? = w.heap[b]? ∧ ¬ M' b
theorem Up.refl (M : Nat → Prop) (w : World) : Up M w M w := ⟨Nat.le_refl _, fun _ _ h => ⟨rfl, h⟩⟩
theorem Up.trans {M M' M'' : Nat → Prop} {w w' w'' : World} (h : Up M w M' w') (k : Up M' w' M'' w'') : Up M w M'' w'' :=
  ⟨Nat.le_trans h.1 k.1, fun b hb hM => by
    have h1 := h.2 b hb hM
    have h2 := k.2 b (Nat.lt_of_lt_of_le hb h.1) h1.2
    exact ⟨h2.1.trans h1.1, h2.2⟩⟩
theorem Up.ext {M : Nat → Prop} {w w' : World} (h : Ext w w') : Up M w M w' := ⟨h.size, fun b hb hM => ⟨h.block b hb, hM⟩⟩
theorem Up.less {M M' : Nat → Prop} {w : World} (h : ∀ b, b < w.heap.size → M' b → M b) : Up M w M' w := ⟨Nat.le_refl _, fun b hb hM => ⟨rfl, fun h' => hM (h b hb h')⟩⟩
theorem block_lt_cell {w : World} {ad : Addr} {v : Value} (h : w.cell? ad = some v) : ad.block < w.heap.size := World.block_lt_of_cell? w ad h
theorem Up.cell {M M' : Nat → Prop} {w w' : World} (h : Up M w M' w') {ad : Addr} {v : Value} (hM : ¬ M ad.block) (hc : w.cell? ad = some v) : w'.cell? ad = some v :=
  (World.cell?_of_block (h.2 _ (block_lt_cell hc) hM).1).trans hc
theorem add_block (a : Addr) (j : Nat) : (a.add j).block = a.block := by unfold Addr.add; split <;> rfl
theorem add_add (a : Addr) (i j : Nat) : (a.add i).add j = a.add (i + j) := by
  unfold Addr.add
  by_cases hi : i = 0
  · subst hi; simp
  · by_cases hj : j = 0
    · subst hj; simp
    · simp [hi, hj, Nat.add_assoc]
class GT (α : Type) where
  size : Nat
  agg : Bool
  rep : (Nat → Prop) → World → List Value → α → Prop
  len : ∀ {M w cs x}, rep M w cs x → cs.length = size
  one : ∀ {M w cs x}, rep M w cs x → ∀ c ∈ cs, c.oneCell' = true
  single : agg = false → size = 1
  pos : 0 < size
  lift : ∀ {M w M' w' cs x}, rep M w cs x → Up M w M' w' → rep M' w' cs x
def mkv (agg : Bool) (cs : List Value) : Value := bif agg then .agg cs.toArray else cs.headD undef
theorem cells_mkv {agg : Bool} {cs : List Value} (h : agg = false → cs.length = 1) (h1 : ∀ c ∈ cs, c.oneCell' = true) : (mkv agg cs).cells = cs.toArray := by
  cases agg with
  | true => rfl
  | false =>
    match cs, h rfl with
    | [c], _ =>
      have := h1 c (by simp)
      cases c <;> first | rfl | cases this
def RV {α : Type} [GT α] (M : Nat → Prop) (w : World) (v : Value) (x : α) : Prop := ∃ cs, GT.rep M w cs x ∧ v = mkv (GT.agg α) cs
def At {α : Type} [GT α] (M : Nat → Prop) (w : World) (ad : Addr) (x : α) : Prop := ∃ cs, GT.rep M w cs x ∧ ¬ M ad.block ∧ ∀ j v, cs[j]? = some v → w.cell? (ad.add j) = some v
theorem RV.lift {α : Type} [GT α] {M M' : Nat → Prop} {w w' : World} {v : Value} {x : α} (h : RV M w v x) (u : Up M w M' w') : RV M' w' v x :=
  let ⟨cs, h1, h2⟩ := h; ⟨cs, GT.lift h1 u, h2⟩
theorem At.lift {α : Type} [GT α] {M M' : Nat → Prop} {w w' : World} {ad : Addr} {x : α} (h : At M w ad x) (u : Up M w M' w') : At M' w' ad x := by
  obtain ⟨cs, h1, h2, h3⟩ := h
  have hne : 0 < cs.length := by rw [GT.len h1]; exact GT.pos
  have hlt : ad.block < w.heap.size := by
    have := h3 0 cs[0] (List.getElem?_eq_getElem hne)
    have := block_lt_cell this
    rwa [add_block] at this
  exact ⟨cs, GT.lift h1 u, (u.2 _ hlt h2).2, fun j v hv => u.cell (by rw [add_block]; exact h2) (h3 j v hv)⟩
instance gInt : GT Int where
  size := 1
  agg := false
  rep _ _ cs x := cs = [.int .i64 x] ∧ I64 x
  len h := by rw [h.1]; rfl
  one h := by rw [h.1]; simp [Value.oneCell']
  single _ := rfl
  pos := by decide
  lift h _ := h
instance gBV : GT (BitVec 64) where
  size := 1
  agg := false
  rep _ _ cs x := cs = [U x]
  len h := by rw [h]; rfl
  one h := by rw [h]; simp [Value.oneCell']
  single _ := rfl
  pos := by decide
  lift h _ := h
abbrev U8 (x : BitVec 8) : Value := .int .u8 (x.toNat : Int)
instance gB8 : GT (BitVec 8) where
  size := 1
  agg := false
  rep _ _ cs x := cs = [U8 x]
  len h := by rw [h]; rfl
  one h := by rw [h]; simp [Value.oneCell']
  single _ := rfl
  pos := by decide
  lift h _ := h
instance gBool : GT Bool where
  size := 1
  agg := false
  rep _ _ cs x := cs = [.bool x]
  len h := by rw [h]; rfl
  one h := by rw [h]; simp [Value.oneCell']
  single _ := rfl
  pos := by decide
  lift h _ := h
instance gStr : GT ByteArray where
  size := 1
  agg := false
  rep _ _ cs x := cs = [.string x] ∧ x.size ≤ maxLen
  len h := by rw [h.1]; rfl
  one h := by rw [h.1]; simp [Value.oneCell']
  single _ := rfl
  pos := by decide
  lift h _ := h
instance gProd {α β : Type} [GT α] [GT β] : GT (α × β) where
  size := GT.size α + GT.size β
  agg := true
  rep M w cs x := ∃ c1 c2, cs = c1 ++ c2 ∧ GT.rep M w c1 x.1 ∧ GT.rep M w c2 x.2
  len := by
    rintro M w cs x ⟨c1, c2, rfl, h1, h2⟩
    rw [List.length_append, GT.len h1, GT.len h2]
  one := by
    rintro M w cs x ⟨c1, c2, rfl, h1, h2⟩ c hc
    rcases List.mem_append.1 hc with h | h
    · exact GT.one h1 c h
    · exact GT.one h2 c h
  single h := by cases h
  pos := by have := GT.pos (α := α); omega
  lift := by
    rintro M w M' w' cs x ⟨c1, c2, rfl, h1, h2⟩ u
    exact ⟨c1, c2, rfl, GT.lift h1 u, GT.lift h2 u⟩
def Seg {α : Type} [GT α] (M : Nat → Prop) (w : World) (ad : Addr) (xs : List α) : Prop :=
  ∀ i x, xs[i]? = some x → At M w (ad.add (i * GT.size α)) x
def RS {α : Type} [GT α] (M : Nat → Prop) (w : World) (v : Value) (xs : List α) : Prop :=
  ∃ a n c, v = .slice a n c ∧ xs.length = n ∧ n ≤ c ∧ c ≤ maxLen ∧ (n = 0 ∨ ∃ ad, a = some ad ∧ Seg M w ad xs)
theorem RS.lift {α : Type} [GT α] {M M' : Nat → Prop} {w w' : World} {v : Value} {xs : List α} (h : RS M w v xs) (u : Up M w M' w') : RS M' w' v xs := by
  obtain ⟨a, n, c, h1, h2, h3, h4, h5⟩ := h
  refine ⟨a, n, c, h1, h2, h3, h4, ?_⟩
  rcases h5 with h5 | ⟨ad, h5, h6⟩
  · exact .inl h5
  · exact .inr ⟨ad, h5, fun i x hx => (h6 i x hx).lift u⟩
instance gList {α : Type} [GT α] : GT (List α) where
  size := 1
  agg := false
  rep M w cs xs := ∃ v, cs = [v] ∧ RS M w v xs
  len := by rintro M w cs x ⟨v, rfl, _⟩; rfl
  one := by
    rintro M w cs x ⟨v, rfl, a, n, c, rfl, _⟩ c hc
    simp at hc; subst hc; rfl
  single _ := rfl
  pos := by decide
  lift := by
    rintro M w M' w' cs x ⟨v, rfl, h⟩ u
    exact ⟨v, rfl, h.lift u⟩
theorem RV.int {M : Nat → Prop} {w : World} {v : Value} {x : Int} : RV M w v x ↔ v = .int .i64 x ∧ I64 x := by
  constructor
  · rintro ⟨cs, ⟨rfl, h⟩, rfl⟩; exact ⟨rfl, h⟩
  · rintro ⟨rfl, h⟩; exact ⟨_, ⟨rfl, h⟩, rfl⟩
theorem RV.bv {M : Nat → Prop} {w : World} {v : Value} {x : BitVec 64} : RV M w v x ↔ v = U x := by
  constructor
  · rintro ⟨cs, rfl, rfl⟩; rfl
  · rintro rfl; exact ⟨_, rfl, rfl⟩
theorem RV.b8 {M : Nat → Prop} {w : World} {v : Value} {x : BitVec 8} : RV M w v x ↔ v = U8 x := by
  constructor
  · rintro ⟨cs, rfl, rfl⟩; rfl
  · rintro rfl; exact ⟨_, rfl, rfl⟩
theorem RV.bool {M : Nat → Prop} {w : World} {v : Value} {x : Bool} : RV M w v x ↔ v = .bool x := by
  constructor
  · rintro ⟨cs, rfl, rfl⟩; rfl
  · rintro rfl; exact ⟨_, rfl, rfl⟩
theorem RV.str {M : Nat → Prop} {w : World} {v : Value} {x : ByteArray} : RV M w v x ↔ v = .string x ∧ x.size ≤ maxLen := by
  constructor
  · rintro ⟨cs, ⟨rfl, h⟩, rfl⟩; exact ⟨rfl, h⟩
  · rintro ⟨rfl, h⟩; exact ⟨_, ⟨rfl, h⟩, rfl⟩
theorem RV.list {α : Type} [GT α] {M : Nat → Prop} {w : World} {v : Value} {xs : List α} : RV M w v xs ↔ RS M w v xs := by
  constructor
  · rintro ⟨cs, ⟨u, rfl, h⟩, rfl⟩; exact h
  · intro h; exact ⟨[v], ⟨v, rfl, h⟩, rfl⟩
structure Item where
  blk : Option Nat
  holds : (Nat → Prop) → World → Prop
  lift : ∀ {M M' w w'}, holds M w → Up M w M' w' → (∀ b, blk = some b → w'.heap[b]? = w.heap[b]?) → holds M' w'
def imm {α : Type} [GT α] (v : Value) (x : α) : Item := ⟨none, fun M w => RV M w v x, fun h u _ => h.lift u⟩
def atI {α : Type} [GT α] (ad : Addr) (x : α) : Item := ⟨none, fun M w => At M w ad x, fun h u _ => h.lift u⟩
def box (b : Nat) (cs : Array Value) (t : TypeId) : Item := ⟨some b, fun M w => w.heap[b]? = some (.cells cs t (0, 0)), fun h u hb => (hb b rfl).trans h⟩
def Chunks {α : Type} [GT α] (M : Nat → Prop) (w : World) : List Value → List α → Prop
  | cs, [] => cs = []
  | cs, x :: xs => ∃ c1 c2, cs = c1 ++ c2 ∧ GT.rep M w c1 x ∧ Chunks M w c2 xs
theorem Chunks.lift {α : Type} [GT α] {M M' : Nat → Prop} {w w' : World} (u : Up M w M' w') : ∀ {xs : List α} {cs : List Value}, Chunks M w cs xs → Chunks M' w' cs xs
  | [], _, h => h
  | x :: xs, cs, ⟨c1, c2, h1, h2, h3⟩ => ⟨c1, c2, h1, GT.lift h2 u, Chunks.lift u h3⟩
theorem Chunks.length {α : Type} [GT α] {M : Nat → Prop} {w : World} : ∀ {xs : List α} {cs : List Value}, Chunks M w cs xs → cs.length = xs.length * GT.size α
  | [], _, h => by rw [show _ = [] from h]; simp
  | x :: xs, cs, ⟨c1, c2, h1, h2, h3⟩ => by rw [h1, List.length_append, GT.len h2, Chunks.length h3, List.length_cons, Nat.add_mul]; omega
theorem Chunks.append {α : Type} [GT α] {M : Nat → Prop} {w : World} : ∀ {xs ys : List α} {cs ds : List Value}, Chunks M w cs xs → Chunks M w ds ys → Chunks M w (cs ++ ds) (xs ++ ys)
  | [], ys, cs, ds, h, k => by rw [show cs = [] from h]; exact k
  | x :: xs, ys, cs, ds, ⟨c1, c2, h1, h2, h3⟩, k => ⟨c1, c2 ++ ds, by rw [h1, List.append_assoc], h2, Chunks.append h3 k⟩
theorem Chunks.oneC {α : Type} [GT α] {M : Nat → Prop} {w : World} : ∀ {xs : List α} {cs : List Value}, Chunks M w cs xs → ∀ c ∈ cs, c.oneCell' = true
  | [], _, h, c, hc => by rw [show _ = [] from h] at hc; cases hc
  | x :: xs, cs, ⟨c1, c2, h1, h2, h3⟩, c, hc => by
    rw [h1] at hc
    rcases List.mem_append.1 hc with h | h
    · exact GT.one h2 c h
    · exact Chunks.oneC h3 c h
theorem Chunks.at_ {α : Type} [GT α] {M : Nat → Prop} {w : World} : ∀ {xs : List α} {cs : List Value}, Chunks M w cs xs → ∀ i x, xs[i]? = some x → ∃ c, GT.rep M w c x ∧ ∀ j v, c[j]? = some v → cs[i * GT.size α + j]? = some v
  | [], _, _, i, x, hx => by simp at hx
  | y :: xs, cs, ⟨c1, c2, h1, h2, h3⟩, i, x, hx => by
    cases i with
    | zero =>
      simp at hx; subst hx
      refine ⟨c1, h2, fun j v hv => ?_⟩
      have hj : j < c1.length := (List.getElem?_eq_some_iff.1 hv).1
      rw [h1, Nat.zero_mul, Nat.zero_add, List.getElem?_append_left hj]; exact hv
    | succ i =>
      simp at hx
      obtain ⟨c, hc1, hc2⟩ := Chunks.at_ h3 i x hx
      refine ⟨c, hc1, fun j v hv => ?_⟩
      have hl := GT.len h2
      rw [h1, List.getElem?_append_right (by rw [hl, Nat.add_mul]; omega), hl]
      have := hc2 j v hv
      rw [show (i + 1) * GT.size α + j - GT.size α = i * GT.size α + j from by rw [Nat.add_mul]; omega]
      exact this
def own {α : Type} [GT α] (B : Nat) (e : TypeId) (v : Value) (xs : List α) : Item :=
  ⟨v.ownBlock, fun M w => ∃ cs, w.ownsRow B e (GT.size α) v xs.length cs ∧ Chunks M w cs xs, fun {M M' w w'} h u hb => by
    obtain ⟨cs, h1, h2⟩ := h
    refine ⟨cs, ⟨h1.1, ?_⟩, Chunks.lift u h2⟩
    rcases h1.2 with h3 | ⟨g, cap, cur, rfl, h4, h5, h6⟩
    · exact .inl h3
    · exact .inr ⟨g, cap, cur, rfl, h4, (hb g rfl).trans h5, h6⟩⟩
def MS (M0 : Nat → Prop) (l : List Item) (b : Nat) : Prop := M0 b ∨ ∃ it ∈ l, it.blk = some b
structure HI (M0 : Nat → Prop) (w0 w : World) (l : List Item) : Prop where
  below : Ext w0 w
  m0 : ∀ b, M0 b → b < w0.heap.size
  blks : ∀ it ∈ l, ∀ b, it.blk = some b → w0.heap.size ≤ b ∧ b < w.heap.size
  nodup : (l.filterMap (·.blk)).Nodup
  all : ∀ it ∈ l, it.holds (MS M0 l) w
section
variable {M0 : Nat → Prop} {w0 w w' : World} {l : List Item} {it it' : Item}
theorem HI.at_ (h : HI M0 w0 w l) (i : Nat) (hi : l[i]? = some it) : it.holds (MS M0 l) w := h.all it (List.mem_of_getElem? hi)
theorem HI.mb (h : HI M0 w0 w l) : ∀ b, MS M0 l b → b < w.heap.size := by
  rintro b (hb | ⟨it, hit, hb⟩)
  · exact Nat.lt_of_lt_of_le (h.m0 b hb) h.below.size
  · exact (h.blks it hit b hb).2
theorem HI.start (hM : ∀ b, M0 b → b < w.heap.size) : HI M0 w w [] :=
  ⟨Ext.refl w, hM, fun _ h => (by cases h), List.nodup_nil, fun _ h => (by cases h)⟩
theorem HI.ext (h : HI M0 w0 w l) (x : Ext w w') : HI M0 w0 w' l :=
  ⟨h.below.trans x, h.m0, fun it hit b hb => ⟨(h.blks it hit b hb).1, Nat.lt_of_lt_of_le (h.blks it hit b hb).2 x.size⟩, h.nodup,
    fun it hit => it.lift (h.all it hit) (Up.ext x) fun b hb => x.block b (h.blks it hit b hb).2⟩
theorem MS_cons_none (hn : it.blk = none) : MS M0 (it :: l) = MS M0 l := by
  funext b
  simp only [MS, List.mem_cons, eq_iff_iff]
  constructor
  · rintro (h | ⟨i, rfl | hi, hb⟩)
    · exact .inl h
    · rw [hn] at hb; cases hb
    · exact .inr ⟨i, hi, hb⟩
  · rintro (h | ⟨i, hi, hb⟩)
    · exact .inl h
    · exact .inr ⟨i, .inr hi, hb⟩
theorem HI.put (h : HI M0 w0 w l) (hn : it.blk = none) (hh : it.holds (MS M0 l) w) : HI M0 w0 w (it :: l) := by
  refine ⟨h.below, h.m0, ?_, by simpa [List.filterMap_cons, hn] using h.nodup, ?_⟩
  · intro i hi b hb
    rcases List.mem_cons.1 hi with rfl | hi
    · rw [hn] at hb; cases hb
    · exact h.blks i hi b hb
  · rw [MS_cons_none hn]
    intro i hi
    rcases List.mem_cons.1 hi with rfl | hi
    · exact hh
    · exact h.all i hi
theorem HI.new (h : HI M0 w0 w l) (x : Ext w w') (b : Nat) (hn : it.blk = some b) (hb : w.heap.size ≤ b) (hb' : b < w'.heap.size) (hh : it.holds (MS M0 (it :: l)) w') : HI M0 w0 w' (it :: l) := by
  refine ⟨h.below.trans x, h.m0, ?_, ?_, ?_⟩
  · intro i hi c hc
    rcases List.mem_cons.1 hi with rfl | hi
    · rw [hn] at hc; cases hc; exact ⟨Nat.le_trans h.below.size hb, hb'⟩
    · exact ⟨(h.blks i hi c hc).1, Nat.lt_of_lt_of_le (h.blks i hi c hc).2 x.size⟩
  · rw [List.filterMap_cons, hn]
    refine List.nodup_cons.2 ⟨?_, h.nodup⟩
    intro hm
    obtain ⟨i, hi, hib⟩ := List.mem_filterMap.1 hm
    have := (h.blks i hi b hib).2
    omega
  · intro i hi
    rcases List.mem_cons.1 hi with rfl | hi
    · exact hh
    · refine i.lift (h.all i hi) ⟨x.size, fun c hc hM => ⟨x.block c hc, ?_⟩⟩ fun c hc => x.block c (h.blks i hi c hc).2
      rintro (hc' | ⟨j, hj, hjc⟩)
      · exact hM (.inl hc')
      · rcases List.mem_cons.1 hj with rfl | hj
        · rw [hn] at hjc; cases hjc; omega
        · exact hM (.inr ⟨j, hj, hjc⟩)
theorem HI.turn (h : HI M0 w0 w l) (i : Nat) (hi : l[i]? = some it) (hos : w'.os = w.os) (hta : w'.tape = w.tape) (hou : w'.output = w.output) (hs : w.heap.size ≤ w'.heap.size)
    (hk : ∀ c, c < w.heap.size → it.blk ≠ some c → w'.heap[c]? = w.heap[c]?)
    (hb : ∀ b, it'.blk = some b → b < w'.heap.size ∧ (it.blk = some b ∨ w.heap.size ≤ b))
    (hh : it'.holds (MS M0 (l.set i it')) w') : HI M0 w0 w' (l.set i it') := by
  have hil : i < l.length := (List.getElem?_eq_some_iff.1 hi).1
  have hit : it ∈ l := List.mem_of_getElem? hi
  have hmem : ∀ j, j ∈ l.set i it' → j = it' ∨ ∃ m, m ≠ i ∧ l[m]? = some j := by
    intro j hj
    obtain ⟨m, hm, rfl⟩ := List.mem_iff_getElem.1 hj
    rw [List.getElem_set]
    split
    · exact .inl rfl
    · rename_i hne
      exact .inr ⟨m, fun e => hne e.symm, List.getElem?_eq_getElem (by simpa using hm)⟩
  -- blocks of the others differ from that of item i
  have hdis : ∀ m j b, m ≠ i → l[m]? = some j → j.blk = some b → it.blk ≠ some b := by
    intro m j b hm hj hjb hib
    exact hm (filterMap_inj (·.blk) l h.nodup m i j it hj hi (by rw [hjb]; rfl) (by rw [hjb, hib]))
  refine ⟨⟨hos.trans h.below.os, hta.trans h.below.tape, hou.trans h.below.output, Nat.le_trans h.below.size hs, fun c hc => ?_⟩, h.m0, ?_, ?_, ?_⟩
  · rw [hk c (Nat.lt_of_lt_of_le hc h.below.size) (fun e => by have := (h.blks it hit c e).1; omega)]
    exact h.below.block c hc
  · intro j hj b hjb
    rcases hmem j hj with rfl | ⟨m, hm, hjm⟩
    · obtain ⟨h1, h2⟩ := hb b hjb
      refine ⟨?_, h1⟩
      rcases h2 with h2 | h2
      · exact (h.blks it hit b h2).1
      · exact Nat.le_trans h.below.size h2
    · have := h.blks j (List.mem_of_getElem? hjm) b hjb
      exact ⟨this.1, Nat.lt_of_lt_of_le this.2 hs⟩
  · -- no two have one block
    have hsplit : l = l.take i ++ it :: l.drop (i + 1) := by
      have h1 := List.take_append_drop i l
      rw [List.drop_eq_getElem_cons hil] at h1
      have h2 : l[i] = it := by
        have := List.getElem?_eq_getElem hil
        rw [hi] at this
        exact (Option.some.inj this).symm
      rw [h2] at h1
      exact h1.symm
    have hset : l.set i it' = l.take i ++ it' :: l.drop (i + 1) := by
      rw [List.set_eq_take_append_cons_drop, if_pos hil]
    have hnd := h.nodup
    rw [hsplit] at hnd
    rw [hset]
    simp only [List.filterMap_append, List.filterMap_cons] at hnd ⊢
    have hsub : ((l.take i).filterMap (·.blk) ++ (l.drop (i + 1)).filterMap (·.blk)).Nodup := by
      refine List.Nodup.sublist ?_ hnd
      refine List.Sublist.append (List.Sublist.refl _) ?_
      cases it.blk with
      | none => exact List.Sublist.refl _
      | some b => exact List.sublist_cons_self _ _
    cases hbl : it'.blk with
    | none => simpa [hbl] using hsub
    | some b =>
      simp only []
      have hnot : ∀ j, (j ∈ l.take i ∨ j ∈ l.drop (i + 1)) → j.blk ≠ some b := by
        intro j hj hjb
        have hjm : ∃ m, m ≠ i ∧ l[m]? = some j := by
          rcases hj with hj | hj
          · obtain ⟨m, hm, rfl⟩ := List.mem_iff_getElem.1 hj
            simp only [List.length_take] at hm
            exact ⟨m, by omega, by rw [List.getElem_take]; exact List.getElem?_eq_getElem (by omega)⟩
          · obtain ⟨m, hm, rfl⟩ := List.mem_iff_getElem.1 hj
            simp only [List.length_drop] at hm
            exact ⟨i + 1 + m, by omega, by rw [List.getElem_drop]; exact List.getElem?_eq_getElem (by omega)⟩
        obtain ⟨m, hm, hjm⟩ := hjm
        rcases (hb b hbl).2 with h2 | h2
        · exact hdis m j b hm hjm hjb h2
        · have := (h.blks j (List.mem_of_getElem? hjm) b hjb).2
          omega
      have : ((l.take i).filterMap (·.blk) ++ b :: (l.drop (i + 1)).filterMap (·.blk)).Nodup := by
        rw [List.nodup_append] at hsub ⊢
        refine ⟨hsub.1, List.nodup_cons.2 ⟨?_, hsub.2.1⟩, ?_⟩
        · intro hm
          obtain ⟨j, hj, hjb⟩ := List.mem_filterMap.1 hm
          exact hnot j (.inr hj) hjb
        · intro c hc c' hc' he
          subst he
          rcases List.mem_cons.1 hc' with rfl | hc'
          · obtain ⟨j, hj, hjb⟩ := List.mem_filterMap.1 hc
            exact hnot j (.inl hj) hjb
          · exact hsub.2.2 c hc c hc' rfl
      exact this
  · intro j hj
    rcases hmem j hj with rfl | ⟨m, hm, hjm⟩
    · exact hh
    · have hjl := List.mem_of_getElem? hjm
      refine j.lift (h.all j hjl) ⟨hs, fun c hc hM => ?_⟩ fun c hc => hk c (h.blks j hjl c hc).2 (hdis m j c hm hjm hc)
      refine ⟨hk c hc fun e => hM (.inr ⟨it, hit, e⟩), ?_⟩
      rintro (h1 | ⟨q, hq, hqc⟩)
      · exact hM (.inl h1)
      · rcases hmem q hq with rfl | ⟨m', hm', hqm⟩
        · rcases (hb c hqc).2 with h2 | h2
          · exact hM (.inr ⟨it, hit, h2⟩)
          · omega
        · exact hM (.inr ⟨q, List.mem_of_getElem? hqm, hqc⟩)
theorem HI.pick (h : HI M0 w0 w l) (l' : List Item) (hs : ∀ it ∈ l', it ∈ l) (hn : (l'.filterMap (·.blk)).Nodup) : HI M0 w0 w l' :=
  ⟨h.below, h.m0, fun it hit => h.blks it (hs it hit), hn, fun it hit => it.lift (h.all it (hs it hit)) (Up.less fun b _ hb => by
    rcases hb with hb | ⟨j, hj, hjb⟩
    · exact .inl hb
    · exact .inr ⟨j, hs j hj, hjb⟩) fun _ _ => rfl⟩
theorem HI.drop (h : HI M0 w0 w l) (i : Nat) : HI M0 w0 w (l.eraseIdx i) :=
  h.pick _ (fun it hit => List.mem_of_mem_eraseIdx hit) (h.nodup.sublist ((List.eraseIdx_sublist l i).filterMap _))
theorem HI.out (h : HI M0 w0 w l) : Up (MS M0 l) w M0 w := Up.less fun b _ hb => .inl hb
end
def Gives {α : Type} [GT α] (M : Nat → Prop) (w0 : World) (x : α) (v : Value) (w : World) : Prop := Ext w0 w ∧ RV M w v x
def News {α : Type} [GT α] (w0 : World) (x : α) (v : Value) (w : World) : Prop := Ext w0 w ∧ RV (fun b => b < w0.heap.size) w v x
def Owns {α : Type} [GT α] (e : TypeId) (w0 : World) (xs : List α) (v : Value) (w : World) : Prop :=
  Ext w0 w ∧ (∀ b, v.ownBlock = some b → b < w.heap.size) ∧ (own w0.heap.size e v xs).holds (fun b => b < w0.heap.size ∨ v.ownBlock = some b) w
end Go.Ew
namespace Go.Ew
open Go.RowKit Go.IntWalk
set_option linter.unusedVariables false
set_option linter.unusedSimpArgs false
def aggT (P : Program) (t : TypeId) : Option Bool := (P.underlying t).map fun | .struct _ | .array _ _ => true | _ => false
structure TyF (P : Program) (t : TypeId) (k : Nat) (agg : Bool) (bytes : Nat) (z : Value) : Prop where
  i : (P.info? t).map (fun i => (i.zero, i.size, i.bytes)) = some (some z, k, bytes)
  a : aggT P t = some agg
section
variable {P : Program} {t e : TypeId} {k bytes : Nat} {agg : Bool} {z : Value} {w : World}
theorem TyF.info (F : TyF P t k agg bytes z) : ∃ i, P.info? t = some i ∧ i.zero = some z ∧ i.size = k ∧ i.bytes = bytes := info_parts F.i
theorem TyF.run_isAgg (F : TyF P t k agg bytes z) (w : World) : (isAgg t).run P w = .ok agg w := by
  have h := F.a
  unfold aggT at h
  cases hu : P.underlying t with
  | none => rw [hu] at h; cases h
  | some d =>
    rw [hu] at h
    simp only [Option.map_some, Option.some.injEq] at h
    subst h
    cases d <;> simp [isAgg, underlying, hu]
theorem TyF.run_size (F : TyF P t k agg bytes z) (w : World) : (sizeOf t).run P w = .ok k w := by
  obtain ⟨i, h1, _, h2, _⟩ := F.info
  simp [sizeOf, typeInfo, h1, h2]
theorem TyF.run_zero (F : TyF P t k agg bytes z) (w : World) : (zeroValue t).run P w = .ok z w := by
  obtain ⟨i, h1, h2, _⟩ := F.info
  simp [zeroValue, typeInfo, h1, h2]
theorem run_und {d : TypeDesc} (h : P.underlying t = some d) (w : World) : (underlying t).run P w = .ok d w := by simp [underlying, h]
theorem run_loadVar (F : TyF P t k agg bytes z) (hk : agg = false → k = 1) {ad : Addr} {cs : List Value} (hl : cs.length = k) (hc : ∀ j v, cs[j]? = some v → w.cell? (ad.add j) = some v) :
    (loadVar t ad).run P w = .ok (mkv agg cs) w := by
  cases agg with
  | true =>
    subst hl
    simp [loadVar, F.run_isAgg, F.run_size, run_loadCells_list w ad cs hc, mkv]
  | false =>
    match cs, hl, hc with
    | [c], _, hc =>
      have h0 : w.cell? ad = some c := by
        have := hc 0 c rfl
        rwa [show ad.add 0 = ad from by simp [Addr.add]] at this
      simp [loadVar, F.run_isAgg, h0, mkv]
    | [], hl, _ => simp at hl; have := hk rfl; omega
    | _ :: _ :: _, hl, _ => simp at hl; have := hk rfl; omega
end
def AtW {α : Type} [GT α] (M : Nat → Prop) (w : World) (ad : Addr) (x : α) : Prop := ∃ cs, GT.rep M w cs x ∧ ∀ j v, cs[j]? = some v → w.cell? (ad.add j) = some v
theorem At.w {α : Type} [GT α] {M : Nat → Prop} {w : World} {ad : Addr} {x : α} (h : At M w ad x) : AtW M w ad x := let ⟨cs, h1, _, h3⟩ := h; ⟨cs, h1, h3⟩
theorem At.fst {α β : Type} [GT α] [GT β] {M : Nat → Prop} {w : World} {ad : Addr} {x : α × β} (h : At M w ad x) : At M w ad x.1 := by
  obtain ⟨_, ⟨c1, c2, rfl, h1, h2⟩, hM, hc⟩ := h
  exact ⟨c1, h1, hM, fun j v hv => hc j v (by rw [List.getElem?_append_left (List.getElem?_eq_some_iff.1 hv).1]; exact hv)⟩
theorem At.snd {α β : Type} [GT α] [GT β] {M : Nat → Prop} {w : World} {ad : Addr} {x : α × β} (h : At M w ad x) : At M w (ad.add (GT.size α)) x.2 := by
  obtain ⟨_, ⟨c1, c2, rfl, h1, h2⟩, hM, hc⟩ := h
  refine ⟨c2, h2, by rw [add_block]; exact hM, fun j v hv => ?_⟩
  rw [add_add]
  refine hc _ v ?_
  rw [List.getElem?_append_right (by rw [GT.len h1]; omega), GT.len h1]
  rw [show GT.size α + j - GT.size α = j from by omega]
  exact hv
theorem AtW.fst {α β : Type} [GT α] [GT β] {M : Nat → Prop} {w : World} {ad : Addr} {x : α × β} (h : AtW M w ad x) : AtW M w ad x.1 := by
  obtain ⟨_, ⟨c1, c2, rfl, h1, h2⟩, hc⟩ := h
  exact ⟨c1, h1, fun j v hv => hc j v (by rw [List.getElem?_append_left (List.getElem?_eq_some_iff.1 hv).1]; exact hv)⟩
theorem AtW.snd {α β : Type} [GT α] [GT β] {M : Nat → Prop} {w : World} {ad : Addr} {x : α × β} (h : AtW M w ad x) : AtW M w (ad.add (GT.size α)) x.2 := by
  obtain ⟨_, ⟨c1, c2, rfl, h1, h2⟩, hc⟩ := h
  refine ⟨c2, h2, fun j v hv => ?_⟩
  rw [add_add]
  refine hc _ v ?_
  rw [List.getElem?_append_right (by rw [GT.len h1]; omega), GT.len h1]
  rw [show GT.size α + j - GT.size α = j from by omega]
  exact hv
section
variable {P : Program} {n : Nat} {ops : Array Oper} {f : Slots} {w : World} {K : Slots → World → Prop} {x y c : Operand} {d : Nat} {ty T T2 e : TypeId} {ps : String} {af : Array Edge} {v v2 : Value} {a b : Int} {M M0 : Nat → Prop} {w0 : World} {l : List Item} {kk : IntKind} {bytes : Nat} {z : Value} {ad : Addr} {size : Nat} {agg : Bool}
theorem ldW {α : Type} [GT α] {xv : α} (hA : AtW M w ad xv) (F : TyF P T (GT.size α) (GT.agg α) bytes z) (ox : okT n x = true) (hx : ev f x = .pointer (some ad))
    (h : ∀ v, RV M w v xv → K (upd f d v) w) : SO P n ops ⟨some d, .load T x, ty, ps, af, none⟩ f w K := by
  obtain ⟨cs, h1, h2⟩ := hA
  exact SO.value (v := mkv (GT.agg α) cs) (by
    simp [execOp, eval_acts ox, hx, Instr.loadAt, Instr.sureAddr, run_loadVar F GT.single (GT.len h1) h2]) (h _ ⟨cs, h1, rfl⟩)
theorem ldI {i : Int} (hA : AtW M w ad i) (F : TyF P T 1 false bytes z) (ox : okT n x = true) (hx : ev f x = .pointer (some ad)) (h : I64 i → K (upd f d (.int .i64 i)) w) :
    SO P n ops ⟨some d, .load T x, ty, ps, af, none⟩ f w K := ldW hA F ox hx fun v hv => by obtain ⟨rfl, hi⟩ := RV.int.1 hv; exact h hi
theorem ldU {u : BitVec 64} (hA : AtW M w ad u) (F : TyF P T 1 false bytes z) (ox : okT n x = true) (hx : ev f x = .pointer (some ad)) (h : K (upd f d (U u)) w) :
    SO P n ops ⟨some d, .load T x, ty, ps, af, none⟩ f w K := ldW hA F ox hx fun v hv => by rw [RV.bv.1 hv]; exact h
theorem ld8 {u : BitVec 8} (hA : AtW M w ad u) (F : TyF P T 1 false bytes z) (ox : okT n x = true) (hx : ev f x = .pointer (some ad)) (h : K (upd f d (U8 u)) w) :
    SO P n ops ⟨some d, .load T x, ty, ps, af, none⟩ f w K := ldW hA F ox hx fun v hv => by rw [RV.b8.1 hv]; exact h
theorem ldB {u : Bool} (hA : AtW M w ad u) (F : TyF P T 1 false bytes z) (ox : okT n x = true) (hx : ev f x = .pointer (some ad)) (h : K (upd f d (.bool u)) w) :
    SO P n ops ⟨some d, .load T x, ty, ps, af, none⟩ f w K := ldW hA F ox hx fun v hv => by rw [RV.bool.1 hv]; exact h
theorem ldS {u : ByteArray} (hA : AtW M w ad u) (F : TyF P T 1 false bytes z) (ox : okT n x = true) (hx : ev f x = .pointer (some ad)) (h : u.size ≤ maxLen → K (upd f d (.string u)) w) :
    SO P n ops ⟨some d, .load T x, ty, ps, af, none⟩ f w K := ldW hA F ox hx fun v hv => by obtain ⟨rfl, hi⟩ := RV.str.1 hv; exact h hi
theorem RS.explicit {α : Type} [GT α] {xs : List α} (h : RS M w v xs) : ∃ a c, v = .slice a xs.length c ∧ RV M w (.slice a xs.length c) xs := by
  obtain ⟨a, n, c, rfl, rfl, h3⟩ := h
  exact ⟨a, c, rfl, RV.list.2 ⟨a, _, c, rfl, rfl, h3⟩⟩
theorem ldL {α : Type} [GT α] {xs : List α} (hA : AtW M w ad xs) (F : TyF P T 1 false bytes z) (ox : okT n x = true) (hx : ev f x = .pointer (some ad))
    (h : ∀ a c, RV M w (.slice a xs.length c) xs → K (upd f d (.slice a xs.length c)) w) : SO P n ops ⟨some d, .load T x, ty, ps, af, none⟩ f w K :=
  ldW hA F ox hx fun v hv => by obtain ⟨a, c, rfl, hr⟩ := (RV.list.1 hv).explicit; exact h a c hr
theorem ldX {bb off : Nat} {cs : Array Value} {t : TypeId} {k : Nat} (H : HI M0 w0 w l) (i : Nat) (hi : l[i]? = some (box bb cs t)) (F : TyF P T k agg bytes z) (ox : okT n x = true) (hx : ev f x = .pointer (some ⟨bb, off, none⟩))
    (hk : agg = false → k = 1) (hl : ((cs.toList.drop off).take k).length = k) (h : K (upd f d (mkv agg ((cs.toList.drop off).take k))) w) : SO P n ops ⟨some d, .load T x, ty, ps, af, none⟩ f w K := by
  have hb : w.heap[bb]? = some (.cells cs t (0, 0)) := H.at_ i hi
  refine SO.value (v := mkv agg ((cs.toList.drop off).take k)) ?_ h
  have hc : ∀ j u, ((cs.toList.drop off).take k)[j]? = some u → w.cell? ((⟨bb, off, none⟩ : Addr).add j) = some u := by
    intro j u hu
    rw [show (⟨bb, off, none⟩ : Addr).add j = ⟨bb, off + j, none⟩ from by unfold Addr.add; split <;> simp_all, cell_of_row w bb (off + j) cs t (0, 0) hb]
    have hj : j < k := by
      have := (List.getElem?_eq_some_iff.1 hu).1
      omega
    rw [List.getElem?_take, if_pos hj, List.getElem?_drop] at hu
    simpa using hu
  simp [execOp, eval_acts ox, hx, Instr.loadAt, Instr.sureAddr, run_loadVar F hk hl hc]
def wr (cs : Array Value) (off : Nat) (vs : List Value) : Array Value := (cs.toList.take off ++ vs ++ cs.toList.drop (off + vs.length)).toArray
theorem run_storeVar (F : TyF P T size agg bytes z) {g o : Nat} {cs : Array Value} {t : TypeId} (hg : w.heap[g]? = some (.cells cs t (0, 0))) (hs : v.cells.size = size) (hf : o + v.cells.toList.length ≤ cs.size) (h1 : ∀ u ∈ v.cells.toList, u.oneCell' = true) :
    (storeVar T ⟨g, o, none⟩ v).run P w = .ok () (w.setRow g (wr cs o v.cells.toList)) := by
  have hst := run_storeCells_at P g o t v.cells.toList 0 cs w hg (by simpa using hf) h1
  simp only [Nat.add_zero] at hst
  simp [storeVar, F.run_size, hs, hst, wr]
theorem HI.wrote {g : Nat} {cs cs' : Array Value} {t : TypeId} (H : HI M0 w0 w l) (i : Nat) (hi : l[i]? = some (box g cs t)) : HI M0 w0 (w.setRow g cs') (l.set i (box g cs' t)) := by
  have hb : w.heap[g]? = some (.cells cs t (0, 0)) := H.at_ i hi
  refine H.turn i hi rfl rfl rfl (by simp) (fun c hc hne => setRow_other w g c _ (fun e => hne (by rw [e]; rfl))) (fun b hb' => ?_) (setRow_heap w g cs _ t _ hb)
  refine ⟨?_, .inl hb'⟩
  rw [size_setRow]
  exact (H.blks _ (List.mem_of_getElem? hi) b hb').2
theorem stX {dd : Option Nat} {bb off : Nat} {cs : Array Value} {t : TypeId} (H : HI M0 w0 w l) (i : Nat) (hi : l[i]? = some (box bb cs t)) (F : TyF P T size agg bytes z) (ox : okT n x = true) (oy : okT n y = true) (hx : ev f x = .pointer (some ⟨bb, off, none⟩)) (hy : ev f y = v)
    (hs : v.cells.size = size) (hf : Nat.ble (off + v.cells.toList.length) cs.size = true) (h1 : v.cells.toList.all Value.oneCell' = true)
    (h : ∀ w', HI M0 w0 w' (l.set i (box bb (wr cs off v.cells.toList) t)) → K (updO f dd undef) w') : SO P n ops ⟨dd, .store T x y, ty, ps, af, none⟩ f w K := by
  have hb : w.heap[bb]? = some (.cells cs t (0, 0)) := H.at_ i hi
  refine SO.skip ?_ (h _ (H.wrote i hi))
  simp [execOp, eval_acts ox, eval_acts oy, hx, hy, Instr.storeAt, Instr.sureAddr, run_storeVar F hb hs (by simpa using hf) (fun u hu => List.all_eq_true.1 h1 u hu)]
theorem newVar_run (t : TypeId) (v : Value) (w : World) : (newVar t v).run P w = .ok ⟨w.heap.size, 0, none⟩ (w.alloc (.cells v.cells t)) := by simp [newVar, newRow]
theorem HI.box_ (H : HI M0 w0 w l) (cs : Array Value) (t : TypeId) : HI M0 w0 (w.alloc (.cells cs t)) (box w.heap.size cs t :: l) :=
  H.new (Ext.alloc w _) w.heap.size rfl (Nat.le_refl _) (by simp) (heap_alloc_new w _)
theorem al (H : HI M0 w0 w l) (F : TyF P T size agg bytes z) (h : ∀ b w', Ext w w' → HI M0 w0 w' (box b z.cells T :: l) → K (upd f d (.pointer (some ⟨b, 0, none⟩))) w') :
    SO P n ops ⟨some d, .alloc T, ty, ps, af, none⟩ f w K :=
  SO.value (v := .pointer (some ⟨w.heap.size, 0, none⟩)) (w' := w.alloc (.cells z.cells T)) (by simp [execOp, Instr.alloc, F.run_zero, newVar_run]) (h _ _ (Ext.alloc w _) (H.box_ z.cells T))
theorem bx (H : HI M0 w0 w l) (ox : okT n x = true) (hx : ev f x = v) (h : ∀ b w', Ext w w' → HI M0 w0 w' (box b v.cells T :: l) → K (upd f d (.pointer (some ⟨b, 0, none⟩))) w') :
    SO P n ops ⟨some d, .box T x, ty, ps, af, none⟩ f w K :=
  SO.value (v := .pointer (some ⟨w.heap.size, 0, none⟩)) (w' := w.alloc (.cells v.cells T)) (by simp [execOp, Instr.box, eval_acts ox, hx, newVar_run]) (h _ _ (Ext.alloc w _) (H.box_ v.cells T))
structure FldF (P : Program) (s : TypeId) (j : Nat) (off : Nat) : Prop where
  h : ∃ fs fd, P.underlying s = some (.struct fs) ∧ fs[j]? = some fd ∧ fd.offset = off ∧ ((P.info? fd.type).map fun i => Nat.beq i.size 0) = some false
theorem fa {j off : Nat} (F : FldF P T j off) (ox : okT n x = true) (hx : ev f x = .pointer (some ad)) (h : K (upd f d (.pointer (some (ad.add off)))) w) : SO P n ops ⟨some d, .fieldAddr T x j, ty, ps, af, none⟩ f w K := by
  obtain ⟨fs, fd, h1, h2, rfl, h3⟩ := F.h
  obtain ⟨i, h4, h6⟩ := Option.map_eq_some_iff.1 h3
  have h5 : i.size ≠ 0 := by
    intro e
    rw [e] at h6
    cases h6
  exact SO.value (v := .pointer (some (ad.add fd.offset))) (by
    simp [execOp, eval_acts ox, hx, Instr.fieldAt, run_und h1, h2, Instr.sureAddr, fieldPlace, sizeOf, typeInfo, h4, h5]) h
theorem ia {α : Type} [GT α] {xs : List α} {i : Int} (hR : RV M w v xs) (ox : okT n x = true) (oy : okT n y = true) (hx : ev f x = v) (hy : ev f y = .int kk i) (hi : 0 ≤ i ∧ i < xs.length) (hu : P.underlying T = some (.slice e)) (F : TyF P e (GT.size α) agg bytes z)
    (h : ∀ ad xv, xs[i.toNat]? = some xv → At M w ad xv → K (upd f d (.pointer (some ad))) w) : SO P n ops ⟨some d, .indexAddr T x y, ty, ps, af, none⟩ f w K := by
  obtain ⟨a, m, c, rfl, h1, h2, h3, h4⟩ := RV.list.1 hR
  rcases h4 with h4 | ⟨ad, rfl, hs⟩
  · omega
  · have hlt : i.toNat < xs.length := by omega
    refine SO.value (v := .pointer (some (ad.add (i.toNat * GT.size α)))) ?_ (h _ xs[i.toNat] (List.getElem?_eq_getElem hlt) (hs _ _ (List.getElem?_eq_getElem hlt)))
    have hb : 0 ≤ i ∧ i < (m : Int) := by omega
    simp [execOp, eval_acts ox, eval_acts oy, hx, hy, Instr.indexAt, asIntOf, run_und hu, hb, F.run_size]
theorem iaO {α : Type} [GT α] {xs : List α} {B : Nat} {i : Int} (hO : (own B e v xs).holds M w) (ox : okT n x = true) (oy : okT n y = true) (hx : ev f x = v) (hy : ev f y = .int kk i) (hi : 0 ≤ i ∧ i < xs.length) (hu : P.underlying T = some (.slice e)) (F : TyF P e (GT.size α) agg bytes z)
    (h : ∀ g xv, v.ownBlock = some g → xs[i.toNat]? = some xv → AtW M w ⟨g, i.toNat * GT.size α, none⟩ xv → K (upd f d (.pointer (some ⟨g, i.toNat * GT.size α, none⟩))) w) : SO P n ops ⟨some d, .indexAddr T x y, ty, ps, af, none⟩ f w K := by
  obtain ⟨cs, h1, h2⟩ := hO
  rcases h1.2 with ⟨_, h3⟩ | ⟨g, cap, cur, rfl, h3, h4, h5, h6, h7, h8⟩
  · omega
  · have hlt : i.toNat < xs.length := by omega
    have hadd : (⟨g, 0, none⟩ : Addr).add (i.toNat * GT.size α) = ⟨g, i.toNat * GT.size α, none⟩ := by unfold Addr.add; split <;> simp_all
    refine SO.value (v := .pointer (some ⟨g, i.toNat * GT.size α, none⟩)) ?_ (h g xs[i.toNat] rfl (List.getElem?_eq_getElem hlt) ?_)
    · have hb : 0 ≤ i ∧ i < (xs.length : Int) := by omega
      simp [execOp, eval_acts ox, eval_acts oy, hx, hy, Instr.indexAt, asIntOf, run_und hu, hb, F.run_size, hadd]
    · obtain ⟨c, hc1, hc2⟩ := Chunks.at_ h2 i.toNat xs[i.toNat] (List.getElem?_eq_getElem hlt)
      refine ⟨c, hc1, fun j u hu => ?_⟩
      have hcell := h1.cells (g := g) rfl (i.toNat * GT.size α + j) u (hc2 j u hu)
      rwa [← add_add, hadd] at hcell
theorem Chunks.set {α : Type} [GT α] {M : Nat → Prop} {w : World} {y : α} {c : List Value} (hy : GT.rep M w c y) : ∀ {xs : List α} {cs : List Value} (i : Nat), i < xs.length → Chunks M w cs xs →
    Chunks M w (cs.take (i * GT.size α) ++ c ++ cs.drop (i * GT.size α + c.length)) (xs.set i y)
  | x :: xs, cs, 0, _, ⟨c1, c2, h1, h2, h3⟩ => by
    refine ⟨c, c2, ?_, hy, h3⟩
    rw [h1, Nat.zero_mul, List.take_zero, List.nil_append, Nat.zero_add, GT.len hy, ← GT.len h2, List.drop_left]
  | x :: xs, cs, i + 1, hi, ⟨c1, c2, h1, h2, h3⟩ => by
    have := Chunks.set hy i (by simpa using hi) h3
    refine ⟨c1, _, ?_, h2, this⟩
    have hl := GT.len h2
    rw [h1, show (i + 1) * GT.size α = c1.length + i * GT.size α from by rw [hl, Nat.add_mul]; omega, Nat.add_assoc]
    rw [List.take_append, List.drop_append, List.take_of_length_le (by omega), List.drop_eq_nil_of_le (by omega)]
    rw [show c1.length + i * GT.size α - c1.length = i * GT.size α from by omega, show c1.length + (i * GT.size α + c.length) - c1.length = i * GT.size α + c.length from by omega]
    simp [List.append_assoc]
theorem take_splice {β : Type} (cur cy : List β) (o n : Nat) (h : o + cy.length ≤ n) (hn : n ≤ cur.length) :
    (cur.take o ++ cy ++ cur.drop (o + cy.length)).take n = (cur.take n).take o ++ cy ++ (cur.take n).drop (o + cy.length) := by
  rw [List.take_append, List.take_append, List.drop_take, List.take_take, List.take_take, List.length_append, List.length_take]
  rw [show min n o = o from by omega, show min o n = o from by omega, show min o cur.length = o from by omega, List.take_of_length_le (l := cy) (by omega)]
theorem stO {dd : Option Nat} {α : Type} [GT α] {xs : List α} {yv : α} {B : Nat} {j g : Nat} {u : Value} (H : HI M0 w0 w l) (i : Nat) (hi : l[i]? = some (own B e v xs)) (hg : v.ownBlock = some g) (hB : B = w0.heap.size) (hj : j < xs.length) (F : TyF P T (GT.size α) agg bytes z) (ox : okT n x = true) (oy : okT n y = true)
    (hx : ev f x = .pointer (some ⟨g, j * GT.size α, none⟩)) (hy : ev f y = u) (hR : RV (MS M0 l) w u yv)
    (h : ∀ w', HI M0 w0 w' (l.set i (own B e v (xs.set j yv))) → K (updO f dd undef) w') : SO P n ops ⟨dd, .store T x y, ty, ps, af, none⟩ f w K := by
  subst hB
  obtain ⟨cs, h1, h2⟩ := H.at_ i hi
  rcases h1.2 with ⟨rfl, h3⟩ | ⟨g', cap, cur, rfl, h3, h4, h5, h6, h7, h8⟩
  · cases hg
  · have hgg : g' = g := by simpa [Value.ownBlock] using hg
    subst hgg
    obtain ⟨cy, hy1, rfl⟩ := hR
    have hcells := cells_mkv (agg := GT.agg α) (cs := cy) (fun h => by rw [GT.len hy1]; exact GT.single h) (GT.one hy1)
    have hclen := GT.len hy1
    have hfit : j * GT.size α + cy.length ≤ cur.size := by
      rw [h7, hclen]
      have : (j + 1) * GT.size α ≤ cap * GT.size α := Nat.mul_le_mul_right _ (by omega)
      rw [Nat.add_mul] at this
      omega
    have hrun := run_storeVar (P := P) (w := w) F (g := g') (o := j * GT.size α) (v := mkv (GT.agg α) cy) h4 (by rw [hcells]; simpa using hclen) (by rw [hcells]; simpa using hfit) (by rw [hcells]; simpa using GT.one hy1)
    rw [hcells] at hrun
    simp only [List.toList_toArray] at hrun
    refine SO.skip (w' := w.setRow g' (wr cur (j * GT.size α) cy)) ?_ (h _ ?_)
    · simp [execOp, eval_acts ox, eval_acts oy, hx, hy, Instr.storeAt, Instr.sureAddr, hrun]
    · have hother : ∀ c, c < w.heap.size → (own w0.heap.size e (Value.slice (some ⟨g', 0, none⟩) xs.length cap) xs).blk ≠ some c → (w.setRow g' (wr cur (j * GT.size α) cy)).heap[c]? = w.heap[c]? :=
        fun c hc hne => setRow_other w g' c _ (fun e => hne (by rw [e]; rfl))
      have hblk : ∀ b, (own w0.heap.size e (Value.slice (some ⟨g', 0, none⟩) xs.length cap) (xs.set j yv)).blk = some b → b < (w.setRow g' (wr cur (j * GT.size α) cy)).heap.size ∧ ((own w0.heap.size e (Value.slice (some ⟨g', 0, none⟩) xs.length cap) xs).blk = some b ∨ w.heap.size ≤ b) := by
        intro b hb
        refine ⟨?_, .inl hb⟩
        rw [size_setRow]
        exact (H.blks _ (List.mem_of_getElem? hi) b hb).2
      refine H.turn i hi rfl rfl rfl (by simp) hother hblk ?_
      refine ⟨cs.take (j * GT.size α) ++ cy ++ cs.drop (j * GT.size α + cy.length), ?_, ?_⟩
      · rw [List.length_set]
        have hlen : (cs.take (j * GT.size α) ++ cy ++ cs.drop (j * GT.size α + cy.length)).length = xs.length * GT.size α := by
          have hcl := h1.1
          have : (j + 1) * GT.size α ≤ xs.length * GT.size α := Nat.mul_le_mul_right _ (by omega)
          rw [Nat.add_mul] at this
          simp only [List.length_append, List.length_take, List.length_drop]
          omega
        refine ⟨hlen, .inr ⟨g', cap, wr cur (j * GT.size α) cy, rfl, h3, setRow_heap w g' cur _ e _ h4, h5, h6, ?_, ?_⟩⟩
        · simp only [wr, List.size_toArray, List.length_append, List.length_take, List.length_drop, Array.length_toList]
          omega
        · have hle : (j + 1) * GT.size α ≤ xs.length * GT.size α := Nat.mul_le_mul_right _ (by omega)
          rw [Nat.add_mul] at hle
          have hcl := h1.1
          have hsz : xs.length * GT.size α ≤ cur.size := by rw [h7]; exact Nat.mul_le_mul_right _ h5
          simp only [wr]
          rw [← h8]
          exact take_splice cur.toList cy (j * GT.size α) (xs.length * GT.size α) (by omega) (by simpa using hsz)
      · -- the elements
        have hup : Up (MS M0 l) w (MS M0 (l.set i (own w0.heap.size e (Value.slice (some ⟨g', 0, none⟩) xs.length cap) (xs.set j yv)))) (w.setRow g' (wr cur (j * GT.size α) cy)) := by
          refine ⟨by simp, fun b hb hM => ⟨setRow_other w g' b _ (fun e => hM (.inr ⟨_, List.mem_of_getElem? hi, by rw [e]; rfl⟩)), ?_⟩⟩
          rintro (hM' | ⟨it, hit, hitb⟩)
          · exact hM (.inl hM')
          · rcases List.mem_or_eq_of_mem_set hit with hit | rfl
            · exact hM (.inr ⟨it, hit, hitb⟩)
            · exact hM (.inr ⟨_, List.mem_of_getElem? hi, hitb⟩)
        exact Chunks.lift hup (Chunks.set hy1 j hj h2)
theorem lnS {ao : Option Addr} {m cc : Nat} (ox : okT n x = true) (hx : ev f x = .slice ao m cc) (hu : P.underlying T = some (.slice e)) (h : K (upd f d (.int .i64 (m : Int))) w) :
    SO P n ops ⟨some d, .call { callee := .builtin .len, args := #[x], argTypes := #[T] }, ty, ps, af, none⟩ f w K :=
  SO.value (v := .int .i64 (m : Int)) (by simp [execOp, resolve, invoke, builtin, Builtin.len_, eval_acts ox, hx, run_und hu, goInt]) h
theorem lnT {s : ByteArray} (ox : okT n x = true) (hx : ev f x = .string s) (hu : P.underlying T = some .string) (h : K (upd f d (.int .i64 (s.size : Int))) w) :
    SO P n ops ⟨some d, .call { callee := .builtin .len, args := #[x], argTypes := #[T] }, ty, ps, af, none⟩ f w K :=
  SO.value (v := .int .i64 (s.size : Int)) (by simp [execOp, resolve, invoke, builtin, Builtin.len_, eval_acts ox, hx, run_und hu, goInt]) h
theorem run_eqN {ao : Option Addr} {m cc : Nat} (hu : P.underlying T = some (.slice e)) : (binOp .eql T (.slice ao m cc) (.slice none 0 0)).run P w = .ok (.bool ao.isNone) w := by
  show ((Op.equal T (.slice ao m cc) (.slice none 0 0) >>= fun b => pure (Value.bool b)) : Sem Value).run P w = _
  have h : (Op.equal T (.slice ao m cc) (.slice none 0 0)).run P w = .ok ao.isNone w := by
    rw [show Op.equal T (.slice ao m cc) (.slice none 0 0) = Op.equalIn (9999 + 1) T (.slice ao m cc) (.slice none 0 0) from rfl]
    unfold Op.equalIn
    rw [Sem.run_bind, run_und hu]
    cases ao <;> rfl
  rw [Sem.run_bind, h]; rfl
theorem eqN {ao : Option Addr} {m cc : Nat} (ox : okT n x = true) (oy : okT n y = true) (hx : ev f x = .slice ao m cc) (hy : ev f y = .slice none 0 0) (hu : P.underlying T = some (.slice e)) (h : K (upd f d (.bool ao.isNone)) w) :
    SO P n ops ⟨some d, .binOp .eql T x y T2, ty, ps, af, none⟩ f w K :=
  SO.value (v := .bool ao.isNone) (by
    have hg : (eqGuard .eql T x y (.slice ao m cc) (.slice none 0 0)).run P w = .ok () w := by unfold eqGuard; rfl
    have hr := run_eqN (P := P) (w := w) (ao := ao) (m := m) (cc := cc) hu
    simp only [execOp, eval_acts ox, eval_acts oy, hx, hy, Sem.run_bind, hg, hr, Result.andThen_ok, Sem.run_pure]) h
end
end Go.Ew
namespace Go.Ew
open Go.RowKit Go.IntWalk
set_option linter.unusedVariables false
set_option linter.unusedSimpArgs false
theorem Ext.grown {w w' : World} (h : w.grownBy w' none) : Ext w w' := ⟨h.os, h.tape, h.output, h.size, fun k hk => h.block k hk (by simp)⟩
def Src {α : Type} [GT α] (M : Nat → Prop) (w : World) (v : Value) (ys : List α) : Prop :=
  ∃ a c, v = .slice a ys.length c ∧ (ys.length = 0 ∨ ∃ ad, a = some ad ∧ ∃ cs, Chunks M w cs ys ∧ ∀ j u, cs[j]? = some u → w.cell? (ad.add j) = some u)
theorem Seg.chunks {α : Type} [GT α] {M : Nat → Prop} {w : World} : ∀ {xs : List α} {ad : Addr}, Seg M w ad xs → ∃ cs, Chunks M w cs xs ∧ ∀ j u, cs[j]? = some u → w.cell? (ad.add j) = some u
  | [], ad, _ => ⟨[], rfl, fun j u h => by simp at h⟩
  | x :: xs, ad, h => by
    obtain ⟨c1, h1, _, h2⟩ := h 0 x rfl
    have htail : Seg M w (ad.add (GT.size α)) xs := by
      intro i y hy
      have := h (i + 1) y (by simpa using hy)
      rw [add_add]
      rwa [show (i + 1) * GT.size α = GT.size α + i * GT.size α from by rw [Nat.add_mul]; omega] at this
    obtain ⟨c2, h3, h4⟩ := Seg.chunks htail
    refine ⟨c1 ++ c2, ⟨c1, c2, rfl, h1, h3⟩, fun j u hu => ?_⟩
    rw [List.getElem?_append] at hu
    have hl := GT.len h1
    split at hu
    · have := h2 j u hu
      rwa [add_add, Nat.zero_mul, Nat.zero_add] at this
    · have := h4 _ u hu
      rw [add_add, hl] at this
      rwa [show GT.size α + (j - GT.size α) = j from by omega] at this
theorem RV.src {α : Type} [GT α] {M : Nat → Prop} {w : World} {v : Value} {ys : List α} (h : RV M w v ys) : Src M w v ys := by
  obtain ⟨a, n, c, rfl, rfl, h3, h4, h5⟩ := RV.list.1 h
  refine ⟨a, c, rfl, ?_⟩
  rcases h5 with h5 | ⟨ad, h5, h6⟩
  · exact .inl h5
  · exact .inr ⟨ad, h5, h6.chunks⟩
theorem own_src {α : Type} [GT α] {M : Nat → Prop} {w : World} {v : Value} {ys : List α} {B : Nat} {e : TypeId} (h : (own B e v ys).holds M w) : Src M w v ys := by
  obtain ⟨cs, h1, h2⟩ := h
  rcases h1.2 with ⟨rfl, h3⟩ | ⟨g, cap, cur, rfl, h3, h4, h5, h6, h7, h8⟩
  · exact ⟨none, 0, by rw [h3], .inl h3⟩
  · exact ⟨_, cap, rfl, .inr ⟨_, rfl, cs, h2, h1.cells (g := g) rfl⟩⟩
theorem own_seg {α : Type} [GT α] {M M' : Nat → Prop} {w : World} {v : Value} {ys : List α} {B : Nat} {e : TypeId} (h : (own B e v ys).holds M w) (hM : ∀ b, b < w.heap.size → M' b → M b) (hv : ∀ b, v.ownBlock = some b → ¬ M' b) : RV M' w v ys := by
  obtain ⟨cs, h1, h2⟩ := h
  refine RV.list.2 ?_
  rcases h1.2 with ⟨rfl, h3⟩ | ⟨g, cap, cur, rfl, h3, h4, h5, h6, h7, h8⟩
  · exact ⟨none, 0, 0, rfl, h3, Nat.le_refl _, by simp [maxLen], .inl rfl⟩
  · refine ⟨_, _, cap, rfl, rfl, h5, h6, .inr ⟨_, rfl, fun i x hx => ?_⟩⟩
    obtain ⟨c, hc1, hc2⟩ := Chunks.at_ h2 i x hx
    refine ⟨c, GT.lift hc1 (Up.less hM), by rw [add_block]; exact hv g rfl, fun j u hu => ?_⟩
    rw [add_add]
    exact h1.cells (g := g) rfl _ u (hc2 j u hu)
section
variable {M0 : Nat → Prop} {w0 w w' : World} {l : List Item} {α : Type} [GT α] {v : Value} {xs : List α} {e : TypeId}
theorem own_blk_lt {B : Nat} (H : HI M0 w0 w l) {i : Nat} (hi : l[i]? = some (own B e v xs)) : ∀ b, v.ownBlock = some b → w0.heap.size ≤ b ∧ b < w.heap.size := H.blks _ (List.mem_of_getElem? hi)
theorem HI.freeze {B : Nat} (H : HI M0 w0 w l) (i : Nat) (hi : l[i]? = some (own B e v xs)) : HI M0 w0 w (l.set i (imm v xs)) := by
  refine H.turn i hi rfl rfl rfl (Nat.le_refl _) (fun _ _ _ => rfl) (fun b hb => by cases hb) ?_
  have hO := H.at_ i hi
  refine own_seg hO (fun b hb hM => ?_) (fun b hb hM => ?_)
  · rcases hM with hM | ⟨it, hit, hitb⟩
    · exact .inl hM
    · rcases List.mem_or_eq_of_mem_set hit with hit | rfl
      · exact .inr ⟨it, hit, hitb⟩
      · cases hitb
  · have hbl := own_blk_lt H hi b hb
    rcases hM with hM | ⟨it, hit, hitb⟩
    · have := H.m0 b hM; omega
    · obtain ⟨m, hm, rfl⟩ := List.mem_iff_getElem.1 hit
      rw [List.getElem_set] at hitb
      split at hitb
      · cases hitb
      · rename_i hne
        have hml : m < l.length := by simpa using hm
        exact hne (filterMap_inj (·.blk) l H.nodup i m _ l[m] hi (List.getElem?_eq_getElem hml) (by show (v.ownBlock).isSome = true; rw [hb]; rfl) (by rw [hitb]; exact hb))
theorem HI.nil_ (α : Type) [GT α] (H : HI M0 w0 w l) (e : TypeId) : HI M0 w0 w (own w0.heap.size e (.slice none 0 0) ([] : List α) :: l) :=
  H.put rfl ⟨[], World.ownsRow_nil w _ e _, rfl⟩
theorem HI.gives (H : HI M0 w0 w l) (h : Gives (MS M0 l) w xs v w') : HI M0 w0 w' (imm v xs :: l) := (H.ext h.1).put rfl h.2
theorem News.gives {β : Type} [GT β] {y : β} {M : Nat → Prop} (h : News w y v w') (hM : ∀ b, M b → b < w.heap.size) : Gives M w y v w' := ⟨h.1, h.2.lift (Up.less fun b _ hb => hM b hb)⟩
theorem HI.out_own (H : HI M0 w0 w l) (i : Nat) (hi : l[i]? = some (own w0.heap.size e v xs)) (hfresh : ∀ it ∈ l, ∀ b, it.blk = some b → True) : RV M0 w v xs := by
  have hO := H.at_ i hi
  refine own_seg hO (fun b _ hb => .inl hb) (fun b hb hM => ?_)
  have := own_blk_lt H hi b hb
  have := H.m0 b hM
  omega
end
section
variable {P : Program} {n : Nat} {ops : Array Oper} {f : Slots} {w : World} {K : Slots → World → Prop} {x y c : Operand} {d : Nat} {ty T T2 e : TypeId} {ps : String} {af : Array Edge} {v v2 u : Value} {a b : Int} {M M0 : Nat → Prop} {w0 : World} {l : List Item} {kk : IntKind} {bytes : Nat} {z : Value} {ad : Addr} {size : Nat} {agg : Bool}
theorem owns_explicit {B : Nat} {s m : Nat} {cs : List Value} (h : w.ownsRow B e s v m cs) : ∃ a c, v = .slice a m c := by
  rcases h.2 with ⟨rfl, rfl⟩ | ⟨g, cap, cur, rfl, _⟩
  · exact ⟨none, 0, rfl⟩
  · exact ⟨_, cap, rfl⟩
theorem ap {α : Type} [GT α] {xs ys : List α} {B : Nat} (H : HI M0 w0 w l) (i : Nat) (hi : l[i]? = some (own B e v xs)) (hB : B = w0.heap.size) (ox : okT n x = true) (oy : okT n y = true) (hx : ev f x = v) (hy : ev f y = u)
    (hs : Src (MS M0 l) w u ys) (hu : P.underlying T = some (.slice e)) (F : TyF P e (GT.size α) agg bytes z) (hz : z.cells.size = GT.size α) (hl : (xs.length + ys.length) * bytes ≤ 140737488355328) (hl2 : xs.length + ys.length ≤ 9223372036854775807)
    (h : ∀ a c w', HI M0 w0 w' (l.set i (own B e (.slice a (xs ++ ys).length c) (xs ++ ys))) → K (upd f d (.slice a (xs ++ ys).length c)) w') :
    SO P n ops ⟨some d, .call { callee := .builtin .append, args := #[x, y], argTypes := #[T, T] }, ty, ps, af, none⟩ f w K := by
  subst hB
  obtain ⟨cs, h1, h2⟩ := H.at_ i hi
  obtain ⟨a0, c0, rfl, hsrc⟩ := hs
  obtain ⟨inf, hi1, hi2, hi3, hi4⟩ := F.info
  have hlt : ∀ b, v.ownBlock = some b → w0.heap.size ≤ b ∧ b < w.heap.size := own_blk_lt H hi
  -- the run, whatever the source
  obtain ⟨v', w', hrun, hown, hgr, hch⟩ : ∃ v' w', (Builtin.append_ #[T, T] ty #[v, .slice a0 ys.length c0]).run P w = .ok v' w' ∧
      (∃ ds, w'.ownsRow w0.heap.size e (GT.size α) v' (xs.length + ys.length) (cs ++ ds) ∧ Chunks (MS M0 l) w ds ys) ∧ w.grownBy w' v.ownBlock ∧ (v'.ownBlock = v.ownBlock ∨ ∀ b, v'.ownBlock = some b → w.heap.size ≤ b ∧ b < w'.heap.size) := by
    rcases hsrc with h0 | ⟨ad, rfl, ds, hd1, hd2⟩
    · have hys : ys = [] := List.eq_nil_of_length_eq_zero h0
      subst hys
      have hr : (Builtin.append_ #[T, T] ty #[v, .slice a0 0 c0]).run P w = .ok v w := by
        rcases h1.2 with ⟨rfl, hn⟩ | ⟨g, cap, cur, rfl, hb, hg, hnc, _⟩
        · cases a0 <;> simp [Builtin.append_, run_und hu, sizeOf, typeInfo, hi1, Builtin.lenOf, Builtin.firstCells, loadCells, loadCellsFrom]
        · have : xs.length ≤ cap := hnc
          cases a0 <;> simp [Builtin.append_, run_und hu, sizeOf, typeInfo, hi1, Builtin.lenOf, Builtin.firstCells, loadCells, loadCellsFrom, this, storeCells]
      exact ⟨v, w, by simpa using hr, ⟨[], by simpa using h1, rfl⟩, ⟨rfl, rfl, rfl, Nat.le_refl _, fun _ _ _ => rfl⟩, .inl rfl⟩
    · obtain ⟨v', w', r1, r2, r3, _, r4⟩ := run_append_own_at (P := P) w w0.heap.size T ty e inf z (GT.size α) bytes hu hi1 hi2 hi3 hi4 hz GT.pos v xs.length cs h1 ad ys.length c0 ds (Chunks.length hd1) hd2 (Chunks.oneC hd1) (by simp only [maxLen]; omega) hl H.below.size
      refine ⟨v', w', r1, ⟨ds, r2, hd1⟩, r3, ?_⟩
      rcases r4 with hb | hb
      · exact .inl hb
      · refine .inr fun b hvb => ⟨?_, (r2.lt b hvb).2⟩
        rw [hb] at hvb
        cases hvb
        exact Nat.le_refl _
  obtain ⟨ds, ho, hds⟩ := hown
  obtain ⟨a', c', rfl⟩ := owns_explicit ho
  refine SO.value (v := .slice a' (xs.length + ys.length) c') (w' := w') ?_ ?_
  · simp [execOp, resolve, invoke, builtin, eval_acts ox, eval_acts oy, hx, hy, hrun]
  · have := h a' c' w'
    rw [List.length_append] at this
    refine this ?_
    have hblk : ∀ b, (own w0.heap.size e (.slice a' (xs.length + ys.length) c') (xs ++ ys)).blk = some b → b < w'.heap.size ∧ ((own w0.heap.size e v xs).blk = some b ∨ w.heap.size ≤ b) := by
      intro b hb
      refine ⟨(ho.lt b hb).2, ?_⟩
      rcases hch with hch | hch
      · exact .inl (by rw [← hb]; exact hch.symm)
      · exact .inr (hch b hb).1
    refine H.turn i hi hgr.os hgr.tape hgr.output hgr.size (fun c hc hne => hgr.block c hc (fun e => hne e.symm)) hblk ?_
    refine ⟨cs ++ ds, by rw [List.length_append]; exact ho, ?_⟩
    refine Chunks.lift ?_ (Chunks.append h2 hds)
    refine ⟨hgr.size, fun b hb hM => ⟨hgr.block b hb (fun e => hM (.inr ⟨_, List.mem_of_getElem? hi, e.symm⟩)), ?_⟩⟩
    rintro (hM' | ⟨it, hit, hitb⟩)
    · exact hM (.inl hM')
    · rcases List.mem_or_eq_of_mem_set hit with hit | rfl
      · exact hM (.inr ⟨it, hit, hitb⟩)
      · rcases (hblk b hitb).2 with h' | h'
        · exact hM (.inr ⟨_, List.mem_of_getElem? hi, h'⟩)
        · omega
theorem lit_own {α : Type} [GT α] {M : Nat → Prop} {xs : List α} {cells : Array Value} {B : Nat} {w w' : World} (hx : Ext w w') (hB : B ≤ w.heap.size) (hh : w'.heap[w.heap.size]? = some (.cells cells e (0, 0))) (hc : Chunks M w cells.toList xs) (hl : xs.length ≤ maxLen) {M' : Nat → Prop} (hM : ∀ b, b < w.heap.size → M' b → M b) :
    (own B e (.slice (some ⟨w.heap.size, 0, none⟩) xs.length xs.length) xs).holds M' w' := by
  refine ⟨cells.toList, ⟨Chunks.length hc, .inr ⟨w.heap.size, xs.length, cells, rfl, hB, hh, Nat.le_refl _, hl, ?_, ?_⟩⟩, Chunks.lift ⟨hx.size, fun b hb hn => ⟨hx.block b hb, fun h => hn (hM b hb h)⟩⟩ hc⟩
  · have := Chunks.length hc; simpa using this
  · rw [List.take_of_length_le (by rw [Chunks.length hc]; exact Nat.le_refl _)]
theorem MS_new {it : Item} {b : Nat} (hn : it.blk = some b) : ∀ c, c < b → MS M0 (it :: l) c → MS M0 l c := by
  rintro c hc (h | ⟨j, hj, hjc⟩)
  · exact .inl h
  · rcases List.mem_cons.1 hj with rfl | hj
    · rw [hn] at hjc; cases hjc; omega
    · exact .inr ⟨j, hj, hjc⟩
theorem pb0 : (([] : List (Nat × Operand)).map fun p => (p.1, ev f p.2)) = [] := rfl
theorem pbc {i : Nat} {L : List (Nat × Operand)} {V : List (Nat × Value)} (h : ev f x = v) (t : (L.map fun p => (p.1, ev f p.2)) = V) : (((i, x) :: L).map fun p => (p.1, ev f p.2)) = (i, v) :: V := by
  rw [List.map_cons, t, h]
theorem bs {α : Type} [GT α] {xs : List α} {len : Nat} {L : List (Nat × Operand)} {V : List (Nat × Value)} {cells : Array Value} (H : HI M0 w0 w l) (ol : okL n (L.map (·.2)) = true) (hL : (L.map fun p => (p.1, ev f p.2)) = V)
    (hb : ∀ w, (Instr.buildSlice T len V.toArray).run P w = .ok (.slice (some ⟨w.heap.size, 0, none⟩) len len) (w.alloc (.cells cells e)))
    (hc : Chunks (MS M0 l) w cells.toList xs) (hl : xs.length = len) (hm : len ≤ maxLen)
    (h : ∀ g w', Ext w w' → HI M0 w0 w' (own w0.heap.size e (.slice (some ⟨g, 0, none⟩) len len) xs :: l) → K (upd f d (.slice (some ⟨g, 0, none⟩) len len)) w') :
    SO P n ops ⟨some d, .buildSlice T len L.toArray, ty, ps, af, none⟩ f w K := by
  subst hl hL
  refine SO.value (v := .slice (some ⟨w.heap.size, 0, none⟩) xs.length xs.length) (w' := w.alloc (.cells cells e)) ?_ (h _ _ (Ext.alloc w _) ?_)
  · have he : (L.map fun p => (p.1, (acts n f).eval p.2)) = L.map fun p => (p.1, ev f p.2) := by
      apply List.map_congr_left
      intro p hp
      rw [eval_acts (List.all_eq_true.1 ol p.2 (List.mem_map.2 ⟨p, hp, rfl⟩))]
    simp only [execOp, List.map_toArray]
    have := hb w
    rw [← he] at this
    simp [this]
  · refine H.new (Ext.alloc w _) w.heap.size rfl (Nat.le_refl _) (by simp) ?_
    exact lit_own (Ext.alloc w _) H.below.size (heap_alloc_new w _) hc hm (MS_new (b := w.heap.size) rfl)
theorem mk {α : Type} [GT α] {m : Nat} {zx : α} (H : HI M0 w0 w l) (ox : okT n x = true) (oy : okT n y = true) (hx : ev f x = .int .i64 (m : Int)) (hy : ev f y = .int .i64 (m : Int)) (hu : P.underlying T = some (.slice e)) (F : TyF P e (GT.size α) (GT.agg α) bytes z)
    (hz : ∀ M w, GT.rep (α := α) M w z.cells.toList zx) (hb : bytes * m ≤ 281474976710656) (hm : m ≤ 9223372036854775807)
    (h : ∀ g w', Ext w w' → HI M0 w0 w' (own w0.heap.size e (.slice (some ⟨g, 0, none⟩) m m) (List.replicate m zx) :: l) → K (upd f d (.slice (some ⟨g, 0, none⟩) m m)) w') :
    SO P n ops ⟨some d, .makeSlice T x y, ty, ps, af, none⟩ f w K := by
  obtain ⟨inf, hi1, hi2, hi3, hi4⟩ := F.info
  obtain ⟨w', hrun, hown, hgr⟩ := run_make_full (P := P) w w0.heap.size T e inf z (GT.size α) hu hi1 hi2 hi3 .i64 .i64 m (by rw [hi4]; exact hb) (by simp only [maxLen]; omega) H.below.size
  refine SO.value (v := .slice (some ⟨w.heap.size, 0, none⟩) m m) (w' := w') (by simp [execOp, eval_acts ox, eval_acts oy, hx, hy, hrun]) (h _ _ (Ext.grown hgr) ?_)
  refine H.new (Ext.grown hgr) w.heap.size rfl (Nat.le_refl _) ((hown.lt _ rfl).2) ?_
  refine ⟨_, by rw [List.length_replicate]; exact hown, ?_⟩
  -- the cells are m times the zero value's
  have hzl : z.cells.toList.length = GT.size α := GT.len (hz (fun _ => False) w)
  have key : ∀ k, (madeCells z.cells (k * GT.size α)).toList = (List.replicate k z.cells.toList).flatten := by
    intro k
    apply List.ext_getElem
    · simp [madeCells, hzl, Nat.mul_comm]
    · intro i h1 h2
      have hik : i < k * GT.size α := by simpa [madeCells] using h1
      simp only [madeCells]
      have hs : z.cells.size = GT.size α := by simpa using hzl
      have hpos : 0 < GT.size α := GT.pos
      have hlt : i % GT.size α < z.cells.size := by rw [hs]; exact Nat.mod_lt _ hpos
      have e2 : ((List.replicate k z.cells.toList).flatten)[i]? = z.cells.toList[i % GT.size α]? := by
        clear h1 h2 hlt
        induction k generalizing i with
        | zero => simp at hik
        | succ k ih =>
          rw [List.replicate_succ, List.flatten_cons, List.getElem?_append]
          split
          · rename_i hl
            rw [hzl] at hl
            rw [Nat.mod_eq_of_lt hl]
          · rename_i hl
            rw [hzl] at hl ⊢
            rw [ih (i - GT.size α) (by rw [Nat.add_mul] at hik; omega)]
            rw [show i % GT.size α = (i - GT.size α) % GT.size α from by
              rw [Nat.mod_eq_sub_mod (by omega)]]
      have e3 := List.getElem?_eq_getElem h2
      rw [e2, List.getElem?_eq_getElem (by simpa using hlt)] at e3
      rw [← Option.some.inj e3]
      simp only [Array.getElem_toList, Array.getElem_map, Array.getElem_range, hs]
      rw [getElem!_pos z.cells (i % GT.size α) hlt]
  have hcs : ∀ k M w, Chunks (α := α) M w ((List.replicate k z.cells.toList).flatten) (List.replicate k zx) := by
    intro k
    induction k with
    | zero => intro M w; rfl
    | succ k ih => intro M w; exact ⟨_, _, by rw [List.replicate_succ, List.flatten_cons], hz M w, ih M w⟩
  rw [key]
  exact hcs _ _ _
theorem mk0 {α : Type} [GT α] {m : Nat} (H : HI M0 w0 w l) (ox : okT n x = true) (oy : okT n y = true) (hx : ev f x = .int .i64 0) (hy : ev f y = .int .i64 (m : Int)) (hu : P.underlying T = some (.slice e)) (F : TyF P e (GT.size α) agg bytes z)
    (hb : bytes * m ≤ 281474976710656) (hm : m ≤ 9223372036854775807)
    (h : ∀ g w', Ext w w' → HI M0 w0 w' (own w0.heap.size e (.slice (some ⟨g, 0, none⟩) 0 m) ([] : List α) :: l) → K (upd f d (.slice (some ⟨g, 0, none⟩) 0 m)) w') :
    SO P n ops ⟨some d, .makeSlice T x y, ty, ps, af, none⟩ f w K := by
  obtain ⟨inf, hi1, hi2, hi3, hi4⟩ := F.info
  obtain ⟨w', hrun, hown, hgr⟩ := run_make_own (P := P) w w0.heap.size T e inf z (GT.size α) hu hi1 hi2 hi3 .i64 .i64 m (by rw [hi4]; exact hb) (by simp only [maxLen]; omega) H.below.size
  refine SO.value (v := .slice (some ⟨w.heap.size, 0, none⟩) 0 m) (w' := w') (by simp [execOp, eval_acts ox, eval_acts oy, hx, hy, hrun]) (h _ _ (Ext.grown hgr) ?_)
  exact H.new (Ext.grown hgr) w.heap.size rfl (Nat.le_refl _) ((hown.lt _ rfl).2) ⟨[], hown, rfl⟩
theorem RV.cut {α : Type} [GT α] {M : Nat → Prop} {w : World} {ao : Option Addr} {m cc : Nat} {xs : List α} (h : RV M w (.slice ao m cc) xs) (lo hi : Nat) (h1 : lo ≤ hi) (h2 : hi ≤ xs.length) (hc : cc = lo → xs.length = lo) :
    RV M w (.slice (if cc = lo then ao else ao.map (·.add (lo * GT.size α))) (hi - lo) (cc - lo)) ((xs.drop lo).take (hi - lo)) := by
  obtain ⟨a, n, c, he, h3, h4, h5, h6⟩ := RV.list.1 h
  simp only [Value.slice.injEq] at he
  obtain ⟨rfl, rfl, rfl⟩ := he
  refine RV.list.2 ⟨_, _, _, rfl, by simp; omega, by omega, by omega, ?_⟩
  by_cases h0 : hi - lo = 0
  · exact .inl h0
  · rcases h6 with h6 | ⟨ad, rfl, hs⟩
    · omega
    · have hne : cc ≠ lo := fun e => by have := hc e; omega
      refine .inr ⟨ad.add (lo * GT.size α), by simp [hne], fun i x hx => ?_⟩
      rw [List.getElem?_take] at hx
      split at hx
      · rw [List.getElem?_drop] at hx
        have := hs (lo + i) x hx
        rw [add_add]
        rwa [← Nat.add_mul]
      · cases hx
theorem slH {α : Type} [GT α] {xs : List α} {ao : Option Addr} {cc : Nat} {hi : Int} {yhi : Operand} (hR : RV M w (.slice ao xs.length cc) xs) (ox : okT n x = true) (oh : okT n yhi = true) (hx : ev f x = .slice ao xs.length cc)
    (hh : ev f yhi = .int kk hi) (hb : 0 ≤ hi ∧ hi ≤ xs.length) (hu : P.underlying T = some (.slice e)) (F : TyF P e (GT.size α) agg bytes z)
    (h : ∀ a c, RV M w (.slice a (xs.take hi.toNat).length c) (xs.take hi.toNat) → K (upd f d (.slice a (xs.take hi.toNat).length c)) w) :
    SO P n ops ⟨some d, .slice T x none (some yhi) none, ty, ps, af, none⟩ f w K := by
  have hle : xs.length ≤ cc := by obtain ⟨a', n', c', he, _, h4, _⟩ := RV.list.1 hR; simp only [Value.slice.injEq] at he; omega
  have hc := hR.cut 0 hi.toNat (by omega) (by omega) (fun e => by omega)
  simp only [List.drop_zero, Nat.sub_zero] at hc
  have hlen : (xs.take hi.toNat).length = hi.toNat := by simp; omega
  refine SO.value (v := .slice (if cc = 0 then ao else ao.map (·.add (0 * GT.size α))) hi.toNat cc) (w' := w) ?_ (by rw [hlen] at h; exact h _ _ hc)
  have hel : P.underlying T = some (.slice (P.elem T)) := by rw [hu]; simp [Program.elem, hu]
  have hel2 : P.elem T = e := by simp [Program.elem, hu]
  simp [execOp, eval_acts ox, eval_acts oh, hx, hh, Instr.sliceAt, run_und hu]
  have := run_slice_h (P := P) (w := w) T ao xs.length cc hel kk hi hb.1 (by omega)
  rw [hel2, F.run_size] at this
  simp [this, sliced]
theorem bd {L : List (Nat × Operand)} {V : List (Nat × Value)} {v : Value} (ol : okL n (L.map (·.2)) = true) (hL : (L.map fun p => (p.1, ev f p.2)) = V) (hb : ∀ w, (Instr.build T V.toArray).run P w = .ok v w) (h : K (upd f d v) w) :
    SO P n ops ⟨some d, .build T L.toArray, ty, ps, af, none⟩ f w K := by
  subst hL
  refine SO.value (v := v) (w' := w) ?_ h
  have he : (L.map fun p => (p.1, (acts n f).eval p.2)) = L.map fun p => (p.1, ev f p.2) := by
    apply List.map_congr_left
    intro p hp
    rw [eval_acts (List.all_eq_true.1 ol p.2 (List.mem_map.2 ⟨p, hp, rfl⟩))]
  simp only [execOp, List.map_toArray]
  have := hb w
  rw [← he] at this
  simp [this]
theorem fd {i : Nat} {u v : Value} (ox : okT n x = true) (hx : ev f x = u) (hr : ∀ w, (Instr.field T u i).run P w = .ok v w) (h : K (upd f d v) w) : SO P n ops ⟨some d, .field T x i, ty, ps, af, none⟩ f w K :=
  SO.value (v := v) (by simp [execOp, eval_acts ox, hx, hr w]) h
theorem iaA {i : Int} {m : Nat} (ox : okT n x = true) (oy : okT n y = true) (hx : ev f x = .pointer (some ad)) (hy : ev f y = .int kk i) (hi : 0 ≤ i ∧ i < (m : Int)) (hu : P.underlying T = some (.array m e)) (F : TyF P e size agg bytes z)
    (h : K (upd f d (.pointer (some (ad.add (i.toNat * size))))) w) : SO P n ops ⟨some d, .indexAddr T x y, ty, ps, af, none⟩ f w K :=
  SO.value (v := .pointer (some (ad.add (i.toNat * size)))) (by
    simp [execOp, eval_acts ox, eval_acts oy, hx, hy, Instr.indexAt, asIntOf, run_und hu, Instr.sureAddr, hi.1, hi.2, F.run_size]) h
theorem iaAn {i m : Nat} (ox : okT n x = true) (oy : okT n y = true) (hx : ev f x = .pointer (some ad)) (hy : ev f y = .int kk ((i : Nat) : Int)) (hi : i < m) (hu : P.underlying T = some (.array m e)) (F : TyF P e size agg bytes z)
    (h : K (upd f d (.pointer (some (ad.add (i * size))))) w) : SO P n ops ⟨some d, .indexAddr T x y, ty, ps, af, none⟩ f w K :=
  iaA ox oy hx hy (by omega) hu F (by rw [Int.toNat_natCast]; exact h)
theorem ixS {s : ByteArray} {i : Int} (ox : okT n x = true) (oy : okT n y = true) (hx : ev f x = .string s) (hy : ev f y = .int kk i) (hi : 0 ≤ i ∧ i < s.size) (hu : P.underlying T = some .string)
    (h : ∀ c, s[i.toNat]? = some c → K (upd f d (.int .u8 (c.toNat : Int))) w) : SO P n ops ⟨some d, .index T x y, ty, ps, af, none⟩ f w K := by
  have hlt : i.toNat < s.size := by omega
  have hg : s[i.toNat]? = some s[i.toNat] := getElem?_pos s i.toNat hlt
  exact SO.value (v := .int .u8 ((s[i.toNat]).toNat : Int)) (by
    simp [execOp, eval_acts ox, eval_acts oy, hx, hy, Instr.index, asIntOf, run_und hu, hi.1, hg]) (h _ hg)
theorem eqS {s t : ByteArray} (ox : okT n x = true) (oy : okT n y = true) (hx : ev f x = .string s) (hy : ev f y = .string t) (h : K (upd f d (.bool (decide (s = t)))) w) : SO P n ops ⟨some d, .binOp .eql T x y T2, ty, ps, af, none⟩ f w K :=
  SO.value (v := .bool (decide (s = t))) (by
    have e : (s.toList == t.toList) = decide (s = t) := by
      rw [← beq_toListBytes, Bool.eq_iff_iff]
      rcases s with ⟨a⟩
      rcases t with ⟨b⟩
      show (a == b) = true ↔ _
      simp
    have hg : (eqGuard .eql T x y (.string s) (.string t)).run P w = .ok () w := by unfold eqGuard; rfl
    simp only [execOp, eval_acts ox, eval_acts oy, hx, hy, Sem.run_bind, hg, Result.andThen_ok]
    simp [binOp, Op.stringOp, e]) h
theorem eqB {p q : Bool} (ox : okT n x = true) (oy : okT n y = true) (hx : ev f x = .bool p) (hy : ev f y = .bool q) (hu : P.underlying T = some .bool) (h : K (upd f d (.bool (p == q))) w) : SO P n ops ⟨some d, .binOp .eql T x y T2, ty, ps, af, none⟩ f w K :=
  SO.value (v := .bool (p == q)) (by
    have hg : (eqGuard .eql T x y (.bool p) (.bool q)).run P w = .ok () w := by unfold eqGuard; rfl
    have hr : (binOp .eql T (.bool p) (.bool q)).run P w = .ok (.bool (p == q)) w := by
      show ((Op.equal T (.bool p) (.bool q) >>= fun b => pure (Value.bool b)) : Sem Value).run P w = _
      have h : (Op.equal T (.bool p) (.bool q)).run P w = .ok (p == q) w := by
        rw [show Op.equal T (.bool p) (.bool q) = Op.equalIn (9999 + 1) T (.bool p) (.bool q) from rfl]
        unfold Op.equalIn
        rw [Sem.run_bind, run_und hu]; rfl
      rw [Sem.run_bind, h]; rfl
    simp only [execOp, eval_acts ox, eval_acts oy, hx, hy, Sem.run_bind, hg, hr, Result.andThen_ok, Sem.run_pure]) h
theorem op_ {op : BinOp} {u : Value} (ox : okT n x = true) (oy : okT n y = true) (hx : ev f x = v) (hy : ev f y = v2) (hg : (eqGuard op T x y v v2).run P w = .ok () w) (hr : (binOp op T v v2).run P w = .ok u w) (h : K (upd f d u) w) :
    SO P n ops ⟨some d, .binOp op T x y T2, ty, ps, af, none⟩ f w K :=
  SO.value (v := u) (by simp only [execOp, eval_acts ox, eval_acts oy, hx, hy, Sem.run_bind, hg, hr, Result.andThen_ok, Sem.run_pure]) h
end
end Go.Ew
namespace Go.Ew
open Go.RowKit Go.IntWalk
set_option linter.unusedVariables false
set_option linter.unusedSimpArgs false
theorem ieq {v : Value} {kk : IntKind} {a b : Int} (h : v = .int kk a) (e : a = b) : v = .int kk b := e ▸ h
theorem ueq {v : Value} {a b : BitVec 64} (h : v = U a) (e : a = b) : v = U b := e ▸ h
theorem nott {b : Bool} (h : (!b) = true) : b = false := by cases b <;> simp_all
theorem notf {b : Bool} (h : (!b) = false) : b = true := by cases b <;> simp_all
theorem AtW.ext {α : Type} [GT α] {M : Nat → Prop} {w w' : World} {ad : Addr} {x : α} (h : AtW M w ad x) (e : Ext w w') : AtW M w' ad x := by
  obtain ⟨cs, h1, h2⟩ := h
  refine ⟨cs, GT.lift h1 (Up.ext e), fun j v hv => ?_⟩
  have hc := h2 j v hv
  exact (World.cell?_of_block (e.block _ (block_lt_cell hc))).trans hc
theorem rs_nil {α : Type} [GT α] (M : Nat → Prop) (w : World) : RS M w (.slice none 0 0) ([] : List α) := ⟨none, 0, 0, rfl, rfl, Nat.le_refl _, by simp [maxLen], .inl rfl⟩
theorem rv_nil {α : Type} [GT α] (M : Nat → Prop) (w : World) : RV M w (.slice none 0 0) ([] : List α) := RV.list.2 (rs_nil M w)
theorem MS_nil {M0 : Nat → Prop} : MS M0 [] = M0 := by funext b; simp [MS]
class Flat (α : Type) [GT α] : Prop where
  flat : ∀ {M w M' w' cs} {x : α}, GT.rep M w cs x → GT.rep M' w' cs x
instance : Flat Int := ⟨fun h => h⟩
instance : Flat (BitVec 64) := ⟨fun h => h⟩
instance : Flat (BitVec 8) := ⟨fun h => h⟩
instance : Flat Bool := ⟨fun h => h⟩
instance : Flat ByteArray := ⟨fun h => h⟩
instance {α β : Type} [GT α] [GT β] [Flat α] [Flat β] : Flat (α × β) := ⟨fun h => by
  obtain ⟨c1, c2, h0, h1, h2⟩ := h
  exact ⟨c1, c2, h0, Flat.flat h1, Flat.flat h2⟩⟩
theorem Chunks.flat {α : Type} [GT α] [Flat α] {M M' : Nat → Prop} {w w' : World} : ∀ {xs : List α} {cs : List Value}, Chunks M w cs xs → Chunks M' w' cs xs
  | [], _, h => h
  | x :: xs, cs, ⟨c1, c2, h1, h2, h3⟩ => ⟨c1, c2, h1, Flat.flat h2, Chunks.flat h3⟩
section
variable {M0 : Nat → Prop} {w0 w w' : World} {l l' : List Item} {α : Type} [GT α] {v : Value} {xs : List α} {x : α} {e : TypeId} {ad : Addr}
theorem HI.rv (H : HI M0 w0 w l) (i : Nat) (hi : l[i]? = some (imm v x)) : RV (MS M0 l) w v x := H.at_ i hi
theorem HI.atv (H : HI M0 w0 w l) (i : Nat) (hi : l[i]? = some (atI ad x)) : At (MS M0 l) w ad x := H.at_ i hi
theorem HI.gives_out (H : HI M0 w0 w l) (i : Nat) (hi : l[i]? = some (imm v x)) : RV M0 w v x := (H.rv i hi).lift H.out
theorem HI.outO (H : HI M0 w0 w l) (i : Nat) (hi : l[i]? = some (own w0.heap.size e v xs)) : RV M0 w v xs := H.out_own i hi (fun _ _ _ _ => trivial)
theorem nodup_filterMap {β γ : Type} (g : β → Option γ) : ∀ (is : List β), is.Nodup → (∀ i ∈ is, ∀ j ∈ is, ∀ b, g i = some b → g j = some b → i = j) → (is.filterMap g).Nodup
  | [], _, _ => List.nodup_nil
  | i :: is, hn, hg => by
    have hn' := List.nodup_cons.1 hn
    have ih := nodup_filterMap g is hn'.2 (fun a ha b hb => hg a (List.mem_cons_of_mem _ ha) b (List.mem_cons_of_mem _ hb))
    rw [List.filterMap_cons]
    cases hgi : g i with
    | none => exact ih
    | some b =>
      refine List.nodup_cons.2 ⟨fun hm => ?_, ih⟩
      obtain ⟨j, hj, hgj⟩ := List.mem_filterMap.1 hm
      have := hg i (List.mem_cons_self) j (List.mem_cons_of_mem _ hj) b hgi hgj
      exact hn'.1 (this ▸ hj)
theorem HI.pickN (H : HI M0 w0 w l) (is : List Nat) (hn : is.Nodup) (he : is.filterMap (fun i => l[i]?) = l') : HI M0 w0 w l' := by
  subst he
  refine H.pick _ (fun it hit => ?_) ?_
  · obtain ⟨i, _, hi⟩ := List.mem_filterMap.1 hit
    exact List.mem_of_getElem? hi
  · rw [List.filterMap_filterMap]
    refine nodup_filterMap _ is hn fun i _ j _ b hi hj => ?_
    obtain ⟨a, ha, hab⟩ := Option.bind_eq_some_iff.1 hi
    obtain ⟨c, hc, hcb⟩ := Option.bind_eq_some_iff.1 hj
    exact filterMap_inj (·.blk) l H.nodup i j a c ha hc (by rw [hab]; rfl) (by rw [hab, hcb])
end
theorem DSteps.rest {P : Program} {n : Nat} {l : List Oper} {k : Nat} {Φ : List (Value → World → Prop)} {f0 : Slots} {w0 : World} {i : Nat} (h : Nat.ble k i = true) : ∀ r, DSteps P n l k Φ f0 w0 i r := by
  intro r
  induction r generalizing i with
  | nil => trivial
  | cons o r ih =>
    refine ⟨fun hb => ?_, ih ?_⟩
    · simp at h hb; omega
    · simp at h ⊢; omega
theorem Owns.rv {α : Type} [GT α] {e : TypeId} {w w' : World} {xs : List α} {v : Value} {M : Nat → Prop} (h : Owns e w xs v w') (hM : ∀ b, M b → b < w.heap.size) : RV M w' v xs := by
  obtain ⟨_, hb, ho⟩ := h
  refine own_seg ho (fun b _ hb' => .inl (hM b hb')) (fun b hvb hMb => ?_)
  obtain ⟨cs, h1, _⟩ := ho
  have := (h1.lt b hvb).1
  have := hM b hMb
  omega
section
variable {P : Program} {n : Nat} {fn : Func} {R : Value → World → Prop} {f : Slots} {w w0 : World} {M0 : Nat → Prop} {l : List Item} {agg : Bool} {bytes : Nat} {z : Value} {k : Nat}
theorem tmp_get {t : Nat} (h : Nat.blt t n = true) : (acts n f).tmps.getD t undef = f t := tmp_acts h
theorem run_resultLoad {T : TypeId} {b : Nat} {cs : Array Value} {ty : TypeId} (H : HI M0 w0 w l) (i : Nat) (hi : l[i]? = some (box b cs ty)) (F : TyF P T k agg bytes z) (hk : agg = false → k = 1) (hl : ((cs.toList.drop 0).take k).length = k) :
    (loadVar T ⟨b, 0, none⟩).run P w = .ok (mkv agg ((cs.toList.drop 0).take k)) w := by
  have hb : w.heap[b]? = some (.cells cs ty (0, 0)) := H.at_ i hi
  refine run_loadVar F hk hl fun j u hu => ?_
  rw [show (⟨b, 0, none⟩ : Addr).add j = ⟨b, j, none⟩ from by unfold Addr.add; split <;> simp_all, cell_of_row w b j cs ty (0, 0) hb]
  have hj : j < k := by
    have := (List.getElem?_eq_some_iff.1 hu).1
    omega
  rw [List.getElem?_take, if_pos hj, List.getElem?_drop] at hu
  simpa using hu
theorem rc1 {T : TypeId} {b : Nat} {cs : Array Value} {ty : TypeId} {p : Nat} (H : HI M0 w0 w l) (i : Nat) (hi : l[i]? = some (box b cs ty)) (F : TyF P T k agg bytes z) (hr : fn.results = #[.cell p T]) (hp : Nat.blt p n = true) (hx : f p = .pointer (some ⟨b, 0, none⟩)) (hl : ((cs.toList.drop 0).take k).length = k) (hk : agg = false → k = 1)
    (h : R (mkv agg ((cs.toList.drop 0).take k)) w) : retQ P n fn R .ret (acts n f) w := by
  refine ⟨f, rfl, _, ?_, h⟩
  have h := run_resultLoad (P := P) H i hi F hk hl
  have h0 : (acts n f).tmps.getD p undef = .pointer (some ⟨b, 0, none⟩) := by rw [tmp_get hp, hx]
  simp only [results, hr, List.mapM_toArray]
  simp only [List.mapM_cons, List.mapM_nil]
  simp [h, h0, asAddr]
theorem rc2 {T : TypeId} {b : Nat} {cs : Array Value} {ty : TypeId} {p t : Nat} (H : HI M0 w0 w l) (i : Nat) (hi : l[i]? = some (box b cs ty)) (F : TyF P T k agg bytes z) (hr : fn.results = #[.cell p T, .tmp t]) (hp : Nat.blt p n = true) (ht : Nat.blt t n = true) (hx : f p = .pointer (some ⟨b, 0, none⟩)) (hl : ((cs.toList.drop 0).take k).length = k) (hk : agg = false → k = 1)
    (h : R (.tuple #[mkv agg ((cs.toList.drop 0).take k), f t]) w) : retQ P n fn R .ret (acts n f) w := by
  refine ⟨f, rfl, _, ?_, h⟩
  have h := run_resultLoad (P := P) H i hi F hk hl
  have h0 : (acts n f).tmps.getD p undef = .pointer (some ⟨b, 0, none⟩) := by rw [tmp_get hp, hx]
  have h2 := tmp_get (f := f) ht
  simp only [results, hr, List.mapM_toArray]
  simp only [List.mapM_cons, List.mapM_nil]
  simp [h, h0, asAddr, h2]
theorem r3 {t t2 t3 : Nat} (hr : fn.results = #[.tmp t, .tmp t2, .tmp t3]) (ht : Nat.blt t n = true) (ht2 : Nat.blt t2 n = true) (ht3 : Nat.blt t3 n = true)
    (h : R (.tuple #[f t, f t2, f t3]) w) : retQ P n fn R .ret (acts n f) w := by
  refine ⟨f, rfl, _, ?_, h⟩
  have h2 := tmp_get (f := f) ht
  have h3 := tmp_get (f := f) ht2
  have h4 := tmp_get (f := f) ht3
  simp only [results, hr, List.mapM_toArray]
  simp only [List.mapM_cons, List.mapM_nil]
  simp [h2, h3, h4]
end
theorem rv_none {α : Type} [GT α] {M : Nat → Prop} {w : World} {a : Option Addr} {n c : Nat} {xs : List α} (h : RV M w (.slice a n c) xs) (ha : a.isNone = true) : xs = [] := by
  cases a with
  | some _ => cases ha
  | none =>
    obtain ⟨a, m, c', e, h2, -, -, h5⟩ := RV.list.1 h
    injection e with e1 e2 e3
    subst e1
    rcases h5 with h5 | ⟨ad, h5, -⟩
    · exact List.length_eq_zero_iff.1 (h2.trans h5)
    · cases h5
end Go.Ew
namespace Go.Ew
open Go.RowKit
set_option linter.unusedVariables false
set_option linter.unusedSimpArgs false
def ro (b : Nat) (cs : Array Value) (t : TypeId) : Item := ⟨none, fun M w => w.heap[b]? = some (.cells cs t (0, 0)) ∧ ¬ M b, fun h u _ => by
  have hb : b < _ := (Array.getElem?_eq_some_iff.1 h.1).1
  have := u.2 b hb h.2
  exact ⟨this.1.trans h.1, this.2⟩⟩
section
variable {P : Program} {n : Nat} {ops : Array Oper} {f : Slots} {w w0 w' : World} {K : Slots → World → Prop} {M0 : Nat → Prop} {l : List Item}
variable {d : Nat} {T ty e : TypeId} {ps : String} {af : Array Edge} {x y : Operand} {v : Value}
theorem ldR {bb off : Nat} {cs : Array Value} {t : TypeId} {k bytes : Nat} {agg : Bool} {z : Value} (H : HI M0 w0 w l) (i : Nat) (hi : l[i]? = some (ro bb cs t)) (F : TyF P T k agg bytes z) (ox : okT n x = true) (hx : ev f x = .pointer (some ⟨bb, off, none⟩))
    (hk : agg = false → k = 1) (hl : ((cs.toList.drop off).take k).length = k) (h : K (upd f d (mkv agg ((cs.toList.drop off).take k))) w) : SO P n ops ⟨some d, .load T x, ty, ps, af, none⟩ f w K := by
  have hb : w.heap[bb]? = some (.cells cs t (0, 0)) := (H.at_ i hi).1
  refine SO.value (v := mkv agg ((cs.toList.drop off).take k)) ?_ h
  have hc : ∀ j u, ((cs.toList.drop off).take k)[j]? = some u → w.cell? ((⟨bb, off, none⟩ : Addr).add j) = some u := by
    intro j u hu
    rw [show (⟨bb, off, none⟩ : Addr).add j = ⟨bb, off + j, none⟩ from by unfold Addr.add; split <;> simp_all, cell_of_row w bb (off + j) cs t (0, 0) hb]
    have hj : j < k := by
      have := (List.getElem?_eq_some_iff.1 hu).1
      omega
    rw [List.getElem?_take, if_pos hj, List.getElem?_drop] at hu
    simpa using hu
  simp [execOp, eval_acts ox, hx, Instr.loadAt, Instr.sureAddr, run_loadVar F hk hl hc]
end
def FP {α : Type} [GT α] (P : Program) (g : FuncId) (C : List Value) (M : Nat → Prop) (w : World) (xs : List α) (p : α → Bool) : Prop :=
  GoF P g ∧ ∀ w1 v x, x ∈ xs → Ext w w1 → RV M w1 v x → Calls P g ([v] ++ C).toArray w1 (Ret fun u w2 => u = .bool (p x) ∧ Ext w1 w2)
theorem FP.sub {α : Type} [GT α] {P : Program} {g : FuncId} {C : List Value} {M M' : Nat → Prop} {w w' : World} {xs : List α} {p : α → Bool} (h : FP P g C M w xs p) (e : Ext w w') (hM : ∀ b, M b → M' b) : FP P g C M' w' xs p :=
  ⟨h.1, fun w1 v x hx e' hv => h.2 w1 v x hx (e.trans e') (hv.lift (Up.less fun b _ hb => hM b hb))⟩
theorem MS_sub {M0 : Nat → Prop} {l : List Item} : ∀ b, M0 b → MS M0 l b := fun _ h => .inl h
theorem take_at {α : Type} {r : List α} {k : Nat} {x : α} (h : r[((k : Nat) : Int).toNat]? = some x) : r.take (k + 1) = r.take k ++ [x] := by
  rw [Int.toNat_natCast] at h
  rw [List.take_add_one, h]; rfl
theorem take_end {α : Type} {r : List α} {k : Nat} (h : r.length ≤ k) : r.take k = r := List.take_of_length_le h
theorem any_step {α : Type} {r : List α} {k : Nat} {x : α} {p : α → Bool} (h : r[((k : Nat) : Int).toNat]? = some x) (h1 : (r.take k).any p = false) (h2 : p x = false) : (r.take (k + 1)).any p = false := by
  rw [take_at h]; simp [h1, h2]
def idxF {α : Type} (p : α → Bool) (r : List α) : Int := match r.findIdx? p with | some i => i | none => -1
theorem idxF_hit {α : Type} {r : List α} {k : Nat} {x : α} {p : α → Bool} (h : r[((k : Nat) : Int).toNat]? = some x) (h1 : (r.take k).any p = false) (h2 : p x = true) : (k : Int) = idxF p r := by
  rw [Int.toNat_natCast] at h
  obtain ⟨hk, hx⟩ := List.getElem?_eq_some_iff.1 h
  have : r.findIdx? p = some k := by
    rw [List.findIdx?_eq_some_iff_getElem]
    refine ⟨hk, by rw [hx]; exact h2, fun j hj => ?_⟩
    have hm : r[j] ∈ r.take k := by
      rw [List.mem_take_iff_getElem]
      exact ⟨j, by omega, rfl⟩
    have := List.any_eq_false.1 h1 _ hm
    simpa using this
  simp [idxF, this]
theorem idxF_miss {α : Type} {r : List α} {k : Nat} {p : α → Bool} (h1 : (r.take k).any p = false) (h2 : r.length ≤ k) : (-1 : Int) = idxF p r := by
  rw [take_end h2] at h1
  have : r.findIdx? p = none := by
    rw [List.findIdx?_eq_none_iff]
    intro x hx
    simpa using List.any_eq_false.1 h1 x hx
  simp [idxF, this]
theorem idxF_any {α : Type} {p : α → Bool} {r : List α} : decide ((0 : Int) ≤ idxF p r) = r.any p := by
  unfold idxF
  cases h : r.findIdx? p with
  | none =>
    rw [List.findIdx?_eq_none_iff] at h
    have : r.any p = false := List.any_eq_false.2 (by intro x hx; simp [h x hx])
    simp [this]
  | some i =>
    rw [List.findIdx?_eq_some_iff_getElem] at h
    obtain ⟨hi, hp, _⟩ := h
    have : r.any p = true := List.any_eq_true.2 ⟨_, List.getElem_mem hi, hp⟩
    simp [this]
theorem idxF_range {α : Type} {p : α → Bool} {r : List α} : -1 ≤ idxF p r ∧ idxF p r ≤ r.length := by
  unfold idxF
  cases h : r.findIdx? p with
  | none => simp only []; omega
  | some i =>
    rw [List.findIdx?_eq_some_iff_getElem] at h
    obtain ⟨hi, _⟩ := h
    simp only []; omega
theorem rv_len {α : Type} [GT α] {M : Nat → Prop} {w : World} {a : Option Addr} {n c : Nat} {xs : List α} (h : RV M w (.slice a n c) xs) : xs.length ≤ 9223372036854775807 := by
  obtain ⟨a', m, c', e, h2, h3, h4, -⟩ := RV.list.1 h
  injection e with e1 e2 e3
  unfold maxLen at h4
  omega
def OwnsG {α : Type} [GT α] (M : Nat → Prop) (e : TypeId) (w0 : World) (xs : List α) (v : Value) (w : World) : Prop :=
  Ext w0 w ∧ (∀ b, v.ownBlock = some b → b < w.heap.size) ∧ (own w0.heap.size e v xs).holds (fun b => M b ∨ v.ownBlock = some b) w
section
variable {M0 : Nat → Prop} {w0 w w' : World} {l : List Item} {α : Type} [GT α] {v : Value} {xs : List α} {e : TypeId}
theorem HI.ownsG (H : HI M0 w0 w l) (h : OwnsG (MS M0 l) e w xs v w') : HI M0 w0 w' (own w0.heap.size e v xs :: l) := by
  obtain ⟨hx, hb, cs, h1, h2⟩ := h
  have hown : ∀ (B : Nat), B ≤ w.heap.size → w'.ownsRow B e (GT.size α) v xs.length cs := by
    intro B hB
    refine ⟨h1.1, ?_⟩
    rcases h1.2 with h3 | ⟨g, cap, cur, rfl, h3, h4⟩
    · exact .inl h3
    · exact .inr ⟨g, cap, cur, rfl, Nat.le_trans hB h3, h4⟩
  have hge : ∀ b, v.ownBlock = some b → w.heap.size ≤ b := fun b hvb => (h1.lt b hvb).1
  cases hv : v.ownBlock with
  | none =>
    refine (H.ext hx).put hv ⟨cs, hown _ H.below.size, Chunks.lift (Up.less ?_) h2⟩
    intro b hbl hM
    exact .inl hM
  | some b =>
    refine H.new hx b hv (hge b hv) (hb b hv) ⟨cs, hown _ H.below.size, Chunks.lift (Up.less ?_) h2⟩
    rintro c hc (hM | ⟨it, hit, hitc⟩)
    · exact .inl (.inl hM)
    · rcases List.mem_cons.1 hit with rfl | hit
      · exact .inr hitc
      · exact .inl (.inr ⟨it, hit, hitc⟩)
theorem HI.ownsG_out (H : HI M0 w0 w l) (i : Nat) (hi : l[i]? = some (own w0.heap.size e v xs)) : OwnsG M0 e w0 xs v w := by
  obtain ⟨cs, h1, h2⟩ := H.at_ i hi
  refine ⟨H.below, fun b hb => (own_blk_lt H hi b hb).2, cs, h1, Chunks.lift (Up.less ?_) h2⟩
  rintro b _ (hM | hb)
  · exact .inl hM
  · exact .inr ⟨_, List.mem_of_getElem? hi, hb⟩
theorem ownsG_nil {M : Nat → Prop} (h : Ext w0 w) : OwnsG M e w0 ([] : List α) (.slice none 0 0) w := ⟨h, fun b hb => (by cases hb), [], World.ownsRow_nil w _ e _, rfl⟩
theorem OwnsG.rv {M : Nat → Prop} (h : OwnsG M e w xs v w') (hM : ∀ b, M b → b < w.heap.size) : RV M w' v xs := by
  obtain ⟨_, hb, ho⟩ := h
  refine own_seg ho (fun b _ hb' => .inl hb') (fun b hvb hMb => ?_)
  obtain ⟨cs, h1, _⟩ := ho
  have := (h1.lt b hvb).1
  have := hM b hMb
  omega
end
section
variable {α : Type} {β : Type} {γ : Type} {δ : Type} {ε : Type} {ζ : Type} {V : Type} {a a' : α} {b b' : β} {c c' : γ} {d d' : δ} {e e' : ε} {z z' : ζ}
theorem cg1 (f : α → V) (h1 : a = a') : f a = f a' := by rw [h1]
theorem cg2 (f : α → β → V) (h1 : a = a') (h2 : b = b') : f a b = f a' b' := by rw [h1, h2]
theorem cg3 (f : α → β → γ → V) (h1 : a = a') (h2 : b = b') (h3 : c = c') : f a b c = f a' b' c' := by rw [h1, h2, h3]
theorem cg4 (f : α → β → γ → δ → V) (h1 : a = a') (h2 : b = b') (h3 : c = c') (h4 : d = d') : f a b c d = f a' b' c' d' := by rw [h1, h2, h3, h4]
theorem cg6 (f : α → β → γ → δ → ε → ζ → V) (h1 : a = a') (h2 : b = b') (h3 : c = c') (h4 : d = d') (h5 : e = e') (h6 : z = z') : f a b c d e z = f a' b' c' d' e' z' := by rw [h1, h2, h3, h4, h5, h6]
end
theorem rv_drop {α : Type} [GT α] {M0 : Nat → Prop} {l : List Item} {it : Item} {w : World} {v : Value} {x : α} (hn : it.blk = none) (h : RV (MS M0 (it :: l)) w v x) : RV (MS M0 l) w v x := by rwa [MS_cons_none hn] at h
end Go.Ew
namespace Go.Ew
open Go.RowKit Go.WideShapes Go.ChangeShapes
set_option linter.unusedVariables false
set_option linter.unusedSimpArgs false
abbrev NoM : Nat → Prop := fun _ => False
section
variable {P : Program} {t e : TypeId}
theorem cells_get {W : World} {a : Addr} {n : Nat} {cs : List Value} (h : W.cells? 0 a n = some cs) : ∀ j v, cs[j]? = some v → W.cell? (a.add j) = some v := by
  intro j v hv
  simp only [World.cells?, Nat.zero_le, if_true] at h
  have hl := mapM_some_length h
  have hj : j < cs.length := (List.getElem?_eq_some_iff.1 hv).1
  rw [List.length_range] at hl
  have := mapM_some_get h j j (by rw [List.getElem?_range (by omega)])
  rw [this, hv]
theorem choose_list {α : Type} {Q : Nat → α → Prop} : ∀ n : Nat, (∀ i, i < n → ∃ y, Q i y) → ∃ l : List α, l.length = n ∧ ∀ (i : Nat) (y : α), l[i]? = some y → Q i y
  | 0, _ => ⟨[], rfl, fun i y h => by simp at h⟩
  | n + 1, h => by
    obtain ⟨l, hl, hq⟩ := choose_list n fun i hi => h i (by omega)
    obtain ⟨y, hy⟩ := h n (by omega)
    refine ⟨l ++ [y], by simp [hl], fun i z hz => ?_⟩
    by_cases hi : i < l.length
    · rw [List.getElem?_append_left hi] at hz; exact hq i z hz
    · rw [List.getElem?_append_right (by omega)] at hz
      have hi0 : i - l.length = 0 := by
        have := (List.getElem?_eq_some_iff.1 hz).1
        simp at this; omega
      rw [hi0] at hz
      simp at hz
      subst hz
      rw [show i = n from by omega]
      exact hy
section
variable {H : Type} {enc : TypeId × Value → H} {W : World} {base : Nat} {v : Value} {d : DataW H} {ps : List MemPlace}
theorem top_int {k : IntKind} (ht : P.underlying t = some (.int k)) (hv : Value.okWide P W .any base t v) (h : DataW.Trod enc P W 0 (fun _ => true) true t v d ps) : ∃ n : Int, v = .int k n ∧ (Lit.int k n).wf = true := by
  obtain ⟨n, h⟩ := h
  obtain ⟨m, rfl⟩ := okWide_int ht hv
  obtain ⟨m', e, -, hw⟩ := DataW.trod_int ht h
  simp [Value.cells] at e
  subst e
  exact ⟨m, rfl, hw⟩
theorem top_u8 (ht : P.underlying t = some (.int .u8)) (hv : Value.okWide P W .any base t v) (h : DataW.Trod enc P W 0 (fun _ => true) true t v d ps) : ∃ x : BitVec 8, v = U8 x := by
  obtain ⟨n, rfl, hw⟩ := top_int ht hv h
  have hb := bounds_u8 hw
  refine ⟨BitVec.ofNat 8 n.toNat, ?_⟩
  have : ((BitVec.ofNat 8 n.toNat).toNat : Int) = n := by rw [BitVec.toNat_ofNat]; omega
  rw [U8, this]
theorem trodAll_ext {W' : World} {T : TypeId → Prop} (K : Kids P T) (hz : ∀ t e, T t → P.underlying t = some (.slice e) → 0 < P.cellsOf e) (e : Ext W W') {sp : Nat → Bool} :
    ∀ {ts : List TypeId} {vs : List Value} {ds : List (DataW H)} {ps : List MemPlace}, (∀ t ∈ ts, T t) → DataW.TrodAll enc P W 0 (fun _ => true) true ts vs ds ps → (∀ p ∈ ps, sp p.block = true) → DataW.TrodAll enc P W' 0 sp true ts vs ds ps
  | [], [], [], _, _, h, _ => h
  | t :: _, v :: _, _ :: _, _, hT, ⟨p, q, ⟨n, h1⟩, h2, hp⟩, hs => by
    refine ⟨p, q, ⟨n, ?_⟩, trodAll_ext K hz e (fun t ht => hT t (List.mem_cons.2 (Or.inr ht))) h2 (fun x hx => hs x (by rw [hp]; exact List.mem_append_right _ hx)), hp⟩
    have hr := DataW.trod_respare K hz n _ _ _ (hT _ (List.mem_cons.2 (Or.inl rfl))) h1 (spare' := sp) (fun x hx => hs x (by rw [hp]; exact List.mem_append_left _ hx))
    exact DataW.trod_carry n _ _ _ hr fun x hx => Below.same e (DataW.trod_lt n _ _ _ h1 x hx)
  | [], [], _ :: _, _, _, h, _ => h.elim
  | [], _ :: _, _, _, _, h, _ => h.elim
  | _ :: _, [], _, _, _, h, _ => h.elim
  | _ :: _, _ :: _, [], _, _, h, _ => h.elim
theorem law_close {f : Func} {s : ChangeSpec} {apart fresh handsOn again : Bool} {W W' : World} {args : Array Value} {ds gs : List (DataW H)} {before : List MemPlace} {tb : TypeId}
    (K : Kids P (· < P.types.size)) (hz : ∀ t e, t < P.types.size → P.underlying t = some (.slice e) → 0 < P.cellsOf e) (hts : ∀ t ∈ f.params.toList, t < P.types.size)
    (hvars : s.vars = []) (hW : DataW.Whole enc P f.params.toList s.vars apart W args.toList ds gs before) (e : Ext W W') (hrt : f.resultTypes = #[tb]) (hu : P.underlying tb = some .bool)
    (h1 : (s.fn H (ds ++ gs)).results = [.lit (.bool true)]) (h2 : (s.fn H (ds ++ gs)).args = ds) (h3 : (s.fn H (ds ++ gs)).vars = []) :
    s.post enc P f apart fresh handsOn again W args (.bool true) W' := by
  have hlt : ∀ p ∈ before, p.block < W.heap.size := fun p hp => hW.lt p hp
  have hW2 := hW
  obtain ⟨p, q, hA, hV, hpq, hfz, hnd⟩ := hW2
  rw [hvars] at hV
  have hq : gs = [] ∧ q = [] := by
    cases gs with
    | nil => exact ⟨rfl, hV⟩
    | cons _ _ => exact hV.elim
  obtain ⟨rfl, rfl⟩ := hq
  rw [List.append_nil] at hpq
  subst hpq
  have hold : ∀ x ∈ before, (fun b => decide (b < W.heap.size)) x.block = true := fun x hx => by simpa using hlt x hx
  have hres : ∀ (b : Nat) (sp : Nat → Bool) (hd : Bool), DataW.TrodAll enc P W' b sp hd f.resultTypes.toList ((Value.bool true).resultList f.resultTypes.size) (s.fn H (ds ++ [])).results [] := by
    intro b sp hd
    rw [h1, hrt]
    exact trodAll_mk1 (shut_bool hu _)
  have hargs : ∀ sp : Nat → Bool, (∀ x ∈ before, sp x.block = true) → DataW.TrodAll enc P W' 0 sp true f.params.toList args.toList (s.fn H (ds ++ [])).args before := by
    intro sp hsp
    rw [h2]
    exact trodAll_ext K hz e hts hA hsp
  have hvs : ∀ sp : Nat → Bool, DataW.TrodVars enc P W' sp s.vars (s.fn H (ds ++ [])).vars [] := by
    intro sp
    rw [h3, hvars]
    rfl
  refine ⟨ds, [], before, [], before, [], hW, hres _ _ _, hargs _ hold, hvs _, World.keptBut_mono (fun x hx => ⟨hx, .inr (.inl hx)⟩) (e.frame (· ∈ before)), fun _ => ?_⟩
  refine ⟨ok_one (by rw [hrt]) rfl (okWide_bool_mk hu _), (s.fn H (ds ++ [])).results ++ (s.fn H (ds ++ [])).args, (s.fn H (ds ++ [])).vars, ([] ++ before) ++ [], ⟨[] ++ before, [], trodAll_append (hargs _ (fun _ _ => rfl)) (hres _ _ _), hvs _, rfl, ?_, ?_⟩, ?_⟩
  · intro b off hp
    have hin : MemPlace.cell b off ∈ before := by simpa using hp
    rw [Below.frozen e (hlt _ hin)]
    exact hfz b off hin
  · intro ha
    simpa using hnd ha
  · intro x hx _
    simpa using hx
end
end
end Go.Ew
namespace Go.Ew
open Go.RowKit
set_option linter.unusedVariables false
set_option linter.unusedSimpArgs false
def phiI (Φ : List (Nat → Nat → Value → World → Prop)) (i lo hi : Nat) : Value → World → Prop := Φ.getD i (fun _ _ _ _ => True) lo hi
structure DStepI (P : Program) (n : Nat) (l : List Oper) (k : Nat) (Φ : List (Nat → Nat → Value → World → Prop)) (f0 : Slots) (w0 : World) (i : Nat) (o : Oper) : Prop where
  go : ∀ f w, (∀ t, (dstsK k l).contains t = false → f t = f0 t) → Ext w0 w → (∀ j, onB o j = true → Nat.blt j k = true → ∃ lo hi, w0.heap.size ≤ lo ∧ hi ≤ w.heap.size ∧ phiI Φ j lo hi (f (dstD l j)) w) →
    SO P n l.toArray o f w (fun f' w' => ∃ v, f' = updO f o.dst v ∧ Ext w w' ∧ phiI Φ i w.heap.size w'.heap.size v w')
  mono : ∀ lo hi v w w', Ext w w' → phiI Φ i lo hi v w → phiI Φ i lo hi v w'
def DStepsI (P : Program) (n : Nat) (l : List Oper) (k : Nat) (Φ : List (Nat → Nat → Value → World → Prop)) (f0 : Slots) (w0 : World) : Nat → List Oper → Prop
  | _, [] => True
  | i, o :: r => (Nat.blt i k = true → DStepI P n l k Φ f0 w0 i o) ∧ DStepsI P n l k Φ f0 w0 (i + 1) r
section
variable {P : Program} {n : Nat} {l : List Oper} {k : Nat} {Φ : List (Nat → Nat → Value → World → Prop)} {f0 : Slots} {w0 : World}
theorem DStepsI.at_ : ∀ (r : List Oper) (i : Nat), DStepsI P n l k Φ f0 w0 i r → ∀ j o, r[j]? = some o → Nat.blt (i + j) k = true → DStepI P n l k Φ f0 w0 (i + j) o
  | [], _, _, j, o, h, _ => by simp at h
  | x :: r, i, h, 0, o, hj, hk => by
    simp only [List.getElem?_cons_zero, Option.some.injEq] at hj
    subst hj
    exact h.1 hk
  | x :: r, i, h, j + 1, o, hj, hk => by
    simp only [List.getElem?_cons_succ] at hj
    have := DStepsI.at_ r (i + 1) h.2 j o hj (by rw [show i + 1 + j = i + (j + 1) from by omega]; exact hk)
    rwa [show i + 1 + j = i + (j + 1) from by omega] at this
theorem DStepsI.rest {i : Nat} (h : Nat.ble k i = true) : ∀ r, DStepsI P n l k Φ f0 w0 i r := by
  intro r
  induction r generalizing i with
  | nil => exact trivial
  | cons o r ih =>
    simp only [Nat.ble_eq] at h
    exact ⟨fun hk => by simp only [Nat.blt_eq] at hk; omega, ih (by simp only [Nat.ble_eq]; omega)⟩
section
variable {M0 : Nat → Prop} {w00 w w' : World} {l : List Item} {v : Value} {z : Value} {T : TypeId} {lo hi : Nat}
def LaidB (b : Nat) (cs : Array Value) (t : TypeId) (lo hi : Nat) (w : World) : Prop := lo ≤ b ∧ b < hi ∧ w.heap[b]? = some (.cells cs t (0, 0))
theorem LaidB.ext {b : Nat} {cs : Array Value} {t : TypeId} (h : LaidB b cs t lo hi w) (e : Ext w w') : LaidB b cs t lo hi w' :=
  ⟨h.1, h.2.1, (e.block b (Array.getElem?_eq_some_iff.1 h.2.2).1).trans h.2.2⟩
theorem HI.laid {b : Nat} {cs : Array Value} {t : TypeId} (H : HI M0 w00 w l) (x : Ext w w') (hb : w.heap.size ≤ b) (h : w'.heap[b]? = some (.cells cs t (0, 0))) : HI M0 w00 w' (box b cs t :: l) :=
  H.new x b rfl hb (Array.getElem?_eq_some_iff.1 h).1 h
theorem HI.lays (H : HI M0 w00 w l) (x : Ext w w') (bs : List (Nat × Array Value × TypeId)) (hb : ∀ q ∈ bs, w.heap.size ≤ q.1 ∧ w'.heap[q.1]? = some (.cells q.2.1 q.2.2 (0, 0))) (hn : (bs.map (·.1)).Nodup) :
    HI M0 w00 w' (bs.map (fun q => box q.1 q.2.1 q.2.2) ++ l) := by
  have hsz : ∀ q ∈ bs, q.1 < w'.heap.size := fun q hq => (Array.getElem?_eq_some_iff.1 (hb q hq).2).1
  have hfm : (bs.map (fun q => box q.1 q.2.1 q.2.2)).filterMap (·.blk) = bs.map (·.1) := by
    clear hb hn hsz
    induction bs with
    | nil => rfl
    | cons q bs ih => simp only [List.map_cons, List.filterMap_cons, ih]; rfl
  refine ⟨H.below.trans x, H.m0, ?_, ?_, ?_⟩
  · intro it hit b hbl
    rcases List.mem_append.1 hit with h | h
    · obtain ⟨q, hq, rfl⟩ := List.mem_map.1 h
      cases hbl
      exact ⟨Nat.le_trans H.below.size (hb q hq).1, hsz q hq⟩
    · exact ⟨(H.blks it h b hbl).1, Nat.lt_of_lt_of_le (H.blks it h b hbl).2 x.size⟩
  · rw [List.filterMap_append, hfm, List.nodup_append]
    refine ⟨hn, H.nodup, ?_⟩
    intro b hb1 c hc e
    subst e
    obtain ⟨q, hq, rfl⟩ := List.mem_map.1 hb1
    obtain ⟨it, hit, hib⟩ := List.mem_filterMap.1 hc
    have := (H.blks it hit _ hib).2
    have := (hb q hq).1
    omega
  · intro it hit
    rcases List.mem_append.1 hit with h | h
    · obtain ⟨q, hq, rfl⟩ := List.mem_map.1 h
      exact (hb q hq).2
    · refine it.lift (H.all it h) ⟨x.size, fun c hc hM => ⟨x.block c hc, ?_⟩⟩ fun c hc => x.block c (H.blks it h c hc).2
      rintro (hc' | ⟨j, hj, hjc⟩)
      · exact hM (.inl hc')
      · rcases List.mem_append.1 hj with hj | hj
        · obtain ⟨q, hq, rfl⟩ := List.mem_map.1 hj
          cases hjc
          have := (hb q hq).1
          omega
        · exact hM (.inr ⟨j, hj, hjc⟩)
end
section
variable {x : Operand} {v : Value} {ops : Array Oper} {f : Slots} {w : World} {K : Slots → World → Prop} {d : Nat} {ty T : TypeId} {ps : String} {af : Array Edge} {bytes size : Nat} {agg : Bool} {z : Value}
end
end
end Go.Ew
namespace Go.Ew
open Go.RowKit
set_option linter.unusedVariables false
set_option linter.unusedSimpArgs false
inductive Kd where
  | v
  | n
  | s (a j : Nat)
def isSt : Kd → Option Nat
  | .s a _ => some a
  | _ => none
def kdAt (Ks : List Kd) (i : Nat) : Kd := Ks.getD i .v
def phiV (Φ : List (Value → Prop)) (i : Nat) : Value → Prop := Φ.getD i (fun _ => True)
def zAt (Z : List (Array Value × TypeId)) (i : Nat) : Array Value × TypeId := Z.getD i (#[], 0)
def okS (n : Nat) (l : List Oper) (Ks : List Kd) : Bool :=
  okEdges 0 l && nodupB (dstsK l.length l) && (dstsK l.length l).all (fun d => Nat.blt d n) && nodupB (Ks.filterMap isSt) && Nat.beq Ks.length l.length
def SStep (P : Program) (n : Nat) (l : List Oper) (Ks : List Kd) (Φ : List (Value → Prop)) (Z : List (Array Value × TypeId)) (f0 : Slots) (w0 : World) (i : Nat) (o : Oper) : Prop :=
  match kdAt Ks i with
  | .v => o.dst.isSome = true ∧ ∀ f w, (∀ t, (dstsK l.length l).contains t = false → f t = f0 t) → Ext w0 w → (∀ j, onB o j = true → (∃ x, l[j]? = some x ∧ x.dst.isSome = true) → phiV Φ j (f (dstD l j))) →
      SO P n l.toArray o f w (fun f' w' => ∃ v, f' = updO f o.dst v ∧ w' = w ∧ phiV Φ i v)
  | .n => o.dst.isSome = true ∧ ∀ f w, (∀ t, (dstsK l.length l).contains t = false → f t = f0 t) → Ext w0 w → (∀ j, onB o j = true → (∃ x, l[j]? = some x ∧ x.dst.isSome = true) → phiV Φ j (f (dstD l j))) →
      SO P n l.toArray o f w (fun f' w' => f' = updO f o.dst (.pointer (some ⟨w.heap.size, 0, none⟩)) ∧ w' = w.alloc (.cells (zAt Z i).1 (zAt Z i).2) ∧ phiV Φ i (.pointer (some ⟨w.heap.size, 0, none⟩)))
  | .s a j => o.dst = none ∧ onB o a = true ∧ onB o j = true ∧ (∃ x, l[a]? = some x ∧ x.dst.isSome = true) ∧ (∃ x, l[j]? = some x ∧ x.dst.isSome = true) ∧ (match kdAt Ks a with | .n => True | _ => False) ∧ (∀ v, phiV Φ j v → v.cells.size = (zAt Z a).1.size) ∧
      ∀ f w b cur, Ext w0 w → f (dstD l a) = .pointer (some ⟨b, 0, none⟩) → w.heap[b]? = some (.cells cur (zAt Z a).2 (0, 0)) → cur.size = (zAt Z a).1.size → phiV Φ j (f (dstD l j)) →
      SO P n l.toArray o f w (fun f' w' => f' = f ∧ w' = w.setRow b (f (dstD l j)).cells)
def SSteps (P : Program) (n : Nat) (l : List Oper) (Ks : List Kd) (Φ : List (Value → Prop)) (Z : List (Array Value × TypeId)) (f0 : Slots) (w0 : World) : Nat → List Oper → Prop
  | _, [] => True
  | i, o :: r => SStep P n l Ks Φ Z f0 w0 i o ∧ SSteps P n l Ks Φ Z f0 w0 (i + 1) r
section
variable {P : Program} {n : Nat} {l : List Oper} {Ks : List Kd} {Φ : List (Value → Prop)} {Z : List (Array Value × TypeId)} {f0 : Slots} {w0 : World}
theorem SSteps.at_ : ∀ (r : List Oper) (i : Nat), SSteps P n l Ks Φ Z f0 w0 i r → ∀ j o, r[j]? = some o → SStep P n l Ks Φ Z f0 w0 (i + j) o
  | [], _, _, j, o, h => by simp at h
  | x :: r, i, h, 0, o, hj => by
    simp only [List.getElem?_cons_zero, Option.some.injEq] at hj
    subst hj
    exact h.1
  | x :: r, i, h, j + 1, o, hj => by
    simp only [List.getElem?_cons_succ] at hj
    have := SSteps.at_ r (i + 1) h.2 j o hj
    rwa [show i + 1 + j = i + (j + 1) from by omega] at this
def Cont (l : List Oper) (Ks : List Kd) (Z : List (Array Value × TypeId)) (L : Nat → Bool) (f : Slots) (i : Nat) (cur : Array Value) : Prop :=
  cur.size = (zAt Z i).1.size ∧ (∀ s j, Ks[s]? = some (.s i j) → L s = true → cur = (f (dstD l j)).cells) ∧ ((∀ s j, Ks[s]? = some (.s i j) → L s = false) → cur = (zAt Z i).1)
def JS (n : Nat) (l : List Oper) (Ks : List Kd) (Φ : List (Value → Prop)) (Z : List (Array Value × TypeId)) (f0 : Slots) (w0 : World) (listed : Array Bool) (a : Act) (w : World) : Prop :=
  ∃ (f : Slots) (B : Nat → Nat), a = acts n f ∧ (∀ t, (dstsK l.length l).contains t = false → f t = f0 t) ∧ Ext w0 w ∧ (∀ i, i < l.length → listed.getD i false = true → (∃ x, l[i]? = some x ∧ x.dst.isSome = true) → phiV Φ i (f (dstD l i))) ∧
    (∀ i, i < l.length → listed.getD i false = true → (match kdAt Ks i with | .n => True | _ => False) → f (dstD l i) = .pointer (some ⟨B i, 0, none⟩) ∧ w0.heap.size ≤ B i ∧ B i < w.heap.size ∧ ∃ cur, w.heap[B i]? = some (.cells cur (zAt Z i).2 (0, 0)) ∧ Cont l Ks Z (fun s => listed.getD s false) f i cur) ∧
    (∀ i j, i < l.length → j < l.length → i ≠ j → listed.getD i false = true → listed.getD j false = true → (match kdAt Ks i with | .n => True | _ => False) → (match kdAt Ks j with | .n => True | _ => False) → B i ≠ B j) ∧
    ∀ i o, listed.getD i false = true → l[i]? = some o → ∀ j, onB o j = true → listed.getD j false = true
theorem dst_ne (hN : nodupB (dstsK l.length l) = true) {i j : Nat} {oi oj : Oper} (hi : l[i]? = some oi) (hj : l[j]? = some oj) {di dj : Nat} (hdi : oi.dst = some di) (hdj : oj.dst = some dj) (hne : i ≠ j) : dj ≠ di := by
  rintro rfl
  have hnd := nodupB_nodup _ hN
  unfold dstsK at hnd
  rw [List.take_length] at hnd
  exact hne (filterMap_inj (·.dst) l hnd i j oi oj hi hj (by simp [hdi]) (by simp [hdi, hdj]))
theorem dstD_of {i : Nat} {o : Oper} (hi : l[i]? = some o) {d : Nat} (hd : o.dst = some d) : dstD l i = d := by unfold dstD; rw [hi]; simp [hd]
theorem once {s s' a j j' : Nat} (h : nodupB (Ks.filterMap isSt) = true) (h1 : Ks[s]? = some (.s a j)) (h2 : Ks[s']? = some (.s a j')) : s = s' :=
  filterMap_inj isSt Ks (nodupB_nodup _ h) s s' _ _ h1 h2 rfl rfl
theorem kd_get {s a j : Nat} (h : kdAt Ks s = .s a j) : Ks[s]? = some (.s a j) := by
  unfold kdAt at h
  rw [List.getD_eq_getElem?_getD] at h
  cases hk : Ks[s]? with
  | none => rw [hk] at h; cases h
  | some x => rw [hk] at h; simp at h; rw [h]
theorem wpAny_S {Q : Exit → Act → World → Prop} (hok : okS n l Ks = true) (hS : SSteps P n l Ks Φ Z f0 w0 0 l)
    (hend : ∀ (f : Slots) (w : World) (B : Nat → Nat), (∀ t, (dstsK l.length l).contains t = false → f t = f0 t) → Ext w0 w → (∀ i x, l[i]? = some x → x.dst.isSome = true → phiV Φ i (f (dstD l i))) →
      (∀ i, i < l.length → (match kdAt Ks i with | .n => True | _ => False) → f (dstD l i) = .pointer (some ⟨B i, 0, none⟩) ∧ w0.heap.size ≤ B i ∧ ∃ cur, w.heap[B i]? = some (.cells cur (zAt Z i).2 (0, 0)) ∧ Cont l Ks Z (fun _ => true) f i cur) →
      (∀ i j, i < l.length → j < l.length → i ≠ j → (match kdAt Ks i with | .n => True | _ => False) → (match kdAt Ks j with | .n => True | _ => False) → B i ≠ B j) → Q .normal (acts n f) w) :
    ∀ (d : Nat) (listed : Array Bool) (a : Act) (w : World), listed.size = l.length → (listed.toList.filter (fun b => !b)).length = d →
      JS n l Ks Φ Z f0 w0 listed a w → wpAny P .any l.toArray Q d listed a w := by
  simp only [okS, Bool.and_eq_true, Nat.beq_eq_true_eq] at hok
  obtain ⟨⟨⟨⟨hE, hN⟩, hn⟩, hO⟩, hKl⟩ := hok
  intro d
  induction d with
  | zero =>
    intro listed a w hsz hd hJ
    have hall : ∀ i, i < l.length → listed.getD i false = true := by
      intro i hi
      have h0 := List.eq_nil_of_length_eq_zero hd
      rw [List.filter_eq_nil_iff] at h0
      have hi' : i < listed.size := by omega
      have := h0 listed[i] (by simp)
      simp at this
      simp [Array.getD, hi', this]
    refine ⟨?_, ?_⟩
    · apply List.eq_nil_iff_forall_not_mem.2
      intro i hi
      obtain ⟨h0, o, ho, -⟩ := mem_ready.1 hi
      have hol : l[i]? = some o := by simpa using ho
      have hil : i < l.length := (List.getElem?_eq_some_iff.1 hol).1
      rw [show listed.getD i true = listed.getD i false from getD_any (by omega) _ _, hall i hil] at h0
      cases h0
    · obtain ⟨f, B, rfl, hf, hx, hφ, hB, hd2, hC⟩ := hJ
      refine hend f w B hf hx (fun i x hi hdx => ?_) (fun i hi hk => ?_) (fun i j hi hj hne hki hkj => hd2 i j hi hj hne (hall i hi) (hall j hj) hki hkj)
      · have hil := (List.getElem?_eq_some_iff.1 hi).1
        exact hφ i hil (hall i hil) ⟨x, hi, hdx⟩
      · obtain ⟨h1, h2, h3, cur, h4, h5, h6, h7⟩ := hB i hi (hall i hi) hk
        refine ⟨h1, h2, cur, h4, h5, fun s j hs _ => h6 s j hs (hall s ?_), fun hno => h7 fun s j hs => ?_⟩
        · have h9 := (List.getElem?_eq_some_iff.1 hs).1
          have h8 := Nat.eq_of_beq_eq_true hKl
          omega
        · have := hno s j hs; cases this
  | succ d ih =>
    intro listed a w hsz hd hJ
    obtain ⟨i0, hi0⟩ : ∃ i, i < l.length ∧ listed.getD i false = false := by
      apply Classical.byContradiction
      intro hno
      have : listed.toList.filter (fun b => !b) = [] := by
        rw [List.filter_eq_nil_iff]
        intro b hb
        obtain ⟨i, hi, rfl⟩ := List.mem_iff_getElem.1 hb
        simp only [Array.length_toList] at hi
        cases hb2 : listed.toList[i] with
        | true => simp
        | false =>
          exfalso
          refine hno ⟨i, by omega, ?_⟩
          simp only [Array.getElem_toList] at hb2
          simp [Array.getD, hi, hb2]
      rw [this] at hd; cases hd
    obtain ⟨m, hm1, hm2⟩ := exists_least (p := fun i => i < l.length ∧ listed.getD i false = false) ⟨i0, hi0⟩
    have hml : m < l.length := by omega
    have hom : l[m]? = some l[m] := List.getElem?_eq_getElem hml
    have hmr : m ∈ Region.ready .any l.toArray listed := by
      rw [mem_ready]
      refine ⟨?_, l[m], by simp, fun e he hb => ?_⟩
      · rw [show listed.getD m true = listed.getD m false from getD_any (by omega) _ _]; exact hm1.2
      · have hlt := okEdges_at l 0 hE m l[m] hom e he hb
        cases hb2 : listed.getD e.on false with
        | true => rfl
        | false =>
          have := hm2 e.on ⟨by omega, hb2⟩
          omega
    refine ⟨fun h0 => (by rw [h0] at hmr; cases hmr), fun i hi => ?_⟩
    obtain ⟨h0, o, ho, hedges⟩ := mem_ready.1 hi
    have hol : l[i]? = some o := by simpa using ho
    have hil : i < l.length := (List.getElem?_eq_some_iff.1 hol).1
    have h0' : listed.getD i false = false := by
      rw [show listed.getD i false = listed.getD i true from getD_any (by omega) _ _]; exact h0
    obtain ⟨f, B, rfl, hf, hx, hφ, hB, hd2, hC⟩ := hJ
    have hstep := SSteps.at_ l 0 hS i o hol
    simp only [Nat.zero_add] at hstep
    have hdone : ∀ j, onB o j = true → listed.getD j false = true := by
      intro j hj
      obtain ⟨e, he, hb, hon⟩ := onB_iff.1 hj
      subst hon
      exact hedges e he hb
    have hlt : ∀ j, listed.getD j false = true → j < l.length := by
      intro j hj
      refine Classical.byContradiction fun hn => ?_
      rw [show listed.getD j false = false from by simp [Array.getD]; omega] at hj
      cases hj
    have hcount : ((listed.setIfInBounds i true).toList.filter (fun b => !b)).length = d := by
      have hii : i < listed.size := by omega
      have hget : listed.toList[i]? = some false := by
        rw [List.getElem?_eq_getElem (by simpa using hii)]
        simp only [Array.getD, hii, dif_pos] at h0'
        simpa [Array.getInternal_eq_getElem] using h0'
      have key : ∀ (L : List Bool) (i : Nat), L[i]? = some false → ((L.set i true).filter (fun b => !b)).length + 1 = (L.filter (fun b => !b)).length := by
        intro L
        induction L with
        | nil => intro i h; simp at h
        | cons b L ihL =>
          intro i h
          cases i with
          | zero => simp at h; subst h; simp
          | succ i =>
            simp at h
            have := ihL i h
            cases b <;> simp at this ⊢ <;> omega
      have := key listed.toList i hget
      rw [Array.toList_setIfInBounds]
      omega
    have hClosed : ∀ j oj, (listed.setIfInBounds i true).getD j false = true → l[j]? = some oj → ∀ q, onB oj q = true → (listed.setIfInBounds i true).getD q false = true := by
      intro j oj hj hoj q hq
      have hq2 : listed.getD q false = true := by
        by_cases hji : i = j
        · subst hji
          rw [hol] at hoj
          cases hoj
          exact hdone q hq
        · rw [getD_set_ne false hji] at hj
          exact hC j oj hj hoj q hq
      by_cases hqi : i = q
      · subst hqi; rw [h0'] at hq2; cases hq2
      · rw [getD_set_ne false hqi]; exact hq2
    have hset : ∀ j, (listed.setIfInBounds i true).getD j false = true → j ≠ i → listed.getD j false = true := by
      intro j hj hne
      rwa [getD_set_ne false (fun e => hne e.symm)] at hj
    have hkeep : ∀ j, listed.getD j false = true → (listed.setIfInBounds i true).getD j false = true := by
      intro j hj
      by_cases hji : i = j
      · subst hji; rw [h0'] at hj; cases hj
      · rw [getD_set_ne false hji]; exact hj
    -- an operation that gives a value v, in a world in which old blocks stand
    have giv : ∀ (v : Value) (w' : World) (hdi : o.dst.isSome = true) (B' : Nat → Nat), Ext w w' → phiV Φ i v → (∀ s j, kdAt Ks i ≠ .s s j) → (∀ j, listed.getD j false = true → B' j = B j) →
        ((match kdAt Ks i with | .n => True | _ => False) → v = .pointer (some ⟨B' i, 0, none⟩) ∧ w.heap.size ≤ B' i ∧ B' i < w'.heap.size ∧ w'.heap[B' i]? = some (.cells (zAt Z i).1 (zAt Z i).2 (0, 0))) →
        JS n l Ks Φ Z f0 w0 (listed.setIfInBounds i true) (acts n (updO f o.dst v)) w' := by
      intro v w' hdi B' hxw hv hns hBB hnew
      obtain ⟨di, hdi⟩ := Option.isSome_iff_exists.1 hdi
      have hDi := dstD_of hol hdi
      have hself : updO f o.dst v (dstD l i) = v := by rw [hDi, hdi]; exact upd_same f di v
      have hoth : ∀ j oj, l[j]? = some oj → oj.dst.isSome = true → j ≠ i → updO f o.dst v (dstD l j) = f (dstD l j) := by
        intro j oj hoj hdj hne
        obtain ⟨dj, hdj⟩ := Option.isSome_iff_exists.1 hdj
        rw [dstD_of hoj hdj, hdi]
        exact upd_ne f v (dst_ne hN hol hoj hdi hdj (fun e => hne e.symm))
      have hsrc : ∀ s a j, Ks[s]? = some (.s a j) → listed.getD s false = true → updO f o.dst v (dstD l j) = f (dstD l j) := by
        intro s a j hs hls
        have hsl := hlt s hls
        have hos : l[s]? = some l[s] := List.getElem?_eq_getElem hsl
        have hst := SSteps.at_ l 0 hS s l[s] hos
        simp only [Nat.zero_add] at hst
        have hk : kdAt Ks s = .s a j := by unfold kdAt; rw [List.getD_eq_getElem?_getD, hs]; rfl
        unfold SStep at hst
        rw [hk] at hst
        obtain ⟨-, -, hoj, -, ⟨x, hxj, hxd⟩, -⟩ := hst
        have hlj := hC s l[s] hls hos j hoj
        refine hoth j x hxj hxd ?_
        rintro rfl
        rw [h0'] at hlj; cases hlj
      refine ⟨updO f o.dst v, B', rfl, fun t ht => ?_, hx.trans hxw, fun j hj hlj hdj => ?_, fun j hj hlj hkj => ?_, fun p q hp hq hpq hlp hlq hkp hkq => ?_, hClosed⟩
      · have hne : t ≠ di := by
          rintro rfl
          have := mem_dstsK (k := l.length) hol hil hdi
          rw [← List.contains_iff_mem, ht] at this
          cases this
        rw [hdi, show updO f (some di) v = upd f di v from rfl, upd_ne f v hne]
        exact hf t ht
      · by_cases hji : j = i
        · subst hji; rw [hself]; exact hv
        · obtain ⟨x, hxj, hxd⟩ := hdj
          rw [hoth j x hxj hxd hji]
          exact hφ j hj (hset j hlj hji) ⟨x, hxj, hxd⟩
      · by_cases hji : j = i
        · subst hji
          obtain ⟨n1, n2, n3, n4⟩ := hnew hkj
          rw [hself]
          refine ⟨n1, Nat.le_trans hx.size n2, n3, _, n4, rfl, fun s q hs hls => ?_, fun _ => rfl⟩
          exfalso
          have hsi : s ≠ j := by
            rintro rfl
            have : kdAt Ks s = .s s q := by unfold kdAt; rw [List.getD_eq_getElem?_getD, hs]; rfl
            exact hns _ _ this
          have hls' := hset s hls hsi
          have hsl := hlt s hls'
          have hos : l[s]? = some l[s] := List.getElem?_eq_getElem hsl
          have hst := SSteps.at_ l 0 hS s l[s] hos
          simp only [Nat.zero_add] at hst
          have hk : kdAt Ks s = .s j q := by unfold kdAt; rw [List.getD_eq_getElem?_getD, hs]; rfl
          unfold SStep at hst
          rw [hk] at hst
          have := hC s l[s] hls' hos j hst.2.1
          rw [h0'] at this; cases this
        · have hlj' := hset j hlj hji
          obtain ⟨b1, b2, b3, cur, b4, b5, b6, b7⟩ := hB j hj hlj' hkj
          have hoj : l[j]? = some l[j] := List.getElem?_eq_getElem hj
          have hst := SSteps.at_ l 0 hS j l[j] hoj
          simp only [Nat.zero_add] at hst
          have hdj : (l[j]).dst.isSome = true := by
            unfold SStep at hst
            revert hkj hst
            cases kdAt Ks j <;> intro hkj hst
            · exact hkj.elim
            · exact hst.1
            · exact hkj.elim
          rw [hBB j hlj', hoth j l[j] hoj hdj hji]
          refine ⟨b1, b2, Nat.lt_of_lt_of_le b3 hxw.size, cur, by rw [hxw.block _ b3]; exact b4, b5, fun s q hs hls => ?_, fun hno => b7 fun s q hs => ?_⟩
          · have hsi : s ≠ i := by
              rintro rfl
              have : kdAt Ks s = .s j q := by unfold kdAt; rw [List.getD_eq_getElem?_getD, hs]; rfl
              exact hns _ _ this
            have hls' := hset s hls hsi
            rw [hsrc s j q hs hls']
            exact b6 s q hs hls'
          · have this : (listed.setIfInBounds i true).getD s false = false := hno s q hs
            show listed.getD s false = false
            cases hc : listed.getD s false with
            | false => rfl
            | true => rw [hkeep s hc] at this; cases this
      · by_cases hpi : p = i
        · subst hpi
          have hqi : q ≠ p := fun e => hpq e.symm
          have hlq' := hset q hlq hqi
          obtain ⟨n1, n2, n3, n4⟩ := hnew hkp
          have := (hB q hq hlq' hkq).2.2.1
          rw [hBB q hlq']
          omega
        · have hlp' := hset p hlp hpi
          by_cases hqi : q = i
          · subst hqi
            obtain ⟨n1, n2, n3, n4⟩ := hnew hkq
            have := (hB p hp hlp' hkp).2.2.1
            rw [hBB p hlp']
            omega
          · have hlq' := hset q hlq hqi
            rw [hBB p hlp', hBB q hlq']
            exact hd2 p q hp hq hpq hlp' hlq' hkp hkq
    have hdeps : ∀ j, onB o j = true → (∃ x, l[j]? = some x ∧ x.dst.isSome = true) → phiV Φ j (f (dstD l j)) := fun j hj hd => hφ j (hlt j (hdone j hj)) (hdone j hj) hd
    have hself : (listed.setIfInBounds i true).getD i false = true := by
      have hii : i < listed.size := by omega
      simp [Array.getD, hii]
    unfold SStep at hstep
    cases hk : kdAt Ks i with
    | v =>
      rw [hk] at hstep
      obtain ⟨hd1, hgo⟩ := hstep
      refine wpOp_of_SO ho (hgo f w hf hx hdeps) fun f' w' hK => ?_
      obtain ⟨v, rfl, rfl, hv⟩ := hK
      exact ih _ _ _ (by simp [hsz]) hcount (giv v _ hd1 B (Ext.refl _) hv (by intro s j e; rw [hk] at e; cases e) (fun _ _ => rfl) (fun hn => by rw [hk] at hn; exact hn.elim))
    | n =>
      rw [hk] at hstep
      obtain ⟨hd1, hgo⟩ := hstep
      refine wpOp_of_SO ho (hgo f w hf hx hdeps) fun f' w' hK => ?_
      obtain ⟨rfl, rfl, hv⟩ := hK
      refine ih _ _ _ (by simp [hsz]) hcount (giv _ _ hd1 (fun j => if j = i then w.heap.size else B j) (Ext.alloc w _) hv (by intro s j e; rw [hk] at e; cases e) (fun j hj => ?_) (fun _ => ?_))
      · have : j ≠ i := by rintro rfl; rw [h0'] at hj; cases hj
        simp only [if_neg this]
      · rw [if_pos rfl]
        exact ⟨rfl, Nat.le_refl _, by simp, heap_alloc_new w _⟩
    | s a j =>
      rw [hk] at hstep
      obtain ⟨hd0, hoa, hoj, ⟨xa, hxa, hxad⟩, ⟨xj, hxj, hxjd⟩, hka, hsz2, hgo⟩ := hstep
      have hal := hlt a (hdone a hoa)
      obtain ⟨b1, b2, b3, cur, b4, b5, b6, b7⟩ := hB a hal (hdone a hoa) hka
      have hpj := hdeps j hoj ⟨xj, hxj, hxjd⟩
      refine wpOp_of_SO ho (hgo f w (B a) cur hx b1 b4 b5 hpj) fun f' w' hK => ?_
      obtain ⟨rfl, rfl⟩ := hK
      have hki := kd_get hk
      refine ih _ _ _ (by simp [hsz]) hcount ⟨f', B, rfl, hf, ⟨hx.os, hx.tape, hx.output, by simpa using hx.size, fun c hc => ?_⟩, fun q hq hlq hdq => ?_, fun q hq hlq hkq => ?_, fun p q hp hq hpq hlp hlq hkp hkq => ?_, hClosed⟩
      · rw [setRow_other w (B a) c _ (by omega)]; exact hx.block c hc
      · have hqi : q ≠ i := by
          rintro rfl
          obtain ⟨x, hx1, hx2⟩ := hdq
          rw [hol] at hx1
          cases hx1
          rw [hd0] at hx2; cases hx2
        exact hφ q hq (hset q hlq hqi) hdq
      · have hqi : q ≠ i := by rintro rfl; rw [hk] at hkq; exact hkq
        have hlq' := hset q hlq hqi
        obtain ⟨c1, c2, c3, cur', c4, c5, c6, c7⟩ := hB q hq hlq' hkq
        by_cases hqa : q = a
        · subst hqa
          refine ⟨c1, c2, by simpa using c3, _, setRow_heap w (B q) cur _ _ _ b4, hsz2 _ hpj, fun s q' hs hls => ?_, fun hno => ?_⟩
          · have := once hO hs hki
            subst this
            rw [hki] at hs
            cases hs
            rfl
          · have this : (listed.setIfInBounds i true).getD i false = false := hno i j hki
            rw [hself] at this; cases this
        · have hbb : B q ≠ B a := hd2 q a hq hal hqa hlq' (hdone a hoa) hkq hka
          refine ⟨c1, c2, by simpa using c3, cur', by rw [setRow_other w (B a) (B q) _ hbb]; exact c4, c5, fun s q' hs hls => ?_, fun hno => c7 fun s q' hs => ?_⟩
          · have hsi : s ≠ i := by rintro rfl; rw [hki] at hs; cases hs; exact hqa rfl
            exact c6 s q' hs (hset s hls hsi)
          · have this : (listed.setIfInBounds i true).getD s false = false := hno s q' hs
            show listed.getD s false = false
            cases hc : listed.getD s false with
            | false => rfl
            | true => rw [hkeep s hc] at this; cases this
      · have hpi : p ≠ i := by rintro rfl; rw [hk] at hkp; exact hkp
        have hqi : q ≠ i := by rintro rfl; rw [hk] at hkq; exact hkq
        exact hd2 p q hp hq hpq (hset p hlp hpi) (hset q hlq hqi) hkp hkq
theorem drs {id : Nat} {Q : Exit → Act → World → Prop} {f : Slots} {w : World} (Ks : List Kd) (Φ : List (Value → Prop)) (Z : List (Array Value × TypeId)) (hm : P.follows .mixedOrders = true) (hok : okS n l Ks = true)
    (hS : SSteps P n l Ks Φ Z f w 0 l)
    (hend : ∀ (f' : Slots) (w' : World) (B : Nat → Nat), (∀ t, (dstsK l.length l).contains t = false → f' t = f t) → Ext w w' → (∀ i x, l[i]? = some x → x.dst.isSome = true → phiV Φ i (f' (dstD l i))) →
      (∀ i, i < l.length → (match kdAt Ks i with | .n => True | _ => False) → f' (dstD l i) = .pointer (some ⟨B i, 0, none⟩) ∧ w.heap.size ≤ B i ∧ ∃ cur, w'.heap[B i]? = some (.cells cur (zAt Z i).2 (0, 0)) ∧ Cont l Ks Z (fun _ => true) f' i cur) →
      (∀ i j, i < l.length → j < l.length → i ≠ j → (match kdAt Ks i with | .n => True | _ => False) → (match kdAt Ks j with | .n => True | _ => False) → B i ≠ B j) → Q .normal (acts n f') w') :
    WC P n (.region id l.toArray true) Q f w := by
  refine wp_region_any hm ?_
  have h3 : ∀ i, (Array.replicate l.length false).getD i false = false := by
    intro i
    simp only [Array.getD]; split <;> simp
  have h := wpAny_S (P := P) (w0 := w) (f0 := f) (Q := Q) hok hS hend l.length (Array.replicate l.length false) (acts n f) w.drew (by simp) (by simp) ⟨f, fun _ => 0, rfl, fun _ _ => rfl, Ext.drew w, fun i hi h => (by
    rw [h3] at h; cases h), fun i hi h => (by rw [h3] at h; cases h), fun i j _ _ _ h => (by rw [h3] at h; cases h), fun i o h _ _ _ => (by
    rw [h3] at h; cases h)⟩
  simpa using h
theorem stS {ops : Array Oper} {f : Slots} {w : World} {x y : Operand} {ty T : TypeId} {ps : String} {af : Array Edge} {bytes size : Nat} {agg : Bool} {z v : Value} {b : Nat} {cur : Array Value} {tt : TypeId}
    (F : TyF P T size agg bytes z) (ox : okT n x = true) (oy : okT n y = true) (hx : ev f x = .pointer (some ⟨b, 0, none⟩)) (hy : ev f y = v) (hb : w.heap[b]? = some (.cells cur tt (0, 0))) (hs : v.cells.size = size) (hc : cur.size = size) (h1 : v.cells.toList.all Value.oneCell' = true) :
    SO P n ops ⟨none, .store T x y, ty, ps, af, none⟩ f w (fun f' w' => f' = f ∧ w' = w.setRow b v.cells) := by
  refine SO.skip (w' := w.setRow b v.cells) ?_ ⟨rfl, rfl⟩
  have e : wr cur 0 v.cells.toList = v.cells := by
    unfold wr
    have : cur.toList.drop (0 + v.cells.toList.length) = [] := by
      rw [List.drop_eq_nil_iff]; simp; omega
    rw [this]; simp
  have := run_storeVar F (v := v) (o := 0) hb hs (by simp; omega) (fun u hu => List.all_eq_true.1 h1 u hu)
  rw [e] at this
  simp [execOp, eval_acts ox, eval_acts oy, hx, hy, Instr.storeAt, Instr.sureAddr, this]
end
theorem alS {P : Program} {n : Nat} {ops : Array Oper} {f : Slots} {w : World} {d : Nat} {ty T : TypeId} {ps : String} {af : Array Edge} {bytes size : Nat} {agg : Bool} {z : Value} {K : Slots → World → Prop}
    (F : TyF P T size agg bytes z) (h : K (upd f d (.pointer (some ⟨w.heap.size, 0, none⟩))) (w.alloc (.cells z.cells T))) : SO P n ops ⟨some d, .alloc T, ty, ps, af, none⟩ f w K :=
  SO.value (v := .pointer (some ⟨w.heap.size, 0, none⟩)) (w' := w.alloc (.cells z.cells T)) (by simp [execOp, Instr.alloc, F.run_zero, newVar_run]) h
theorem Cont.zero {l : List Oper} {Ks : List Kd} {Z : List (Array Value × TypeId)} {f : Slots} {i : Nat} {cur : Array Value} (h : Cont l Ks Z (fun _ => true) f i cur) (hn : (Ks.filterMap isSt).contains i = false) : cur = (zAt Z i).1 := by
  refine h.2.2 fun s j hs => ?_
  exfalso
  have : i ∈ Ks.filterMap isSt := List.mem_filterMap.2 ⟨_, List.mem_of_getElem? hs, rfl⟩
  rw [← List.contains_iff_mem, hn] at this
  cases this
section
variable {P : Program} {n : Nat} {ops : Array Oper} {f : Slots} {w ws : World} {K : Slots → World → Prop} {x y : Operand} {d : Nat} {ty T e : TypeId} {ps : String} {af : Array Edge} {v : Value} {M : Nat → Prop} {kk : IntKind} {bytes : Nat} {z : Value} {ad : Addr} {size : Nat} {agg : Bool}
theorem ldWx {α : Type} [GT α] {xv : α} (hA : AtW M ws ad xv) (E : Ext ws w) (F : TyF P T (GT.size α) (GT.agg α) bytes z) (ox : okT n x = true) (hx : ev f x = .pointer (some ad))
    (h : ∀ v, RV M ws v xv → K (upd f d v) w) : SO P n ops ⟨some d, .load T x, ty, ps, af, none⟩ f w K := by
  obtain ⟨cs, h1, h2⟩ := hA
  have h3 : ∀ j v, cs[j]? = some v → w.cell? (ad.add j) = some v := fun j v hv => by
    have h4 := h2 j v hv
    have hlt : (ad.add j).block < ws.heap.size := block_lt_cell h4
    exact (World.cell?_of_block (E.block _ hlt)).trans h4
  exact SO.value (v := mkv (GT.agg α) cs) (by
    simp [execOp, eval_acts ox, hx, Instr.loadAt, Instr.sureAddr, run_loadVar F GT.single (GT.len h1) h3]) (h _ ⟨cs, h1, rfl⟩)
theorem iax {α : Type} [GT α] {xs : List α} {i : Int} (hR : RV M ws v xs) (ox : okT n x = true) (oy : okT n y = true) (hx : ev f x = v) (hy : ev f y = .int kk i) (hi : 0 ≤ i ∧ i < xs.length) (hu : P.underlying T = some (.slice e)) (F : TyF P e (GT.size α) agg bytes z)
    (h : ∀ ad xv, xs[i.toNat]? = some xv → At M ws ad xv → K (upd f d (.pointer (some ad))) w) : SO P n ops ⟨some d, .indexAddr T x y, ty, ps, af, none⟩ f w K := by
  obtain ⟨a, m, c, rfl, h1, h2, h3, h4⟩ := RV.list.1 hR
  rcases h4 with h4 | ⟨ad, rfl, hs⟩
  · omega
  · have hlt : i.toNat < xs.length := by omega
    refine SO.value (v := .pointer (some (ad.add (i.toNat * GT.size α)))) ?_ (h _ xs[i.toNat] (List.getElem?_eq_getElem hlt) (hs _ _ (List.getElem?_eq_getElem hlt)))
    have hb : 0 ≤ i ∧ i < (m : Int) := by omega
    simp [execOp, eval_acts ox, eval_acts oy, hx, hy, Instr.indexAt, asIntOf, run_und hu, hb, F.run_size]
end
end Go.Ew
namespace Go.Ew
open Go.RowKit
set_option linter.unusedVariables false
set_option linter.unusedSimpArgs false
def isN (k : Kd) : Prop := match k with | .n => True | _ => False
def phiN (Φ : List ((Nat → Prop) → Value → World → Prop)) (i : Nat) : (Nat → Prop) → Value → World → Prop := Φ.getD i (fun _ _ _ => True)
def KeepsN (N N' : Nat → Prop) (w w' : World) : Prop := w.heap.size ≤ w'.heap.size ∧ (∀ c, c < w.heap.size → ¬ N c → w'.heap[c]? = w.heap[c]?) ∧ ∀ c, c < w.heap.size → N' c → N c
def NStep (P : Program) (n : Nat) (l : List Oper) (Ks : List Kd) (Φ : List ((Nat → Prop) → Value → World → Prop)) (Z : List (Array Value × TypeId)) (f0 : Slots) (w0 : World) (i : Nat) (o : Oper) : Prop :=
  (∀ N N' v w w', KeepsN N N' w w' → phiN Φ i N v w → phiN Φ i N' v w') ∧
  match kdAt Ks i with
  | .v => o.dst.isSome = true ∧ ∀ f w N, (∀ t, (dstsK l.length l).contains t = false → f t = f0 t) → Ext w0 w → (∀ c, N c → w0.heap.size ≤ c ∧ c < w.heap.size) → (∀ j, onB o j = true → (∃ x, l[j]? = some x ∧ x.dst.isSome = true) → phiN Φ j N (f (dstD l j)) w) →
      SO P n l.toArray o f w (fun f' w' => ∃ v, f' = updO f o.dst v ∧ Ext w w' ∧ phiN Φ i N v w')
  | .n => o.dst.isSome = true ∧ (∀ N v w, phiN Φ i N v w) ∧ ∀ f w N, (∀ t, (dstsK l.length l).contains t = false → f t = f0 t) → Ext w0 w → (∀ c, N c → w0.heap.size ≤ c ∧ c < w.heap.size) → (∀ j, onB o j = true → (∃ x, l[j]? = some x ∧ x.dst.isSome = true) → phiN Φ j N (f (dstD l j)) w) →
      SO P n l.toArray o f w (fun f' w' => f' = updO f o.dst (.pointer (some ⟨w.heap.size, 0, none⟩)) ∧ w' = w.alloc (.cells (zAt Z i).1 (zAt Z i).2))
  | .s a j => o.dst = none ∧ onB o a = true ∧ onB o j = true ∧ (∃ x, l[a]? = some x ∧ x.dst.isSome = true) ∧ (∃ x, l[j]? = some x ∧ x.dst.isSome = true) ∧ a ≠ j ∧ (match kdAt Ks a with | .n => True | _ => False) ∧ (∀ N v w, phiN Φ j N v w → v.cells.size = (zAt Z a).1.size) ∧
      ∀ f w N b cur, Ext w0 w → f (dstD l a) = .pointer (some ⟨b, 0, none⟩) → w.heap[b]? = some (.cells cur (zAt Z a).2 (0, 0)) → cur.size = (zAt Z a).1.size → phiN Φ j N (f (dstD l j)) w →
      SO P n l.toArray o f w (fun f' w' => f' = f ∧ w' = w.setRow b (f (dstD l j)).cells)
def NSteps (P : Program) (n : Nat) (l : List Oper) (Ks : List Kd) (Φ : List ((Nat → Prop) → Value → World → Prop)) (Z : List (Array Value × TypeId)) (f0 : Slots) (w0 : World) : Nat → List Oper → Prop
  | _, [] => True
  | i, o :: r => NStep P n l Ks Φ Z f0 w0 i o ∧ NSteps P n l Ks Φ Z f0 w0 (i + 1) r
section
variable {P : Program} {n : Nat} {l : List Oper} {Ks : List Kd} {Φ : List ((Nat → Prop) → Value → World → Prop)} {Z : List (Array Value × TypeId)} {f0 : Slots} {w0 : World}
theorem NSteps.at_ : ∀ (r : List Oper) (i : Nat), NSteps P n l Ks Φ Z f0 w0 i r → ∀ j o, r[j]? = some o → NStep P n l Ks Φ Z f0 w0 (i + j) o
  | [], _, _, j, o, h => by simp at h
  | x :: r, i, h, 0, o, hj => by
    simp only [List.getElem?_cons_zero, Option.some.injEq] at hj
    subst hj
    exact h.1
  | x :: r, i, h, j + 1, o, hj => by
    simp only [List.getElem?_cons_succ] at hj
    have := NSteps.at_ r (i + 1) h.2 j o hj
    rwa [show i + 1 + j = i + (j + 1) from by omega] at this
def NB (l : List Oper) (Ks : List Kd) (L : Nat → Bool) (B : Nat → Nat) (c : Nat) : Prop := ∃ i, i < l.length ∧ L i = true ∧ isN (kdAt Ks i) ∧ c = B i
def JN (n : Nat) (l : List Oper) (Ks : List Kd) (Φ : List ((Nat → Prop) → Value → World → Prop)) (Z : List (Array Value × TypeId)) (f0 : Slots) (w0 : World) (listed : Array Bool) (a : Act) (w : World) : Prop :=
  ∃ (f : Slots) (B : Nat → Nat), a = acts n f ∧ (∀ t, (dstsK l.length l).contains t = false → f t = f0 t) ∧ Ext w0 w ∧ (∀ i, i < l.length → listed.getD i false = true → (∃ x, l[i]? = some x ∧ x.dst.isSome = true) → phiN Φ i (NB l Ks (fun s => listed.getD s false) B) (f (dstD l i)) w) ∧
    (∀ i, i < l.length → listed.getD i false = true → isN (kdAt Ks i) → f (dstD l i) = .pointer (some ⟨B i, 0, none⟩) ∧ w0.heap.size ≤ B i ∧ B i < w.heap.size ∧ ∃ cur, w.heap[B i]? = some (.cells cur (zAt Z i).2 (0, 0)) ∧ Cont l Ks Z (fun s => listed.getD s false) f i cur) ∧
    (∀ i j, i < l.length → j < l.length → i ≠ j → listed.getD i false = true → listed.getD j false = true → isN (kdAt Ks i) → isN (kdAt Ks j) → B i ≠ B j) ∧
    ∀ i o, listed.getD i false = true → l[i]? = some o → ∀ j, onB o j = true → listed.getD j false = true
theorem wpAny_N {Q : Exit → Act → World → Prop} (hok : okS n l Ks = true) (hS : NSteps P n l Ks Φ Z f0 w0 0 l)
    (hend : ∀ (f : Slots) (w : World) (B : Nat → Nat), (∀ t, (dstsK l.length l).contains t = false → f t = f0 t) → Ext w0 w → (∀ i x, l[i]? = some x → x.dst.isSome = true → phiN Φ i (NB l Ks (fun _ => true) B) (f (dstD l i)) w) →
      (∀ i, i < l.length → isN (kdAt Ks i) → f (dstD l i) = .pointer (some ⟨B i, 0, none⟩) ∧ w0.heap.size ≤ B i ∧ B i < w.heap.size ∧ ∃ cur, w.heap[B i]? = some (.cells cur (zAt Z i).2 (0, 0)) ∧ Cont l Ks Z (fun _ => true) f i cur) →
      (∀ i j, i < l.length → j < l.length → i ≠ j → isN (kdAt Ks i) → isN (kdAt Ks j) → B i ≠ B j) → Q .normal (acts n f) w) :
    ∀ (d : Nat) (listed : Array Bool) (a : Act) (w : World), listed.size = l.length → (listed.toList.filter (fun b => !b)).length = d →
      JN n l Ks Φ Z f0 w0 listed a w → wpAny P .any l.toArray Q d listed a w := by
  simp only [okS, Bool.and_eq_true, Nat.beq_eq_true_eq] at hok
  obtain ⟨⟨⟨⟨hE, hN⟩, hn⟩, hO⟩, hKl⟩ := hok
  intro d
  induction d with
  | zero =>
    intro listed a w hsz hd hJ
    have hall : ∀ i, i < l.length → listed.getD i false = true := by
      intro i hi
      have h0 := List.eq_nil_of_length_eq_zero hd
      rw [List.filter_eq_nil_iff] at h0
      have hi' : i < listed.size := by omega
      have := h0 listed[i] (by simp)
      simp at this
      simp [Array.getD, hi', this]
    refine ⟨?_, ?_⟩
    · apply List.eq_nil_iff_forall_not_mem.2
      intro i hi
      obtain ⟨h0, o, ho, -⟩ := mem_ready.1 hi
      have hol : l[i]? = some o := by simpa using ho
      have hil : i < l.length := (List.getElem?_eq_some_iff.1 hol).1
      rw [show listed.getD i true = listed.getD i false from getD_any (by omega) _ _, hall i hil] at h0
      cases h0
    · obtain ⟨f, B, rfl, hf, hx, hφ, hB, hd2, hC⟩ := hJ
      have hlen : ∀ {i x}, l[i]? = some x → i < l.length := fun hi => (List.getElem?_eq_some_iff.1 hi).1
      have hNB : NB l Ks (fun s => listed.getD s false) B = NB l Ks (fun _ => true) B := by
        funext c
        apply propext
        exact ⟨fun ⟨i, h1, h2, h3⟩ => ⟨i, h1, rfl, h3⟩, fun ⟨i, h1, h2, h3⟩ => ⟨i, h1, hall i h1, h3⟩⟩
      refine hend f w B hf hx (fun i x hi hdx => ?_) (fun i hi hk => ?_) (fun i j hi hj hne => hd2 i j hi hj hne (hall i hi) (hall j hj))
      · rw [← hNB]
        exact hφ i (hlen hi) (hall i (hlen hi)) ⟨x, hi, hdx⟩
      · obtain ⟨h1, h2, h3, cur, h4, h5, h6, h7⟩ := hB i hi (hall i hi) hk
        refine ⟨h1, h2, h3, cur, h4, h5, fun s j hs _ => h6 s j hs (hall s ?_), fun hno => h7 fun s j hs => ?_⟩
        · have h9 := (List.getElem?_eq_some_iff.1 hs).1
          have h8 := Nat.eq_of_beq_eq_true hKl
          omega
        · have := hno s j hs; cases this
  | succ d ih =>
    intro listed a w hsz hd hJ
    obtain ⟨i0, hi0⟩ : ∃ i, i < l.length ∧ listed.getD i false = false := by
      apply Classical.byContradiction
      intro hno
      have : listed.toList.filter (fun b => !b) = [] := by
        rw [List.filter_eq_nil_iff]
        intro b hb
        obtain ⟨i, hi, rfl⟩ := List.mem_iff_getElem.1 hb
        simp only [Array.length_toList] at hi
        cases hb2 : listed.toList[i] with
        | true => simp
        | false =>
          exfalso
          refine hno ⟨i, by omega, ?_⟩
          simp only [Array.getElem_toList] at hb2
          simp [Array.getD, hi, hb2]
      rw [this] at hd; cases hd
    obtain ⟨m, hm1, hm2⟩ := exists_least (p := fun i => i < l.length ∧ listed.getD i false = false) ⟨i0, hi0⟩
    have hml : m < l.length := by omega
    have hom : l[m]? = some l[m] := List.getElem?_eq_getElem hml
    have hmr : m ∈ Region.ready .any l.toArray listed := by
      rw [mem_ready]
      refine ⟨?_, l[m], by simp, fun e he hb => ?_⟩
      · rw [show listed.getD m true = listed.getD m false from getD_any (by omega) _ _]; exact hm1.2
      · have hlt := okEdges_at l 0 hE m l[m] hom e he hb
        cases hb2 : listed.getD e.on false with
        | true => rfl
        | false =>
          have := hm2 e.on ⟨by omega, hb2⟩
          omega
    refine ⟨fun h0 => (by rw [h0] at hmr; cases hmr), fun i hi => ?_⟩
    obtain ⟨h0, o, ho, hedges⟩ := mem_ready.1 hi
    have hol : l[i]? = some o := by simpa using ho
    have hil : i < l.length := (List.getElem?_eq_some_iff.1 hol).1
    have h0' : listed.getD i false = false := by
      rw [show listed.getD i false = listed.getD i true from getD_any (by omega) _ _]; exact h0
    obtain ⟨f, B, rfl, hf, hx, hφ, hB, hd2, hC⟩ := hJ
    have hstep := NSteps.at_ l 0 hS i o hol
    simp only [Nat.zero_add] at hstep
    have hmono : ∀ j x, l[j]? = some x → ∀ N N' v w w', KeepsN N N' w w' → phiN Φ j N v w → phiN Φ j N' v w' := by
      intro j x hj
      have := (NSteps.at_ l 0 hS j x hj).1
      simpa only [Nat.zero_add] using this
    have hdone : ∀ j, onB o j = true → listed.getD j false = true := by
      intro j hj
      obtain ⟨e, he, hb, hon⟩ := onB_iff.1 hj
      subst hon
      exact hedges e he hb
    have hlt : ∀ j, listed.getD j false = true → j < l.length := by
      intro j hj
      refine Classical.byContradiction fun hn => ?_
      rw [show listed.getD j false = false from by simp [Array.getD]; omega] at hj
      cases hj
    have hcount : ((listed.setIfInBounds i true).toList.filter (fun b => !b)).length = d := by
      have hii : i < listed.size := by omega
      have hget : listed.toList[i]? = some false := by
        rw [List.getElem?_eq_getElem (by simpa using hii)]
        simp only [Array.getD, hii, dif_pos] at h0'
        simpa [Array.getInternal_eq_getElem] using h0'
      have key : ∀ (L : List Bool) (i : Nat), L[i]? = some false → ((L.set i true).filter (fun b => !b)).length + 1 = (L.filter (fun b => !b)).length := by
        intro L
        induction L with
        | nil => intro i h; simp at h
        | cons b L ihL =>
          intro i h
          cases i with
          | zero => simp at h; subst h; simp
          | succ i =>
            simp at h
            have := ihL i h
            cases b <;> simp at this ⊢ <;> omega
      have := key listed.toList i hget
      rw [Array.toList_setIfInBounds]
      omega
    have hClosed : ∀ j oj, (listed.setIfInBounds i true).getD j false = true → l[j]? = some oj → ∀ q, onB oj q = true → (listed.setIfInBounds i true).getD q false = true := by
      intro j oj hj hoj q hq
      have hq2 : listed.getD q false = true := by
        by_cases hji : i = j
        · subst hji
          rw [hol] at hoj
          cases hoj
          exact hdone q hq
        · rw [getD_set_ne false hji] at hj
          exact hC j oj hj hoj q hq
      by_cases hqi : i = q
      · subst hqi; rw [h0'] at hq2; cases hq2
      · rw [getD_set_ne false hqi]; exact hq2
    have hset : ∀ j, (listed.setIfInBounds i true).getD j false = true → j ≠ i → listed.getD j false = true := by
      intro j hj hne
      rwa [getD_set_ne false (fun e => hne e.symm)] at hj
    have hkeep : ∀ j, listed.getD j false = true → (listed.setIfInBounds i true).getD j false = true := by
      intro j hj
      by_cases hji : i = j
      · subst hji; rw [h0'] at hj; cases hj
      · rw [getD_set_ne false hji]; exact hj
    have hNlt : ∀ c, NB l Ks (fun s => listed.getD s false) B c → w0.heap.size ≤ c ∧ c < w.heap.size := by
      rintro c ⟨j, h1, h2, h3, rfl⟩
      obtain ⟨-, h4, h5, -⟩ := hB j h1 h2 h3
      exact ⟨h4, h5⟩
    -- an operation that gives a value v, in a world in which old blocks stand
    have giv : ∀ (v : Value) (w' : World) (hdi : o.dst.isSome = true), Ext w w' → (phiN Φ i (NB l Ks (fun s => listed.getD s false) B) v w' ∧ ¬ isN (kdAt Ks i) ∨ ∀ N v w, phiN Φ i N v w) → (∀ s j, kdAt Ks i ≠ .s s j) →
        (isN (kdAt Ks i) → v = .pointer (some ⟨w.heap.size, 0, none⟩) ∧ w'.heap.size = w.heap.size + 1 ∧ w'.heap[w.heap.size]? = some (.cells (zAt Z i).1 (zAt Z i).2 (0, 0))) →
        JN n l Ks Φ Z f0 w0 (listed.setIfInBounds i true) (acts n (updO f o.dst v)) w' := by
      intro v w' hdi hxw hv hns hnew
      obtain ⟨di, hdi⟩ := Option.isSome_iff_exists.1 hdi
      have hDi := dstD_of hol hdi
      have hself : updO f o.dst v (dstD l i) = v := by rw [hDi, hdi]; exact upd_same f di v
      have hoth : ∀ j oj, l[j]? = some oj → oj.dst.isSome = true → j ≠ i → updO f o.dst v (dstD l j) = f (dstD l j) := by
        intro j oj hoj hdj hne
        obtain ⟨dj, hdj⟩ := Option.isSome_iff_exists.1 hdj
        rw [dstD_of hoj hdj, hdi]
        exact upd_ne f v (dst_ne hN hol hoj hdi hdj (fun e => hne e.symm))
      have hsrc : ∀ s a j, Ks[s]? = some (.s a j) → listed.getD s false = true → updO f o.dst v (dstD l j) = f (dstD l j) := by
        intro s a j hs hls
        have hsl := hlt s hls
        have hos : l[s]? = some l[s] := List.getElem?_eq_getElem hsl
        have hst := NSteps.at_ l 0 hS s l[s] hos
        simp only [Nat.zero_add] at hst
        have hk : kdAt Ks s = .s a j := by unfold kdAt; rw [List.getD_eq_getElem?_getD, hs]; rfl
        have hst := hst.2
        rw [hk] at hst
        obtain ⟨-, -, hoj, -, ⟨x, hxj, hxd⟩, -⟩ := hst
        have hlj := hC s l[s] hls hos j hoj
        refine hoth j x hxj hxd ?_
        rintro rfl
        rw [h0'] at hlj; cases hlj
      have hKN : KeepsN (NB l Ks (fun s => listed.getD s false) B) (NB l Ks (fun s => (listed.setIfInBounds i true).getD s false) (fun j => if j = i then w.heap.size else B j)) w w' := by
        refine ⟨hxw.size, fun c hc _ => hxw.block c hc, ?_⟩
        rintro c hc ⟨j, h1, h2, h3, h4⟩
        dsimp only at h4
        by_cases hji : j = i
        · rw [if_pos hji] at h4; omega
        · rw [if_neg hji] at h4
          exact ⟨j, h1, hset j h2 hji, h3, h4⟩
      refine ⟨updO f o.dst v, fun j => if j = i then w.heap.size else B j, rfl, fun t ht => ?_, hx.trans hxw, fun j hj hlj hdj => ?_, fun j hj hlj hkj => ?_, fun p q hp hq hpq hlp hlq hkp hkq => ?_, hClosed⟩
      · have hne : t ≠ di := by
          rintro rfl
          have := mem_dstsK (k := l.length) hol hil hdi
          rw [← List.contains_iff_mem, ht] at this
          cases this
        rw [hdi, show updO f (some di) v = upd f di v from rfl, upd_ne f v hne]
        exact hf t ht
      · by_cases hji : j = i
        · subst hji
          rw [hself]
          rcases hv with ⟨hv, hnn⟩ | hv
          · refine hmono j o hol _ _ _ _ _ ⟨Nat.le_refl _, fun _ _ _ => rfl, ?_⟩ hv
            rintro c hc ⟨q, h1, h2, h3, h4⟩
            dsimp only at h4
            by_cases hqj : q = j
            · subst hqj; exact absurd h3 hnn
            · rw [if_neg hqj] at h4
              exact ⟨q, h1, hset q h2 hqj, h3, h4⟩
          · exact hv _ _ _
        · obtain ⟨x, hxj, hxd⟩ := hdj
          rw [hoth j x hxj hxd hji]
          exact hmono j x hxj _ _ _ _ _ hKN (hφ j hj (hset j hlj hji) ⟨x, hxj, hxd⟩)
      · by_cases hji : j = i
        · subst hji
          obtain ⟨n1, n2, n4⟩ := hnew hkj
          rw [hself]
          dsimp only
          rw [if_pos rfl]
          refine ⟨n1, hx.size, by omega, _, n4, rfl, fun s q hs hls => ?_, fun _ => rfl⟩
          exfalso
          have hsi : s ≠ j := by
            rintro rfl
            have : kdAt Ks s = .s s q := by unfold kdAt; rw [List.getD_eq_getElem?_getD, hs]; rfl
            exact hns _ _ this
          have hls' := hset s hls hsi
          have hsl := hlt s hls'
          have hos : l[s]? = some l[s] := List.getElem?_eq_getElem hsl
          have hst := NSteps.at_ l 0 hS s l[s] hos
          simp only [Nat.zero_add] at hst
          have hk : kdAt Ks s = .s j q := by unfold kdAt; rw [List.getD_eq_getElem?_getD, hs]; rfl
          have hst := hst.2
          rw [hk] at hst
          have := hC s l[s] hls' hos j hst.2.1
          rw [h0'] at this; cases this
        · have hlj' := hset j hlj hji
          obtain ⟨b1, b2, b3, cur, b4, b5, b6, b7⟩ := hB j hj hlj' hkj
          have hoj : l[j]? = some l[j] := List.getElem?_eq_getElem hj
          have hst := NSteps.at_ l 0 hS j l[j] hoj
          simp only [Nat.zero_add] at hst
          have hdj : (l[j]).dst.isSome = true := by
            have hst := hst.2
            revert hkj hst
            cases kdAt Ks j <;> intro hkj hst
            · exact hkj.elim
            · exact hst.1
            · exact hkj.elim
          rw [hoth j l[j] hoj hdj hji]
          dsimp only
          rw [if_neg hji]
          refine ⟨b1, b2, Nat.lt_of_lt_of_le b3 hxw.size, cur, by rw [hxw.block _ b3]; exact b4, b5, fun s q hs hls => ?_, fun hno => b7 fun s q hs => ?_⟩
          · have hsi : s ≠ i := by
              rintro rfl
              have : kdAt Ks s = .s j q := by unfold kdAt; rw [List.getD_eq_getElem?_getD, hs]; rfl
              exact hns _ _ this
            have hls' := hset s hls hsi
            rw [hsrc s j q hs hls']
            exact b6 s q hs hls'
          · have this : (listed.setIfInBounds i true).getD s false = false := hno s q hs
            show listed.getD s false = false
            cases hc : listed.getD s false with
            | false => rfl
            | true => rw [hkeep s hc] at this; cases this
      · have hold : ∀ c, c < l.length → c ≠ i → (listed.setIfInBounds i true).getD c false = true → isN (kdAt Ks c) → B c < w.heap.size := by
          intro c hc hci hl hk
          exact (hB c hc (hset c hl hci) hk).2.2.1
        by_cases ea : p = i
        · have eb : q ≠ i := fun e => hpq (ea.trans e.symm)
          have q1 := hold q hq eb hlq hkq
          simp only [if_pos ea, if_neg eb]
          omega
        · have p1 := hold p hp ea hlp hkp
          by_cases eb : q = i
          · simp only [if_neg ea, if_pos eb]
            omega
          · simp only [if_neg ea, if_neg eb]
            exact hd2 p q hp hq hpq (hset p hlp ea) (hset q hlq eb) hkp hkq
    have hdeps : ∀ j, onB o j = true → (∃ x, l[j]? = some x ∧ x.dst.isSome = true) → phiN Φ j (NB l Ks (fun s => listed.getD s false) B) (f (dstD l j)) w := fun j hj hd => hφ j (hlt j (hdone j hj)) (hdone j hj) hd
    have hself : (listed.setIfInBounds i true).getD i false = true := by
      have hii : i < listed.size := by omega
      simp [Array.getD, hii]
    have hstep := hstep.2
    cases hk : kdAt Ks i with
    | v =>
      rw [hk] at hstep
      obtain ⟨hd1, hgo⟩ := hstep
      refine wpOp_of_SO ho (hgo f w _ hf hx hNlt hdeps) fun f' w' hK => ?_
      obtain ⟨v, rfl, hxw, hv⟩ := hK
      exact ih _ _ _ (by simp [hsz]) hcount (giv v _ hd1 hxw (.inl ⟨hv, fun hn => by rw [hk] at hn; exact hn⟩) (by intro s j e; rw [hk] at e; cases e) (fun hn => by rw [hk] at hn; exact hn.elim))
    | n =>
      rw [hk] at hstep
      obtain ⟨hd1, hphi, hgo⟩ := hstep
      refine wpOp_of_SO ho (hgo f w _ hf hx hNlt hdeps) fun f' w' hK => ?_
      obtain ⟨rfl, rfl⟩ := hK
      exact ih _ _ _ (by simp [hsz]) hcount (giv _ _ hd1 (Ext.alloc w _) (.inr hphi) (by intro s j e; rw [hk] at e; cases e) (fun _ => ⟨rfl, by simp, heap_alloc_new w _⟩))
    | s a j =>
      rw [hk] at hstep
      obtain ⟨hd0, hoa, hoj, ⟨xa, hxa, hxad⟩, ⟨xj, hxj, hxjd⟩, haj, hka, hsz2, hgo⟩ := hstep
      have hal := hlt a (hdone a hoa)
      obtain ⟨b1, b2, b3, cur, b4, b5, b6, b7⟩ := hB a hal (hdone a hoa) hka
      have kj3 := hφ j (hlt j (hdone j hoj)) (hdone j hoj) ⟨xj, hxj, hxjd⟩
      refine wpOp_of_SO ho (hgo f w _ (B a) cur hx b1 b4 b5 kj3) fun f' w' hK => ?_
      obtain ⟨rfl, rfl⟩ := hK
      have hki := kd_get hk
      have hKN : KeepsN (NB l Ks (fun s => listed.getD s false) B) (NB l Ks (fun s => (listed.setIfInBounds i true).getD s false) B) w (w.setRow (B a) (f' (dstD l j)).cells) := by
        refine ⟨by simp, fun c hc hnc => setRow_other w (B a) c _ fun e => hnc ⟨a, hal, hdone a hoa, hka, e⟩, ?_⟩
        rintro c hc ⟨q, h1, h2, h3, h4⟩
        have hqi : q ≠ i := by rintro rfl; rw [hk] at h3; exact h3
        exact ⟨q, h1, hset q h2 hqi, h3, h4⟩
      refine ih _ _ _ (by simp [hsz]) hcount ⟨f', B, rfl, hf, ⟨hx.os, hx.tape, hx.output, by simpa using hx.size, fun c hc => ?_⟩, fun q hq hlq hdq => ?_, fun q hq hlq hkq => ?_, fun p q hp hq hpq hlp hlq hkp hkq => ?_, hClosed⟩
      · rw [setRow_other w (B a) c _ (by omega)]; exact hx.block c hc
      · have hqi : q ≠ i := by
          rintro rfl
          obtain ⟨x, hx1, hx2⟩ := hdq
          rw [hol] at hx1
          cases hx1
          rw [hd0] at hx2; cases hx2
        obtain ⟨x, hx1, hx2⟩ := hdq
        exact hmono q x hx1 _ _ _ _ _ hKN (hφ q hq (hset q hlq hqi) ⟨x, hx1, hx2⟩)
      · have hqi : q ≠ i := by rintro rfl; rw [hk] at hkq; exact hkq
        have hlq' := hset q hlq hqi
        obtain ⟨c1, c2, c3, cur', c4, c5, c6, c7⟩ := hB q hq hlq' hkq
        by_cases hqa : q = a
        · subst hqa
          refine ⟨c1, c2, by simpa using c3, _, setRow_heap w (B q) cur _ _ _ b4, hsz2 _ _ _ kj3, fun s q' hs hls => ?_, fun hno => ?_⟩
          · have := once hO hs hki
            subst this
            rw [hki] at hs
            cases hs
            rfl
          · have this : (listed.setIfInBounds i true).getD i false = false := hno i j hki
            rw [hself] at this; cases this
        · have hbb : B q ≠ B a := hd2 q a hq hal hqa hlq' (hdone a hoa) hkq hka
          refine ⟨c1, c2, by simpa using c3, cur', by rw [setRow_other w (B a) (B q) _ hbb]; exact c4, c5, fun s q' hs hls => ?_, fun hno => c7 fun s q' hs => ?_⟩
          · have hsi : s ≠ i := by rintro rfl; rw [hki] at hs; cases hs; exact hqa rfl
            exact c6 s q' hs (hset s hls hsi)
          · have this : (listed.setIfInBounds i true).getD s false = false := hno s q' hs
            show listed.getD s false = false
            cases hc : listed.getD s false with
            | false => rfl
            | true => rw [hkeep s hc] at this; cases this
      · have hpi : p ≠ i := by rintro rfl; rw [hk] at hkp; exact hkp
        have hqi : q ≠ i := by rintro rfl; rw [hk] at hkq; exact hkq
        exact hd2 p q hp hq hpq (hset p hlp hpi) (hset q hlq hqi) hkp hkq
theorem drn {id : Nat} {Q : Exit → Act → World → Prop} {f : Slots} {w : World} (Ks : List Kd) (Φ : List ((Nat → Prop) → Value → World → Prop)) (Z : List (Array Value × TypeId)) (hm : P.follows .mixedOrders = true) (hok : okS n l Ks = true)
    (hS : NSteps P n l Ks Φ Z f w 0 l)
    (hend : ∀ (f' : Slots) (w' : World) (B : Nat → Nat), (∀ t, (dstsK l.length l).contains t = false → f' t = f t) → Ext w w' → (∀ i x, l[i]? = some x → x.dst.isSome = true → phiN Φ i (NB l Ks (fun _ => true) B) (f' (dstD l i)) w') →
      (∀ i, i < l.length → isN (kdAt Ks i) → f' (dstD l i) = .pointer (some ⟨B i, 0, none⟩) ∧ w.heap.size ≤ B i ∧ B i < w'.heap.size ∧ ∃ cur, w'.heap[B i]? = some (.cells cur (zAt Z i).2 (0, 0)) ∧ Cont l Ks Z (fun _ => true) f' i cur) →
      (∀ i j, i < l.length → j < l.length → i ≠ j → isN (kdAt Ks i) → isN (kdAt Ks j) → B i ≠ B j) → Q .normal (acts n f') w') :
    WC P n (.region id l.toArray true) Q f w := by
  refine wp_region_any hm ?_
  have h3 : ∀ i, (Array.replicate l.length false).getD i false = false := by
    intro i
    simp only [Array.getD]; split <;> simp
  have h := wpAny_N (P := P) (w0 := w) (f0 := f) (Q := Q) hok hS hend l.length (Array.replicate l.length false) (acts n f) w.drew (by simp) (by simp) ⟨f, fun _ => 0, rfl, fun _ _ => rfl, Ext.drew w, fun i hi h => (by
    rw [h3] at h; cases h), fun i hi h => (by rw [h3] at h; cases h), fun i j _ _ _ h => (by rw [h3] at h; cases h), fun i o h _ _ _ => (by
    rw [h3] at h; cases h)⟩
  simpa using h
end
def MN (M N : Nat → Prop) (c : Nat) : Prop := M c ∨ N c
section
variable {α : Type} [GT α] {M N N' : Nat → Prop} {w0 w w' : World} {v : Value} {x : α}
theorem rvn_keep (h : RV (MN M N) w v x) (k : KeepsN N N' w w') : RV (MN M N') w' v x :=
  h.lift ⟨k.1, fun c hc hn => ⟨k.2.1 c hc fun h1 => hn (.inr h1), by
    rintro (h1 | h1)
    · exact hn (.inl h1)
    · exact hn (.inr (k.2.2 c hc h1))⟩⟩
theorem rvn_old (h : RV M w0 v x) (e : Ext w0 w) (hN : ∀ c, N c → w0.heap.size ≤ c ∧ c < w.heap.size) : RV (MN M N) w v x :=
  h.lift ⟨e.size, fun c hc hn => ⟨e.block c hc, by
    rintro (h1 | h1)
    · exact hn h1
    · have := (hN c h1).1; omega⟩⟩
theorem mn_below (hM : ∀ b, M b → b < w0.heap.size) (e : Ext w0 w) (hN : ∀ c, N c → w0.heap.size ≤ c ∧ c < w.heap.size) : ∀ b, MN M N b → b < w.heap.size := by
  rintro b (h | h)
  · exact Nat.lt_of_lt_of_le (hM b h) e.size
  · exact (hN b h).2
end
theorem rvn_out {α : Type} [GT α] {M0 N : Nat → Prop} {l : List Item} {w : World} {v : Value} {x : α} (bs : List (Nat × Array Value × TypeId)) (h : RV (MN (MS M0 l) N) w v x) (hb : ∀ q ∈ bs, N q.1) : RV (MS M0 (bs.map (fun q => box q.1 q.2.1 q.2.2) ++ l)) w v x :=
  h.lift (Up.less fun c hc hn => by
    rcases hn with h1 | ⟨it, hit, hib⟩
    · exact .inl (.inl h1)
    · rcases List.mem_append.1 hit with h2 | h2
      · obtain ⟨q, hq, rfl⟩ := List.mem_map.1 h2
        cases hib
        exact .inr (hb q hq)
      · exact .inl (.inr ⟨it, h2, hib⟩))
end Go.Ew
namespace Go.Ew
open Go.RowKit
set_option linter.unusedVariables false
set_option linter.unusedSimpArgs false
def FP2 {α β : Type} [GT α] [GT β] (P : Program) (g : FuncId) (C : List Value) (M : Nat → Prop) (w : World) (xs : List α) (ys : List β) (q : α → β → Bool) : Prop :=
  GoF P g ∧ ∀ w1 v x u y, x ∈ xs → y ∈ ys → Ext w w1 → RV M w1 v x → RV M w1 u y → Calls P g ([v, u] ++ C).toArray w1 (Ret fun r w2 => r = .bool (q x y) ∧ Ext w1 w2)
theorem FP2.sub {α β : Type} [GT α] [GT β] {P : Program} {g : FuncId} {C : List Value} {M M' : Nat → Prop} {w w' : World} {xs : List α} {ys : List β} {q : α → β → Bool} (h : FP2 P g C M w xs ys q) (e : Ext w w') (hM : ∀ b, M b → M' b) : FP2 P g C M' w' xs ys q :=
  ⟨h.1, fun w1 v x u y hx hy e' hv hu => h.2 w1 v x u y hx hy (e.trans e') (hv.lift (Up.less fun b _ hb => hM b hb)) (hu.lift (Up.less fun b _ hb => hM b hb))⟩
end Go.Ew
namespace Go.Ew
open Go.RowKit
set_option linter.unusedVariables false
set_option linter.unusedSimpArgs false
structure SV where
  a : Option Addr
  n : Nat
  c : Nat
def SV.v (s : SV) : Value := .slice s.a s.n s.c
instance gSV : GT SV where
  size := 1
  agg := false
  rep _ _ cs s := cs = [s.v]
  len h := by rw [h]; rfl
  one h := by rw [h]; simp [Value.oneCell', SV.v]
  single _ := rfl
  pos := by decide
  lift h _ := h
theorem RV.sv {M : Nat → Prop} {w : World} {v : Value} {s : SV} : RV M w v s ↔ v = s.v := by
  constructor
  · rintro ⟨cs, rfl, rfl⟩; rfl
  · rintro rfl; exact ⟨_, rfl, rfl⟩
section
variable {α : Type} [GT α] {B : Nat} {e E : TypeId} {ss : List SV} {xs : List (List α)} {l l' : List Item} {M0 : Nat → Prop} {w0 w w' : World} {s : SV} {x y : List α} {i : Nat}
def rowItems (B : Nat) (e : TypeId) (ss : List SV) (xs : List (List α)) : List Item := List.zipWith (fun s x => own B e s.v x) ss xs
def rowImms (ss : List SV) (xs : List (List α)) : List Item := List.zipWith (fun s x => imm s.v x) ss xs
theorem row_at (hs : ss[i]? = some s) (hx : xs[i]? = some x) : (l ++ rowItems B e ss xs)[l.length + i]? = some (own B e s.v x) := by
  rw [List.getElem?_append_right (by omega), show l.length + i - l.length = i from by omega]
  unfold rowItems
  rw [List.getElem?_zipWith, hs, hx]
theorem row_set (hs : ss[i]? = some s) : (l ++ rowItems B e ss xs).set (l.length + i) (own B e s.v y) = l ++ rowItems B e ss (xs.set i y) := by
  rw [List.set_append_right _ _ (by omega), show l.length + i - l.length = i from by omega]
  congr 1
  unfold rowItems
  apply List.ext_getElem?
  intro j
  rw [List.getElem?_set, List.getElem?_zipWith, List.getElem?_zipWith, List.getElem?_set, List.length_zipWith]
  by_cases e : i = j
  · subst e
    have hl := (List.getElem?_eq_some_iff.1 hs).1
    by_cases hx : i < xs.length
    · rw [if_pos rfl, if_pos rfl, if_pos (by omega), if_pos hx, hs]
    · rw [if_pos rfl, if_pos rfl, if_neg (by omega), if_neg hx, hs]
  · rw [if_neg e, if_neg e]
theorem rows_snoc (h : ss.length = xs.length) : rowItems B e (ss ++ [s]) (xs ++ [x]) = rowItems B e ss xs ++ [own B e s.v x] := by
  unfold rowItems
  rw [List.zipWith_append h]; rfl
theorem HI.perm (H : HI M0 w0 w l) (hp : l'.Perm l) : HI M0 w0 w l' :=
  H.pick l' (fun it hit => hp.mem_iff.1 hit) ((hp.filterMap _).nodup_iff.2 H.nodup)
theorem HI.rowEnd (H : HI M0 w0 w (own B e s.v x :: (l ++ rowItems B e ss xs))) (h : ss.length = xs.length) : HI M0 w0 w (l ++ rowItems B e (ss ++ [s]) (xs ++ [x])) := by
  rw [rows_snoc h, ← List.append_assoc]
  exact H.perm (List.perm_append_singleton _ _)
theorem fm_congr {A B : Type} {f g : A → Option B} : ∀ {l : List A}, (∀ a ∈ l, f a = g a) → l.filterMap f = l.filterMap g
  | [], _ => rfl
  | a :: l, h => by rw [List.filterMap_cons, List.filterMap_cons, h a List.mem_cons_self, fm_congr fun b hb => h b (List.mem_cons_of_mem _ hb)]
theorem fm_range {A : Type} : ∀ t : List A, (List.range t.length).filterMap (fun i => t[i]?) = t
  | [] => rfl
  | a :: t => by
    rw [List.length_cons, List.range_succ_eq_map, List.filterMap_cons, List.filterMap_map]
    have : ((fun i => (a :: t)[i]?) ∘ Nat.succ) = fun i => t[i]? := by funext i; rfl
    rw [this, fm_range t]; rfl
theorem HI.pickT {t : List Item} (H : HI M0 w0 w (l ++ t)) (is : List Nat) (hn : is.Nodup) (hb : is.all (fun i => Nat.blt i l.length) = true) (he : is.filterMap (fun i => l[i]?) = l') : HI M0 w0 w (l' ++ t) := by
  refine H.pickN (is ++ (List.range t.length).map (l.length + ·)) ?_ ?_
  · rw [List.nodup_append]
    refine ⟨hn, ?_, ?_⟩
    · rw [List.nodup_iff_pairwise_ne, List.pairwise_map]
      exact List.Pairwise.imp (fun h => by omega) List.nodup_range
    · intro a ha b hb' hab
      subst hab
      obtain ⟨j, -, rfl⟩ := List.mem_map.1 hb'
      have := List.all_eq_true.1 hb _ ha
      have : l.length + j < l.length := by simpa using this
      omega
  · rw [List.filterMap_append, ← he]
    congr 1
    · refine fm_congr fun i hi => ?_
      have := List.all_eq_true.1 hb _ hi
      rw [List.getElem?_append_left (by simpa using this)]
    · rw [List.filterMap_map]
      have : ((fun i => (l ++ t)[i]?) ∘ (l.length + ·)) = fun i => t[i]? := by
        funext i
        simp only [Function.comp]
        rw [List.getElem?_append_right (by omega), show l.length + i - l.length = i from by omega]
      rw [this]
      exact fm_range t
theorem HI.freezeRows : ∀ (ss : List SV) (xs : List (List α)) (l : List Item), HI M0 w0 w (l ++ rowItems B e ss xs) → HI M0 w0 w (l ++ rowImms ss xs)
  | [], xs, l, H => H
  | s :: ss, [], l, H => H
  | s :: ss, x :: xs, l, H => by
    have h1 : (l ++ rowItems B e (s :: ss) (x :: xs))[l.length]? = some (own B e s.v x) := by rw [List.getElem?_append_right (Nat.le_refl _), Nat.sub_self]; rfl
    have H1 := H.freeze l.length h1
    have h2 : (l ++ rowItems B e (s :: ss) (x :: xs)).set l.length (imm s.v x) = (l ++ [imm s.v x]) ++ rowItems B e ss xs := by
      rw [List.set_append_right _ _ (Nat.le_refl _), Nat.sub_self, List.append_assoc]; rfl
    rw [h2] at H1
    have H2 := HI.freezeRows ss xs _ H1
    rwa [List.append_assoc] at H2
theorem chunks_deep {M : Nat → Prop} : ∀ {ss : List SV} {xs : List (List α)} {cs : List Value}, ss.length = xs.length → (∀ (i : Nat) (s : SV) (x : List α), ss[i]? = some s → xs[i]? = some x → RV M w s.v x) → Chunks M w cs ss → Chunks M w cs xs
  | [], [], cs, _, _, h => h
  | s :: ss, x :: xs, cs, hl, hr, ⟨c1, c2, h1, h2, h3⟩ => by
    refine ⟨c1, c2, h1, ⟨s.v, h2, RV.list.1 (hr 0 s x rfl rfl)⟩, chunks_deep (by simpa using hl) (fun i s' x' hs hx => hr (i + 1) s' x' hs hx) h3⟩
  | [], _ :: _, _, h, _, _ => by cases h
  | _ :: _, [], _, h, _, _ => by cases h
theorem HI.deep {v : Value} (H : HI M0 w0 w (own B E v ss :: (l ++ rowItems B e ss xs))) (hl : ss.length = xs.length) : HI M0 w0 w (own B E v xs :: l) := by
  have H1 : HI M0 w0 w (own B E v ss :: (l ++ rowImms ss xs)) := HI.freezeRows ss xs (own B E v ss :: l) H
  obtain ⟨cs, h1, h2⟩ := H1.at_ 0 rfl
  have key : ∀ (i : Nat) (s : SV) (x : List α), ss[i]? = some s → xs[i]? = some x → RV (MS M0 (own B E v ss :: (l ++ rowImms ss xs))) w s.v x := by
    intro i s x hs hx
    refine H1.all (imm s.v x) (List.mem_cons_of_mem _ (List.mem_append_right _ ?_))
    unfold rowImms
    exact List.mem_of_getElem? (i := i) (by rw [List.getElem?_zipWith, hs, hx])
  have H2 := H1.turn (it' := own B E v xs) 0 rfl rfl rfl rfl (Nat.le_refl _) (fun _ _ _ => rfl) (fun b hb => ⟨(H1.blks _ (List.mem_cons_self) b hb).2, .inl hb⟩) (by
    refine ⟨cs, ?_, Chunks.lift (M := MS M0 (own B E v ss :: (l ++ rowImms ss xs))) (Up.less ?_) (chunks_deep hl key h2)⟩
    · rw [← hl]; exact h1
    · rintro b _ (hb | ⟨it, hit, hb⟩)
      · exact .inl hb
      · rcases List.mem_cons.1 hit with rfl | hit
        · exact .inr ⟨_, List.mem_cons_self, hb⟩
        · exact .inr ⟨it, List.mem_cons_of_mem _ hit, hb⟩)
  refine H2.pick _ (fun it hit => ?_) ?_
  · rcases List.mem_cons.1 hit with rfl | hit
    · exact List.mem_cons_self
    · exact List.mem_cons_of_mem _ (List.mem_append_left _ hit)
  · refine List.Nodup.sublist ?_ H2.nodup
    refine List.Sublist.filterMap _ ?_
    exact (List.sublist_append_left l _).cons_cons _
theorem HI.join (H : HI M0 w0 w l) (H' : HI (MS M0 l) w w' l') : HI M0 w0 w' (l' ++ l) := by
  have hM : ∀ b, MS (MS M0 l) l' b ↔ MS M0 (l' ++ l) b := by
    intro b
    constructor
    · rintro ((h | ⟨it, hit, hb⟩) | ⟨it, hit, hb⟩)
      · exact .inl h
      · exact .inr ⟨it, List.mem_append_right _ hit, hb⟩
      · exact .inr ⟨it, List.mem_append_left _ hit, hb⟩
    · rintro (h | ⟨it, hit, hb⟩)
      · exact .inl (.inl h)
      · rcases List.mem_append.1 hit with hit | hit
        · exact .inr ⟨it, hit, hb⟩
        · exact .inl (.inr ⟨it, hit, hb⟩)
  refine ⟨H.below.trans H'.below, H.m0, ?_, ?_, ?_⟩
  · intro it hit b hb
    rcases List.mem_append.1 hit with hit | hit
    · exact ⟨Nat.le_trans H.below.size (H'.blks it hit b hb).1, (H'.blks it hit b hb).2⟩
    · exact ⟨(H.blks it hit b hb).1, Nat.lt_of_lt_of_le (H.blks it hit b hb).2 H'.below.size⟩
  · rw [List.filterMap_append, List.nodup_append]
    refine ⟨H'.nodup, H.nodup, fun b hb c hc hbc => ?_⟩
    subst hbc
    obtain ⟨i, hi, hib⟩ := List.mem_filterMap.1 hb
    obtain ⟨j, hj, hjb⟩ := List.mem_filterMap.1 hc
    have h1 := (H'.blks i hi b hib).1
    have h2 := (H.blks j hj b hjb).2
    omega
  · intro it hit
    rcases List.mem_append.1 hit with hit | hit
    · exact it.lift (H'.all it hit) (Up.less fun b _ hb => (hM b).2 hb) fun _ _ => rfl
    · refine it.lift (H.all it hit) ⟨H'.below.size, fun c hc hMc => ⟨H'.below.block c hc, fun hb => ?_⟩⟩ fun b hb => H'.below.block b (H.blks it hit b hb).2
      rcases (hM c).2 hb with hb | ⟨i, hi, hib⟩
      · exact hMc hb
      · have := (H'.blks i hi c hib).1; omega
theorem HI.weaken (H : HI M0 w0 w l) (hl : l'.map (·.blk) = l.map (·.blk)) (hh : ∀ (i : Nat) it it', l[i]? = some it → l'[i]? = some it' → ∀ M, it.holds M w → it'.holds M w) : HI M0 w0 w l' := by
  have hlen : l'.length = l.length := by simpa using congrArg List.length hl
  have hget : ∀ (i : Nat) it', l'[i]? = some it' → ∃ it, l[i]? = some it ∧ it.blk = it'.blk := by
    intro i it' hi
    have h1 := congrArg (fun z => z[i]?) hl
    simp only [List.getElem?_map, hi, Option.map_some] at h1
    cases hl2 : l[i]? with
    | none => rw [hl2] at h1; cases h1
    | some it => rw [hl2] at h1; exact ⟨it, rfl, (Option.some.inj h1).symm⟩
  have hMS : ∀ b, MS M0 l' b → MS M0 l b := by
    rintro b (h | ⟨it', hit, hb⟩)
    · exact .inl h
    · obtain ⟨i, hi⟩ := List.mem_iff_getElem?.1 hit
      obtain ⟨it, h1, h2⟩ := hget i it' hi
      exact .inr ⟨it, List.mem_of_getElem? h1, h2.trans hb⟩
  refine ⟨H.below, H.m0, ?_, ?_, ?_⟩
  · intro it' hit b hb
    obtain ⟨i, hi⟩ := List.mem_iff_getElem?.1 hit
    obtain ⟨it, h1, h2⟩ := hget i it' hi
    exact H.blks it (List.mem_of_getElem? h1) b (h2.trans hb)
  · have : ∀ m : List Item, m.filterMap (·.blk) = (m.map (·.blk)).filterMap id := by intro m; rw [List.filterMap_map]; rfl
    rw [this, hl, ← this]; exact H.nodup
  · intro it' hit
    obtain ⟨i, hi⟩ := List.mem_iff_getElem?.1 hit
    obtain ⟨it, h1, h2⟩ := hget i it' hi
    have := hh i it it' h1 hi _ (H.all it (List.mem_of_getElem? h1))
    exact it'.lift this (Up.less fun b _ hb => hMS b hb) fun _ _ => rfl
theorem own_low {β : Type} [GT β] {B B' : Nat} {v : Value} {ys : List β} {M : Nat → Prop} (hB : B' ≤ B) (h : (own B e v ys).holds M w) : (own B' e v ys).holds M w := by
  obtain ⟨cs, h1, h2⟩ := h
  refine ⟨cs, ⟨h1.1, ?_⟩, h2⟩
  rcases h1.2 with h3 | ⟨g, cap, cur, rfl, h3, h4⟩
  · exact .inl h3
  · exact .inr ⟨g, cap, cur, rfl, Nat.le_trans hB h3, h4⟩
def OwnsR (M : Nat → Prop) (E e : TypeId) (w0 : World) (ss : List SV) (xs : List (List α)) (v : Value) (w : World) : Prop := ss.length = xs.length ∧ HI M w0 w (own w0.heap.size E v ss :: rowItems w0.heap.size e ss xs)
theorem HI.ownsR {v : Value} (H : HI M0 w0 w l) (h : OwnsR (MS M0 l) E e w ss xs v w') : HI M0 w0 w' (own w0.heap.size E v ss :: (l ++ rowItems w0.heap.size e ss xs)) := by
  have H1 := H.join h.2
  have H2 : HI M0 w0 w' ((own w0.heap.size E v ss :: rowItems w0.heap.size e ss xs) ++ l) := by
    refine H1.weaken ?_ ?_
    · simp only [List.map_append, List.map_cons]
      congr 2
      unfold rowItems
      rw [List.map_zipWith, List.map_zipWith]; rfl
    · intro i it it' hi hi' M hh
      have hB : w0.heap.size ≤ w.heap.size := H.below.size
      cases i with
      | zero =>
        simp only [List.cons_append, List.getElem?_cons_zero, Option.some.injEq] at hi hi'
        subst hi; subst hi'; exact own_low hB hh
      | succ i =>
        simp only [List.cons_append, List.getElem?_cons_succ] at hi hi'
        have hlen : ∀ B, (rowItems B e ss xs).length = min ss.length xs.length := by intro B; unfold rowItems; simp
        by_cases hil : i < min ss.length xs.length
        · rw [List.getElem?_append_left (by rw [hlen]; exact hil)] at hi hi'
          unfold rowItems at hi hi'
          rw [List.getElem?_zipWith, List.getElem?_eq_getElem (by omega), List.getElem?_eq_getElem (by omega)] at hi hi'
          simp only [Option.some.injEq] at hi hi'
          subst hi; subst hi'; exact own_low hB hh
        · rw [List.getElem?_append_right (by rw [hlen]; omega), hlen] at hi hi'
          rw [hi] at hi'
          cases hi'; exact hh
  refine H2.perm ?_
  exact List.Perm.cons _ List.perm_append_comm
theorem row_get (H : HI M0 w0 w (l ++ rowItems B e ss xs)) (hl : ss.length = xs.length) {i : Nat} (hi : i < ss.length) : ∃ (a : Option Addr) (x : List α) (c : Nat), ss[i]? = some (⟨a, x.length, c⟩ : SV) ∧ xs[i]? = some x := by
  have hs : ss[i]? = some ss[i] := List.getElem?_eq_getElem hi
  have hx : xs[i]? = some (xs[i]'(by omega)) := List.getElem?_eq_getElem (by omega)
  obtain ⟨cs, h1, h2⟩ := H.at_ _ (row_at (l := l) (B := B) (e := e) hs hx)
  have hn : ss[i].n = (xs[i]'(by omega)).length := by
    rcases h1.2 with ⟨h3, h4⟩ | ⟨g, cap, cur, h3, -⟩
    · rw [h4]; unfold SV.v at h3; injection h3
    · unfold SV.v at h3; injection h3
  refine ⟨ss[i].a, xs[i]'(by omega), ss[i].c, ?_, hx⟩
  rw [hs, ← hn]
theorem HI.rowPut {M : Nat → Prop} {it : Item} (H : HI M0 w0 w ((l ++ rowItems B e ss xs).set (l.length + i) (own B e s.v y))) (hs : ss[i]? = some s) : HI M0 w0 w (l ++ rowItems B e ss (xs.set i y)) := by
  rw [row_set hs] at H; exact H
theorem row_rv (H : HI M0 w0 w (l ++ rowItems B e ss xs)) (hs : ss[i]? = some s) (hx : xs[i]? = some x) : RV (fun _ => False) w s.v x :=
  own_seg (H.at_ _ (row_at (l := l) (B := B) (e := e) hs hx)) (fun _ _ h => h.elim) (fun _ _ h => h.elim)
end
section
variable {P : Program} {n : Nat} {ops : Array Oper} {f : Slots} {w : World} {K : Slots → World → Prop} {M : Nat → Prop} {ad : Addr} {T : TypeId} {bytes : Nat} {z : Value} {x : Operand} {d : Nat} {ty : TypeId} {ps : String} {af : Array Edge}
theorem ldV {s : SV} (hA : AtW M w ad s) (F : TyF P T 1 false bytes z) (ox : okT n x = true) (hx : ev f x = .pointer (some ad)) (h : K (upd f d s.v) w) :
    SO P n ops ⟨some d, .load T x, ty, ps, af, none⟩ f w K := ldW hA F ox hx fun v hv => by rw [RV.sv.1 hv]; exact h
end
end Go.Ew
namespace Go.Ew
open Go.RowKit
set_option linter.unusedVariables false
set_option linter.unusedSimpArgs false
section
variable {P : Program} {n : Nat} {ops : Array Oper} {f : Slots} {w : World} {K : Slots → World → Prop} {x y : Operand} {d : Nat} {ty T e : TypeId} {ps : String} {af : Array Edge} {v u : Value} {M M0 : Nat → Prop} {w0 : World} {l : List Item} {bytes : Nat} {z : Value} {B : Nat} {kk : IntKind} {agg : Bool} {α : Type} [GT α] {xs ys : List α}
end
end Go.Ew
namespace Go.Ew
open Go.RowKit
set_option linter.unusedVariables false
set_option linter.unusedSimpArgs false
section
variable {P : Program} {n : Nat} {ops : Array Oper} {f : Slots} {w : World} {K : Slots → World → Prop} {x y : Operand} {d : Nat} {ty T e : TypeId} {ps : String} {af : Array Edge} {v u : Value} {M M0 : Nat → Prop} {w0 : World} {l : List Item} {bytes : Nat} {z : Value} {B : Nat}
theorem cpO {xs ys : List (BitVec 64)} (H : HI M0 w0 w l) (i : Nat) (hi : l[i]? = some (own B e v xs)) (hB : B = w0.heap.size) (ox : okT n x = true) (oy : okT n y = true) (hx : ev f x = v) (hy : ev f y = u)
    (hs : Src (MS M0 l) w u ys) (hu : P.underlying T = some (.slice e)) (F : TyF P e 1 false bytes z) (hl : ys.length = xs.length) (hp : 0 < xs.length)
    (h : ∀ w', HI M0 w0 w' (l.set i (own B e v ys)) → K (upd f d (.int .i64 (ys.length : Int))) w') :
    SO P n ops ⟨some d, .call { callee := .builtin .copy, args := #[x, y], argTypes := #[T, T] }, ty, ps, af, none⟩ f w K := by
  subst hB
  obtain ⟨cs, h1, h2⟩ := H.at_ i hi
  obtain ⟨a0, c0, rfl, hsrc⟩ := hs
  obtain ⟨inf, hi1, hi2, hi3, hi4⟩ := F.info
  rcases h1.2 with ⟨rfl, h3⟩ | ⟨g', cap, cur, rfl, h3, h4, h5, h6, h7, h8⟩
  · omega
  · rcases hsrc with h0 | ⟨ad, rfl, ds, hd1, hd2⟩
    · omega
    · have hdl : ds.length = ys.length := by have := Chunks.length hd1; simpa [GT.size] using this
      have hsz : cur.size = cap := by rw [h7]; simp [GT.size]
      have hrun := run_copy_row (P := P) w T T ty e g' 0 xs.length cap ad ys.length c0 cur e ds hu (by rw [hi1]; simp [hi3]) h4 (by rw [hdl, hl]; simp) hd2 (by omega) (Chunks.oneC hd1)
      refine SO.value (v := .int .i64 (ys.length : Int)) (w' := w.setRow g' (wr cur 0 ds)) ?_ (h _ ?_)
      · have hr2 : (Builtin.copy_ #[T, T] ty #[.slice (some ⟨g', 0, none⟩) xs.length cap, .slice (some ad) ys.length c0]).run P w = .ok (.int .i64 (ys.length : Int)) (w.setRow g' (wr cur 0 ds)) := by
          rw [hrun, ← hdl]; rfl
        simp [execOp, resolve, invoke, builtin, eval_acts ox, eval_acts oy, hx, hy, hr2]
      · have hother : ∀ c, c < w.heap.size → (own w0.heap.size e (Value.slice (some ⟨g', 0, none⟩) xs.length cap) xs).blk ≠ some c → (w.setRow g' (wr cur 0 ds)).heap[c]? = w.heap[c]? :=
          fun c hc hne => setRow_other w g' c _ (fun e => hne (by rw [e]; rfl))
        have hblk : ∀ b, (own w0.heap.size e (Value.slice (some ⟨g', 0, none⟩) xs.length cap) ys).blk = some b → b < (w.setRow g' (wr cur 0 ds)).heap.size ∧ ((own w0.heap.size e (Value.slice (some ⟨g', 0, none⟩) xs.length cap) xs).blk = some b ∨ w.heap.size ≤ b) := by
          intro b hb
          refine ⟨?_, .inl hb⟩
          rw [size_setRow]
          exact (H.blks _ (List.mem_of_getElem? hi) b hb).2
        refine H.turn i hi rfl rfl rfl (by simp) hother hblk ?_
        refine ⟨ds, ⟨by simpa [GT.size] using hdl, .inr ⟨g', cap, wr cur 0 ds, by rw [hl], h3, setRow_heap w g' cur _ e _ h4, by omega, h6, ?_, ?_⟩⟩, ?_⟩
        · simp only [wr, List.size_toArray, List.length_append, List.length_take, List.length_drop, Array.length_toList]
          omega
        · simp only [wr]
          rw [List.take_zero, List.nil_append, Nat.zero_add, List.take_left' (by simpa [GT.size] using hdl)]
        · have hup : Up (MS M0 l) w (MS M0 (l.set i (own w0.heap.size e (Value.slice (some ⟨g', 0, none⟩) xs.length cap) ys))) (w.setRow g' (wr cur 0 ds)) := by
            refine ⟨by simp, fun b hb hM => ⟨setRow_other w g' b _ (fun e => hM (.inr ⟨_, List.mem_of_getElem? hi, by rw [e]; rfl⟩)), ?_⟩⟩
            rintro (hM' | ⟨it, hit, hitb⟩)
            · exact hM (.inl hM')
            · rcases List.mem_or_eq_of_mem_set hit with hit | rfl
              · exact hM (.inr ⟨it, hit, hitb⟩)
              · exact hM (.inr ⟨_, List.mem_of_getElem? hi, hitb⟩)
          exact Chunks.lift hup hd1
end
theorem join_ne {α : Type} {ss : List SV} {xs : List (List α)} {i k L : Nat} {s s2 : SV} {x x2 : List α} (hs : ss[i]? = some s) (hs2 : ss[k]? = some s2) (hx : xs[i]? = some x) (hx2 : xs[k]? = some x2) : L + i ≠ L + k ∨ (s.v = s2.v ∧ x2 = x) := by
  by_cases h : i = k
  · subst h
    right
    rw [hs] at hs2; rw [hx] at hx2
    cases hs2; cases hx2
    exact ⟨rfl, rfl⟩
  · left; omega
end Go.Ew
namespace Go.Ew
open Go.RowKit
set_option linter.unusedVariables false
set_option linter.unusedSimpArgs false
def cutA (a : Option Addr) (c lo : Nat) : Option Addr := if c = lo then a else a.map (·.add (lo * 1))
theorem add0 (g j : Nat) : (⟨g, 0, none⟩ : Addr).add j = ⟨g, j, none⟩ := by unfold Addr.add; split <;> simp_all
theorem chunks_cut {M : Nat → Prop} {w : World} : ∀ (k : Nat) {xs : List Int} {cs : List Value}, Chunks M w cs xs → Chunks M w (cs.take k) (xs.take k) ∧ Chunks M w (cs.drop k) (xs.drop k)
  | 0, xs, cs, h => ⟨by rw [List.take_zero, List.take_zero]; rfl, by simpa using h⟩
  | k + 1, [], cs, h => by
    rw [show cs = [] from h]
    exact ⟨rfl, rfl⟩
  | k + 1, x :: xs, cs, h => by
    obtain ⟨c1, c2, rfl, h2, h3⟩ := h
    obtain ⟨i1, i2⟩ := chunks_cut k h3
    obtain ⟨e, hx⟩ := h2
    subst e
    exact ⟨⟨[.int .i64 x], c2.take k, rfl, ⟨rfl, hx⟩, i1⟩, i2⟩
section
variable {P : Program} {n : Nat} {ops : Array Oper} {f : Slots} {w : World} {K : Slots → World → Prop} {x y : Operand} {d : Nat} {ty T e : TypeId} {ps : String} {af : Array Edge} {v u : Value} {M M0 : Nat → Prop} {w0 : World} {l : List Item} {bytes : Nat} {z : Value} {B : Nat} {kk : IntKind} {agg : Bool} {xs ys : List Int} {a : Option Addr} {k c : Nat}
theorem own_shape (hO : (own B e (.slice a k c) xs).holds M w) : k = xs.length ∧ xs.length ≤ c := by
  obtain ⟨cs, h1, h2⟩ := hO
  rcases h1.2 with ⟨h3, h4⟩ | ⟨g, cap, cur, h3, h4, h5, h6, h7⟩
  · cases h3; omega
  · cases h3; exact ⟨rfl, h6⟩
theorem slOl {lo : Int} {ylo : Operand} (hO : (own B e (.slice a k c) xs).holds M w) (ox : okT n x = true) (ol : okT n ylo = true) (hx : ev f x = .slice a k c) (hl : ev f ylo = .int kk lo) (hb : 0 ≤ lo ∧ lo ≤ xs.length) (hu : P.underlying T = some (.slice e)) (F : TyF P e 1 agg bytes z)
    (h : K (upd f d (.slice (cutA a c lo.toNat) (k - lo.toNat) (c - lo.toNat))) w) :
    SO P n ops ⟨some d, .slice T x (some ylo) none none, ty, ps, af, none⟩ f w K := by
  obtain ⟨hk, hc⟩ := own_shape hO
  refine SO.value (v := .slice (cutA a c lo.toNat) (k - lo.toNat) (c - lo.toNat)) (w' := w) ?_ h
  have hel : P.underlying T = some (.slice (P.elem T)) := by rw [hu]; simp [Program.elem, hu]
  have hel2 : P.elem T = e := by simp [Program.elem, hu]
  simp [execOp, eval_acts ox, eval_acts ol, hx, hl, Instr.sliceAt, run_und hu]
  have := run_slice_l (P := P) (w := w) T a k c hel kk lo hb.1 (by omega)
  rw [hel2, F.run_size] at this
  simp [this, sliced, cutA]
theorem slOh {hi : Int} {yhi : Operand} (hO : (own B e (.slice a k c) xs).holds M w) (ox : okT n x = true) (oh : okT n yhi = true) (hx : ev f x = .slice a k c) (hh : ev f yhi = .int kk hi) (hb : 0 ≤ hi ∧ hi ≤ xs.length) (hu : P.underlying T = some (.slice e)) (F : TyF P e 1 agg bytes z)
    (h : K (upd f d (.slice (cutA a c 0) hi.toNat c)) w) :
    SO P n ops ⟨some d, .slice T x none (some yhi) none, ty, ps, af, none⟩ f w K := by
  obtain ⟨hk, hc⟩ := own_shape hO
  refine SO.value (v := .slice (cutA a c 0) hi.toNat c) (w' := w) ?_ h
  have hel : P.underlying T = some (.slice (P.elem T)) := by rw [hu]; simp [Program.elem, hu]
  have hel2 : P.elem T = e := by simp [Program.elem, hu]
  simp [execOp, eval_acts ox, eval_acts oh, hx, hh, Instr.sliceAt, run_und hu]
  have := run_slice_h (P := P) (w := w) T a k c hel kk hi hb.1 (by omega)
  rw [hel2, F.run_size] at this
  simp [this, sliced, cutA]
theorem HI.putSeg (H : HI M0 w0 w l) (i : Nat) {g cap : Nat} {cur : Array Value} {cs ds : List Value} {o : Nat} (hi : l[i]? = some (own w0.heap.size e (.slice (some ⟨g, 0, none⟩) xs.length cap) xs))
    (h3 : w0.heap.size ≤ g) (h4 : w.heap[g]? = some (.cells cur e (0, 0))) (h5 : xs.length ≤ cap) (h6 : cap ≤ maxLen) (h7 : cur.size = cap) (h8 : cur.toList.take xs.length = cs)
    (hc : Chunks (MS M0 l) w cs xs) (hd : Chunks (MS M0 l) w ds ys) (ho : o + ys.length ≤ xs.length) :
    HI M0 w0 (w.setRow g (cur.toList.take o ++ ds ++ cur.toList.drop (o + ds.length)).toArray) (l.set i (own w0.heap.size e (.slice (some ⟨g, 0, none⟩) xs.length cap) (xs.take o ++ (ys ++ xs.drop (o + ys.length))))) := by
  have hdl : ds.length = ys.length := by have := Chunks.length hd; simpa [GT.size] using this
  have hcl : cs.length = xs.length := by have := Chunks.length hc; simpa [GT.size] using this
  have hnl : (xs.take o ++ (ys ++ xs.drop (o + ys.length))).length = xs.length := by simp; omega
  have hcur : cur.toList.length = cap := by simpa using h7
  have hother : ∀ q, q < w.heap.size → (own w0.heap.size e (Value.slice (some ⟨g, 0, none⟩) xs.length cap) xs).blk ≠ some q → (w.setRow g (cur.toList.take o ++ ds ++ cur.toList.drop (o + ds.length)).toArray).heap[q]? = w.heap[q]? :=
    fun q hq hne => setRow_other w g q _ (fun e => hne (by rw [e]; rfl))
  refine H.turn i hi rfl rfl rfl (by simp) hother ?_ ?_
  · intro b hb
    refine ⟨?_, .inl hb⟩
    rw [size_setRow]
    exact (H.blks _ (List.mem_of_getElem? hi) b hb).2
  · have hup : Up (MS M0 l) w (MS M0 (l.set i (own w0.heap.size e (Value.slice (some ⟨g, 0, none⟩) xs.length cap) (xs.take o ++ (ys ++ xs.drop (o + ys.length)))))) (w.setRow g (cur.toList.take o ++ ds ++ cur.toList.drop (o + ds.length)).toArray) := by
      refine ⟨by simp, fun b hb hM => ⟨setRow_other w g b _ (fun e => hM (.inr ⟨_, List.mem_of_getElem? hi, by rw [e]; rfl⟩)), ?_⟩⟩
      rintro (hM' | ⟨it, hit, hitb⟩)
      · exact hM (.inl hM')
      · rcases List.mem_or_eq_of_mem_set hit with hit | rfl
        · exact hM (.inr ⟨it, hit, hitb⟩)
        · exact hM (.inr ⟨_, List.mem_of_getElem? hi, hitb⟩)
    refine ⟨cs.take o ++ (ds ++ cs.drop (o + ds.length)), ⟨by simp [GT.size]; omega, .inr ⟨g, cap, _, by rw [hnl], h3, setRow_heap w g cur _ e _ h4, by omega, h6, ?_, ?_⟩⟩, ?_⟩
    · simp only [List.size_toArray, List.length_append, List.length_take, List.length_drop, GT.size]
      omega
    · rw [hnl]
      show (cur.toList.take o ++ ds ++ cur.toList.drop (o + ds.length)).take (xs.length * 1) = _
      rw [← h8, Nat.mul_one, List.append_assoc, List.take_append, List.take_append, List.length_take, Nat.min_eq_left (by omega), List.take_take, List.take_take, List.drop_take, List.take_of_length_le (by omega : ds.length ≤ xs.length - o), Nat.min_comm o xs.length,
        show xs.length - o - ds.length = xs.length - (o + ds.length) from by omega]
    · have e9 : xs.drop (o + ys.length) = xs.drop (o + ds.length) := by rw [hdl]
      have q := Chunks.lift hup (chunks_cut (o + ds.length) hc).2
      exact Chunks.append (Chunks.lift hup (chunks_cut o hc).1) (Chunks.append (Chunks.lift hup hd) ((congrArg (fun r => Chunks _ _ _ r) e9).mpr q))
end
end Go.Ew
namespace Go.Ew
open Go.RowKit
set_option linter.unusedVariables false
set_option linter.unusedSimpArgs false
def FPH (P : Program) (g : FuncId) (C : List Value) (M : Nat → Prop) (w : World) (it : List Int → Item) (r : List Item) (xs : List Int) (p : Int → Bool) : Prop :=
  GoF P g ∧ ∀ w1 ys, HI M w w1 ([it ys] ++ r) → ∀ x, x ∈ xs → I64 x → Calls P g ([Value.int .i64 x] ++ C).toArray w1 (Ret fun u w2 => u = .bool (p x) ∧ Ext w1 w2)
theorem FPH.fp {P : Program} {g : FuncId} {C : List Value} {M M' : Nat → Prop} {w w1 : World} {it : List Int → Item} {r : List Item} {xs ys : List Int} {p : Int → Bool} (h : FPH P g C M w it r xs p) (H : HI M w w1 ([it ys] ++ r)) : FP P g C M' w1 xs p :=
  ⟨h.1, fun w2 v x hx e hv => by
    obtain ⟨cs, ⟨e1, hi⟩, e2⟩ := hv
    rw [e1] at e2
    cases e2
    exact h.2 w2 ys (H.ext e) x hx hi⟩
theorem zeroCells_one (v : Value) : ∀ n, (Builtin.zeroCells #[v] n).toList = List.replicate n v := by
  intro n
  unfold Builtin.zeroCells
  apply List.ext_getElem?
  intro i
  simp only [Array.toList_map, List.getElem?_map, Array.toList_range, List.getElem?_replicate]
  by_cases h : i < n
  · rw [List.getElem?_range (by simpa using h), if_pos h]
    simp [Nat.mod_one]
  · rw [List.getElem?_eq_none (by simpa using h), if_neg h]; rfl
section
variable {P : Program} {n : Nat} {ops : Array Oper} {f : Slots} {w : World} {K : Slots → World → Prop} {x y : Operand} {d : Nat} {ty T e : TypeId} {ps : String} {af : Array Edge} {v u : Value} {M M0 : Nat → Prop} {w0 : World} {l : List Item} {bytes : Nat} {B : Nat} {kk : IntKind} {agg : Bool} {xs ys : List Int} {a : Option Addr} {k c : Nat}
theorem slCut {hi : Int} {yhi : Operand} (H : HI M0 w0 w l) (i : Nat) (hi' : l[i]? = some (own B e (.slice a k c) xs)) (ox : okT n x = true) (oh : okT n yhi = true) (hx : ev f x = .slice a k c) (hh : ev f yhi = .int kk hi) (hb : 0 ≤ hi ∧ hi ≤ xs.length) (hu : P.underlying T = some (.slice e)) (F : TyF P e 1 agg bytes (.int .i64 0))
    (h : HI M0 w0 w (l.set i (own B e (.slice a (xs.take hi.toNat).length c) (xs.take hi.toNat))) → K (upd f d (.slice a (xs.take hi.toNat).length c)) w) :
    SO P n ops ⟨some d, .slice T x none (some yhi) none, ty, ps, af, none⟩ f w K := by
  have hO := H.at_ i hi'
  have hil := (List.getElem?_eq_some_iff.1 hi').1
  have hlen : (xs.take hi.toNat).length = hi.toNat := by simp; omega
  have hcut : cutA a c 0 = a := by
    unfold cutA
    split
    · rfl
    · obtain ⟨cs, h1, h2⟩ := hO
      rcases h1.2 with ⟨h3, h4⟩ | ⟨g, cap, cur, h3, h4⟩
      · cases h3; rfl
      · cases h3
        show some (Addr.add _ (0 * 1)) = _
        rw [add0]
  refine slOh hO ox oh hx hh hb hu F ?_
  rw [hcut]
  rw [hlen] at h
  refine h ?_
  refine H.weaken ?_ ?_
  · apply List.ext_getElem?
    intro j
    rw [List.getElem?_map, List.getElem?_map]
    by_cases hj : i = j
    · subst hj; rw [List.getElem?_set_self hil, hi']; cases a <;> rfl
    · rw [List.getElem?_set_ne hj]
  · intro j it it' hj hj' M hh'
    by_cases hj2 : i = j
    · subst hj2
      rw [List.getElem?_set_self hil] at hj'
      rw [hi'] at hj
      cases hj; cases hj'
      obtain ⟨cs, h1, h2⟩ := hh'
      have hcl := Chunks.length h2
      refine ⟨cs.take hi.toNat, ⟨by rw [hlen]; simp only [GT.size] at hcl ⊢; rw [List.length_take]; omega, ?_⟩, (chunks_cut _ h2).1⟩
      rcases h1.2 with ⟨h3, h4⟩ | ⟨g, cap, cur, h3, h4, h5, h6, h7, h8, h9⟩
      · cases h3
        refine .inl ⟨by rw [show hi.toNat = 0 from by omega], by rw [hlen]; omega⟩
      · cases h3
        refine .inr ⟨g, c, cur, by rw [hlen], h4, h5, by omega, h7, h8, ?_⟩
        rw [← h9, hlen, List.take_take]
        congr 1
        simp only [GT.size]; omega
    · rw [List.getElem?_set_ne hj2, hj] at hj'; cases hj'; exact hh'
theorem clO (H : HI M0 w0 w l) (i : Nat) (hi : l[i]? = some (own B e (.slice a k c) xs)) (hB : B = w0.heap.size) (ox : okT n x = true) {q : Nat} (hx : ev f x = .slice (cutA a c q) (k - q) (c - q))
    (hu : P.underlying T = some (.slice e)) (F : TyF P e 1 agg bytes (.int .i64 0)) (hq : q ≤ xs.length)
    (h : ∀ w', HI M0 w0 w' (l.set i (own B e (.slice a k c) (xs.take q ++ (List.replicate (xs.length - q) 0 ++ [])))) → K f w') :
    SO P n ops ⟨none, .call { callee := .builtin .clear, args := #[x], argTypes := #[T] }, ty, ps, af, none⟩ f w K := by
  subst hB
  have hO := H.at_ i hi
  have hil := (List.getElem?_eq_some_iff.1 hi).1
  obtain ⟨hk, hc⟩ := own_shape hO
  obtain ⟨cs, h1, h2⟩ := hO
  by_cases hq2 : q = xs.length
  · have hz : k - q = 0 := by omega
    refine SO.value (d := none) (v := .tuple #[]) (w' := w) ?_ (h w ?_)
    · have hr2 : (Builtin.clear_ #[T] ty #[.slice (cutA a c q) 0 (c - q)]).run P w = .ok (.tuple #[]) w := by
        cases hca : cutA a c q <;> simp [Builtin.clear_, run_underlying hu]
      rw [hz] at hx
      simp [execOp, resolve, invoke, builtin, eval_acts ox, hx, hr2]
    · have e9 : xs.take q ++ (List.replicate (xs.length - q) 0 ++ []) = xs := by rw [hq2]; simp
      rw [e9]
      have : l.set i (own w0.heap.size e (.slice a k c) xs) = l := by
        apply List.ext_getElem?
        intro j
        by_cases hj : i = j
        · subst hj; rw [List.getElem?_set_self hil, hi]
        · rw [List.getElem?_set_ne hj]
      rw [this]; exact H
  · rcases h1.2 with ⟨h0, h3⟩ | ⟨g', c1, cur, h0, h3, h4, h5, h6, h7, h8⟩
    · omega
    · cases h0
      have hsz : cur.size = c := by rw [h7]; simp [GT.size]
      have hcA : cutA (some ⟨g', 0, none⟩) c q = some ⟨g', q, none⟩ := by unfold cutA; rw [if_neg (by omega), Nat.mul_one]; show some (Addr.add _ q) = _; rw [add0]
      rw [hcA] at hx
      have hz : Chunks (MS M0 l) w (List.replicate (xs.length - q) (Value.int .i64 0)) (List.replicate (xs.length - q) (0 : Int)) := by
        have : ∀ m, Chunks (MS M0 l) w (List.replicate m (Value.int .i64 0)) (List.replicate m (0 : Int)) := by
          intro m
          induction m with
          | zero => rfl
          | succ m ih => exact ⟨[.int .i64 0], List.replicate m (.int .i64 0), by rw [List.replicate_succ]; rfl, ⟨rfl, by unfold I64; omega⟩, ih⟩
        exact this _
      have hst := run_storeCells_at P g' q e (List.replicate (xs.length - q) (Value.int .i64 0)) 0 cur w h4 (by rw [List.length_replicate]; omega) (Chunks.oneC hz)
      refine SO.value (d := none) (v := .tuple #[]) (w' := w.setRow g' (cur.toList.take q ++ List.replicate (xs.length - q) (Value.int .i64 0) ++ cur.toList.drop (q + (List.replicate (xs.length - q) (Value.int .i64 0)).length)).toArray) ?_ (h _ ?_)
      · obtain ⟨m, hm⟩ : ∃ m, xs.length - q = m + 1 := ⟨xs.length - q - 1, by omega⟩
        have hr2 : (Builtin.clear_ #[T] ty #[.slice (some ⟨g', q, none⟩) (xs.length - q) (c - q)]).run P w = .ok (.tuple #[]) (w.setRow g' (cur.toList.take q ++ List.replicate (xs.length - q) (Value.int .i64 0) ++ cur.toList.drop (q + (List.replicate (xs.length - q) (Value.int .i64 0)).length)).toArray) := by
          have hcells : (Builtin.zeroCells (Value.int .i64 0).cells (xs.length - q)).toList = List.replicate (xs.length - q) (Value.int .i64 0) := zeroCells_one _ _
          rw [Nat.add_zero] at hst
          rw [hm] at hst hcells ⊢
          simp [Builtin.clear_, run_underlying hu, F.run_zero, hcells, hst]
        simp [execOp, resolve, invoke, builtin, eval_acts ox, hx, hr2]
      · have := HI.putSeg (ys := List.replicate (xs.length - q) 0) (ds := List.replicate (xs.length - q) (Value.int .i64 0)) (o := q) H i hi h3 h4 h5 h6 hsz (by simpa [GT.size] using h8) h2 hz (by rw [List.length_replicate]; omega)
        have e8 : xs.drop (q + (List.replicate (xs.length - q) (0 : Int)).length) = [] := by rw [List.length_replicate]; exact List.drop_eq_nil_of_le (by omega)
        rw [e8] at this
        exact this
end
end Go.Ew
namespace Go.Ew
set_option linter.unusedVariables false
def bitB (i : Int) : BitVec 64 := if 0 ≤ i ∧ i ≤ 63 then 1#64 <<< i.toNat else 0#64
theorem ofInt_i64 {i : Int} (h : I64 i) : ((BitVec.ofInt 64 i).toNat : Int) = if 0 ≤ i then i else i + 18446744073709551616 := by
  rw [← wrap_u64_bv, IntKind.wrap_u64]; unfold I64 at h; split <;> omega
theorem bitB_hi {i : Int} (h : I64 i) (h1 : 63 < (BitVec.ofInt 64 i).toNat) : 0#64 = bitB i := by
  unfold bitB; rw [if_neg]; have := ofInt_i64 h; unfold I64 at h; split at this <;> omega
theorem bitB_lo {i : Int} (h : I64 i) (h1 : ¬ 63 < (BitVec.ofInt 64 i).toNat) : 1#64 <<< ((BitVec.ofInt 64 i).toNat : Int).toNat = bitB i := by
  have h2 := ofInt_i64 h
  unfold bitB; unfold I64 at h
  split at h2
  · rw [if_pos (by omega)]; congr 1; omega
  · omega
def hasW (w : BitVec 64) (i : Int) : Bool := decide (0 ≤ i) && w.getLsbD i.toNat
theorem and_bit (w : BitVec 64) (k : Nat) (hk : k < 64) : (w &&& 1#64 <<< k = 0#64) ↔ w.getLsbD k = false := by
  constructor
  · intro h
    have := congrArg (·.getLsbD k) h
    simpa [hk] using this
  · intro h
    apply BitVec.eq_of_getLsbD_eq
    intro j hj
    simp only [BitVec.getLsbD_and, BitVec.getLsbD_shiftLeft, BitVec.getLsbD_zero]
    by_cases hjk : j = k
    · subst hjk; simp [h]
    · by_cases hlt : j < k
      · simp [hlt]
      · have : j - k ≠ 0 := by omega
        simp [this]
theorem hasW_eq (w : BitVec 64) (i : Int) : (!decide (w &&& bitB i = 0#64)) = hasW w i := by
  unfold bitB hasW
  by_cases h : 0 ≤ i ∧ i ≤ 63
  · rw [if_pos h, Bool.eq_iff_iff]
    have := and_bit w i.toNat (by omega)
    simp [this, h.1]
  · rw [if_neg h]
    by_cases h0 : 0 ≤ i
    · have : w.getLsbD i.toNat = false := BitVec.getLsbD_of_ge w _ (by omega)
      simp [this]
    · simp [h0]
abbrev Row := List (BitVec 64)
def hasR (r : Row) (i : Int) : Bool := decide (0 ≤ i) && (r.getD (i.toNat / 64) 0#64).getLsbD (i.toNat % 64)
def inR (r : Row) (i : Int) : Bool := decide (0 ≤ i ∧ i < 64 * (r.length : Int))
theorem inR_yes {r : Row} {i : Int} (h : 0 ≤ i) : decide (i / 64 < (r.length : Int)) = inR r i := by
  unfold inR; congr 1; apply propext; omega
theorem inR_no {r : Row} {i : Int} (h : i < 0) : false = inR r i := by
  unfold inR; simp; omega
theorem hasR_in {r : Row} {i : Int} (h : inR r i = true) {x : BitVec 64} (hx : r[(i / 64).toNat]? = some x) : hasW x (i % 64) = hasR r i := by
  unfold inR at h; simp only [decide_eq_true_eq] at h
  unfold hasW hasR
  have e1 : (i / 64).toNat = i.toNat / 64 := by omega
  have e2 : (i % 64).toNat = i.toNat % 64 := by omega
  rw [e1] at hx
  rw [e2, List.getD_eq_getElem?_getD, hx]
  simp [h.1, Int.emod_nonneg]
theorem hasR_out {r : Row} {i : Int} (h : inR r i = false) : false = hasR r i := by
  unfold inR at h; simp only [decide_eq_false_iff_not] at h
  unfold hasR
  by_cases h0 : 0 ≤ i
  · rw [List.getD_eq_getElem?_getD, List.getElem?_eq_none (by omega)]; simp
  · simp [h0]
def setR (r : Row) (i : Int) : Row := if inR r i then r.set (i.toNat / 64) (r.getD (i.toNat / 64) 0#64 ||| bitB (i % 64)) else r
theorem setR_in {r : Row} {i : Int} (h : inR r i = true) {x : BitVec 64} (hx : r[(i / 64).toNat]? = some x) : r.set (i / 64).toNat (x ||| bitB (i % 64)) = setR r i := by
  unfold setR; rw [if_pos h]
  unfold inR at h; simp only [decide_eq_true_eq] at h
  have e1 : (i / 64).toNat = i.toNat / 64 := by omega
  rw [e1] at hx
  rw [e1, List.getD_eq_getElem?_getD, hx]; rfl
theorem setR_out {r : Row} {i : Int} (h : inR r i = false) : r = setR r i := by
  unfold setR; rw [if_neg (by simp [h])]
end Go.Ew
namespace Go.Ew
set_option linter.unusedVariables false
def cntN (x : Nat) : Nat → Nat
  | 0 => 0
  | k + 1 => cntN x k + (x.testBit k).toNat
def countW (x : BitVec 64) : Nat := cntN x.toNat 64
def rep (m : Nat) : Nat → Nat
  | 0 => 0
  | n + 1 => m + 256 * rep m n
def s1 (n x : Nat) : Nat := (x / 2 &&& rep 0x55 n) + (x &&& rep 0x55 n)
def s2 (n x : Nat) : Nat := (x / 4 &&& rep 0x33 n) + (x &&& rep 0x33 n)
def s3 (n x : Nat) : Nat := (x / 16 + x) &&& rep 0x0f n
def byte1 (a : Nat) : Nat := (a / 2 &&& 0x55) + (a &&& 0x55)
def byte2 (a : Nat) : Nat := (a / 4 &&& 0x33) + (a &&& 0x33)
theorem b3 : ∀ a < 256, byte2 (byte1 a) < 69 ∧ byte2 (byte1 a) % 16 < 5 ∧ byte2 (byte1 a) % 16 + byte2 (byte1 a) / 16 = cntN a 8 := by decide +kernel
theorem d1 {a b : Nat} (h : a < 256) : (a + 256 * b) / 256 = b := by omega
theorem d2 {a b c : Nat} (h : a < 256) (h' : b < 256) : (a + 256 * (b + 256 * c)) / 65536 = c := by omega
end Go.Ew
namespace Go.Ew
set_option linter.unusedVariables false
def countR (r : Row) : Nat := (r.map countW).sum
def partW (x y : BitVec 64) : Bool := decide (x &&& ~~~y = 0#64)
def subAt (a b : Row) (i : Nat) : Bool := partW (a.getD i 0#64) (b.getD i 0#64)
def subTo (a b : Row) (k : Nat) : Bool := (List.range k).all (subAt a b)
def subR (a b : Row) : Bool := subTo a b a.length
theorem getD_at {r : Row} {k : Nat} {x : BitVec 64} (h : r[((k : Nat) : Int).toNat]? = some x) : r.getD k 0#64 = x := by
  rw [Int.toNat_natCast] at h; rw [List.getD_eq_getElem?_getD, h]; rfl
theorem getD_out {r : Row} {k : Nat} (h : r.length ≤ k) : r.getD k 0#64 = 0#64 := by
  rw [List.getD_eq_getElem?_getD, List.getElem?_eq_none h]; rfl
def words (n : Int) : Nat := ((max n 0 + 63) / 64).toNat
def newR (n : Int) : Row := List.replicate (words n) 0#64
theorem or_bit_get (x : BitVec 64) (i j : Nat) (hi : i < 64) (hj : j < 64) : (x ||| bitB (i : Int)).getLsbD j = (x.getLsbD j || decide (j = i)) := by
  unfold bitB
  rw [if_pos (by omega), BitVec.getLsbD_or, BitVec.getLsbD_shiftLeft, Int.toNat_natCast]
  congr 1
  by_cases h : j = i
  · subst h; simp [hi]
  · by_cases h2 : j < i
    · simp [h, h2]
    · have : j - i ≠ 0 := by omega
      simp [h, h2, this, hj]
theorem setR_length (r : Row) (i : Int) : (setR r i).length = r.length := by unfold setR; split <;> simp
theorem inR_set (r : Row) (i j : Int) : inR (setR r i) j = inR r j := by unfold inR; rw [setR_length]
theorem setR_get {r : Row} {i : Int} (h : inR r i = true) (k : Nat) (hk : k < r.length) : (setR r i).getD k 0#64 = if k = i.toNat / 64 then r.getD k 0#64 ||| bitB ((i.toNat % 64 : Nat) : Int) else r.getD k 0#64 := by
  unfold setR; rw [if_pos h]
  unfold inR at h; simp only [decide_eq_true_eq] at h
  have e : i % 64 = ((i.toNat % 64 : Nat) : Int) := by omega
  simp only [List.getD_eq_getElem?_getD]
  by_cases hk2 : k = i.toNat / 64
  · subst hk2
    rw [List.getElem?_set_self hk, if_pos rfl, e]; rfl
  · rw [List.getElem?_set_ne (fun e => hk2 e.symm), if_neg hk2]
theorem hasR_set_self {r : Row} {i : Int} : hasR (setR r i) i = inR r i := by
  by_cases h : inR r i = true
  · have h' := h
    unfold inR at h'; simp only [decide_eq_true_eq] at h'
    have hm : i.toNat % 64 < 64 := Nat.mod_lt _ (by decide)
    rw [h]; unfold hasR
    rw [setR_get h _ (by omega), if_pos rfl, or_bit_get _ _ _ hm hm]
    simp [h'.1]
  · have h2 : inR (setR r i) i = false := by rw [inR_set]; simpa using h
    rw [← hasR_out h2]; simpa using h
end Go.Ew
namespace Go.Ew
set_option linter.unusedVariables false
abbrev Rows := List (List (BitVec 64))
def outN (n k : Int) : Bool := decide (k < 0) || decide (n ≤ k)
def inM (n : Int) (l : List Int) : Bool := !l.any (outN n)
theorem inM_two {n a b : Int} : inM n [a, b] = true ↔ (0 ≤ a ∧ a < n) ∧ (0 ≤ b ∧ b < n) := by
  unfold inM outN
  simp
def rowAt (rs : Rows) (i : Int) : Row := rs.getD i.toNat []
theorem rowAt_of {rs : Rows} {i : Int} {x : Row} (h : rs[i.toNat]? = some x) : rowAt rs i = x := by unfold rowAt; rw [List.getD_eq_getElem?_getD, h]; rfl
def setM (rs : Rows) (p : Int × Int) : Rows := rs.set p.1.toNat (setR (rowAt rs p.1) p.2)
theorem setM_length (rs : Rows) (p : Int × Int) : (setM rs p).length = rs.length := by unfold setM; simp
theorem setM_of {rs : Rows} {i j : Int} {x : Row} (h : rs[i.toNat]? = some x) : rs.set i.toNat (setR x j) = setM rs (i, j) := by unfold setM; rw [rowAt_of h]
def okN (n : Int) : Bool := decide (0 ≤ n) && decide (n ≤ 4096)
theorem okN_iff {n : Int} : okN n = true ↔ 0 ≤ n ∧ n ≤ 4096 := by unfold okN; simp
theorem okN_no {n : Int} : okN n = false ↔ ¬ (0 ≤ n ∧ n ≤ 4096) := by rw [← okN_iff]; simp
def newM (n : Int) : Rows := List.replicate n.toNat (newR n)
def newMN (n : Int) : Int := if okN n then n else 0
def newMR (n : Int) : Rows := if okN n then newM n else []
def newME (n : Int) : Int := if okN n then 0 else 1
theorem newM_yes {n : Int} (h : okN n = true) : newMN n = n ∧ newMR n = newM n ∧ newME n = 0 := by simp [newMN, newMR, newME, h]
theorem newM_no {n : Int} (h : okN n = false) : newMN n = 0 ∧ newMR n = [] ∧ newME n = 1 := by simp [newMN, newMR, newME, h]
theorem newM_length (n : Int) : (newM n).length = n.toNat := by unfold newM; simp
def fillTo {α : Type} (m k : Nat) (a b : α) : List α := List.replicate k a ++ List.replicate (m - k) b
theorem fillTo_zero {α : Type} (m : Nat) (a b : α) : List.replicate m b = fillTo m 0 a b := by simp [fillTo]
theorem fillTo_set {α : Type} {m k : Nat} {a b : α} (h : k < m) : (fillTo m k a b).set k a = fillTo m (k + 1) a b := by
  unfold fillTo
  obtain ⟨q, hq⟩ : ∃ q, m - k = q + 1 := ⟨m - k - 1, by omega⟩
  rw [hq, List.set_append_right _ _ (by simp), show m - (k + 1) = q from by omega, List.length_replicate, Nat.sub_self, List.replicate_succ, List.set_cons_zero, List.replicate_succ', List.append_assoc]
  rfl
theorem fillTo_end {α : Type} {m k : Nat} {a b : α} (h : k = m) : fillTo m k a b = List.replicate m a := by subst h; simp [fillTo]
def foldM (n : Int) (ps : List (Int × Int)) : Rows := ps.foldl setM (newM n)
theorem foldl_setM_length : ∀ (ps : List (Int × Int)) (rs : Rows), (ps.foldl setM rs).length = rs.length
  | [], _ => rfl
  | p :: ps, rs => by rw [List.foldl_cons, foldl_setM_length ps, setM_length]
theorem foldM_length (n : Int) (ps : List (Int × Int)) : (foldM n ps).length = n.toNat := by unfold foldM; rw [foldl_setM_length, newM_length]
theorem foldM_step {n : Int} {ps : List (Int × Int)} {j : Nat} {p : Int × Int} (h : ps[((j : Nat) : Int).toNat]? = some p) : foldM n (ps.take (j + 1)) = setM (foldM n (ps.take j)) p := by
  unfold foldM; rw [take_at h, List.foldl_append]; rfl
theorem all_take {α : Type} {l : List α} {q : α → Bool} {j : Nat} {x : α} (h : l[((j : Nat) : Int).toNat]? = some x) (h1 : (l.take j).all q = true) (h2 : q x = true) : (l.take (j + 1)).all q = true := by
  rw [take_at h, List.all_append, h1]; simp [h2]
theorem all_no {α : Type} {l : List α} {q : α → Bool} {i : Nat} {x : α} (h : l[i]? = some x) (h2 : q x = false) : l.all q = false := by
  rw [List.all_eq_false]; exact ⟨x, List.mem_of_getElem? h, by simp [h2]⟩
theorem setM_rows {m : Nat} {rs : Rows} {p : Int × Int} (h : ∀ x ∈ rs, x.length = m) : ∀ x ∈ setM rs p, x.length = m := by
  intro x hx
  unfold setM at hx
  by_cases hi : p.1.toNat < rs.length
  · rcases List.mem_or_eq_of_mem_set hx with hx | rfl
    · exact h x hx
    · rw [setR_length]
      unfold rowAt
      rw [List.getD_eq_getElem?_getD, List.getElem?_eq_getElem hi]
      exact h _ (List.getElem_mem hi)
  · rw [List.set_eq_of_length_le (by omega)] at hx
    exact h x hx
theorem foldl_setM_rows {m : Nat} : ∀ (ps : List (Int × Int)) (rs : Rows), (∀ x ∈ rs, x.length = m) → ∀ x ∈ ps.foldl setM rs, x.length = m
  | [], _, h => h
  | p :: ps, rs, h => by rw [List.foldl_cons]; exact foldl_setM_rows ps _ (setM_rows h)
theorem newR_length (n : Int) : (newR n).length = words n := by unfold newR; simp
theorem foldM_row {n : Int} {ps : List (Int × Int)} {i : Nat} {x : Row} (h : (foldM n ps)[i]? = some x) : x.length = words n :=
  foldl_setM_rows ps (newM n) (by
    intro x hx
    unfold newM at hx
    rw [List.eq_of_mem_replicate hx, newR_length]) x (List.mem_of_getElem? h)
theorem words_le {n : Int} (h : n ≤ 4096) : words n ≤ 64 := by unfold words; omega
theorem at_is {α : Type} {l : List α} {i : Nat} {x y : α} (h : l[i]? = some x) (e : l[i]? = some y) : x = y := Option.some.inj (h.symm.trans e)
end Go.Ew
namespace Go.Ew
set_option linter.unusedVariables false
theorem inR_of {r : Row} {i : Int} (h0 : 0 ≤ i) (h : i < 64 * (r.length : Int)) : inR r i = true := by unfold inR; simp [h0, h]
theorem inR_not {r : Row} {i : Int} (h : ¬ (0 ≤ i ∧ i < 64 * (r.length : Int))) : inR r i = false := by unfold inR; simp; omega
theorem hasR_no {r : Row} {i : Int} (h : ¬ (0 ≤ i ∧ i < 64 * (r.length : Int))) : false = hasR r i := hasR_out (inR_not h)
end Go.Ew
namespace Go.Ew
open Go.RowKit Go.WideShapes Go.ChangeShapes
set_option linter.unusedVariables false
def tabN : List Nat := [0, 1, 56, 2, 57, 49, 28, 3, 61, 58, 42, 50, 38, 29, 17, 4, 62, 47, 59, 36, 45, 43, 51, 22, 53, 39, 33, 30, 24, 18, 12, 5, 63, 55, 48, 27, 60, 41, 37, 16, 46, 35, 44, 21, 52, 32, 23, 11, 54, 26, 40, 15, 34, 20, 31, 10, 25, 14, 19, 9, 13, 8, 7, 6]
def TabAt (g : Nat) (w : World) : Prop := ∀ i, i < 64 → w.cell? ⟨g, i, none⟩ = some (.int .u8 ((tabN.getD i 0 : Nat) : Int))
theorem TabAt.ext {g : Nat} {w w' : World} (h : TabAt g w) (e : Ext w w') : TabAt g w' := by
  intro i hi
  have h1 := h i hi
  rw [Below.cell e (p := ⟨g, i, none⟩) (block_lt_cell h1)]
  exact h1
def tab8 (i : Nat) : BitVec 8 := BitVec.ofNat 8 (tabN.getD i 0)
theorem tab_lt : ∀ i < 64, tabN.getD i 0 < 64 := by decide
theorem tab8_nat {i : Nat} (h : i < 64) : ((tab8 i).toNat : Int) = ((tabN.getD i 0 : Nat) : Int) := by
  have := tab_lt i h
  unfold tab8
  rw [BitVec.toNat_ofNat]
  omega
theorem TabAt.at_ {g : Nat} {w : World} {M : Nat → Prop} (h : TabAt g w) {i : Nat} (hi : i < 64) : AtW M w ⟨g, i, none⟩ (tab8 i) := by
  refine ⟨[U8 (tab8 i)], rfl, fun j v hv => ?_⟩
  cases j with
  | zero =>
    simp at hv; subst hv
    rw [show (⟨g, i, none⟩ : Addr).add 0 = ⟨g, i, none⟩ from rfl, h i hi, U8, tab8_nat hi]
  | succ j => simp at hv
theorem tabA {g : Nat} {w0 w : World} {M : Nat → Prop} (h : TabAt g w0) (e : Ext w0 w) {i : Nat} {ad : Addr} (ha : (⟨g, 0, none⟩ : Addr).add (i * 1) = ad) (hi : i < 64) : AtW M w ad (tab8 i) := by
  have : ad = ⟨g, i, none⟩ := by
    rw [← ha, Nat.mul_one]
    unfold Addr.add
    split
    · rename_i h; rw [h]
    · simp
  rw [this]
  exact (h.ext e).at_ hi
theorem tab_of_laid {P : Program} {g : Nat} {t e : TypeId} {name : String} {D : DataW Unit} {W : World} (hg : P.globalNamed name = some g) (ht : (P.globals[g]?).map (·.type) = some t)
    (hu : P.underlying t = some (.array 64 e)) (he : P.underlying e = some (.int .u8)) (hc : P.cellsOf e = 1) (hD : D = .agg (tabN.map fun k => .lit (.int .u8 ((k : Nat) : Int)))) (h : laidMetH P [(name, D)] W)
    (hp : laidMetH P [(name, D)] W ↔ laidMet P [(name, D)] W) : TabAt g W := by
  rw [hp] at h
  obtain ⟨ps, ⟨g0, t0, cs0, f0, p0, q0, hg0, ht0, hv0, hd0, _⟩, _⟩ := h
  obtain rfl := Option.some.inj (hg.symm.trans hg0)
  obtain rfl := Option.some.inj (ht.symm.trans ht0)
  obtain ⟨xs, m, rfl, hx, hlen, hn, hel⟩ := DataW.trod_array hu hd0
  intro i hi
  have h1 := hel i hi
  rw [hc, Nat.mul_one, List.getElem?_eq_getElem (by omega : i < xs.length)] at h1
  obtain ⟨k, e1, e2, _⟩ := DataW.trod_int he h1
  simp only [Prod.mk.injEq] at hx
  have h2 : (DataW.agg (tabN.map fun k => DataW.lit (Lit.int .u8 ((k : Nat) : Int))) : DataW Unit) = .agg (xs.map (·.1)) := by rw [← hD]; exact hx.1
  injection h2 with h3
  have h4 := congrArg (fun l => l[i]?) h3
  have hti : i < tabN.length := by simpa [tabN] using hi
  simp only [List.getElem?_map, List.getElem?_eq_getElem hti, List.getElem?_eq_getElem (by omega : i < xs.length), Option.map_some, e2, Option.some.injEq] at h4
  injection h4 with h5
  injection h5 with h6 h7
  have h8 : tabN.getD i 0 = tabN[i] := by rw [List.getD_eq_getElem?_getD, List.getElem?_eq_getElem hti]; rfl
  rw [h8, h7]
  have := World.var?_cell hg0 hv0 i
  have hc2 : cs0[i]? = some (.int .u8 k) := by
    have : (cs0.toList.drop i).head? = some (.int .u8 k) := by
      have h9 : ((cs0.toList.drop i).take 1).head? = some (.int .u8 k) := by rw [e1]; rfl
      cases hq : cs0.toList.drop i with
      | nil => rw [hq] at h9; simp at h9
      | cons a b => rw [hq] at h9; simpa using h9
    rw [List.head?_drop] at this
    simpa using this
  rw [hc2] at this
  simpa using this
end Go.Ew
namespace Go.Ew
set_option linter.unusedVariables false
def listW (x : BitVec 64) : List Nat := (List.range 64).filter fun k => x.getLsbD k
def firstW (x : BitVec 64) : Nat := (listW x).headD 64
theorem filter_range_least {p : Nat → Bool} : ∀ (n : Nat), (∃ k < n, p k = true) → ∃ k, k < n ∧ p k = true ∧ (∀ j, j < k → p j = false) ∧ ∃ l, (List.range n).filter p = k :: l ∧ l = (List.range n).filter (fun i => p i && !decide (i = k))
  | 0, ⟨k, h, _⟩ => by omega
  | n + 1, h => by
    by_cases h1 : ∃ k < n, p k = true
    · obtain ⟨k, hk, hp, hl, l, e1, e2⟩ := filter_range_least n h1
      refine ⟨k, by omega, hp, hl, l ++ [n].filter p, ?_, ?_⟩
      · rw [List.range_succ, List.filter_append, e1]; rfl
      · rw [List.range_succ, List.filter_append, ← e2]
        congr 1
        have : ¬ n = k := by omega
        simp [List.filter_cons, this]
    · obtain ⟨k, hk, hp⟩ := h
      have hkn : k = n := by
        apply Classical.byContradiction
        intro hne
        exact h1 ⟨k, by omega, hp⟩
      subst hkn
      have hno : ∀ j, j < k → p j = false := by
        intro j hj
        cases hb : p j with
        | false => rfl
        | true => exact absurd ⟨j, hj, hb⟩ h1
      have hf : (List.range k).filter p = [] := by
        rw [List.filter_eq_nil_iff]
        intro j hj
        rw [List.mem_range] at hj
        simp [hno j hj]
      have hf2 : (List.range k).filter (fun i => p i && !decide (i = k)) = [] := by
        rw [List.filter_eq_nil_iff]
        intro j hj
        rw [List.mem_range] at hj
        simp [hno j hj]
      refine ⟨k, by omega, hp, hno, [], ?_, ?_⟩
      · rw [List.range_succ, List.filter_append, hf]; simp [hp]
      · rw [List.range_succ, List.filter_append, hf2]; simp
theorem bit_of_ne {x : BitVec 64} (h : x ≠ 0#64) : ∃ k < 64, x.getLsbD k = true := by
  apply Classical.byContradiction
  intro hn
  apply h
  apply BitVec.eq_of_getLsbD_eq
  intro i hi
  rw [BitVec.getLsbD_zero]
  cases hb : x.getLsbD i with
  | false => rfl
  | true => exact absurd ⟨i, hi, hb⟩ hn
theorem least {x : BitVec 64} (h : x ≠ 0#64) : ∃ l, firstW x < 64 ∧ x.getLsbD (firstW x) = true ∧ (∀ j, j < firstW x → x.getLsbD j = false) ∧ listW x = firstW x :: l ∧ l = (List.range 64).filter (fun i => x.getLsbD i && !decide (i = firstW x)) := by
  obtain ⟨k, hk, hp, hl, l, e1, e2⟩ := filter_range_least 64 (bit_of_ne h)
  have hf : firstW x = k := by unfold firstW listW; rw [e1]; rfl
  rw [hf]
  exact ⟨l, hk, hp, hl, e1, e2⟩
theorem below_iff {x : BitVec 64} {k : Nat} (hp : x.getLsbD k = true) (hl : ∀ j, j < k → x.getLsbD j = false) (i : Nat) : (∃ j, j < i ∧ x.getLsbD j = true) ↔ k < i := by
  constructor
  · rintro ⟨j, hj, h⟩
    rcases Nat.lt_or_ge k i with h1 | h1
    · exact h1
    · rw [hl j (by omega)] at h; cases h
  · intro h; exact ⟨k, h, hp⟩
theorem lowbit {x : BitVec 64} (h : x ≠ 0#64) : x &&& -x = 1#64 <<< firstW x := by
  obtain ⟨l, hk, hp, hl, -, -⟩ := least h
  apply BitVec.eq_of_getLsbD_eq
  intro i hi
  rw [BitVec.getLsbD_and, BitVec.getLsbD_neg, BitVec.getLsbD_shiftLeft]
  simp only [below_iff hp hl i]
  by_cases h1 : i = firstW x
  · subst h1; simp [hp, hk]
  · by_cases h2 : i < firstW x
    · simp [hl i h2, h2]
    · have h3 : firstW x < i := by omega
      have h4 : i - firstW x ≠ 0 := by omega
      cases hx : x.getLsbD i <;> simp [h2, h3, h4, hi]
theorem clear {x : BitVec 64} (h : x ≠ 0#64) : listW x = firstW x :: listW (x &&& (x - 1#64)) := by
  obtain ⟨l, hk, hp, hl, e1, e2⟩ := least h
  rw [e1, e2]
  congr 1
  unfold listW
  apply List.filter_congr
  intro i hi
  rw [List.mem_range] at hi
  have e : x - 1#64 = ~~~(-x) := by
    rw [BitVec.not_neg, BitVec.sub_eq_add_neg]
  rw [BitVec.getLsbD_and, e, BitVec.getLsbD_not, BitVec.getLsbD_neg]
  simp only [below_iff hp hl i]
  by_cases h1 : i = firstW x
  · subst h1; simp [hp, hk]
  · by_cases h2 : i < firstW x
    · simp [hl i h2]
    · have h3 : firstW x < i := by omega
      cases hx : x.getLsbD i <;> simp [h1, h3, hi]
theorem bruijn : ∀ k < 64, ((1#64 <<< k * 285870213051353865#64) >>> 58).toNat < 64 ∧ tabN.getD ((1#64 <<< k * 285870213051353865#64) >>> 58).toNat 0 = k := by decide +kernel
theorem zeros_lt {x : BitVec 64} (h : x ≠ 0#64) : (((x &&& -x) * 285870213051353865#64) >>> 58).toNat < 64 := by
  obtain ⟨l, hk, -⟩ := least h
  rw [lowbit h]; exact (bruijn _ hk).1
theorem zeros_eq {x : BitVec 64} (h : x ≠ 0#64) : ((tab8 (((x &&& -x) * 285870213051353865#64) >>> 58).toNat).toNat : Int) = ((firstW x : Nat) : Int) := by
  obtain ⟨l, hk, -⟩ := least h
  rw [tab8_nat (zeros_lt h), lowbit h, (bruijn _ hk).2]
theorem listW_zero : listW 0#64 = [] := by
  unfold listW
  rw [List.filter_eq_nil_iff]
  intro i _
  simp
theorem firstW_zero : firstW 0#64 = 64 := by unfold firstW; rw [listW_zero]; rfl
theorem firstW_le (x : BitVec 64) : firstW x ≤ 64 := by
  by_cases h : x = 0#64
  · subst h; rw [firstW_zero]; exact Nat.le_refl _
  · obtain ⟨l, hk, -⟩ := least h; omega
end Go.Ew
namespace Go.Ew
set_option linter.unusedVariables false
def intsW (j : Nat) (x : BitVec 64) : List Int := (listW x).map fun k => (j : Int) * 64 + ((k : Nat) : Int)
def listTo (r : Row) (j : Nat) : List Int := (List.range j).flatMap fun i => intsW i (r.getD i 0#64)
def listR (r : Row) : List Int := listTo r r.length
theorem intsW_zero (j : Nat) : intsW j 0#64 = [] := by unfold intsW; rw [listW_zero]; rfl
theorem intsW_step {j : Nat} {x : BitVec 64} (h : x ≠ 0#64) : intsW j x = ((j : Int) * 64 + ((firstW x : Nat) : Int)) :: intsW j (x &&& (x - 1#64)) := by
  unfold intsW; rw [clear h]; rfl
theorem listW_length (x : BitVec 64) : (listW x).length ≤ 64 := by
  unfold listW
  exact Nat.le_trans (List.length_filter_le _ _) (by simp)
theorem intsW_length (j : Nat) (x : BitVec 64) : (intsW j x).length ≤ 64 := by unfold intsW; rw [List.length_map]; exact listW_length x
theorem listTo_succ (r : Row) (j : Nat) : listTo r (j + 1) = listTo r j ++ intsW j (r.getD j 0#64) := by
  unfold listTo; rw [List.range_succ, List.flatMap_append]; simp
theorem listTo_length (r : Row) : ∀ j, (listTo r j).length ≤ 64 * j
  | 0 => by simp [listTo]
  | j + 1 => by
    have := listTo_length r j
    have := intsW_length j (r.getD j 0#64)
    rw [listTo_succ, List.length_append]; omega
theorem clear_less {x : BitVec 64} (h : x ≠ 0#64) : (listW (x &&& (x - 1#64))).length < (listW x).length := by
  rw [clear h]; simp
theorem listR_length (r : Row) : (listR r).length ≤ 64 * r.length := listTo_length r _
end Go.Ew
namespace Go.Ew
set_option linter.unusedVariables false
def orAt (a b : Row) (i : Nat) : BitVec 64 := a.getD i 0#64 ||| b.getD i 0#64
def orR (a b : Row) : Row := (List.range (max a.length b.length)).map (orAt a b)
theorem orAt_comm (a b : Row) (i : Nat) : orAt a b i = orAt b a i := BitVec.or_comm _ _
theorem orR_comm (a b : Row) : orR a b = orR b a := by
  unfold orR
  rw [Nat.max_comm]
  exact List.map_congr_left fun i _ => orAt_comm a b i
theorem orR_length (a b : Row) : (orR a b).length = max a.length b.length := by unfold orR; simp
def orTo (m : Nat) (a b z : Row) (j : Nat) : Row := (List.range m).map fun i => if i < j then orAt a b i else z.getD i 0#64
theorem orTo_length (m : Nat) (a b z : Row) (j : Nat) : (orTo m a b z j).length = m := by unfold orTo; simp
theorem orTo_zero (a b z : Row) : z = orTo z.length a b z 0 := by
  apply List.ext_getElem
  · rw [orTo_length]
  · intro i h1 h2
    unfold orTo
    simp [List.getD_eq_getElem?_getD, h1]
theorem orTo_get {m : Nat} {a b z : Row} {j : Nat} {x : BitVec 64} (h : (orTo m a b z j)[((j : Nat) : Int).toNat]? = some x) : x = z.getD j 0#64 := by
  rw [Int.toNat_natCast] at h
  obtain ⟨h1, h2⟩ := List.getElem?_eq_some_iff.1 h
  rw [← h2]
  unfold orTo
  simp
theorem orTo_set {m : Nat} {a b z : Row} {j : Nat} {v : BitVec 64} (hv : v = orAt a b j) : (orTo m a b z j).set j v = orTo m a b z (j + 1) := by
  apply List.ext_getElem
  · simp [orTo_length]
  · intro i h1 h2
    have hm : i < m := by rw [orTo_length] at h2; exact h2
    rw [List.getElem_set]
    unfold orTo
    simp only [List.getElem_map, List.getElem_range]
    by_cases hij : j = i
    · subst hij; simp [hv]
    · have : (i < j + 1) ↔ (i < j) := by omega
      simp [hij, this]
theorem orTo_all {a b z : Row} {j m : Nat} (hm : m = max a.length b.length) (h : ∀ i, j ≤ i → i < m → z.getD i 0#64 = orAt a b i) : orTo m a b z j = orR a b := by
  unfold orTo orR
  subst hm
  apply List.map_congr_left
  intro i hi
  rw [List.mem_range] at hi
  split
  · rfl
  · exact h i (by omega) hi
theorem orAt_left {a b : Row} {i : Nat} (h : b.length ≤ i) : a.getD i 0#64 = orAt a b i := by
  unfold orAt; rw [getD_out h, BitVec.or_zero]
def listN (r : Row) (n : Nat) : List Int := ((List.range n).filter fun k => hasR r ((k : Nat) : Int)).map fun k => ((k : Nat) : Int)
theorem range_add_map (m k : Nat) : List.range (m + k) = List.range m ++ (List.range k).map (fun i => m + i) := by
  apply List.ext_getElem
  · simp
  · intro i h1 h2
    simp only [List.getElem_range]
    by_cases h : i < m
    · rw [List.getElem_append_left (by simpa using h)]; simp
    · rw [List.getElem_append_right (by simpa using h)]; simp; omega
theorem hasR_word (r : Row) (j k : Nat) (hk : k < 64) : hasR r (((64 * j + k : Nat) : Nat) : Int) = (r.getD j 0#64).getLsbD k := by
  unfold hasR
  rw [Int.toNat_natCast, show (64 * j + k) / 64 = j from by omega, show (64 * j + k) % 64 = k from by omega]
  simp only [Bool.and_eq_right_iff_imp, decide_eq_true_eq]
  intro _; omega
theorem listN_list (r : Row) : ∀ j, listN r (64 * j) = listTo r j
  | 0 => rfl
  | j + 1 => by
    rw [listTo_succ, ← listN_list r j, show 64 * (j + 1) = 64 * j + 64 from by omega]
    unfold listN intsW listW
    rw [range_add_map, List.filter_append, List.map_append]
    congr 1
    rw [List.filter_map, List.map_map]
    have e : (List.range 64).filter ((fun k => hasR r ((k : Nat) : Int)) ∘ fun i => 64 * j + i) = (List.range 64).filter fun k => (r.getD j 0#64).getLsbD k := by
      apply List.filter_congr
      intro k hk
      rw [List.mem_range] at hk
      exact hasR_word r j k hk
    rw [e]
    apply List.map_congr_left
    intro k _
    show ((64 * j + k : Nat) : Int) = (j : Int) * 64 + ((k : Nat) : Int)
    omega
theorem listN_all (r : Row) : listN r (64 * r.length) = listR r := listN_list r r.length
end Go.Ew
namespace Go.Ew
set_option linter.unusedVariables false
theorem hasR_neg (r : Row) {i : Int} (h : i < 0) : hasR r i = false := (hasR_no (by omega)).symm
theorem hasR_nat (r : Row) (n : Nat) : hasR r ((n : Nat) : Int) = (r.getD (n / 64) 0#64).getLsbD (n % 64) := by
  unfold hasR; rw [Int.toNat_natCast]; simp
theorem hasR_setR {r : Row} {i k : Int} : hasR (setR r i) k = (hasR r k || (decide (k = i) && inR r i)) := by
  cases h : inR r i with
  | false => rw [← setR_out h]; simp
  | true =>
    by_cases hk : k = i
    · subst hk; rw [hasR_set_self, h]; simp
    · simp only [hk, decide_false, Bool.false_and, Bool.or_false]
      by_cases hk0 : k < 0
      · rw [hasR_neg _ hk0, hasR_neg _ hk0]
      · obtain ⟨n, rfl⟩ : ∃ n : Nat, k = ((n : Nat) : Int) := ⟨k.toNat, by omega⟩
        have h' := h
        unfold inR at h'; simp only [decide_eq_true_eq] at h'
        rw [hasR_nat, hasR_nat]
        by_cases hw : n / 64 < r.length
        · rw [setR_get h _ hw]
          split
          · rename_i e
            rw [or_bit_get _ _ _ (by omega) (by omega)]
            have : ¬ n % 64 = i.toNat % 64 := by omega
            simp [this]
          · rfl
        · rw [getD_out (by rw [setR_length]; omega), getD_out (by omega)]
theorem row_ext {a b : Row} (hl : a.length = b.length) (h : ∀ n : Nat, hasR a ((n : Nat) : Int) = hasR b ((n : Nat) : Int)) : a = b := by
  apply List.ext_getElem hl
  intro j h1 h2
  apply BitVec.eq_of_getLsbD_eq
  intro k hk
  have e1 := hasR_word a j k hk
  have e2 := hasR_word b j k hk
  rw [h, e2, List.getD_eq_getElem?_getD, List.getD_eq_getElem?_getD, List.getElem?_eq_getElem h1, List.getElem?_eq_getElem h2] at e1
  simpa using e1.symm
theorem foldl_setR_length : ∀ (l : List Int) (r : Row), (l.foldl setR r).length = r.length
  | [], _ => rfl
  | i :: l, r => by rw [List.foldl_cons, foldl_setR_length l, setR_length]
theorem foldl_setR_has : ∀ (l : List Int) (r : Row) (k : Int), hasR (l.foldl setR r) k = (hasR r k || (l.any fun i => decide (k = i) && inR r i))
  | [], r, k => by simp
  | i :: l, r, k => by
    rw [List.foldl_cons, foldl_setR_has l, hasR_setR]
    simp only [inR_set, List.any_cons, Bool.or_assoc]
theorem newR_has (n k : Int) : hasR (newR n) k = false := by
  by_cases hk : k < 0
  · exact hasR_neg _ hk
  · obtain ⟨m, rfl⟩ : ∃ m : Nat, k = ((m : Nat) : Int) := ⟨k.toNat, by omega⟩
    rw [hasR_nat]
    unfold newR
    rw [List.getD_eq_getElem?_getD]
    by_cases h : m / 64 < words n
    · simp [List.getElem?_replicate, h]
    · simp [List.getElem?_replicate, h]
theorem hasR_or (a b : Row) (i : Int) : hasR (orR a b) i = (hasR a i || hasR b i) := by
  by_cases hk : i < 0
  · rw [hasR_neg _ hk, hasR_neg _ hk, hasR_neg _ hk]; rfl
  · obtain ⟨n, rfl⟩ : ∃ n : Nat, i = ((n : Nat) : Int) := ⟨i.toNat, by omega⟩
    rw [hasR_nat, hasR_nat, hasR_nat]
    by_cases h : n / 64 < max a.length b.length
    · have : (orR a b).getD (n / 64) 0#64 = orAt a b (n / 64) := by
        rw [List.getD_eq_getElem?_getD, List.getElem?_eq_getElem (by rw [orR_length]; exact h)]
        unfold orR
        simp
      rw [this, orAt, BitVec.getLsbD_or]
    · rw [getD_out (by rw [orR_length]; omega), getD_out (by omega), getD_out (by omega)]; simp
end Go.Ew
