/- Engine, part A: a frame's temporaries as a function; single operations in continuation form; regions, loops, cuts. Independent of any program. -/
import Derived.WalkKit
import Derived.Deep.LoopGhost
namespace Go.Ew
open Go.RowKit
set_option linter.unusedVariables false

/-! ### 1. Temporaries as a function -/
abbrev Slots := Nat → Value
/-- Slot d now holds v. -/
def upd (f : Slots) (d : Nat) (v : Value) : Slots := fun t => bif Nat.beq t d then v else f t
def updO (f : Slots) : Option Nat → Value → Slots
  | some d, v => upd f d v
  | none, _ => f
def acts (n : Nat) (f : Slots) : Act := ⟨Array.ofFn (fun i : Fin n => f i), []⟩
def ev (f : Slots) : Operand → Value
  | .tmp t => f t
  | .const v => v
  | .global g => .pointer (some ⟨g, 0, none⟩)
  | .func k => .func (.func k) #[] #[]
def okT (n : Nat) : Operand → Bool
  | .tmp t => Nat.blt t n
  | _ => true

theorem eval_acts {n : Nat} {f : Slots} {x : Operand} (h : okT n x = true) : (acts n f).eval x = ev f x := by
  cases x with
  | tmp t =>
    simp only [okT, Nat.blt_eq] at h
    simp [Act.eval, acts, ev, h]
  | _ => rfl

theorem upd_same (f : Slots) (d : Nat) (v : Value) : upd f d v d = v := by simp [upd]
theorem upd_ne (f : Slots) {d t : Nat} (v : Value) (h : t ≠ d) : upd f d v t = f t := by
  have : Nat.beq t d = false := by
    cases hb : Nat.beq t d with
    | false => rfl
    | true => exact absurd (Nat.eq_of_beq_eq_true hb) h
  simp only [upd, this, cond_false]

theorem put_acts (n : Nat) (f : Slots) (d : Option Nat) (v : Value) : (acts n f).put d v = acts n (updO f d v) := by
  cases d with
  | none => rfl
  | some d =>
    simp only [Act.put, acts, updO, Act.mk.injEq, and_true]
    apply Array.ext
    · simp
    · intro i h1 h2
      simp only [Array.size_ofFn] at h2
      by_cases hi : i = d
      · subst hi
        simp [upd]
      · rw [Array.getElem_setIfInBounds_ne (by simpa using h2) (by omega)]
        simp only [Array.getElem_ofFn]
        exact (upd_ne f v hi).symm

theorem acts_of (n : Nat) (tmps : Array Value) (h : tmps.size = n) : (⟨tmps, []⟩ : Act) = acts n (fun t => tmps.getD t undef) := by
  simp only [acts, Act.mk.injEq, and_true]
  apply Array.ext
  · simp [h]
  · intro i h1 h2
    simp [h1]

/-- The guard's answer, read off the slots. -/
def gdst (ops : Array Oper) (j : Nat) : Option Nat := (ops[j]?).bind (·.dst)

theorem yielded_acts {n : Nat} {f : Slots} {ops : Array Oper} {j t : Nat} {b : Bool} (h : gdst ops j = some t) (ht : Nat.blt t n = true) (hv : f t = .bool b) :
    yielded ops (acts n f).tmps j = some b := by
  simp only [Nat.blt_eq] at ht
  unfold gdst at h
  simp [yielded, h, acts, ht, hv]

/-! ### 2. One operation -/
/-- From the frame f and the world w operation o leads to where K holds. -/
def SO (P : Program) (n : Nat) (ops : Array Oper) (o : Oper) (f : Slots) (w : World) (K : Slots → World → Prop) : Prop :=
  ∀ (Q : Exit → Act → World → Prop) (rest : List Oper), (∀ f' w', K f' w' → wpList P ops Q rest (acts n f') w') → wpList P ops Q (o :: rest) (acts n f) w

theorem SO.mono {P : Program} {n : Nat} {ops : Array Oper} {o : Oper} {f : Slots} {w : World} {K K' : Slots → World → Prop} (h : SO P n ops o f w K) (hk : ∀ f' w', K f' w' → K' f' w') : SO P n ops o f w K' :=
  fun Q rest hr => h Q rest fun f' w' hK => hr f' w' (hk f' w' hK)

section
variable {P : Program} {n : Nat} {ops : Array Oper} {f : Slots} {w : World} {K : Slots → World → Prop} {Q : Exit → Act → World → Prop} {rest : List Oper} {o : Oper}

/-- An operation that hands back a value. -/
theorem SO.value {d : Option Nat} {op : Op} {ty : TypeId} {ps : String} {af : Array Edge} {v : Value} {w' : World}
    (hr : (execOp (acts n f).eval ⟨d, op, ty, ps, af, none⟩).run P w = .ok (.value v) w') (h : K (updO f d v) w') : SO P n ops ⟨d, op, ty, ps, af, none⟩ f w K := by
  intro Q rest hk
  refine wpList_plain rfl fun K' hK' => ?_
  simp only [Oper.wp, hr, Oper.upon]
  rw [put_acts]
  exact hK' _ _ (hk _ _ h)
theorem SO.skip {d : Option Nat} {op : Op} {ty : TypeId} {ps : String} {af : Array Edge} {w' : World}
    (hr : (execOp (acts n f).eval ⟨d, op, ty, ps, af, none⟩).run P w = .ok .skip w') (h : K (updO f d undef) w') : SO P n ops ⟨d, op, ty, ps, af, none⟩ f w K := by
  intro Q rest hk
  refine wpList_plain rfl fun K' hK' => ?_
  simp only [Oper.wp, hr, Oper.upon]
  rw [put_acts]
  exact hK' _ _ (hk _ _ h)
theorem SO.enter {d : Option Nat} {op : Op} {ty : TypeId} {ps : String} {af : Array Edge} {g : FuncId} {args : Array Value} {w' : World}
    (hr : (execOp (acts n f).eval ⟨d, op, ty, ps, af, none⟩).run P w = .ok (.enter g args) w')
    (h : Calls P g args w' fun e w'' => ∃ v, e = .returned v ∧ K (updO f d v) w'') : SO P n ops ⟨d, op, ty, ps, af, none⟩ f w K := by
  intro Q rest hk
  refine wpList_plain rfl fun K' hK' => ?_
  simp only [Oper.wp, hr, Oper.upon]
  refine h.mono ?_
  rintro e w'' ⟨v, rfl, hv⟩
  show K' ((acts n f).put d v) w''
  rw [put_acts]
  exact hK' _ _ (hk _ _ hv)

/-- A guarded operation whose guard holds goes as one without. -/
theorem gy {d : Option Nat} {op : Op} {ty : TypeId} {ps : String} {af : Array Edge} {j t : Nat} {want b : Bool}
    (hj : gdst ops j = some t) (ht : Nat.blt t n = true) (hv : f t = .bool b) (hb : b = want)
    (h : SO P n ops ⟨d, op, ty, ps, af, none⟩ f w K) : SO P n ops ⟨d, op, ty, ps, af, some (j, want)⟩ f w K := by
  subst hb
  intro Q rest hk
  have h1 := h Q rest hk
  have hy := yielded_acts (n := n) hj ht hv
  unfold wpList at h1 ⊢
  rw [if_pos (by simp [Region.wanted])] at h1
  rw [if_pos (by simp [Region.wanted, hy])]
  exact h1
/-- .. and one whose guard does not hold is passed over. -/
theorem gn {d : Option Nat} {op : Op} {ty : TypeId} {ps : String} {af : Array Edge} {j t : Nat} {want b : Bool}
    (hj : gdst ops j = some t) (ht : Nat.blt t n = true) (hv : f t = .bool b) (hb : b = !want)
    (h : K (updO f d undef) w) : SO P n ops ⟨d, op, ty, ps, af, some (j, want)⟩ f w K := by
  subst hb
  intro Q rest hk
  have hy := yielded_acts (n := n) hj ht hv
  unfold wpList
  rw [if_neg (by simp [Region.wanted, hy])]
  rw [put_acts]
  exact hk _ _ h

/-! ### 3. Lists of operations, code -/
def WL (P : Program) (n : Nat) (ops : Array Oper) (Q : Exit → Act → World → Prop) : List Oper → Slots → World → Prop
  | l, f, w => wpList P ops Q l (acts n f) w
def WC (P : Program) (n : Nat) (c : Code) (Q : Exit → Act → World → Prop) (f : Slots) (w : World) : Prop := c.wp P Q (acts n f) w

/-- The next operation. -/
theorem k (h : SO P n ops o f w (WL P n ops Q rest)) : WL P n ops Q (o :: rest) f w := h Q rest fun _ _ h => h
/-- The end of a region. -/
theorem z (h : Q .normal (acts n f) w) : WL P n ops Q [] f w := wpList_nil (P := P) (ops := ops) h

theorem rg {id : Nat} {l : List Oper} (h : WL P n l.toArray Q l f w) : WC P n (.region id l.toArray false) Q f w := wp_region_lit h

theorem sq {x y : Code} (h : WC P n x (Exit.then (fun a w => y.wp P Q a w) Q) f w) : WC P n (.seq x y) Q f w := wp_seq h
theorem nx {y : Code} (h : WC P n y Q f w) : Exit.then (fun a w => y.wp P Q a w) Q .normal (acts n f) w := h
theorem sk (h : Q .normal (acts n f) w) : WC P n .skip Q f w := wp_skip h
theorem rt (h : Q .ret (acts n f) w) : WC P n .ret Q f w := wp_ret h
theorem lb {l : Nat} (h : Q .normal (acts n f) w) : WC P n (.label l) Q f w := wp_label h
theorem ex {id : Nat} (h : Q (.exit id) (acts n f) w) : WC P n (.exit id) Q f w := wp_exit h
theorem bk {id : Nat} {c : Code} (h : WC P n c (Exit.inBlock id Q) f w) : WC P n (.block id c) Q f w := wp_block h
/-- Out of the way: exits pass through what is not their block. -/
theorem th {next : Act → World → Prop} {e : Exit} {a : Act} (hn : e ≠ .normal) (h : Q e a w) : Exit.then next Q e a w := by
  cases e <;> first | exact h | exact absurd rfl hn
theorem inb_normal {id : Nat} {a : Act} (h : Q .normal a w) : Exit.inBlock id Q .normal a w := h
theorem inb_ret {id : Nat} {a : Act} (h : Q .ret a w) : Exit.inBlock id Q .ret a w := h
theorem inb_here {id : Nat} {a : Act} (h : Q .normal a w) : Exit.inBlock id Q (.exit id) a w := by
  show (if id = id then _ else _); rw [if_pos rfl]; exact h
theorem inb_past {id id' : Nat} {a : Act} (hne : id' ≠ id) (h : Q (.exit id') a w) : Exit.inBlock id Q (.exit id') a w := by
  show (if id' = id then _ else _); rw [if_neg hne]; exact h
theorem then_ret {next : Act → World → Prop} {a : Act} (h : Q .ret a w) : Exit.then next Q .ret a w := h
theorem then_exit {next : Act → World → Prop} {id : Nat} {a : Act} (h : Q (.exit id) a w) : Exit.then next Q (.exit id) a w := h

/-- A test. -/
theorem cd {c : Operand} {x y : Code} {b : Bool} (hc : okT n c = true) (hv : ev f c = .bool b) (ht : b = true → WC P n x Q f w) (hf : b = false → WC P n y Q f w) : WC P n (.cond c x y) Q f w :=
  wp_cond_split (by rw [eval_acts hc, hv]) ht hf
theorem cdT {c : Operand} {x y : Code} {b : Bool} (hc : okT n c = true) (hv : ev f c = .bool b) (hb : b = true) (h : WC P n x Q f w) : WC P n (.cond c x y) Q f w :=
  wp_cond_true (by rw [eval_acts hc, hv, hb]) h
theorem cdF {c : Operand} {x y : Code} {b : Bool} (hc : okT n c = true) (hv : ev f c = .bool b) (hb : b = false) (h : WC P n y Q f w) : WC P n (.cond c x y) Q f w :=
  wp_cond_false (by rw [eval_acts hc, hv, hb]) h

/-- A cut: what holds between two pieces. -/
def cutQ (n : Nat) (R : Slots → World → Prop) (Q : Exit → Act → World → Prop) : Exit → Act → World → Prop
  | .normal, a, w => ∃ f, a = acts n f ∧ R f w
  | e, a, w => Q e a w
theorem cut {x y : Code} (R : Slots → World → Prop) (h : WC P n x (cutQ n R Q) f w) (h2 : ∀ f' w', R f' w' → WC P n y Q f' w') : WC P n (.seq x y) Q f w := by
  refine wp_seq (wp_mono h ?_)
  intro e a w' hq
  cases e with
  | normal => obtain ⟨f', rfl, hR⟩ := hq; exact h2 f' w' hR
  | _ => exact hq
theorem cutN {R : Slots → World → Prop} (h : R f w) : cutQ n R Q .normal (acts n f) w := ⟨f, rfl, h⟩
theorem cut_ret {R : Slots → World → Prop} {a : Act} (h : Q .ret a w) : cutQ n R Q .ret a w := h
theorem cut_exit {R : Slots → World → Prop} {a : Act} {id : Nat} (h : Q (.exit id) a w) : cutQ n R Q (.exit id) a w := h

/-- A loop: I m f w holds at the head, m goes down. -/
def loopQ (n : Nat) (I : Nat → Slots → World → Prop) (m : Nat) (Q : Exit → Act → World → Prop) : Exit → Act → World → Prop
  | .normal, a, w => ∃ f m', a = acts n f ∧ m' < m ∧ I m' f w
  | e, a, w => Q e a w
theorem lp {c : Code} (I : Nat → Slots → World → Prop) (m0 : Nat) (h0 : I m0 f w)
    (hr : ∀ m f w, I m f w → WC P n c (loopQ n I m Q) f w) : WC P n (.loop c) Q f w := by
  have key : ∀ m, ∀ f w, I m f w → ∀ b k cs,
      ∃ e a' w', Q e a' w' ∧ Arrives P (lone (b.at (acts n f) (.code c :: .inLoop c :: k)) cs w) b k cs e a' w' := by
    intro m
    induction m using Nat.strongRecOn with
    | _ m ih =>
      intro f w hI b k cs
      obtain ⟨e, a₁, w₁, hq, harr⟩ := hr m f w hI b (.inLoop c :: k) cs
      cases e with
      | normal =>
        obtain ⟨f', m', rfl, hlt, hI'⟩ := hq
        obtain ⟨e₂, a₂, w₂, hq₂, harr₂⟩ := ih m' hlt f' w₁ hI' b k cs
        exact ⟨e₂, a₂, w₂, hq₂, .of_steps (Steps.trans harr (.one step_inLoop)) harr₂⟩
      | exit id => exact ⟨_, a₁, w₁, hq, .pass (x := .inLoop c) rfl (fun _ _ => .inl (by simp)) harr⟩
      | goto l => exact ⟨_, a₁, w₁, hq, .pass (x := .inLoop c) rfl (fun _ _ => .inl (by simp)) harr⟩
      | ret => exact ⟨_, a₁, w₁, hq, .pass (x := .inLoop c) rfl (fun _ _ => .inl (by simp)) harr⟩
      | panic ch => exact ⟨_, a₁, w₁, hq, .pass (x := .inLoop c) rfl (fun _ _ => .inl (by simp)) harr⟩
      | outgrown => exact ⟨_, a₁, w₁, hq, .pass (x := .inLoop c) rfl (fun _ _ => .inl (by simp)) harr⟩
  intro b k cs
  obtain ⟨e, a', w', hq, harr⟩ := key m0 f w h0 b k cs
  exact ⟨e, a', w', hq, .of_steps (.one step_loop) harr⟩
theorem loopN {I : Nat → Slots → World → Prop} {m : Nat} (m' : Nat) (hm : m' < m) (h : I m' f w) : loopQ n I m Q .normal (acts n f) w := ⟨f, m', rfl, hm, h⟩
theorem loop_ret {I : Nat → Slots → World → Prop} {m : Nat} {a : Act} (h : Q .ret a w) : loopQ n I m Q .ret a w := h
theorem loop_exit {I : Nat → Slots → World → Prop} {m : Nat} {a : Act} {id : Nat} (h : Q (.exit id) a w) : loopQ n I m Q (.exit id) a w := h
end

/-! ### 4. A function -/
/-- It hands back a value of which R holds. -/
def retQ (P : Program) (n : Nat) (fn : Func) (R : Value → World → Prop) : Exit → Act → World → Prop
  | .normal, a, w | .ret, a, w => ∃ f, a = acts n f ∧ ∃ v, (results fn (acts n f).tmps).run P w = .ok v w ∧ R v w
  | _, _, _ => False

def Ret (R : Value → World → Prop) : Ending → World → Prop := fun e w => ∃ v, e = .returned v ∧ R v w

theorem enter {P : Program} {g : FuncId} {fn : Func} {c : Code} {args : Array Value} {w : World} {R : Value → World → Prop} (n : Nat)
    (hf : P.funcs[g]? = some fn) (hb : fn.body = some c) (hn : fn.ntmps = n) (ha : Nat.ble args.size n = true)
    (h : ∀ f : Slots, (∀ i, (_ : i < args.size) → f i = args[i]) → WC P n c (retQ P n fn R) f w) : Calls P g args w (Ret R) := by
  refine calls_of_wp hf hb ?_
  subst hn
  simp only [Nat.ble_eq] at ha
  rw [acts_of fn.ntmps (args ++ Array.replicate (fn.ntmps - args.size) undef) (by simp; omega)]
  have h1 := h (fun t => (args ++ Array.replicate (fn.ntmps - args.size) undef).getD t undef) (fun i hi => by
    simp [Array.getElem?_append_left, hi])
  refine wp_mono h1 ?_
  intro e a w' hq
  cases e with
  | normal => obtain ⟨f', rfl, v, h1, h2⟩ := hq; exact ⟨rfl, v, h1, v, rfl, h2⟩
  | ret => obtain ⟨f', rfl, v, h1, h2⟩ := hq; exact ⟨rfl, v, h1, v, rfl, h2⟩
  | _ => exact hq.elim

/-! Results. -/
section
variable {P : Program} {n : Nat} {fn : Func} {R : Value → World → Prop} {f : Slots} {w : World}
theorem tmp_acts {t : Nat} (h : Nat.blt t n = true) : (acts n f).tmps.getD t undef = f t := by
  simp only [Nat.blt_eq] at h
  simp [acts, h]
theorem r1 {t : Nat} (hr : fn.results = #[.tmp t]) (ht : Nat.blt t n = true) (h : R (f t) w) : retQ P n fn R .ret (acts n f) w :=
  ⟨f, rfl, f t, by rw [results_tmp hr, tmp_acts ht], h⟩
theorem r2 {t u : Nat} (hr : fn.results = #[.tmp t, .tmp u]) (ht : Nat.blt t n = true) (hu : Nat.blt u n = true) (h : R (.tuple #[f t, f u]) w) : retQ P n fn R .ret (acts n f) w :=
  ⟨f, rfl, _, by rw [results_tmp2 hr, tmp_acts ht, tmp_acts hu], h⟩
theorem r0 (hr : fn.results = #[]) (h : R (.tuple #[]) w) : retQ P n fn R .ret (acts n f) w :=
  ⟨f, rfl, _, results_none hr _ _ _, h⟩
theorem r0n (hr : fn.results = #[]) (h : R (.tuple #[]) w) : retQ P n fn R .normal (acts n f) w :=
  ⟨f, rfl, _, results_none hr _ _ _, h⟩
end
end Go.Ew
