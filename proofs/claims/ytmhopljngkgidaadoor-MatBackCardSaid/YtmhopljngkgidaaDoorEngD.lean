/- Engine, part D: a region that draws its order. The first k operations may come in any order that the edges allow: of each a predicate on its result is shown from those of the operations that it waits for; the others come last, one by one. -/
import Derived.Test.YtmhopljngkgidaaDoorEngA
namespace Go.Ew
open Go.RowKit
set_option linter.unusedVariables false

/-- Nothing that lay there has turned; more may lie there. -/
def Ext (w w' : World) : Prop := Below w.heap.size w w'
theorem Ext.refl (w : World) : Ext w w := Below.refl _ _
theorem Ext.trans {a b c : World} (h : Ext a b) (k : Ext b c) : Ext a c := Below.trans h (Below.mono k h.size)
theorem Ext.drew (w : World) : Ext w w.drew := Below.drew (Below.refl _ _)
theorem Ext.alloc (w : World) (o : Obj) : Ext w (w.alloc o) := Below.alloc (Below.refl _ _) (Nat.le_refl _) o

def onB (o : Oper) (j : Nat) : Bool := o.after.toList.any fun e => Region.binds .any e && e.on == j
def dstD (l : List Oper) (i : Nat) : Nat := (((l[i]?).bind (·.dst)).getD 0)
def dstsK (k : Nat) (l : List Oper) : List Nat := (l.take k).filterMap (·.dst)
def nodupB : List Nat → Bool
  | [] => true
  | x :: xs => !xs.contains x && nodupB xs
def okEdges : Nat → List Oper → Bool
  | _, [] => true
  | i, o :: r => o.after.all (fun e => !Region.binds .any e || Nat.blt e.on i) && okEdges (i + 1) r
def okTail : Nat → List Oper → Bool
  | _, [] => true
  | i, o :: r => (List.range i).all (fun j => onB o j) && okTail (i + 1) r
/-- Does i wait for m, by one edge or more? -/
def reachB (l : List Oper) : Nat → Nat → Nat → Bool
  | 0, _, _ => false
  | n + 1, i, m => match l[i]? with
    | none => false
    | some o => onB o m || (List.range i).any fun j => onB o j && reachB l n j m
/-- The first of the tail waits for all ahead of it; each further one waits for the one ahead of it. -/
def okTail2 (l : List Oper) (k : Nat) : Bool :=
  (Nat.ble l.length k || (List.range k).all fun m => reachB l (k + 1) k m) &&
    (List.range l.length).all fun i => Nat.ble i k || match l[i]? with
      | some o => onB o (i - 1)
      | none => true
/-- What is looked at, by reckoning: edges lead back; the first k have temporaries of their own; the others wait for all that stands ahead. -/
def okD (n k : Nat) (l : List Oper) : Bool :=
  okEdges 0 l && (l.take k).all (fun o => o.dst.isSome) && nodupB (dstsK k l) && (dstsK k l).all (fun d => Nat.blt d n) && okTail2 l k && Nat.ble k l.length

/-- The facts' list, read at i. -/
def phi (Φ : List (Value → World → Prop)) (i : Nat) : Value → World → Prop := Φ.getD i (fun _ _ => True)

structure DStep (P : Program) (n : Nat) (l : List Oper) (k : Nat) (Φ : List (Value → World → Prop)) (f0 : Slots) (w0 : World) (i : Nat) (o : Oper) : Prop where
  go : ∀ f w, (∀ t, (dstsK k l).contains t = false → f t = f0 t) → Ext w0 w → (∀ j, onB o j = true → Nat.blt j k = true → phi Φ j (f (dstD l j)) w) →
    SO P n l.toArray o f w (fun f' w' => ∃ v, f' = updO f o.dst v ∧ Ext w w' ∧ phi Φ i v w')
  mono : ∀ v w w', Ext w w' → phi Φ i v w → phi Φ i v w'

def DSteps (P : Program) (n : Nat) (l : List Oper) (k : Nat) (Φ : List (Value → World → Prop)) (f0 : Slots) (w0 : World) : Nat → List Oper → Prop
  | _, [] => True
  | i, o :: r => (Nat.blt i k = true → DStep P n l k Φ f0 w0 i o) ∧ DSteps P n l k Φ f0 w0 (i + 1) r

section
variable {P : Program} {n : Nat} {l : List Oper} {k : Nat} {Φ : List (Value → World → Prop)} {f0 : Slots} {w0 : World}

theorem DSteps.at_ : ∀ (r : List Oper) (i : Nat), DSteps P n l k Φ f0 w0 i r → ∀ j o, r[j]? = some o → Nat.blt (i + j) k = true → DStep P n l k Φ f0 w0 (i + j) o
  | [], _, _, j, o, h, _ => by simp at h
  | x :: r, i, h, 0, o, hj, hk => by
    simp only [List.getElem?_cons_zero, Option.some.injEq] at hj
    subst hj
    exact h.1 hk
  | x :: r, i, h, j + 1, o, hj, hk => by
    simp only [List.getElem?_cons_succ] at hj
    have := DSteps.at_ r (i + 1) h.2 j o hj (by rw [show i + 1 + j = i + (j + 1) from by omega]; exact hk)
    rwa [show i + 1 + j = i + (j + 1) from by omega] at this

theorem okEdges_at : ∀ (r : List Oper) (i : Nat), okEdges i r = true → ∀ j o, r[j]? = some o → ∀ e ∈ o.after, Region.binds .any e = true → e.on < i + j
  | [], _, _, j, o, h, _, _, _ => by simp at h
  | x :: r, i, h, j, o, hj, e, he, hb => by
    simp only [okEdges, Bool.and_eq_true, Array.all_eq_true_iff_forall_mem, Bool.or_eq_true, Bool.not_eq_true', Nat.blt_eq] at h
    cases j with
    | zero =>
      simp only [List.getElem?_cons_zero, Option.some.injEq] at hj
      subst hj
      rcases h.1 e he with h1 | h1
      · rw [hb] at h1; cases h1
      · omega
    | succ j =>
      simp only [List.getElem?_cons_succ] at hj
      have := okEdges_at r (i + 1) h.2 j o hj e he hb
      omega
theorem okTail_at : ∀ (r : List Oper) (i : Nat), okTail i r = true → ∀ j o, r[j]? = some o → ∀ m, m < i + j → onB o m = true
  | [], _, _, j, o, h, _, _ => by simp at h
  | x :: r, i, h, j, o, hj, m, hm => by
    simp only [okTail, Bool.and_eq_true, List.all_eq_true, List.mem_range] at h
    cases j with
    | zero =>
      simp only [List.getElem?_cons_zero, Option.some.injEq] at hj
      subst hj
      exact h.1 m (by omega)
    | succ j =>
      simp only [List.getElem?_cons_succ] at hj
      exact okTail_at r (i + 1) h.2 j o hj m (by omega)
theorem onB_iff {o : Oper} {j : Nat} : onB o j = true ↔ ∃ e ∈ o.after, Region.binds .any e = true ∧ e.on = j := by
  simp only [onB, List.any_eq_true, Array.mem_toList_iff]
  constructor
  · rintro ⟨e, he, h⟩
    simp only [Bool.and_eq_true, beq_iff_eq] at h
    exact ⟨e, he, h.1, h.2⟩
  · rintro ⟨e, he, h1, h2⟩
    exact ⟨e, he, by simp [h1, h2]⟩
theorem okTail2_direct {l : List Oper} {k : Nat} (h : okTail2 l k = true) {i : Nat} {o : Oper} (hk : k < i) (ho : l[i]? = some o) : onB o (i - 1) = true := by
  simp only [okTail2, Bool.and_eq_true] at h
  have := List.all_eq_true.1 h.2 i (by rw [List.mem_range]; exact (List.getElem?_eq_some_iff.1 ho).1)
  rw [ho] at this
  have hf : Nat.ble i k = false := by
    cases hb : Nat.ble i k with
    | false => rfl
    | true => rw [Nat.ble_eq] at hb; omega
  rw [hf] at this
  simpa using this
theorem okTail2_reach {l : List Oper} {k : Nat} (h : okTail2 l k = true) (hk : k < l.length) {m : Nat} (hm : m < k) : reachB l (k + 1) k m = true := by
  simp only [okTail2, Bool.and_eq_true, Bool.or_eq_true] at h
  rcases h.1 with h1 | h1
  · rw [Nat.ble_eq] at h1; omega
  · exact List.all_eq_true.1 h1 m (by rw [List.mem_range]; exact hm)
theorem reach_listed {l : List Oper} {listed : Array Bool} (hC : ∀ i o, listed.getD i false = true → l[i]? = some o → ∀ j, onB o j = true → listed.getD j false = true) :
    ∀ (n i m : Nat) (o : Oper), l[i]? = some o → (∀ j, onB o j = true → listed.getD j false = true) → reachB l n i m = true → listed.getD m false = true
  | 0, _, _, _, _, _, h => by cases h
  | n + 1, i, m, o, ho, hd, h => by
    simp only [reachB, ho, Bool.or_eq_true] at h
    rcases h with h | h
    · exact hd m h
    · obtain ⟨j, _, hj⟩ := List.any_eq_true.1 h
      simp only [Bool.and_eq_true] at hj
      have hlj := hd j hj.1
      cases hoj : l[j]? with
      | none =>
        have h2 := hj.2
        cases n with
        | zero => cases h2
        | succ n => simp [reachB, hoj] at h2
      | some o' => exact reach_listed hC n j m o' hoj (hC j o' hlj hoj) hj.2
theorem nodupB_nodup : ∀ (l : List Nat), nodupB l = true → l.Nodup
  | [], _ => List.nodup_nil
  | x :: xs, h => by
    simp only [nodupB, Bool.and_eq_true, Bool.not_eq_true'] at h
    refine List.nodup_cons.2 ⟨?_, nodupB_nodup xs h.2⟩
    intro hx
    have := List.contains_iff_mem.2 hx
    rw [h.1] at this
    cases this

/-- From SO to one operation of a region in any order. -/
theorem wpOp_of_SO {ops : Array Oper} {i : Nat} {o : Oper} {f : Slots} {w : World} {K : Slots → World → Prop} {Q : Exit → Act → World → Prop} {K' : Act → World → Prop}
    (hi : ops[i]? = some o) (h : SO P n ops o f w K) (hk : ∀ f' w', K f' w' → K' (acts n f') w') : wpOp P ops Q i K' (acts n f) w := by
  have h1 := h (fun e a w => match e with | .normal => K' a w | e => Q e a w) [] (fun f' w' hK => hk f' w' hK)
  unfold wpOp
  simp only [hi]
  unfold wpList at h1
  split at h1
  · rename_i hw
    rw [if_pos hw]
    refine h1.imp (fun h2 => ?_) (fun h2 => ?_)
    · unfold Oper.wp at h2 ⊢
      generalize (execOp (acts n f).eval o).run P w = r at *
      cases r with
      | ok x w' =>
        cases x <;> simp only [Oper.upon] at h2 ⊢ <;> first
          | exact h2
          | (refine Calls.mono h2 ?_; intro e w'' he; cases e <;> first | exact he | (obtain ⟨a0, w1, hq⟩ := he; exact ⟨a0, w1, hq⟩))
      | halt x w' => cases x <;> simp only [Oper.upon] at h2 ⊢ <;> exact h2
    · obtain ⟨ha, a0, w1, hq⟩ := h2
      exact ⟨ha, a0, w1, hq⟩
  · rename_i hw
    rw [if_neg hw]
    exact h1

/-- Which of them have come up: just those below m. -/
def Upto (N m : Nat) (listed : Array Bool) : Prop := listed.size = N ∧ ∀ i, i < N → listed.getD i false = decide (i < m)

theorem getD_any {listed : Array Bool} {i : Nat} (h : i < listed.size) (a b : Bool) : listed.getD i a = listed.getD i b := by
  simp [Array.getD, h]

/-- The tail, one by one. -/
theorem wpAny_tail {Q : Exit → Act → World → Prop} (hE : okEdges 0 l = true) (hT : okTail2 l k = true) :
    ∀ (d m : Nat) (listed : Array Bool) (a : Act) (w : World), l.length - m = d → k ≤ m → m ≤ l.length → Upto l.length m listed → wpList P l.toArray Q (l.drop m) a w → wpAny P .any l.toArray Q d listed a w := by
  intro d
  induction d with
  | zero =>
    intro m listed a w hd hk hm hl h
    have hml : m = l.length := by omega
    subst hml
    rw [List.drop_eq_nil_of_le (Nat.le_refl _)] at h
    refine ⟨?_, h⟩
    unfold Region.ready
    rw [List.filter_eq_nil_iff]
    intro i hi
    simp only [List.size_toArray, List.mem_range] at hi
    have := hl.2 i hi
    rw [show listed.getD i true = listed.getD i false from getD_any (by rw [hl.1]; exact hi) _ _, this]
    simp [hi]
  | succ d ih =>
    intro m listed a w hd hk hm hl h
    have hml : m < l.length := by omega
    have hom : l[m]? = some l[m] := List.getElem?_eq_getElem hml
    have hready : ∀ i, i ∈ Region.ready .any l.toArray listed ↔ i = m := by
      intro i
      rw [mem_ready]
      constructor
      · rintro ⟨h0, o, ho, hall⟩
        have hil : i < l.length := by
          have := (Array.getElem?_eq_some_iff.1 ho).1
          simpa using this
        have hnm : ¬ i < m := by
          intro him
          rw [show listed.getD i true = listed.getD i false from getD_any (by rw [hl.1]; exact hil) _ _, hl.2 i hil] at h0
          simp [him] at h0
        by_cases him : i = m
        · exact him
        · exfalso
          have hoi : l[i]? = some o := by simpa using ho
          have hb := okTail2_direct hT (i := i) (by omega) hoi
          obtain ⟨e, he, hbi, hon⟩ := onB_iff.1 hb
          have := hall e he hbi
          rw [hon, hl.2 (i - 1) (by omega)] at this
          simp at this
          omega
      · rintro rfl
        refine ⟨?_, l[i], by simp, ?_⟩
        · rw [show listed.getD i true = listed.getD i false from getD_any (by rw [hl.1]; exact hml) _ _, hl.2 i hml]
          simp
        · intro e he hbi
          have := okEdges_at l 0 hE i l[i] hom e he hbi
          rw [hl.2 e.on (by omega)]
          simp; omega
    have hdrop : l.drop m = l[m] :: l.drop (m + 1) := List.drop_eq_getElem_cons hml
    refine ⟨fun h0 => ?_, fun i hi => ?_⟩
    · have := (hready m).2 rfl
      rw [h0] at this
      cases this
    · obtain rfl := (hready i).1 hi
      rw [hdrop] at h
      have hup : Upto l.length (i + 1) (listed.setIfInBounds i true) := by
        refine ⟨by simp [hl.1], fun j hj => ?_⟩
        by_cases hji : i = j
        · subst hji
          simp [hl.1, hml]
        · rw [getD_set_ne false hji, hl.2 j hj]
          simp; omega
      unfold wpOp
      rw [show (l.toArray)[i]? = some l[i] from by simp]
      simp only
      unfold wpList at h
      split at h
      · rename_i hw
        rw [if_pos hw]
        refine h.imp (Oper.wp_mono fun a w h' => ih (i + 1) _ a w (by omega) (by omega) (by omega) hup h') id
      · rename_i hw
        rw [if_neg hw]
        exact ih (i + 1) _ _ w (by omega) (by omega) (by omega) hup h

theorem mem_dstsK {i : Nat} {o : Oper} (hi : l[i]? = some o) (hk : i < k) {d : Nat} (hd : o.dst = some d) : d ∈ dstsK k l := by
  unfold dstsK
  rw [List.mem_filterMap]
  refine ⟨o, ?_, hd⟩
  have : (l.take k)[i]? = some o := by rw [List.getElem?_take, if_pos hk]; exact hi
  exact List.mem_of_getElem? this

theorem filterMap_inj {α β : Type} (g : α → Option β) : ∀ (l : List α), (l.filterMap g).Nodup → ∀ (i j : Nat) (a b : α), l[i]? = some a → l[j]? = some b → (g a).isSome → g a = g b → i = j
  | [], _, i, _, _, _, hi, _, _, _ => by simp at hi
  | x :: xs, h, i, j, a, b, hi, hj, hs, he => by
    have htail : (xs.filterMap g).Nodup := by
      rw [List.filterMap_cons] at h
      split at h
      · exact h
      · exact (List.nodup_cons.1 h).2
    have hmem : ∀ (m : Nat) (c : α), xs[m]? = some c → g x = g c → (g x).isSome → False := by
      intro m c hm hc hx
      obtain ⟨y, hy⟩ := Option.isSome_iff_exists.1 hx
      rw [List.filterMap_cons, hy] at h
      exact (List.nodup_cons.1 h).1 (List.mem_filterMap.2 ⟨c, List.mem_of_getElem? hm, by rw [← hc, hy]⟩)
    cases i with
    | zero =>
      cases j with
      | zero => rfl
      | succ j =>
        simp only [List.getElem?_cons_zero, Option.some.injEq, List.getElem?_cons_succ] at hi hj
        subst hi
        exact (hmem j b hj he hs).elim
    | succ i =>
      cases j with
      | zero =>
        simp only [List.getElem?_cons_zero, Option.some.injEq, List.getElem?_cons_succ] at hi hj
        subst hj
        exact (hmem i a hi he.symm (he ▸ hs)).elim
      | succ j =>
        simp only [List.getElem?_cons_succ] at hi hj
        rw [filterMap_inj g xs htail i j a b hi hj hs he]

/-- What holds while the first k come up. -/
def DJ (n : Nat) (l : List Oper) (k : Nat) (Φ : List (Value → World → Prop)) (f0 : Slots) (w0 : World) (listed : Array Bool) (a : Act) (w : World) : Prop :=
  ∃ f, a = acts n f ∧ (∀ t, (dstsK k l).contains t = false → f t = f0 t) ∧ Ext w0 w ∧ (∀ i, i < k → listed.getD i false = true → phi Φ i (f (dstD l i)) w) ∧
    ∀ i o, listed.getD i false = true → l[i]? = some o → ∀ j, onB o j = true → listed.getD j false = true

theorem wpAny_first {Q : Exit → Act → World → Prop} (hok : okD n k l = true) (hS : DSteps P n l k Φ f0 w0 0 l)
    (hend : ∀ f w, (∀ t, (dstsK k l).contains t = false → f t = f0 t) → Ext w0 w → (∀ i, Nat.blt i k = true → phi Φ i (f (dstD l i)) w) → WL P n l.toArray Q (l.drop k) f w) :
    ∀ (d : Nat) (listed : Array Bool) (a : Act) (w : World), listed.size = l.length → (∀ i, k ≤ i → listed.getD i false = false) → (listed.toList.filter (fun b => !b)).length = d →
      DJ n l k Φ f0 w0 listed a w → wpAny P .any l.toArray Q d listed a w := by
  have hok0 := hok
  simp only [okD, Bool.and_eq_true] at hok
  obtain ⟨⟨⟨⟨⟨hE, hD⟩, hN⟩, hn⟩, hT⟩, hkl⟩ := hok
  simp only [Nat.ble_eq] at hkl
  intro d
  induction d with
  | zero =>
    intro listed a w hsz hge hd hJ
    have hall : ∀ i, i < l.length → listed.getD i false = true := by
      intro i hi
      have h0 := List.eq_nil_of_length_eq_zero hd
      rw [List.filter_eq_nil_iff] at h0
      have hi' : i < listed.size := by omega
      have := h0 listed[i] (by simp)
      simp at this
      simp [Array.getD, hi', this]
    have hkeq : k = l.length := by
      rcases Nat.lt_or_ge k l.length with h | h
      · have h1 := hall k h
        rw [hge k (Nat.le_refl _)] at h1
        cases h1
      · omega
    obtain ⟨f, rfl, hf, hx, hφ, hC⟩ := hJ
    have := hend f w hf hx (fun i hi => hφ i (by simpa using hi) (hall i (by have h9 : i < k := (by simpa using hi); omega)))
    refine wpAny_tail hE hT 0 l.length listed _ w (by omega) (by omega) (Nat.le_refl _) ⟨hsz, fun i hi => by rw [hall i hi]; simp [hi]⟩ ?_
    rw [hkeq] at this
    exact this
  | succ d ih =>
    intro listed a w hsz hge hd hJ
    by_cases hall : ∀ i, i < k → listed.getD i false = true
    · obtain ⟨f, rfl, hf, hx, hφ, hC⟩ := hJ
      have := hend f w hf hx (fun i hi => hφ i (by simpa using hi) (hall i (by simpa using hi)))
      have hup : Upto l.length k listed := ⟨hsz, fun i hi => by
        by_cases hik : i < k
        · rw [hall i hik]; simp [hik]
        · rw [hge i (by omega)]; simp; omega⟩
      have hcount : d + 1 = l.length - k := by
        rw [← hd]
        have hl : listed.toList = List.replicate k true ++ List.replicate (l.length - k) false := by
          apply List.ext_getElem
          · simp [hsz]; omega
          · intro i h1 h2
            simp only [Array.length_toList] at h1
            have := hup.2 i (by omega)
            simp only [Array.getD, h1, dif_pos] at this
            rw [Array.getElem_toList]
            by_cases hik : i < k
            · rw [List.getElem_append_left (by simpa using hik)]
              simp [Array.getInternal_eq_getElem, hik] at this ⊢
              exact this
            · rw [List.getElem_append_right (by simpa using hik)]
              simp [Array.getInternal_eq_getElem, hik] at this ⊢
              exact this
        rw [hl]
        simp
      exact wpAny_tail hE hT (d + 1) k listed _ w (by omega) (Nat.le_refl _) hkl hup this
    · obtain ⟨i0, hi0⟩ : ∃ i, i < k ∧ listed.getD i false = false := by
        apply Classical.byContradiction
        intro hno
        refine hall fun i hi => ?_
        cases hb : listed.getD i false with
        | true => rfl
        | false => exact (hno ⟨i, hi, hb⟩).elim
      -- the least that hasn't come up is ready
      obtain ⟨m, hm1, hm2⟩ := exists_least (p := fun i => i < k ∧ listed.getD i false = false) ⟨i0, hi0⟩
      have hml : m < l.length := by omega
      have hom : l[m]? = some l[m] := List.getElem?_eq_getElem hml
      have hmr : m ∈ Region.ready .any l.toArray listed := by
        rw [mem_ready]
        refine ⟨?_, l[m], by simp, fun e he hb => ?_⟩
        · rw [show listed.getD m true = listed.getD m false from getD_any (by omega) _ _]; exact hm1.2
        · have hlt := okEdges_at l 0 hE m l[m] hom e he hb
          cases hb2 : listed.getD e.on false with
          | true => rfl
          | false =>
            have := hm2 e.on ⟨by omega, hb2⟩
            omega
      refine ⟨fun h0 => (by rw [h0] at hmr; cases hmr), fun i hi => ?_⟩
      obtain ⟨h0, o, ho, hedges⟩ := mem_ready.1 hi
      have hol : l[i]? = some o := by simpa using ho
      have hil : i < l.length := (List.getElem?_eq_some_iff.1 hol).1
      have h0' : listed.getD i false = false := by
        rw [show listed.getD i false = listed.getD i true from getD_any (by omega) _ _]; exact h0
      have hik : i < k := by
        rcases Nat.lt_or_ge i k with h | h
        · exact h
        · exfalso
          obtain ⟨f, rfl, hf, hx, hφ, hC⟩ := hJ
          by_cases hik2 : i = k
          · subst hik2
            have := reach_listed hC _ i m o hol (fun j hj => by
              obtain ⟨e, he, hbi, hon⟩ := onB_iff.1 hj
              rw [← hon]; exact hedges e he hbi) (okTail2_reach hT hil hm1.1)
            rw [hm1.2] at this
            cases this
          · have hb := okTail2_direct hT (i := i) (by omega) hol
            obtain ⟨e, he, hbi, hon⟩ := onB_iff.1 hb
            have := hedges e he hbi
            rw [hon, hge (i - 1) (by omega)] at this
            cases this
      obtain ⟨f, rfl, hf, hx, hφ, hC⟩ := hJ
      have hstep := (DSteps.at_ l 0 hS i o hol (by simpa using hik))
      simp only [Nat.zero_add] at hstep
      have hSO := hstep.go f w hf hx (fun j hj hjk => by
        obtain ⟨e, he, hb, hon⟩ := onB_iff.1 hj
        subst hon
        exact hφ e.on (by simpa using hjk) (hedges e he hb))
      obtain ⟨di, hdi⟩ : ∃ di, o.dst = some di := by
        rw [List.all_eq_true] at hD
        have := hD o (List.mem_of_getElem? (i := i) (by rw [List.getElem?_take, if_pos hik]; exact hol))
        exact Option.isSome_iff_exists.1 this
      refine wpOp_of_SO ho hSO fun f' w' hK => ?_
      obtain ⟨v, rfl, hxw, hv⟩ := hK
      refine ih (listed.setIfInBounds i true) _ w' (by simp [hsz]) (fun j hj => ?_) ?_ ?_
      · rw [getD_set_ne false (by omega)]; exact hge j hj
      · -- one less is left
        have hii : i < listed.size := by omega
        have hget : listed.toList[i]? = some false := by
          rw [List.getElem?_eq_getElem (by simpa using hii)]
          simp only [Array.getD, hii, dif_pos] at h0'
          simpa [Array.getInternal_eq_getElem] using h0'
        have key : ∀ (L : List Bool) (i : Nat), L[i]? = some false → ((L.set i true).filter (fun b => !b)).length + 1 = (L.filter (fun b => !b)).length := by
          intro L
          induction L with
          | nil => intro i h; simp at h
          | cons b L ihL =>
            intro i h
            cases i with
            | zero => simp at h; subst h; simp
            | succ i =>
              simp at h
              have := ihL i h
              cases b <;> simp at this ⊢ <;> omega
        have := key listed.toList i hget
        rw [Array.toList_setIfInBounds]
        omega
      · refine ⟨updO f o.dst v, rfl, fun t ht => ?_, hx.trans hxw, fun j hjk hj => ?_, fun j oj hj hoj q hq => ?_⟩
        · rw [hdi]
          have hne : t ≠ di := by
            rintro rfl
            have := mem_dstsK hol hik hdi
            rw [← List.contains_iff_mem, ht] at this
            cases this
          rw [show updO f (some di) v = upd f di v from rfl, upd_ne f v hne]
          exact hf t ht
        · have hjl : j < l.length := by omega
          have hoj : l[j]? = some l[j] := List.getElem?_eq_getElem hjl
          by_cases hji : i = j
          · subst hji
            have : dstD l i = di := by unfold dstD; rw [hol]; simp [hdi]
            rw [this, hdi, show updO f (some di) v = upd f di v from rfl, upd_same]
            exact hv
          · rw [getD_set_ne false hji] at hj
            have hφj := hφ j hjk hj
            have hstepj := (DSteps.at_ l 0 hS j l[j] hoj (by simpa using hjk))
            simp only [Nat.zero_add] at hstepj
            obtain ⟨dj, hdj⟩ : ∃ dj, (l[j]).dst = some dj := by
              rw [List.all_eq_true] at hD
              have := hD l[j] (List.mem_of_getElem? (i := j) (by rw [List.getElem?_take, if_pos hjk]; exact hoj))
              exact Option.isSome_iff_exists.1 this
            have hDj : dstD l j = dj := by unfold dstD; rw [hoj]; simp [hdj]
            have hne : dj ≠ di := by
              rintro rfl
              have hnd := nodupB_nodup _ hN
              unfold dstsK at hnd
              exact hji (filterMap_inj (·.dst) (l.take k) hnd i j o l[j] (by rw [List.getElem?_take, if_pos hik]; exact hol) (by rw [List.getElem?_take, if_pos hjk]; exact hoj) (by simp [hdi]) (by simp [hdi, hdj]))
            rw [hDj] at hφj ⊢
            rw [hdi, show updO f (some di) v = upd f di v from rfl, upd_ne f v hne]
            exact hstepj.mono _ _ _ hxw hφj
        · have hq2 : listed.getD q false = true := by
            by_cases hji : i = j
            · subst hji
              rw [hol] at hoj
              cases hoj
              obtain ⟨e, he, hbi, hon⟩ := onB_iff.1 hq
              rw [← hon]; exact hedges e he hbi
            · rw [getD_set_ne false hji] at hj
              exact hC j oj hj hoj q hq
          by_cases hqi : i = q
          · subst hqi; rw [h0'] at hq2; cases hq2
          · rw [getD_set_ne false hqi]; exact hq2

/-- Every one of the tail waits for all of the first k. -/
def okTail3 (l : List Oper) (k : Nat) : Bool := (List.range l.length).all fun i => Nat.blt i k || (List.range k).all fun m => reachB l (i + 1) i m
theorem okTail3_reach {l : List Oper} {k : Nat} (h : okTail3 l k = true) {i m : Nat} (hk : k ≤ i) (hi : i < l.length) (hm : m < k) : reachB l (i + 1) i m = true := by
  have := List.all_eq_true.1 h i (by rw [List.mem_range]; exact hi)
  have hf : Nat.blt i k = false := by
    cases hb : Nat.blt i k with
    | false => rfl
    | true => rw [Nat.blt_eq] at hb; omega
  rw [hf] at this
  simp only [Bool.false_or] at this
  exact List.all_eq_true.1 this m (by rw [List.mem_range]; exact hm)
def okD3 (n k : Nat) (l : List Oper) : Bool :=
  okEdges 0 l && (l.take k).all (fun o => o.dst.isSome) && nodupB (dstsK k l) && (dstsK k l).all (fun d => Nat.blt d n) && okTail3 l k && Nat.ble k l.length
/-- What is left of a region, when those marked in S have come up. -/
def TA (P : Program) (n : Nat) (l : List Oper) (Q : Exit → Act → World → Prop) (d : Nat) (S : List Bool) (f : Slots) (w : World) : Prop := wpAny P .any l.toArray Q d S.toArray (acts n f) w
def TAll (P : Program) (n : Nat) (l : List Oper) (Q : Exit → Act → World → Prop) (d : Nat) (S : List Bool) (f : Slots) (w : World) : List Nat → Prop
  | [] => True
  | i :: r => (∃ o, l[i]? = some o ∧ SO P n l.toArray o f w (fun f' w' => TA P n l Q d (S.set i true) f' w')) ∧ TAll P n l Q d S f w r
theorem TAll.mem {Q : Exit → Act → World → Prop} {d : Nat} {S : List Bool} {f : Slots} {w : World} : ∀ {R : List Nat}, TAll P n l Q d S f w R → ∀ i ∈ R, ∃ o, l[i]? = some o ∧ SO P n l.toArray o f w (fun f' w' => TA P n l Q d (S.set i true) f' w')
  | [], _, i, hi => by cases hi
  | j :: r, h, i, hi => by
    rcases List.mem_cons.1 hi with rfl | hi
    · exact h.1
    · exact TAll.mem h.2 i hi
theorem ta {Q : Exit → Act → World → Prop} {d : Nat} {S : List Bool} {f : Slots} {w : World} (R : List Nat) (hr : Region.ready .any l.toArray S.toArray = R) (hne : R.isEmpty = false) (h : TAll P n l Q d S f w R) : TA P n l Q (d + 1) S f w := by
  refine ⟨fun h0 => ?_, fun i hi => ?_⟩
  · rw [hr] at h0; rw [h0] at hne; cases hne
  · rw [hr] at hi
    obtain ⟨o, ho, hs⟩ := h.mem i hi
    refine wpOp_of_SO (by simpa using ho) hs fun f' w' hK => ?_
    have he : S.toArray.setIfInBounds i true = (S.set i true).toArray := by simp
    rw [he]; exact hK
theorem ta0 {Q : Exit → Act → World → Prop} {S : List Bool} {f : Slots} {w : World} (hr : Region.ready .any l.toArray S.toArray = []) (h : Q .normal (acts n f) w) : TA P n l Q 0 S f w := ⟨hr, h⟩
theorem wpAny_first3 {Q : Exit → Act → World → Prop} (hok : okD3 n k l = true) (hS : DSteps P n l k Φ f0 w0 0 l)
    (hend : ∀ f w, (∀ t, (dstsK k l).contains t = false → f t = f0 t) → Ext w0 w → (∀ i, Nat.blt i k = true → phi Φ i (f (dstD l i)) w) → TA P n l Q (l.length - k) (List.replicate k true ++ List.replicate (l.length - k) false) f w) :
    ∀ (d : Nat) (listed : Array Bool) (a : Act) (w : World), listed.size = l.length → (∀ i, k ≤ i → listed.getD i false = false) → (listed.toList.filter (fun b => !b)).length = d →
      DJ n l k Φ f0 w0 listed a w → wpAny P .any l.toArray Q d listed a w := by
  have hok0 := hok
  simp only [okD3, Bool.and_eq_true] at hok
  obtain ⟨⟨⟨⟨⟨hE, hD⟩, hN⟩, hn⟩, hT⟩, hkl⟩ := hok
  simp only [Nat.ble_eq] at hkl
  intro d
  induction d with
  | zero =>
    intro listed a w hsz hge hd hJ
    have hall : ∀ i, i < l.length → listed.getD i false = true := by
      intro i hi
      have h0 := List.eq_nil_of_length_eq_zero hd
      rw [List.filter_eq_nil_iff] at h0
      have hi' : i < listed.size := by omega
      have := h0 listed[i] (by simp)
      simp at this
      simp [Array.getD, hi', this]
    have hkeq : k = l.length := by
      rcases Nat.lt_or_ge k l.length with h | h
      · have h1 := hall k h
        rw [hge k (Nat.le_refl _)] at h1
        cases h1
      · omega
    obtain ⟨f, rfl, hf, hx, hφ, hC⟩ := hJ
    have := hend f w hf hx (fun i hi => hφ i (by simpa using hi) (hall i (by have h9 : i < k := (by simpa using hi); omega)))
    have hl : listed = (List.replicate k true ++ List.replicate (l.length - k) false).toArray := by
      apply Array.ext
      · simp [hsz]; omega
      · intro i h1 h2
        have := hall i (by omega)
        simp only [Array.getD, h1, dif_pos] at this
        simp [hkeq] at this ⊢
        simpa [Array.getInternal_eq_getElem, List.getElem_append, show i < l.length by omega] using this
    rw [show l.length - k = 0 from by omega] at this hl
    rw [hl]
    exact this
  | succ d ih =>
    intro listed a w hsz hge hd hJ
    by_cases hall : ∀ i, i < k → listed.getD i false = true
    · obtain ⟨f, rfl, hf, hx, hφ, hC⟩ := hJ
      have := hend f w hf hx (fun i hi => hφ i (by simpa using hi) (hall i (by simpa using hi)))
      have hup : Upto l.length k listed := ⟨hsz, fun i hi => by
        by_cases hik : i < k
        · rw [hall i hik]; simp [hik]
        · rw [hge i (by omega)]; simp; omega⟩
      have hcount : d + 1 = l.length - k := by
        rw [← hd]
        have hl : listed.toList = List.replicate k true ++ List.replicate (l.length - k) false := by
          apply List.ext_getElem
          · simp [hsz]; omega
          · intro i h1 h2
            simp only [Array.length_toList] at h1
            have := hup.2 i (by omega)
            simp only [Array.getD, h1, dif_pos] at this
            rw [Array.getElem_toList]
            by_cases hik : i < k
            · rw [List.getElem_append_left (by simpa using hik)]
              simp [Array.getInternal_eq_getElem, hik] at this ⊢
              exact this
            · rw [List.getElem_append_right (by simpa using hik)]
              simp [Array.getInternal_eq_getElem, hik] at this ⊢
              exact this
        rw [hl]
        simp
      have hl2 : listed = (List.replicate k true ++ List.replicate (l.length - k) false).toArray := by
        apply Array.ext
        · simp [hsz]; omega
        · intro i h1 h2
          have := hup.2 i (by omega)
          simp only [Array.getD, h1, dif_pos] at this
          by_cases hik : i < k
          · simp [Array.getInternal_eq_getElem, hik, List.getElem_append] at this ⊢
            exact this
          · simp [Array.getInternal_eq_getElem, hik, List.getElem_append] at this ⊢
            exact this
      rw [hcount, hl2]
      exact this
    · obtain ⟨i0, hi0⟩ : ∃ i, i < k ∧ listed.getD i false = false := by
        apply Classical.byContradiction
        intro hno
        refine hall fun i hi => ?_
        cases hb : listed.getD i false with
        | true => rfl
        | false => exact (hno ⟨i, hi, hb⟩).elim
      -- the least that hasn't come up is ready
      obtain ⟨m, hm1, hm2⟩ := exists_least (p := fun i => i < k ∧ listed.getD i false = false) ⟨i0, hi0⟩
      have hml : m < l.length := by omega
      have hom : l[m]? = some l[m] := List.getElem?_eq_getElem hml
      have hmr : m ∈ Region.ready .any l.toArray listed := by
        rw [mem_ready]
        refine ⟨?_, l[m], by simp, fun e he hb => ?_⟩
        · rw [show listed.getD m true = listed.getD m false from getD_any (by omega) _ _]; exact hm1.2
        · have hlt := okEdges_at l 0 hE m l[m] hom e he hb
          cases hb2 : listed.getD e.on false with
          | true => rfl
          | false =>
            have := hm2 e.on ⟨by omega, hb2⟩
            omega
      refine ⟨fun h0 => (by rw [h0] at hmr; cases hmr), fun i hi => ?_⟩
      obtain ⟨h0, o, ho, hedges⟩ := mem_ready.1 hi
      have hol : l[i]? = some o := by simpa using ho
      have hil : i < l.length := (List.getElem?_eq_some_iff.1 hol).1
      have h0' : listed.getD i false = false := by
        rw [show listed.getD i false = listed.getD i true from getD_any (by omega) _ _]; exact h0
      have hik : i < k := by
        rcases Nat.lt_or_ge i k with h | h
        · exact h
        · exfalso
          obtain ⟨f, rfl, hf, hx, hφ, hC⟩ := hJ
          have := reach_listed hC _ i m o hol (fun j hj => by
            obtain ⟨e, he, hbi, hon⟩ := onB_iff.1 hj
            rw [← hon]; exact hedges e he hbi) (okTail3_reach hT h hil hm1.1)
          rw [hm1.2] at this
          cases this
      obtain ⟨f, rfl, hf, hx, hφ, hC⟩ := hJ
      have hstep := (DSteps.at_ l 0 hS i o hol (by simpa using hik))
      simp only [Nat.zero_add] at hstep
      have hSO := hstep.go f w hf hx (fun j hj hjk => by
        obtain ⟨e, he, hb, hon⟩ := onB_iff.1 hj
        subst hon
        exact hφ e.on (by simpa using hjk) (hedges e he hb))
      obtain ⟨di, hdi⟩ : ∃ di, o.dst = some di := by
        rw [List.all_eq_true] at hD
        have := hD o (List.mem_of_getElem? (i := i) (by rw [List.getElem?_take, if_pos hik]; exact hol))
        exact Option.isSome_iff_exists.1 this
      refine wpOp_of_SO ho hSO fun f' w' hK => ?_
      obtain ⟨v, rfl, hxw, hv⟩ := hK
      refine ih (listed.setIfInBounds i true) _ w' (by simp [hsz]) (fun j hj => ?_) ?_ ?_
      · rw [getD_set_ne false (by omega)]; exact hge j hj
      · -- one less is left
        have hii : i < listed.size := by omega
        have hget : listed.toList[i]? = some false := by
          rw [List.getElem?_eq_getElem (by simpa using hii)]
          simp only [Array.getD, hii, dif_pos] at h0'
          simpa [Array.getInternal_eq_getElem] using h0'
        have key : ∀ (L : List Bool) (i : Nat), L[i]? = some false → ((L.set i true).filter (fun b => !b)).length + 1 = (L.filter (fun b => !b)).length := by
          intro L
          induction L with
          | nil => intro i h; simp at h
          | cons b L ihL =>
            intro i h
            cases i with
            | zero => simp at h; subst h; simp
            | succ i =>
              simp at h
              have := ihL i h
              cases b <;> simp at this ⊢ <;> omega
        have := key listed.toList i hget
        rw [Array.toList_setIfInBounds]
        omega
      · refine ⟨updO f o.dst v, rfl, fun t ht => ?_, hx.trans hxw, fun j hjk hj => ?_, fun j oj hj hoj q hq => ?_⟩
        · rw [hdi]
          have hne : t ≠ di := by
            rintro rfl
            have := mem_dstsK hol hik hdi
            rw [← List.contains_iff_mem, ht] at this
            cases this
          rw [show updO f (some di) v = upd f di v from rfl, upd_ne f v hne]
          exact hf t ht
        · have hjl : j < l.length := by omega
          have hoj : l[j]? = some l[j] := List.getElem?_eq_getElem hjl
          by_cases hji : i = j
          · subst hji
            have : dstD l i = di := by unfold dstD; rw [hol]; simp [hdi]
            rw [this, hdi, show updO f (some di) v = upd f di v from rfl, upd_same]
            exact hv
          · rw [getD_set_ne false hji] at hj
            have hφj := hφ j hjk hj
            have hstepj := (DSteps.at_ l 0 hS j l[j] hoj (by simpa using hjk))
            simp only [Nat.zero_add] at hstepj
            obtain ⟨dj, hdj⟩ : ∃ dj, (l[j]).dst = some dj := by
              rw [List.all_eq_true] at hD
              have := hD l[j] (List.mem_of_getElem? (i := j) (by rw [List.getElem?_take, if_pos hjk]; exact hoj))
              exact Option.isSome_iff_exists.1 this
            have hDj : dstD l j = dj := by unfold dstD; rw [hoj]; simp [hdj]
            have hne : dj ≠ di := by
              rintro rfl
              have hnd := nodupB_nodup _ hN
              unfold dstsK at hnd
              exact hji (filterMap_inj (·.dst) (l.take k) hnd i j o l[j] (by rw [List.getElem?_take, if_pos hik]; exact hol) (by rw [List.getElem?_take, if_pos hjk]; exact hoj) (by simp [hdi]) (by simp [hdi, hdj]))
            rw [hDj] at hφj ⊢
            rw [hdi, show updO f (some di) v = upd f di v from rfl, upd_ne f v hne]
            exact hstepj.mono _ _ _ hxw hφj
        · have hq2 : listed.getD q false = true := by
            by_cases hji : i = j
            · subst hji
              rw [hol] at hoj
              cases hoj
              obtain ⟨e, he, hbi, hon⟩ := onB_iff.1 hq
              rw [← hon]; exact hedges e he hbi
            · rw [getD_set_ne false hji] at hj
              exact hC j oj hj hoj q hq
          by_cases hqi : i = q
          · subst hqi; rw [h0'] at hq2; cases hq2
          · rw [getD_set_ne false hqi]; exact hq2

/-- **A region that draws its order.** -/
theorem dr {id : Nat} {Q : Exit → Act → World → Prop} {f : Slots} {w : World} (k : Nat) (Φ : List (Value → World → Prop)) (hm : P.follows .mixedOrders = true) (hok : okD n k l = true)
    (hS : DSteps P n l k Φ f w 0 l)
    (hend : ∀ f' w', (∀ t, (dstsK k l).contains t = false → f' t = f t) → Ext w w' → (∀ i, Nat.blt i k = true → phi Φ i (f' (dstD l i)) w') → WL P n l.toArray Q (l.drop k) f' w') :
    WC P n (.region id l.toArray true) Q f w := by
  refine wp_region_any hm ?_
  have h := wpAny_first (P := P) (w0 := w) (f0 := f) (Q := Q) hok hS hend l.length (Array.replicate l.length false) (acts n f) w.drew (by simp) (fun i _ => by simp [Array.getD]) (by simp) ⟨f, rfl, fun _ _ => rfl, Ext.drew w, fun i hi h => (by
    have h2 : (Array.replicate l.length false).getD i false = false := by
      simp only [Array.getD]; split <;> simp
    rw [h2] at h; cases h), fun i o h _ _ _ => (by
    have h2 : (Array.replicate l.length false).getD i false = false := by
      simp only [Array.getD]; split <;> simp
    rw [h2] at h; cases h)⟩
  simpa using h

/-- **A region that draws its order, whose end may go in more than one way.** -/
theorem dr3 {id : Nat} {Q : Exit → Act → World → Prop} {f : Slots} {w : World} (k : Nat) (Φ : List (Value → World → Prop)) (hm : P.follows .mixedOrders = true) (hok : okD3 n k l = true)
    (hS : DSteps P n l k Φ f w 0 l)
    (hend : ∀ f' w', (∀ t, (dstsK k l).contains t = false → f' t = f t) → Ext w w' → (∀ i, Nat.blt i k = true → phi Φ i (f' (dstD l i)) w') → TA P n l Q (l.length - k) (List.replicate k true ++ List.replicate (l.length - k) false) f' w') :
    WC P n (.region id l.toArray true) Q f w := by
  refine wp_region_any hm ?_
  have h := wpAny_first3 (P := P) (w0 := w) (f0 := f) (Q := Q) hok hS hend l.length (Array.replicate l.length false) (acts n f) w.drew (by simp) (fun i _ => by simp [Array.getD]) (by simp) ⟨f, rfl, fun _ _ => rfl, Ext.drew w, fun i hi h => (by
    have h2 : (Array.replicate l.length false).getD i false = false := by
      simp only [Array.getD]; split <;> simp
    rw [h2] at h; cases h), fun i o h _ _ _ => (by
    have h2 : (Array.replicate l.length false).getD i false = false := by
      simp only [Array.getD]; split <;> simp
    rw [h2] at h; cases h)⟩
  simpa using h
end
end Go.Ew
