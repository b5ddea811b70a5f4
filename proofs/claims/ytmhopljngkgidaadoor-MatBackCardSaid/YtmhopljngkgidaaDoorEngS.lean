/- Engine, part S: regions that draw their order, where some operations lay new blocks: each operation's new blocks lie in an interval of its own. -/
import Derived.Test.YtmhopljngkgidaaDoorEngQ
namespace Go.Ew
open Go.RowKit
set_option linter.unusedVariables false
set_option linter.unusedSimpArgs false

/-- The facts' list, read at i. -/
def phiI (Φ : List (Nat → Nat → Value → World → Prop)) (i lo hi : Nat) : Value → World → Prop := Φ.getD i (fun _ _ _ _ => True) lo hi
def IvI (Φ : List (Nat → Nat → Value → World → Prop)) (w0 : World) (I : Nat → Nat × Nat) (i : Nat) (v : Value) (w : World) : Prop := w0.heap.size ≤ (I i).1 ∧ (I i).2 ≤ w.heap.size ∧ phiI Φ i (I i).1 (I i).2 v w

structure DStepI (P : Program) (n : Nat) (l : List Oper) (k : Nat) (Φ : List (Nat → Nat → Value → World → Prop)) (f0 : Slots) (w0 : World) (i : Nat) (o : Oper) : Prop where
  go : ∀ f w, (∀ t, (dstsK k l).contains t = false → f t = f0 t) → Ext w0 w → (∀ j, onB o j = true → Nat.blt j k = true → ∃ lo hi, w0.heap.size ≤ lo ∧ hi ≤ w.heap.size ∧ phiI Φ j lo hi (f (dstD l j)) w) →
    SO P n l.toArray o f w (fun f' w' => ∃ v, f' = updO f o.dst v ∧ Ext w w' ∧ phiI Φ i w.heap.size w'.heap.size v w')
  mono : ∀ lo hi v w w', Ext w w' → phiI Φ i lo hi v w → phiI Φ i lo hi v w'
def DStepsI (P : Program) (n : Nat) (l : List Oper) (k : Nat) (Φ : List (Nat → Nat → Value → World → Prop)) (f0 : Slots) (w0 : World) : Nat → List Oper → Prop
  | _, [] => True
  | i, o :: r => (Nat.blt i k = true → DStepI P n l k Φ f0 w0 i o) ∧ DStepsI P n l k Φ f0 w0 (i + 1) r

section
variable {P : Program} {n : Nat} {l : List Oper} {k : Nat} {Φ : List (Nat → Nat → Value → World → Prop)} {f0 : Slots} {w0 : World}

theorem DStepsI.at_ : ∀ (r : List Oper) (i : Nat), DStepsI P n l k Φ f0 w0 i r → ∀ j o, r[j]? = some o → Nat.blt (i + j) k = true → DStepI P n l k Φ f0 w0 (i + j) o
  | [], _, _, j, o, h, _ => by simp at h
  | x :: r, i, h, 0, o, hj, hk => by
    simp only [List.getElem?_cons_zero, Option.some.injEq] at hj
    subst hj
    exact h.1 hk
  | x :: r, i, h, j + 1, o, hj, hk => by
    simp only [List.getElem?_cons_succ] at hj
    have := DStepsI.at_ r (i + 1) h.2 j o hj (by rw [show i + 1 + j = i + (j + 1) from by omega]; exact hk)
    rwa [show i + 1 + j = i + (j + 1) from by omega] at this
theorem DStepsI.rest {i : Nat} (h : Nat.ble k i = true) : ∀ r, DStepsI P n l k Φ f0 w0 i r := by
  intro r
  induction r generalizing i with
  | nil => exact trivial
  | cons o r ih =>
    simp only [Nat.ble_eq] at h
    exact ⟨fun hk => by simp only [Nat.blt_eq] at hk; omega, ih (by simp only [Nat.ble_eq]; omega)⟩

/-- What holds while the first k come up. -/
def DJI (n : Nat) (l : List Oper) (k : Nat) (Φ : List (Nat → Nat → Value → World → Prop)) (f0 : Slots) (w0 : World) (listed : Array Bool) (a : Act) (w : World) : Prop :=
  ∃ (f : Slots) (I : Nat → Nat × Nat), a = acts n f ∧ (∀ t, (dstsK k l).contains t = false → f t = f0 t) ∧ Ext w0 w ∧ (∀ i, i < k → listed.getD i false = true → IvI Φ w0 I i (f (dstD l i)) w) ∧
    (∀ i j, i < k → j < k → i ≠ j → listed.getD i false = true → listed.getD j false = true → (I i).2 ≤ (I j).1 ∨ (I j).2 ≤ (I i).1) ∧
    ∀ i o, listed.getD i false = true → l[i]? = some o → ∀ j, onB o j = true → listed.getD j false = true

theorem wpAny_firstI {Q : Exit → Act → World → Prop} (hok : okD n k l = true) (hS : DStepsI P n l k Φ f0 w0 0 l)
    (hend : ∀ f w, (∀ t, (dstsK k l).contains t = false → f t = f0 t) → Ext w0 w → (∃ I : Nat → Nat × Nat, (∀ i, Nat.blt i k = true → IvI Φ w0 I i (f (dstD l i)) w) ∧ ∀ i j, Nat.blt i k = true → Nat.blt j k = true → i ≠ j → (I i).2 ≤ (I j).1 ∨ (I j).2 ≤ (I i).1) → WL P n l.toArray Q (l.drop k) f w) :
    ∀ (d : Nat) (listed : Array Bool) (a : Act) (w : World), listed.size = l.length → (∀ i, k ≤ i → listed.getD i false = false) → (listed.toList.filter (fun b => !b)).length = d →
      DJI n l k Φ f0 w0 listed a w → wpAny P .any l.toArray Q d listed a w := by
  have hok0 := hok
  simp only [okD, Bool.and_eq_true] at hok
  obtain ⟨⟨⟨⟨⟨hE, hD⟩, hN⟩, hn⟩, hT⟩, hkl⟩ := hok
  simp only [Nat.ble_eq] at hkl
  intro d
  induction d with
  | zero =>
    intro listed a w hsz hge hd hJ
    have hall : ∀ i, i < l.length → listed.getD i false = true := by
      intro i hi
      have h0 := List.eq_nil_of_length_eq_zero hd
      rw [List.filter_eq_nil_iff] at h0
      have hi' : i < listed.size := by omega
      have := h0 listed[i] (by simp)
      simp at this
      simp [Array.getD, hi', this]
    have hkeq : k = l.length := by
      rcases Nat.lt_or_ge k l.length with h | h
      · have h1 := hall k h
        rw [hge k (Nat.le_refl _)] at h1
        cases h1
      · omega
    obtain ⟨f, I, rfl, hf, hx, hφ, hdj, hC⟩ := hJ
    have hlt9 : ∀ i, Nat.blt i k = true → i < k := fun i hi => by simpa using hi
    have := hend f w hf hx ⟨I, fun i hi => hφ i (hlt9 i hi) (hall i (by have := hlt9 i hi; omega)), fun i j hi hj hne => hdj i j (hlt9 i hi) (hlt9 j hj) hne (hall i (by have := hlt9 i hi; omega)) (hall j (by have := hlt9 j hj; omega))⟩
    refine wpAny_tail hE hT 0 l.length listed _ w (by omega) (by omega) (Nat.le_refl _) ⟨hsz, fun i hi => by rw [hall i hi]; simp [hi]⟩ ?_
    rw [hkeq] at this
    exact this
  | succ d ih =>
    intro listed a w hsz hge hd hJ
    by_cases hall : ∀ i, i < k → listed.getD i false = true
    · obtain ⟨f, I, rfl, hf, hx, hφ, hdj, hC⟩ := hJ
      have hlt9 : ∀ i, Nat.blt i k = true → i < k := fun i hi => by simpa using hi
      have := hend f w hf hx ⟨I, fun i hi => hφ i (hlt9 i hi) (hall i (hlt9 i hi)), fun i j hi hj hne => hdj i j (hlt9 i hi) (hlt9 j hj) hne (hall i (hlt9 i hi)) (hall j (hlt9 j hj))⟩
      have hup : Upto l.length k listed := ⟨hsz, fun i hi => by
        by_cases hik : i < k
        · rw [hall i hik]; simp [hik]
        · rw [hge i (by omega)]; simp; omega⟩
      have hcount : d + 1 = l.length - k := by
        rw [← hd]
        have hl : listed.toList = List.replicate k true ++ List.replicate (l.length - k) false := by
          apply List.ext_getElem
          · simp [hsz]; omega
          · intro i h1 h2
            simp only [Array.length_toList] at h1
            have := hup.2 i (by omega)
            simp only [Array.getD, h1, dif_pos] at this
            rw [Array.getElem_toList]
            by_cases hik : i < k
            · rw [List.getElem_append_left (by simpa using hik)]
              simp [Array.getInternal_eq_getElem, hik] at this ⊢
              exact this
            · rw [List.getElem_append_right (by simpa using hik)]
              simp [Array.getInternal_eq_getElem, hik] at this ⊢
              exact this
        rw [hl]
        simp
      exact wpAny_tail hE hT (d + 1) k listed _ w (by omega) (Nat.le_refl _) hkl hup this
    · obtain ⟨i0, hi0⟩ : ∃ i, i < k ∧ listed.getD i false = false := by
        apply Classical.byContradiction
        intro hno
        refine hall fun i hi => ?_
        cases hb : listed.getD i false with
        | true => rfl
        | false => exact (hno ⟨i, hi, hb⟩).elim
      -- the least that hasn't come up is ready
      obtain ⟨m, hm1, hm2⟩ := exists_least (p := fun i => i < k ∧ listed.getD i false = false) ⟨i0, hi0⟩
      have hml : m < l.length := by omega
      have hom : l[m]? = some l[m] := List.getElem?_eq_getElem hml
      have hmr : m ∈ Region.ready .any l.toArray listed := by
        rw [mem_ready]
        refine ⟨?_, l[m], by simp, fun e he hb => ?_⟩
        · rw [show listed.getD m true = listed.getD m false from getD_any (by omega) _ _]; exact hm1.2
        · have hlt := okEdges_at l 0 hE m l[m] hom e he hb
          cases hb2 : listed.getD e.on false with
          | true => rfl
          | false =>
            have := hm2 e.on ⟨by omega, hb2⟩
            omega
      refine ⟨fun h0 => (by rw [h0] at hmr; cases hmr), fun i hi => ?_⟩
      obtain ⟨h0, o, ho, hedges⟩ := mem_ready.1 hi
      have hol : l[i]? = some o := by simpa using ho
      have hil : i < l.length := (List.getElem?_eq_some_iff.1 hol).1
      have h0' : listed.getD i false = false := by
        rw [show listed.getD i false = listed.getD i true from getD_any (by omega) _ _]; exact h0
      have hik : i < k := by
        rcases Nat.lt_or_ge i k with h | h
        · exact h
        · exfalso
          obtain ⟨f, I, rfl, hf, hx, hφ, hdj, hC⟩ := hJ
          by_cases hik2 : i = k
          · subst hik2
            have := reach_listed hC _ i m o hol (fun j hj => by
              obtain ⟨e, he, hbi, hon⟩ := onB_iff.1 hj
              rw [← hon]; exact hedges e he hbi) (okTail2_reach hT hil hm1.1)
            rw [hm1.2] at this
            cases this
          · have hb := okTail2_direct hT (i := i) (by omega) hol
            obtain ⟨e, he, hbi, hon⟩ := onB_iff.1 hb
            have := hedges e he hbi
            rw [hon, hge (i - 1) (by omega)] at this
            cases this
      obtain ⟨f, I, rfl, hf, hx, hφ, hdj, hC⟩ := hJ
      have hstep := (DStepsI.at_ l 0 hS i o hol (by simpa using hik))
      simp only [Nat.zero_add] at hstep
      have hSO := hstep.go f w hf hx (fun j hj hjk => by
        obtain ⟨e, he, hb, hon⟩ := onB_iff.1 hj
        subst hon
        exact ⟨_, _, hφ e.on (by simpa using hjk) (hedges e he hb)⟩)
      obtain ⟨di, hdi⟩ : ∃ di, o.dst = some di := by
        rw [List.all_eq_true] at hD
        have := hD o (List.mem_of_getElem? (i := i) (by rw [List.getElem?_take, if_pos hik]; exact hol))
        exact Option.isSome_iff_exists.1 this
      refine wpOp_of_SO ho hSO fun f' w' hK => ?_
      obtain ⟨v, rfl, hxw, hv⟩ := hK
      refine ih (listed.setIfInBounds i true) _ w' (by simp [hsz]) (fun j hj => ?_) ?_ ?_
      · rw [getD_set_ne false (by omega)]; exact hge j hj
      · -- one less is left
        have hii : i < listed.size := by omega
        have hget : listed.toList[i]? = some false := by
          rw [List.getElem?_eq_getElem (by simpa using hii)]
          simp only [Array.getD, hii, dif_pos] at h0'
          simpa [Array.getInternal_eq_getElem] using h0'
        have key : ∀ (L : List Bool) (i : Nat), L[i]? = some false → ((L.set i true).filter (fun b => !b)).length + 1 = (L.filter (fun b => !b)).length := by
          intro L
          induction L with
          | nil => intro i h; simp at h
          | cons b L ihL =>
            intro i h
            cases i with
            | zero => simp at h; subst h; simp
            | succ i =>
              simp at h
              have := ihL i h
              cases b <;> simp at this ⊢ <;> omega
        have := key listed.toList i hget
        rw [Array.toList_setIfInBounds]
        omega
      · refine ⟨updO f o.dst v, fun j => if j = i then (w.heap.size, w'.heap.size) else I j, rfl, fun t ht => ?_, hx.trans hxw, fun j hjk hj => ?_, fun a b ha hb hab hla hlb => ?_, fun j oj hj hoj q hq => ?_⟩
        · rw [hdi]
          have hne : t ≠ di := by
            rintro rfl
            have := mem_dstsK hol hik hdi
            rw [← List.contains_iff_mem, ht] at this
            cases this
          rw [show updO f (some di) v = upd f di v from rfl, upd_ne f v hne]
          exact hf t ht
        · have hjl : j < l.length := by omega
          have hoj : l[j]? = some l[j] := List.getElem?_eq_getElem hjl
          by_cases hji : i = j
          · subst hji
            have : dstD l i = di := by unfold dstD; rw [hol]; simp [hdi]
            rw [this, hdi, show updO f (some di) v = upd f di v from rfl, upd_same]
            unfold IvI
            dsimp only
            rw [if_pos rfl]
            exact ⟨hx.size, Nat.le_refl _, hv⟩
          · rw [getD_set_ne false hji] at hj
            have hφj := hφ j hjk hj
            have hstepj := (DStepsI.at_ l 0 hS j l[j] hoj (by simpa using hjk))
            simp only [Nat.zero_add] at hstepj
            obtain ⟨dj, hdj⟩ : ∃ dj, (l[j]).dst = some dj := by
              rw [List.all_eq_true] at hD
              have := hD l[j] (List.mem_of_getElem? (i := j) (by rw [List.getElem?_take, if_pos hjk]; exact hoj))
              exact Option.isSome_iff_exists.1 this
            have hDj : dstD l j = dj := by unfold dstD; rw [hoj]; simp [hdj]
            have hne : dj ≠ di := by
              rintro rfl
              have hnd := nodupB_nodup _ hN
              unfold dstsK at hnd
              exact hji (filterMap_inj (·.dst) (l.take k) hnd i j o l[j] (by rw [List.getElem?_take, if_pos hik]; exact hol) (by rw [List.getElem?_take, if_pos hjk]; exact hoj) (by simp [hdi]) (by simp [hdi, hdj]))
            rw [hDj] at hφj ⊢
            rw [hdi, show updO f (some di) v = upd f di v from rfl, upd_ne f v hne]
            unfold IvI at hφj ⊢
            dsimp only
            rw [if_neg (fun e => hji e.symm)]
            exact ⟨hφj.1, Nat.le_trans hφj.2.1 hxw.size, hstepj.mono _ _ _ _ _ hxw hφj.2.2⟩
        · have hold : ∀ c, c < k → c ≠ i → (listed.setIfInBounds i true).getD c false = true → (I c).2 ≤ w.heap.size ∧ listed.getD c false = true := by
            intro c hc hci hl
            rw [getD_set_ne false (fun e => hci e.symm)] at hl
            exact ⟨(hφ c hc hl).2.1, hl⟩
          by_cases ea : a = i
          · have eb : b ≠ i := fun e => hab (ea.trans e.symm)
            obtain ⟨q1, q2⟩ := hold b hb eb hlb
            simp only [if_pos ea, if_neg eb]
            exact .inr q1
          · obtain ⟨p1, p2⟩ := hold a ha ea hla
            by_cases eb : b = i
            · simp only [if_neg ea, if_pos eb]
              exact .inl p1
            · obtain ⟨q1, q2⟩ := hold b hb eb hlb
              simp only [if_neg ea, if_neg eb]
              exact hdj a b ha hb hab p2 q2
        · have hq2 : listed.getD q false = true := by
            by_cases hji : i = j
            · subst hji
              rw [hol] at hoj
              cases hoj
              obtain ⟨e, he, hbi, hon⟩ := onB_iff.1 hq
              rw [← hon]; exact hedges e he hbi
            · rw [getD_set_ne false hji] at hj
              exact hC j oj hj hoj q hq
          by_cases hqi : i = q
          · subst hqi; rw [h0'] at hq2; cases hq2
          · rw [getD_set_ne false hqi]; exact hq2

/-- **A region that draws its order, with new blocks.** -/
theorem dri {id : Nat} {Q : Exit → Act → World → Prop} {f : Slots} {w : World} (k : Nat) (Φ : List (Nat → Nat → Value → World → Prop)) (hm : P.follows .mixedOrders = true) (hok : okD n k l = true)
    (hS : DStepsI P n l k Φ f w 0 l)
    (hend : ∀ f' w', (∀ t, (dstsK k l).contains t = false → f' t = f t) → Ext w w' → (∃ I : Nat → Nat × Nat, (∀ i, Nat.blt i k = true → IvI Φ w I i (f' (dstD l i)) w') ∧ ∀ i j, Nat.blt i k = true → Nat.blt j k = true → i ≠ j → (I i).2 ≤ (I j).1 ∨ (I j).2 ≤ (I i).1) → WL P n l.toArray Q (l.drop k) f' w') :
    WC P n (.region id l.toArray true) Q f w := by
  refine wp_region_any hm ?_
  have h3 : ∀ i, (Array.replicate l.length false).getD i false = false := by
    intro i
    simp only [Array.getD]; split <;> simp
  have h := wpAny_firstI (P := P) (w0 := w) (f0 := f) (Q := Q) hok hS hend l.length (Array.replicate l.length false) (acts n f) w.drew (by simp) (fun i _ => by simp [Array.getD]) (by simp) ⟨f, fun _ => (0, 0), rfl, fun _ _ => rfl, Ext.drew w, fun i hi h => (by
    rw [h3] at h; cases h), fun i j _ _ _ h => (by rw [h3] at h; cases h), fun i o h _ _ _ => (by
    rw [h3] at h; cases h)⟩
  simpa using h

/-! New blocks become items. -/
section
variable {M0 : Nat → Prop} {w00 w w' : World} {l : List Item} {v : Value} {z : Value} {T : TypeId} {lo hi : Nat}
/-- A block that was laid between lo and hi. -/
def LaidB (b : Nat) (cs : Array Value) (t : TypeId) (lo hi : Nat) (w : World) : Prop := lo ≤ b ∧ b < hi ∧ w.heap[b]? = some (.cells cs t (0, 0))
theorem LaidB.ext {b : Nat} {cs : Array Value} {t : TypeId} (h : LaidB b cs t lo hi w) (e : Ext w w') : LaidB b cs t lo hi w' :=
  ⟨h.1, h.2.1, (e.block b (Array.getElem?_eq_some_iff.1 h.2.2).1).trans h.2.2⟩
/-- What was known, and the block. -/
theorem HI.laid {b : Nat} {cs : Array Value} {t : TypeId} (H : HI M0 w00 w l) (x : Ext w w') (hb : w.heap.size ≤ b) (h : w'.heap[b]? = some (.cells cs t (0, 0))) : HI M0 w00 w' (box b cs t :: l) :=
  H.new x b rfl hb (Array.getElem?_eq_some_iff.1 h).1 h
/-- .. and many blocks. -/
theorem HI.lays (H : HI M0 w00 w l) (x : Ext w w') (bs : List (Nat × Array Value × TypeId)) (hb : ∀ q ∈ bs, w.heap.size ≤ q.1 ∧ w'.heap[q.1]? = some (.cells q.2.1 q.2.2 (0, 0))) (hn : (bs.map (·.1)).Nodup) :
    HI M0 w00 w' (bs.map (fun q => box q.1 q.2.1 q.2.2) ++ l) := by
  have hsz : ∀ q ∈ bs, q.1 < w'.heap.size := fun q hq => (Array.getElem?_eq_some_iff.1 (hb q hq).2).1
  have hfm : (bs.map (fun q => box q.1 q.2.1 q.2.2)).filterMap (·.blk) = bs.map (·.1) := by
    clear hb hn hsz
    induction bs with
    | nil => rfl
    | cons q bs ih => simp only [List.map_cons, List.filterMap_cons, ih]; rfl
  refine ⟨H.below.trans x, H.m0, ?_, ?_, ?_⟩
  · intro it hit b hbl
    rcases List.mem_append.1 hit with h | h
    · obtain ⟨q, hq, rfl⟩ := List.mem_map.1 h
      cases hbl
      exact ⟨Nat.le_trans H.below.size (hb q hq).1, hsz q hq⟩
    · exact ⟨(H.blks it h b hbl).1, Nat.lt_of_lt_of_le (H.blks it h b hbl).2 x.size⟩
  · rw [List.filterMap_append, hfm, List.nodup_append]
    refine ⟨hn, H.nodup, ?_⟩
    intro b hb1 c hc e
    subst e
    obtain ⟨q, hq, rfl⟩ := List.mem_map.1 hb1
    obtain ⟨it, hit, hib⟩ := List.mem_filterMap.1 hc
    have := (H.blks it hit _ hib).2
    have := (hb q hq).1
    omega
  · intro it hit
    rcases List.mem_append.1 hit with h | h
    · obtain ⟨q, hq, rfl⟩ := List.mem_map.1 h
      exact (hb q hq).2
    · refine it.lift (H.all it h) ⟨x.size, fun c hc hM => ⟨x.block c hc, ?_⟩⟩ fun c hc => x.block c (H.blks it h c hc).2
      rintro (hc' | ⟨j, hj, hjc⟩)
      · exact hM (.inl hc')
      · rcases List.mem_append.1 hj with hj | hj
        · obtain ⟨q, hq, rfl⟩ := List.mem_map.1 hj
          cases hjc
          have := (hb q hq).1
          omega
        · exact hM (.inr ⟨j, hj, hjc⟩)
end
section
variable {x : Operand} {v : Value} {ops : Array Oper} {f : Slots} {w : World} {K : Slots → World → Prop} {d : Nat} {ty T : TypeId} {ps : String} {af : Array Edge} {bytes size : Nat} {agg : Bool} {z : Value}
theorem alI (F : TyF P T size agg bytes z) (h : ∀ w', Ext w w' → LaidB w.heap.size z.cells T w.heap.size w'.heap.size w' → K (upd f d (.pointer (some ⟨w.heap.size, 0, none⟩))) w') : SO P n ops ⟨some d, .alloc T, ty, ps, af, none⟩ f w K :=
  SO.value (v := .pointer (some ⟨w.heap.size, 0, none⟩)) (w' := w.alloc (.cells z.cells T)) (by simp [execOp, Instr.alloc, F.run_zero, newVar_run]) (h _ (Ext.alloc w _) ⟨Nat.le_refl _, by simp, heap_alloc_new w _⟩)
theorem bxI (ox : okT n x = true) (hx : ev f x = v) (h : ∀ w', Ext w w' → LaidB w.heap.size v.cells T w.heap.size w'.heap.size w' → K (upd f d (.pointer (some ⟨w.heap.size, 0, none⟩))) w') : SO P n ops ⟨some d, .box T x, ty, ps, af, none⟩ f w K :=
  SO.value (v := .pointer (some ⟨w.heap.size, 0, none⟩)) (w' := w.alloc (.cells v.cells T)) (by simp [execOp, Instr.box, eval_acts ox, hx, newVar_run]) (h _ (Ext.alloc w _) ⟨Nat.le_refl _, by simp, heap_alloc_new w _⟩)
end
end
end Go.Ew
