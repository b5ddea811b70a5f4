/- Engine, part V: as part T, where operations may also be calls that lay new data: each operation's new blocks lie in an interval of its own. -/
import Derived.Test.YtmhopljngkgidaaDoorEngT
namespace Go.Ew
open Go.RowKit
set_option linter.unusedVariables false
set_option linter.unusedSimpArgs false

/-- From w to w' the old blocks, and those between lo and hi, stand. -/
def Keeps (w0 : World) (lo hi : Nat) (w w' : World) : Prop := w.heap.size ≤ w'.heap.size ∧ ∀ c, c < w.heap.size → (c < w0.heap.size ∨ (lo ≤ c ∧ c < hi)) → w'.heap[c]? = w.heap[c]?
theorem Keeps.ext {w0 w w' : World} {lo hi : Nat} (h : Ext w w') : Keeps w0 lo hi w w' := ⟨h.size, fun c hc _ => h.block c hc⟩
/-- What is known of an operation's value. -/
def Known (Φ : List (Nat → Nat → Value → World → Prop)) (w0 : World) (I : Nat → Nat × Nat) (i : Nat) (v : Value) (w : World) : Prop := w0.heap.size ≤ (I i).1 ∧ (I i).2 ≤ w.heap.size ∧ phiI Φ i (I i).1 (I i).2 v w

def XStep (P : Program) (n : Nat) (l : List Oper) (Ks : List Kd) (Φ : List (Nat → Nat → Value → World → Prop)) (Z : List (Array Value × TypeId)) (f0 : Slots) (w0 : World) (i : Nat) (o : Oper) : Prop :=
  (∀ lo hi v w w', Keeps w0 lo hi w w' → phiI Φ i lo hi v w → phiI Φ i lo hi v w') ∧
  match kdAt Ks i with
  | .v => o.dst.isSome = true ∧ ∀ f w, (∀ t, (dstsK l.length l).contains t = false → f t = f0 t) → Ext w0 w → (∀ j, onB o j = true → (∃ x, l[j]? = some x ∧ x.dst.isSome = true) → ∃ lo hi, w0.heap.size ≤ lo ∧ hi ≤ w.heap.size ∧ phiI Φ j lo hi (f (dstD l j)) w) →
      SO P n l.toArray o f w (fun f' w' => ∃ v, f' = updO f o.dst v ∧ Ext w w' ∧ phiI Φ i w.heap.size w'.heap.size v w')
  | .n => o.dst.isSome = true ∧ ∀ f w, (∀ t, (dstsK l.length l).contains t = false → f t = f0 t) → Ext w0 w → (∀ j, onB o j = true → (∃ x, l[j]? = some x ∧ x.dst.isSome = true) → ∃ lo hi, w0.heap.size ≤ lo ∧ hi ≤ w.heap.size ∧ phiI Φ j lo hi (f (dstD l j)) w) →
      SO P n l.toArray o f w (fun f' w' => f' = updO f o.dst (.pointer (some ⟨w.heap.size, 0, none⟩)) ∧ w' = w.alloc (.cells (zAt Z i).1 (zAt Z i).2) ∧ phiI Φ i w.heap.size w'.heap.size (.pointer (some ⟨w.heap.size, 0, none⟩)) w')
  | .s a j => o.dst = none ∧ onB o a = true ∧ onB o j = true ∧ (∃ x, l[a]? = some x ∧ x.dst.isSome = true) ∧ (∃ x, l[j]? = some x ∧ x.dst.isSome = true) ∧ a ≠ j ∧ (match kdAt Ks a with | .n => True | _ => False) ∧ (∀ lo hi v w, phiI Φ j lo hi v w → v.cells.size = (zAt Z a).1.size) ∧
      ∀ f w b cur lo hi, Ext w0 w → f (dstD l a) = .pointer (some ⟨b, 0, none⟩) → w.heap[b]? = some (.cells cur (zAt Z a).2 (0, 0)) → cur.size = (zAt Z a).1.size → phiI Φ j lo hi (f (dstD l j)) w →
      SO P n l.toArray o f w (fun f' w' => f' = f ∧ w' = w.setRow b (f (dstD l j)).cells)
def XSteps (P : Program) (n : Nat) (l : List Oper) (Ks : List Kd) (Φ : List (Nat → Nat → Value → World → Prop)) (Z : List (Array Value × TypeId)) (f0 : Slots) (w0 : World) : Nat → List Oper → Prop
  | _, [] => True
  | i, o :: r => XStep P n l Ks Φ Z f0 w0 i o ∧ XSteps P n l Ks Φ Z f0 w0 (i + 1) r

section
variable {P : Program} {n : Nat} {l : List Oper} {Ks : List Kd} {Φ : List (Nat → Nat → Value → World → Prop)} {Z : List (Array Value × TypeId)} {f0 : Slots} {w0 : World}

theorem XSteps.at_ : ∀ (r : List Oper) (i : Nat), XSteps P n l Ks Φ Z f0 w0 i r → ∀ j o, r[j]? = some o → XStep P n l Ks Φ Z f0 w0 (i + j) o
  | [], _, _, j, o, h => by simp at h
  | x :: r, i, h, 0, o, hj => by
    simp only [List.getElem?_cons_zero, Option.some.injEq] at hj
    subst hj
    exact h.1
  | x :: r, i, h, j + 1, o, hj => by
    simp only [List.getElem?_cons_succ] at hj
    have := XSteps.at_ r (i + 1) h.2 j o hj
    rwa [show i + 1 + j = i + (j + 1) from by omega] at this

def isN (k : Kd) : Prop := match k with | .n => True | _ => False
def JX (n : Nat) (l : List Oper) (Ks : List Kd) (Φ : List (Nat → Nat → Value → World → Prop)) (Z : List (Array Value × TypeId)) (f0 : Slots) (w0 : World) (listed : Array Bool) (a : Act) (w : World) : Prop :=
  ∃ (f : Slots) (I : Nat → Nat × Nat), a = acts n f ∧ (∀ t, (dstsK l.length l).contains t = false → f t = f0 t) ∧ Ext w0 w ∧ (∀ i, i < l.length → listed.getD i false = true → (∃ x, l[i]? = some x ∧ x.dst.isSome = true) → Known Φ w0 I i (f (dstD l i)) w) ∧
    (∀ i, i < l.length → listed.getD i false = true → isN (kdAt Ks i) → f (dstD l i) = .pointer (some ⟨(I i).1, 0, none⟩) ∧ (I i).2 = (I i).1 + 1 ∧ ∃ cur, w.heap[(I i).1]? = some (.cells cur (zAt Z i).2 (0, 0)) ∧ Cont l Ks Z (fun s => listed.getD s false) f i cur) ∧
    (∀ i j, i < l.length → j < l.length → i ≠ j → listed.getD i false = true → listed.getD j false = true → (∃ x, l[i]? = some x ∧ x.dst.isSome = true) → (∃ x, l[j]? = some x ∧ x.dst.isSome = true) → (I i).2 ≤ (I j).1 ∨ (I j).2 ≤ (I i).1) ∧
    ∀ i o, listed.getD i false = true → l[i]? = some o → ∀ j, onB o j = true → listed.getD j false = true

theorem wpAny_X {Q : Exit → Act → World → Prop} (hok : okS n l Ks = true) (hnphi : ∀ i, isN (kdAt Ks i) → ∀ lo hi v w w', phiI Φ i lo hi v w → phiI Φ i lo hi v w') (hS : XSteps P n l Ks Φ Z f0 w0 0 l)
    (hend : ∀ (f : Slots) (w : World) (I : Nat → Nat × Nat), (∀ t, (dstsK l.length l).contains t = false → f t = f0 t) → Ext w0 w → (∀ i x, l[i]? = some x → x.dst.isSome = true → Known Φ w0 I i (f (dstD l i)) w) →
      (∀ i, i < l.length → isN (kdAt Ks i) → f (dstD l i) = .pointer (some ⟨(I i).1, 0, none⟩) ∧ (I i).2 = (I i).1 + 1 ∧ ∃ cur, w.heap[(I i).1]? = some (.cells cur (zAt Z i).2 (0, 0)) ∧ Cont l Ks Z (fun _ => true) f i cur) →
      (∀ i j x y, l[i]? = some x → l[j]? = some y → x.dst.isSome = true → y.dst.isSome = true → i ≠ j → (I i).2 ≤ (I j).1 ∨ (I j).2 ≤ (I i).1) → Q .normal (acts n f) w) :
    ∀ (d : Nat) (listed : Array Bool) (a : Act) (w : World), listed.size = l.length → (listed.toList.filter (fun b => !b)).length = d →
      JX n l Ks Φ Z f0 w0 listed a w → wpAny P .any l.toArray Q d listed a w := by
  simp only [okS, Bool.and_eq_true, Nat.beq_eq_true_eq] at hok
  obtain ⟨⟨⟨⟨hE, hN⟩, hn⟩, hO⟩, hKl⟩ := hok
  intro d
  induction d with
  | zero =>
    intro listed a w hsz hd hJ
    have hall : ∀ i, i < l.length → listed.getD i false = true := by
      intro i hi
      have h0 := List.eq_nil_of_length_eq_zero hd
      rw [List.filter_eq_nil_iff] at h0
      have hi' : i < listed.size := by omega
      have := h0 listed[i] (by simp)
      simp at this
      simp [Array.getD, hi', this]
    refine ⟨?_, ?_⟩
    · apply List.eq_nil_iff_forall_not_mem.2
      intro i hi
      obtain ⟨h0, o, ho, -⟩ := mem_ready.1 hi
      have hol : l[i]? = some o := by simpa using ho
      have hil : i < l.length := (List.getElem?_eq_some_iff.1 hol).1
      rw [show listed.getD i true = listed.getD i false from getD_any (by omega) _ _, hall i hil] at h0
      cases h0
    · obtain ⟨f, I, rfl, hf, hx, hφ, hB, hd2, hC⟩ := hJ
      have hlen : ∀ {i x}, l[i]? = some x → i < l.length := fun hi => (List.getElem?_eq_some_iff.1 hi).1
      refine hend f w I hf hx (fun i x hi hdx => ?_) (fun i hi hk => ?_) (fun i j x y hi hj hdi hdj hne => hd2 i j (hlen hi) (hlen hj) hne (hall i (hlen hi)) (hall j (hlen hj)) ⟨x, hi, hdi⟩ ⟨y, hj, hdj⟩)
      · have hil := (List.getElem?_eq_some_iff.1 hi).1
        exact hφ i hil (hall i hil) ⟨x, hi, hdx⟩
      · obtain ⟨h1, h2, cur, h4, h5, h6, h7⟩ := hB i hi (hall i hi) hk
        refine ⟨h1, h2, cur, h4, h5, fun s j hs _ => h6 s j hs (hall s ?_), fun hno => h7 fun s j hs => ?_⟩
        · have h9 := (List.getElem?_eq_some_iff.1 hs).1
          have h8 := Nat.eq_of_beq_eq_true hKl
          omega
        · have := hno s j hs; cases this
  | succ d ih =>
    intro listed a w hsz hd hJ
    obtain ⟨i0, hi0⟩ : ∃ i, i < l.length ∧ listed.getD i false = false := by
      apply Classical.byContradiction
      intro hno
      have : listed.toList.filter (fun b => !b) = [] := by
        rw [List.filter_eq_nil_iff]
        intro b hb
        obtain ⟨i, hi, rfl⟩ := List.mem_iff_getElem.1 hb
        simp only [Array.length_toList] at hi
        cases hb2 : listed.toList[i] with
        | true => simp
        | false =>
          exfalso
          refine hno ⟨i, by omega, ?_⟩
          simp only [Array.getElem_toList] at hb2
          simp [Array.getD, hi, hb2]
      rw [this] at hd; cases hd
    obtain ⟨m, hm1, hm2⟩ := exists_least (p := fun i => i < l.length ∧ listed.getD i false = false) ⟨i0, hi0⟩
    have hml : m < l.length := by omega
    have hom : l[m]? = some l[m] := List.getElem?_eq_getElem hml
    have hmr : m ∈ Region.ready .any l.toArray listed := by
      rw [mem_ready]
      refine ⟨?_, l[m], by simp, fun e he hb => ?_⟩
      · rw [show listed.getD m true = listed.getD m false from getD_any (by omega) _ _]; exact hm1.2
      · have hlt := okEdges_at l 0 hE m l[m] hom e he hb
        cases hb2 : listed.getD e.on false with
        | true => rfl
        | false =>
          have := hm2 e.on ⟨by omega, hb2⟩
          omega
    refine ⟨fun h0 => (by rw [h0] at hmr; cases hmr), fun i hi => ?_⟩
    obtain ⟨h0, o, ho, hedges⟩ := mem_ready.1 hi
    have hol : l[i]? = some o := by simpa using ho
    have hil : i < l.length := (List.getElem?_eq_some_iff.1 hol).1
    have h0' : listed.getD i false = false := by
      rw [show listed.getD i false = listed.getD i true from getD_any (by omega) _ _]; exact h0
    obtain ⟨f, I, rfl, hf, hx, hφ, hB, hd2, hC⟩ := hJ
    have hstep := XSteps.at_ l 0 hS i o hol
    simp only [Nat.zero_add] at hstep
    have hmono : ∀ j x, l[j]? = some x → ∀ lo hi v w w', Keeps w0 lo hi w w' → phiI Φ j lo hi v w → phiI Φ j lo hi v w' := by
      intro j x hj
      have := (XSteps.at_ l 0 hS j x hj).1
      simpa only [Nat.zero_add] using this
    have hdone : ∀ j, onB o j = true → listed.getD j false = true := by
      intro j hj
      obtain ⟨e, he, hb, hon⟩ := onB_iff.1 hj
      subst hon
      exact hedges e he hb
    have hlt : ∀ j, listed.getD j false = true → j < l.length := by
      intro j hj
      refine Classical.byContradiction fun hn => ?_
      rw [show listed.getD j false = false from by simp [Array.getD]; omega] at hj
      cases hj
    have hcount : ((listed.setIfInBounds i true).toList.filter (fun b => !b)).length = d := by
      have hii : i < listed.size := by omega
      have hget : listed.toList[i]? = some false := by
        rw [List.getElem?_eq_getElem (by simpa using hii)]
        simp only [Array.getD, hii, dif_pos] at h0'
        simpa [Array.getInternal_eq_getElem] using h0'
      have key : ∀ (L : List Bool) (i : Nat), L[i]? = some false → ((L.set i true).filter (fun b => !b)).length + 1 = (L.filter (fun b => !b)).length := by
        intro L
        induction L with
        | nil => intro i h; simp at h
        | cons b L ihL =>
          intro i h
          cases i with
          | zero => simp at h; subst h; simp
          | succ i =>
            simp at h
            have := ihL i h
            cases b <;> simp at this ⊢ <;> omega
      have := key listed.toList i hget
      rw [Array.toList_setIfInBounds]
      omega
    have hClosed : ∀ j oj, (listed.setIfInBounds i true).getD j false = true → l[j]? = some oj → ∀ q, onB oj q = true → (listed.setIfInBounds i true).getD q false = true := by
      intro j oj hj hoj q hq
      have hq2 : listed.getD q false = true := by
        by_cases hji : i = j
        · subst hji
          rw [hol] at hoj
          cases hoj
          exact hdone q hq
        · rw [getD_set_ne false hji] at hj
          exact hC j oj hj hoj q hq
      by_cases hqi : i = q
      · subst hqi; rw [h0'] at hq2; cases hq2
      · rw [getD_set_ne false hqi]; exact hq2
    have hset : ∀ j, (listed.setIfInBounds i true).getD j false = true → j ≠ i → listed.getD j false = true := by
      intro j hj hne
      rwa [getD_set_ne false (fun e => hne e.symm)] at hj
    have hkeep : ∀ j, listed.getD j false = true → (listed.setIfInBounds i true).getD j false = true := by
      intro j hj
      by_cases hji : i = j
      · subst hji; rw [h0'] at hj; cases hj
      · rw [getD_set_ne false hji]; exact hj
    -- an operation that gives a value v, in a world in which old blocks stand
    have giv : ∀ (v : Value) (w' : World) (hdi : o.dst.isSome = true), Ext w w' → phiI Φ i w.heap.size w'.heap.size v w' → (∀ s j, kdAt Ks i ≠ .s s j) →
        (isN (kdAt Ks i) → v = .pointer (some ⟨w.heap.size, 0, none⟩) ∧ w'.heap.size = w.heap.size + 1 ∧ w'.heap[w.heap.size]? = some (.cells (zAt Z i).1 (zAt Z i).2 (0, 0))) →
        JX n l Ks Φ Z f0 w0 (listed.setIfInBounds i true) (acts n (updO f o.dst v)) w' := by
      intro v w' hdi hxw hv hns hnew
      obtain ⟨di, hdi⟩ := Option.isSome_iff_exists.1 hdi
      have hDi := dstD_of hol hdi
      have hself : updO f o.dst v (dstD l i) = v := by rw [hDi, hdi]; exact upd_same f di v
      have hoth : ∀ j oj, l[j]? = some oj → oj.dst.isSome = true → j ≠ i → updO f o.dst v (dstD l j) = f (dstD l j) := by
        intro j oj hoj hdj hne
        obtain ⟨dj, hdj⟩ := Option.isSome_iff_exists.1 hdj
        rw [dstD_of hoj hdj, hdi]
        exact upd_ne f v (dst_ne hN hol hoj hdi hdj (fun e => hne e.symm))
      have hsrc : ∀ s a j, Ks[s]? = some (.s a j) → listed.getD s false = true → updO f o.dst v (dstD l j) = f (dstD l j) := by
        intro s a j hs hls
        have hsl := hlt s hls
        have hos : l[s]? = some l[s] := List.getElem?_eq_getElem hsl
        have hst := XSteps.at_ l 0 hS s l[s] hos
        simp only [Nat.zero_add] at hst
        have hk : kdAt Ks s = .s a j := by unfold kdAt; rw [List.getD_eq_getElem?_getD, hs]; rfl
        have hst := hst.2
        rw [hk] at hst
        obtain ⟨-, -, hoj, -, ⟨x, hxj, hxd⟩, -⟩ := hst
        have hlj := hC s l[s] hls hos j hoj
        refine hoth j x hxj hxd ?_
        rintro rfl
        rw [h0'] at hlj; cases hlj
      refine ⟨updO f o.dst v, fun j => if j = i then (w.heap.size, w'.heap.size) else I j, rfl, fun t ht => ?_, hx.trans hxw, fun j hj hlj hdj => ?_, fun j hj hlj hkj => ?_, fun p q hp hq hpq hlp hlq hdp hdq => ?_, hClosed⟩
      · have hne : t ≠ di := by
          rintro rfl
          have := mem_dstsK (k := l.length) hol hil hdi
          rw [← List.contains_iff_mem, ht] at this
          cases this
        rw [hdi, show updO f (some di) v = upd f di v from rfl, upd_ne f v hne]
        exact hf t ht
      · by_cases hji : j = i
        · subst hji
          rw [hself]
          unfold Known
          dsimp only
          rw [if_pos rfl]
          exact ⟨hx.size, Nat.le_refl _, hv⟩
        · obtain ⟨x, hxj, hxd⟩ := hdj
          rw [hoth j x hxj hxd hji]
          obtain ⟨k1, k2, k3⟩ := hφ j hj (hset j hlj hji) ⟨x, hxj, hxd⟩
          unfold Known
          dsimp only
          rw [if_neg hji]
          exact ⟨k1, Nat.le_trans k2 hxw.size, (hmono j x hxj) _ _ _ _ _ (Keeps.ext hxw) k3⟩
      · by_cases hji : j = i
        · subst hji
          obtain ⟨n1, n2, n4⟩ := hnew hkj
          rw [hself]
          dsimp only
          rw [if_pos rfl]
          refine ⟨n1, n2, _, n4, rfl, fun s q hs hls => ?_, fun _ => rfl⟩
          exfalso
          have hsi : s ≠ j := by
            rintro rfl
            have : kdAt Ks s = .s s q := by unfold kdAt; rw [List.getD_eq_getElem?_getD, hs]; rfl
            exact hns _ _ this
          have hls' := hset s hls hsi
          have hsl := hlt s hls'
          have hos : l[s]? = some l[s] := List.getElem?_eq_getElem hsl
          have hst := XSteps.at_ l 0 hS s l[s] hos
          simp only [Nat.zero_add] at hst
          have hk : kdAt Ks s = .s j q := by unfold kdAt; rw [List.getD_eq_getElem?_getD, hs]; rfl
          have hst := hst.2
          rw [hk] at hst
          have := hC s l[s] hls' hos j hst.2.1
          rw [h0'] at this; cases this
        · have hlj' := hset j hlj hji
          obtain ⟨b1, b2, cur, b4, b5, b6, b7⟩ := hB j hj hlj' hkj
          have hoj : l[j]? = some l[j] := List.getElem?_eq_getElem hj
          have hst := XSteps.at_ l 0 hS j l[j] hoj
          simp only [Nat.zero_add] at hst
          have hdj : (l[j]).dst.isSome = true := by
            have hst := hst.2
            revert hkj hst
            cases kdAt Ks j <;> intro hkj hst
            · exact hkj.elim
            · exact hst.1
            · exact hkj.elim
          rw [hoth j l[j] hoj hdj hji]
          dsimp only
          rw [if_neg hji]
          have hbl : (I j).1 < w.heap.size := (Array.getElem?_eq_some_iff.1 b4).1
          refine ⟨b1, b2, cur, by rw [hxw.block _ hbl]; exact b4, b5, fun s q hs hls => ?_, fun hno => b7 fun s q hs => ?_⟩
          · have hsi : s ≠ i := by
              rintro rfl
              have : kdAt Ks s = .s j q := by unfold kdAt; rw [List.getD_eq_getElem?_getD, hs]; rfl
              exact hns _ _ this
            have hls' := hset s hls hsi
            rw [hsrc s j q hs hls']
            exact b6 s q hs hls'
          · have this : (listed.setIfInBounds i true).getD s false = false := hno s q hs
            show listed.getD s false = false
            cases hc : listed.getD s false with
            | false => rfl
            | true => rw [hkeep s hc] at this; cases this
      · have hold : ∀ c, c < l.length → c ≠ i → (listed.setIfInBounds i true).getD c false = true → (∃ x, l[c]? = some x ∧ x.dst.isSome = true) → (I c).2 ≤ w.heap.size := by
          intro c hc hci hl hd
          exact (hφ c hc (hset c hl hci) hd).2.1
        by_cases ea : p = i
        · have eb : q ≠ i := fun e => hpq (ea.trans e.symm)
          have q1 := hold q hq eb hlq hdq
          simp only [if_pos ea, if_neg eb]
          exact .inr q1
        · have p1 := hold p hp ea hlp hdp
          by_cases eb : q = i
          · simp only [if_neg ea, if_pos eb]
            exact .inl p1
          · simp only [if_neg ea, if_neg eb]
            exact hd2 p q hp hq hpq (hset p hlp ea) (hset q hlq eb) hdp hdq
    have hdeps : ∀ j, onB o j = true → (∃ x, l[j]? = some x ∧ x.dst.isSome = true) → ∃ lo hi, w0.heap.size ≤ lo ∧ hi ≤ w.heap.size ∧ phiI Φ j lo hi (f (dstD l j)) w := fun j hj hd => ⟨_, _, hφ j (hlt j (hdone j hj)) (hdone j hj) hd⟩
    have hself : (listed.setIfInBounds i true).getD i false = true := by
      have hii : i < listed.size := by omega
      simp [Array.getD, hii]
    have hstep := hstep.2
    cases hk : kdAt Ks i with
    | v =>
      rw [hk] at hstep
      obtain ⟨hd1, hgo⟩ := hstep
      refine wpOp_of_SO ho (hgo f w hf hx hdeps) fun f' w' hK => ?_
      obtain ⟨v, rfl, hxw, hv⟩ := hK
      exact ih _ _ _ (by simp [hsz]) hcount (giv v _ hd1 hxw hv (by intro s j e; rw [hk] at e; cases e) (fun hn => by rw [hk] at hn; exact hn.elim))
    | n =>
      rw [hk] at hstep
      obtain ⟨hd1, hgo⟩ := hstep
      refine wpOp_of_SO ho (hgo f w hf hx hdeps) fun f' w' hK => ?_
      obtain ⟨rfl, rfl, hv⟩ := hK
      exact ih _ _ _ (by simp [hsz]) hcount (giv _ _ hd1 (Ext.alloc w _) hv (by intro s j e; rw [hk] at e; cases e) (fun _ => ⟨rfl, by simp, heap_alloc_new w _⟩))
    | s a j =>
      rw [hk] at hstep
      obtain ⟨hd0, hoa, hoj, ⟨xa, hxa, hxad⟩, ⟨xj, hxj, hxjd⟩, haj, hka, hsz2, hgo⟩ := hstep
      have hal := hlt a (hdone a hoa)
      obtain ⟨b1, b2, cur, b4, b5, b6, b7⟩ := hB a hal (hdone a hoa) hka
      obtain ⟨ka1, ka2, ka3⟩ := hφ a hal (hdone a hoa) ⟨xa, hxa, hxad⟩
      obtain ⟨kj1, kj2, kj3⟩ := hφ j (hlt j (hdone j hoj)) (hdone j hoj) ⟨xj, hxj, hxjd⟩
      refine wpOp_of_SO ho (hgo f w (I a).1 cur _ _ hx b1 b4 b5 kj3) fun f' w' hK => ?_
      obtain ⟨rfl, rfl⟩ := hK
      have hki := kd_get hk
      have hkeepW : ∀ q, q < l.length → q ≠ a → listed.getD q false = true → (∃ x, l[q]? = some x ∧ x.dst.isSome = true) → Keeps w0 (I q).1 (I q).2 w (w.setRow (I a).1 (f' (dstD l j)).cells) := by
        intro q hq hqa hlq hdq
        refine ⟨by simp, fun c hc hcc => setRow_other w (I a).1 c _ ?_⟩
        have := hd2 q a hq hal hqa hlq (hdone a hoa) hdq ⟨xa, hxa, hxad⟩
        omega
      refine ih _ _ _ (by simp [hsz]) hcount ⟨f', I, rfl, hf, ⟨hx.os, hx.tape, hx.output, by simpa using hx.size, fun c hc => ?_⟩, fun q hq hlq hdq => ?_, fun q hq hlq hkq => ?_, fun p q hp hq hpq hlp hlq hdp hdq => ?_, hClosed⟩
      · rw [setRow_other w (I a).1 c _ (by omega)]; exact hx.block c hc
      · have hqi : q ≠ i := by
          rintro rfl
          obtain ⟨x, hx1, hx2⟩ := hdq
          rw [hol] at hx1
          cases hx1
          rw [hd0] at hx2; cases hx2
        obtain ⟨x, hx1, hx2⟩ := hdq
        obtain ⟨k1, k2, k3⟩ := hφ q hq (hset q hlq hqi) ⟨x, hx1, hx2⟩
        refine ⟨k1, by simpa using k2, ?_⟩
        by_cases hqa : q = a
        · subst hqa
          exact hnphi q hka _ _ _ _ _ k3
        · exact (hmono q x hx1) _ _ _ _ _ (hkeepW q hq hqa (hset q hlq hqi) ⟨x, hx1, hx2⟩) k3
      · have hqi : q ≠ i := by rintro rfl; rw [hk] at hkq; exact hkq
        have hlq' := hset q hlq hqi
        obtain ⟨c1, c2, cur', c4, c5, c6, c7⟩ := hB q hq hlq' hkq
        by_cases hqa : q = a
        · subst hqa
          refine ⟨c1, c2, _, setRow_heap w (I q).1 cur _ _ _ b4, hsz2 _ _ _ _ kj3, fun s q' hs hls => ?_, fun hno => ?_⟩
          · have := once hO hs hki
            subst this
            rw [hki] at hs
            cases hs
            rfl
          · have this : (listed.setIfInBounds i true).getD i false = false := hno i j hki
            rw [hself] at this; cases this
        · have hdq : ∃ x, l[q]? = some x ∧ x.dst.isSome = true := by
            have hoq : l[q]? = some l[q] := List.getElem?_eq_getElem hq
            have hst := XSteps.at_ l 0 hS q l[q] hoq
            simp only [Nat.zero_add] at hst
            have hst := hst.2
            refine ⟨_, hoq, ?_⟩
            revert hkq hst
            cases kdAt Ks q <;> intro hkq hst
            · exact hkq.elim
            · exact hst.1
            · exact hkq.elim
          have hbb : (I q).1 ≠ (I a).1 := by
            have := hd2 q a hq hal hqa hlq' (hdone a hoa) hdq ⟨xa, hxa, hxad⟩
            omega
          refine ⟨c1, c2, cur', by rw [setRow_other w (I a).1 (I q).1 _ hbb]; exact c4, c5, fun s q' hs hls => ?_, fun hno => c7 fun s q' hs => ?_⟩
          · have hsi : s ≠ i := by rintro rfl; rw [hki] at hs; cases hs; exact hqa rfl
            exact c6 s q' hs (hset s hls hsi)
          · have this : (listed.setIfInBounds i true).getD s false = false := hno s q' hs
            show listed.getD s false = false
            cases hc : listed.getD s false with
            | false => rfl
            | true => rw [hkeep s hc] at this; cases this
      · have hpi : p ≠ i := by
          rintro rfl
          obtain ⟨x, hx1, hx2⟩ := hdp
          rw [hol] at hx1; cases hx1; rw [hd0] at hx2; cases hx2
        have hqi : q ≠ i := by
          rintro rfl
          obtain ⟨x, hx1, hx2⟩ := hdq
          rw [hol] at hx1; cases hx1; rw [hd0] at hx2; cases hx2
        exact hd2 p q hp hq hpq (hset p hlp hpi) (hset q hlq hqi) hdp hdq

/-- **Such a region.** -/
theorem drx {id : Nat} {Q : Exit → Act → World → Prop} {f : Slots} {w : World} (Ks : List Kd) (Φ : List (Nat → Nat → Value → World → Prop)) (Z : List (Array Value × TypeId)) (hm : P.follows .mixedOrders = true) (hok : okS n l Ks = true)
    (hnphi : ∀ i, isN (kdAt Ks i) → ∀ lo hi v w w', phiI Φ i lo hi v w → phiI Φ i lo hi v w')
    (hS : XSteps P n l Ks Φ Z f w 0 l)
    (hend : ∀ (f' : Slots) (w' : World) (I : Nat → Nat × Nat), (∀ t, (dstsK l.length l).contains t = false → f' t = f t) → Ext w w' → (∀ i x, l[i]? = some x → x.dst.isSome = true → Known Φ w I i (f' (dstD l i)) w') →
      (∀ i, i < l.length → isN (kdAt Ks i) → f' (dstD l i) = .pointer (some ⟨(I i).1, 0, none⟩) ∧ (I i).2 = (I i).1 + 1 ∧ ∃ cur, w'.heap[(I i).1]? = some (.cells cur (zAt Z i).2 (0, 0)) ∧ Cont l Ks Z (fun _ => true) f' i cur) →
      (∀ i j x y, l[i]? = some x → l[j]? = some y → x.dst.isSome = true → y.dst.isSome = true → i ≠ j → (I i).2 ≤ (I j).1 ∨ (I j).2 ≤ (I i).1) → Q .normal (acts n f') w') :
    WC P n (.region id l.toArray true) Q f w := by
  refine wp_region_any hm ?_
  have h3 : ∀ i, (Array.replicate l.length false).getD i false = false := by
    intro i
    simp only [Array.getD]; split <;> simp
  have h := wpAny_X (P := P) (w0 := w) (f0 := f) (Q := Q) hok hnphi hS hend l.length (Array.replicate l.length false) (acts n f) w.drew (by simp) (by simp) ⟨f, fun _ => (0, 0), rfl, fun _ _ => rfl, Ext.drew w, fun i hi h => (by
    rw [h3] at h; cases h), fun i hi h => (by rw [h3] at h; cases h), fun i j _ _ _ h => (by rw [h3] at h; cases h), fun i o h _ _ _ => (by
    rw [h3] at h; cases h)⟩
  simpa using h
end

/-! Data of one operation's interval. -/
/-- Blocks that are not to be relied on: those that may be written, and the new ones outside lo .. hi. -/
def MX (M : Nat → Prop) (s lo hi : Nat) (c : Nat) : Prop := M c ∨ (s ≤ c ∧ ¬ (lo ≤ c ∧ c < hi))
section
variable {α : Type} [GT α] {M : Nat → Prop} {w0 w w' : World} {lo hi : Nat} {v : Value} {x : α} {ad : Addr}
theorem rvx_keep (hM : ∀ b, M b → b < w0.heap.size) (h : RV (MX M w0.heap.size lo hi) w v x) (k : Keeps w0 lo hi w w') : RV (MX M w0.heap.size lo hi) w' v x :=
  h.lift ⟨k.1, fun c hc hn => ⟨k.2 c hc (by
    by_cases h1 : c < w0.heap.size
    · exact .inl h1
    · refine .inr ?_
      refine Classical.byContradiction fun h2 => hn (.inr ⟨by omega, h2⟩)), hn⟩⟩
/-- What is there already, and shares with nothing that may be written. -/
theorem rvx_old (h : RV M w0 v x) (e : Ext w0 w) (s lo hi : Nat) (hs : s = w0.heap.size) : RV (MX M s lo hi) w v x :=
  h.lift ⟨e.size, fun c hc hn => ⟨e.block c hc, by
    rintro (h1 | h1)
    · exact hn h1
    · omega⟩⟩
/-- The blocks that a call in such a region may not rely on. -/
def MD (M : Nat → Prop) (s t : Nat) (c : Nat) : Prop := M c ∨ (s ≤ c ∧ c < t)
theorem md_below (hM : ∀ b, M b → b < w0.heap.size) (e : Ext w0 w) : ∀ b, MD M w0.heap.size w.heap.size b → b < w.heap.size := by
  rintro b (h | h)
  · exact Nat.lt_of_lt_of_le (hM b h) e.size
  · exact h.2
theorem rv_md (h : RV M w0 v x) (e : Ext w0 w) : RV (MD M w0.heap.size w.heap.size) w v x :=
  h.lift ⟨e.size, fun c hc hn => ⟨e.block c hc, by
    rintro (h1 | h1)
    · exact hn h1
    · omega⟩⟩
theorem rvx_md (h : RV (MX M w0.heap.size lo hi) w v x) (hlo : w0.heap.size ≤ lo) (hhi : hi ≤ w.heap.size) : RV (fun c => M c ∨ (w0.heap.size ≤ c ∧ c < w.heap.size ∧ ¬ (lo ≤ c ∧ c < hi))) w v x :=
  h.lift (Up.less fun c hc hn => by
    rcases hn with h1 | h1
    · exact .inl h1
    · exact .inr ⟨h1.1, h1.2.2⟩)
/-- What a call gave. -/
theorem rvx_new (h : RV (MD M w0.heap.size w.heap.size) w' v x) : RV (MX M w0.heap.size w.heap.size w'.heap.size) w' v x :=
  h.lift (Up.less fun c hc hn => by
    rcases hn with h1 | h1
    · exact .inl h1
    · exact .inr ⟨h1.1, by omega⟩)
end
/-- Behind the region: data of an interval, beside blocks that lie outside of it. -/
theorem rvx_out {α : Type} [GT α] {M0 : Nat → Prop} {l : List Item} {w0 w : World} {lo hi : Nat} {v : Value} {x : α} (bs : List (Nat × Array Value × TypeId)) (h : RV (MX (MS M0 l) w0.heap.size lo hi) w v x)
    (hb : ∀ q ∈ bs, w0.heap.size ≤ q.1 ∧ ¬ (lo ≤ q.1 ∧ q.1 < hi)) : RV (MS M0 (bs.map (fun q => box q.1 q.2.1 q.2.2) ++ l)) w v x :=
  h.lift (Up.less fun c hc hn => by
    rcases hn with h1 | ⟨it, hit, hib⟩
    · exact .inl (.inl h1)
    · rcases List.mem_append.1 hit with h2 | h2
      · obtain ⟨q, hq, rfl⟩ := List.mem_map.1 h2
        cases hib
        exact .inr (hb q hq)
      · exact .inl (.inr ⟨it, h2, hib⟩))
end Go.Ew
