/- Engine, part ZN: as part V, where the results of calls may be handed to further calls: what is known of data holds beside the set of the region's own new blocks. -/
import Derived.Test.YtmhopljngkgidaaDoorEngV
namespace Go.Ew
open Go.RowKit
set_option linter.unusedVariables false
set_option linter.unusedSimpArgs false

def phiN (Φ : List ((Nat → Prop) → Value → World → Prop)) (i : Nat) : (Nat → Prop) → Value → World → Prop := Φ.getD i (fun _ _ _ => True)
/-- From w to w' all stands that is not in N; what is new in N' is a new block. -/
def KeepsN (N N' : Nat → Prop) (w w' : World) : Prop := w.heap.size ≤ w'.heap.size ∧ (∀ c, c < w.heap.size → ¬ N c → w'.heap[c]? = w.heap[c]?) ∧ ∀ c, c < w.heap.size → N' c → N c
def NStep (P : Program) (n : Nat) (l : List Oper) (Ks : List Kd) (Φ : List ((Nat → Prop) → Value → World → Prop)) (Z : List (Array Value × TypeId)) (f0 : Slots) (w0 : World) (i : Nat) (o : Oper) : Prop :=
  (∀ N N' v w w', KeepsN N N' w w' → phiN Φ i N v w → phiN Φ i N' v w') ∧
  match kdAt Ks i with
  | .v => o.dst.isSome = true ∧ ∀ f w N, (∀ t, (dstsK l.length l).contains t = false → f t = f0 t) → Ext w0 w → (∀ c, N c → w0.heap.size ≤ c ∧ c < w.heap.size) → (∀ j, onB o j = true → (∃ x, l[j]? = some x ∧ x.dst.isSome = true) → phiN Φ j N (f (dstD l j)) w) →
      SO P n l.toArray o f w (fun f' w' => ∃ v, f' = updO f o.dst v ∧ Ext w w' ∧ phiN Φ i N v w')
  | .n => o.dst.isSome = true ∧ (∀ N v w, phiN Φ i N v w) ∧ ∀ f w N, (∀ t, (dstsK l.length l).contains t = false → f t = f0 t) → Ext w0 w → (∀ c, N c → w0.heap.size ≤ c ∧ c < w.heap.size) → (∀ j, onB o j = true → (∃ x, l[j]? = some x ∧ x.dst.isSome = true) → phiN Φ j N (f (dstD l j)) w) →
      SO P n l.toArray o f w (fun f' w' => f' = updO f o.dst (.pointer (some ⟨w.heap.size, 0, none⟩)) ∧ w' = w.alloc (.cells (zAt Z i).1 (zAt Z i).2))
  | .s a j => o.dst = none ∧ onB o a = true ∧ onB o j = true ∧ (∃ x, l[a]? = some x ∧ x.dst.isSome = true) ∧ (∃ x, l[j]? = some x ∧ x.dst.isSome = true) ∧ a ≠ j ∧ (match kdAt Ks a with | .n => True | _ => False) ∧ (∀ N v w, phiN Φ j N v w → v.cells.size = (zAt Z a).1.size) ∧
      ∀ f w N b cur, Ext w0 w → f (dstD l a) = .pointer (some ⟨b, 0, none⟩) → w.heap[b]? = some (.cells cur (zAt Z a).2 (0, 0)) → cur.size = (zAt Z a).1.size → phiN Φ j N (f (dstD l j)) w →
      SO P n l.toArray o f w (fun f' w' => f' = f ∧ w' = w.setRow b (f (dstD l j)).cells)
def NSteps (P : Program) (n : Nat) (l : List Oper) (Ks : List Kd) (Φ : List ((Nat → Prop) → Value → World → Prop)) (Z : List (Array Value × TypeId)) (f0 : Slots) (w0 : World) : Nat → List Oper → Prop
  | _, [] => True
  | i, o :: r => NStep P n l Ks Φ Z f0 w0 i o ∧ NSteps P n l Ks Φ Z f0 w0 (i + 1) r

section
variable {P : Program} {n : Nat} {l : List Oper} {Ks : List Kd} {Φ : List ((Nat → Prop) → Value → World → Prop)} {Z : List (Array Value × TypeId)} {f0 : Slots} {w0 : World}

theorem NSteps.at_ : ∀ (r : List Oper) (i : Nat), NSteps P n l Ks Φ Z f0 w0 i r → ∀ j o, r[j]? = some o → NStep P n l Ks Φ Z f0 w0 (i + j) o
  | [], _, _, j, o, h => by simp at h
  | x :: r, i, h, 0, o, hj => by
    simp only [List.getElem?_cons_zero, Option.some.injEq] at hj
    subst hj
    exact h.1
  | x :: r, i, h, j + 1, o, hj => by
    simp only [List.getElem?_cons_succ] at hj
    have := NSteps.at_ r (i + 1) h.2 j o hj
    rwa [show i + 1 + j = i + (j + 1) from by omega] at this

/-- The new blocks of those that are done. -/
def NB (l : List Oper) (Ks : List Kd) (L : Nat → Bool) (B : Nat → Nat) (c : Nat) : Prop := ∃ i, i < l.length ∧ L i = true ∧ isN (kdAt Ks i) ∧ c = B i
def JN (n : Nat) (l : List Oper) (Ks : List Kd) (Φ : List ((Nat → Prop) → Value → World → Prop)) (Z : List (Array Value × TypeId)) (f0 : Slots) (w0 : World) (listed : Array Bool) (a : Act) (w : World) : Prop :=
  ∃ (f : Slots) (B : Nat → Nat), a = acts n f ∧ (∀ t, (dstsK l.length l).contains t = false → f t = f0 t) ∧ Ext w0 w ∧ (∀ i, i < l.length → listed.getD i false = true → (∃ x, l[i]? = some x ∧ x.dst.isSome = true) → phiN Φ i (NB l Ks (fun s => listed.getD s false) B) (f (dstD l i)) w) ∧
    (∀ i, i < l.length → listed.getD i false = true → isN (kdAt Ks i) → f (dstD l i) = .pointer (some ⟨B i, 0, none⟩) ∧ w0.heap.size ≤ B i ∧ B i < w.heap.size ∧ ∃ cur, w.heap[B i]? = some (.cells cur (zAt Z i).2 (0, 0)) ∧ Cont l Ks Z (fun s => listed.getD s false) f i cur) ∧
    (∀ i j, i < l.length → j < l.length → i ≠ j → listed.getD i false = true → listed.getD j false = true → isN (kdAt Ks i) → isN (kdAt Ks j) → B i ≠ B j) ∧
    ∀ i o, listed.getD i false = true → l[i]? = some o → ∀ j, onB o j = true → listed.getD j false = true

theorem wpAny_N {Q : Exit → Act → World → Prop} (hok : okS n l Ks = true) (hS : NSteps P n l Ks Φ Z f0 w0 0 l)
    (hend : ∀ (f : Slots) (w : World) (B : Nat → Nat), (∀ t, (dstsK l.length l).contains t = false → f t = f0 t) → Ext w0 w → (∀ i x, l[i]? = some x → x.dst.isSome = true → phiN Φ i (NB l Ks (fun _ => true) B) (f (dstD l i)) w) →
      (∀ i, i < l.length → isN (kdAt Ks i) → f (dstD l i) = .pointer (some ⟨B i, 0, none⟩) ∧ w0.heap.size ≤ B i ∧ B i < w.heap.size ∧ ∃ cur, w.heap[B i]? = some (.cells cur (zAt Z i).2 (0, 0)) ∧ Cont l Ks Z (fun _ => true) f i cur) →
      (∀ i j, i < l.length → j < l.length → i ≠ j → isN (kdAt Ks i) → isN (kdAt Ks j) → B i ≠ B j) → Q .normal (acts n f) w) :
    ∀ (d : Nat) (listed : Array Bool) (a : Act) (w : World), listed.size = l.length → (listed.toList.filter (fun b => !b)).length = d →
      JN n l Ks Φ Z f0 w0 listed a w → wpAny P .any l.toArray Q d listed a w := by
  simp only [okS, Bool.and_eq_true, Nat.beq_eq_true_eq] at hok
  obtain ⟨⟨⟨⟨hE, hN⟩, hn⟩, hO⟩, hKl⟩ := hok
  intro d
  induction d with
  | zero =>
    intro listed a w hsz hd hJ
    have hall : ∀ i, i < l.length → listed.getD i false = true := by
      intro i hi
      have h0 := List.eq_nil_of_length_eq_zero hd
      rw [List.filter_eq_nil_iff] at h0
      have hi' : i < listed.size := by omega
      have := h0 listed[i] (by simp)
      simp at this
      simp [Array.getD, hi', this]
    refine ⟨?_, ?_⟩
    · apply List.eq_nil_iff_forall_not_mem.2
      intro i hi
      obtain ⟨h0, o, ho, -⟩ := mem_ready.1 hi
      have hol : l[i]? = some o := by simpa using ho
      have hil : i < l.length := (List.getElem?_eq_some_iff.1 hol).1
      rw [show listed.getD i true = listed.getD i false from getD_any (by omega) _ _, hall i hil] at h0
      cases h0
    · obtain ⟨f, B, rfl, hf, hx, hφ, hB, hd2, hC⟩ := hJ
      have hlen : ∀ {i x}, l[i]? = some x → i < l.length := fun hi => (List.getElem?_eq_some_iff.1 hi).1
      have hNB : NB l Ks (fun s => listed.getD s false) B = NB l Ks (fun _ => true) B := by
        funext c
        apply propext
        exact ⟨fun ⟨i, h1, h2, h3⟩ => ⟨i, h1, rfl, h3⟩, fun ⟨i, h1, h2, h3⟩ => ⟨i, h1, hall i h1, h3⟩⟩
      refine hend f w B hf hx (fun i x hi hdx => ?_) (fun i hi hk => ?_) (fun i j hi hj hne => hd2 i j hi hj hne (hall i hi) (hall j hj))
      · rw [← hNB]
        exact hφ i (hlen hi) (hall i (hlen hi)) ⟨x, hi, hdx⟩
      · obtain ⟨h1, h2, h3, cur, h4, h5, h6, h7⟩ := hB i hi (hall i hi) hk
        refine ⟨h1, h2, h3, cur, h4, h5, fun s j hs _ => h6 s j hs (hall s ?_), fun hno => h7 fun s j hs => ?_⟩
        · have h9 := (List.getElem?_eq_some_iff.1 hs).1
          have h8 := Nat.eq_of_beq_eq_true hKl
          omega
        · have := hno s j hs; cases this
  | succ d ih =>
    intro listed a w hsz hd hJ
    obtain ⟨i0, hi0⟩ : ∃ i, i < l.length ∧ listed.getD i false = false := by
      apply Classical.byContradiction
      intro hno
      have : listed.toList.filter (fun b => !b) = [] := by
        rw [List.filter_eq_nil_iff]
        intro b hb
        obtain ⟨i, hi, rfl⟩ := List.mem_iff_getElem.1 hb
        simp only [Array.length_toList] at hi
        cases hb2 : listed.toList[i] with
        | true => simp
        | false =>
          exfalso
          refine hno ⟨i, by omega, ?_⟩
          simp only [Array.getElem_toList] at hb2
          simp [Array.getD, hi, hb2]
      rw [this] at hd; cases hd
    obtain ⟨m, hm1, hm2⟩ := exists_least (p := fun i => i < l.length ∧ listed.getD i false = false) ⟨i0, hi0⟩
    have hml : m < l.length := by omega
    have hom : l[m]? = some l[m] := List.getElem?_eq_getElem hml
    have hmr : m ∈ Region.ready .any l.toArray listed := by
      rw [mem_ready]
      refine ⟨?_, l[m], by simp, fun e he hb => ?_⟩
      · rw [show listed.getD m true = listed.getD m false from getD_any (by omega) _ _]; exact hm1.2
      · have hlt := okEdges_at l 0 hE m l[m] hom e he hb
        cases hb2 : listed.getD e.on false with
        | true => rfl
        | false =>
          have := hm2 e.on ⟨by omega, hb2⟩
          omega
    refine ⟨fun h0 => (by rw [h0] at hmr; cases hmr), fun i hi => ?_⟩
    obtain ⟨h0, o, ho, hedges⟩ := mem_ready.1 hi
    have hol : l[i]? = some o := by simpa using ho
    have hil : i < l.length := (List.getElem?_eq_some_iff.1 hol).1
    have h0' : listed.getD i false = false := by
      rw [show listed.getD i false = listed.getD i true from getD_any (by omega) _ _]; exact h0
    obtain ⟨f, B, rfl, hf, hx, hφ, hB, hd2, hC⟩ := hJ
    have hstep := NSteps.at_ l 0 hS i o hol
    simp only [Nat.zero_add] at hstep
    have hmono : ∀ j x, l[j]? = some x → ∀ N N' v w w', KeepsN N N' w w' → phiN Φ j N v w → phiN Φ j N' v w' := by
      intro j x hj
      have := (NSteps.at_ l 0 hS j x hj).1
      simpa only [Nat.zero_add] using this
    have hdone : ∀ j, onB o j = true → listed.getD j false = true := by
      intro j hj
      obtain ⟨e, he, hb, hon⟩ := onB_iff.1 hj
      subst hon
      exact hedges e he hb
    have hlt : ∀ j, listed.getD j false = true → j < l.length := by
      intro j hj
      refine Classical.byContradiction fun hn => ?_
      rw [show listed.getD j false = false from by simp [Array.getD]; omega] at hj
      cases hj
    have hcount : ((listed.setIfInBounds i true).toList.filter (fun b => !b)).length = d := by
      have hii : i < listed.size := by omega
      have hget : listed.toList[i]? = some false := by
        rw [List.getElem?_eq_getElem (by simpa using hii)]
        simp only [Array.getD, hii, dif_pos] at h0'
        simpa [Array.getInternal_eq_getElem] using h0'
      have key : ∀ (L : List Bool) (i : Nat), L[i]? = some false → ((L.set i true).filter (fun b => !b)).length + 1 = (L.filter (fun b => !b)).length := by
        intro L
        induction L with
        | nil => intro i h; simp at h
        | cons b L ihL =>
          intro i h
          cases i with
          | zero => simp at h; subst h; simp
          | succ i =>
            simp at h
            have := ihL i h
            cases b <;> simp at this ⊢ <;> omega
      have := key listed.toList i hget
      rw [Array.toList_setIfInBounds]
      omega
    have hClosed : ∀ j oj, (listed.setIfInBounds i true).getD j false = true → l[j]? = some oj → ∀ q, onB oj q = true → (listed.setIfInBounds i true).getD q false = true := by
      intro j oj hj hoj q hq
      have hq2 : listed.getD q false = true := by
        by_cases hji : i = j
        · subst hji
          rw [hol] at hoj
          cases hoj
          exact hdone q hq
        · rw [getD_set_ne false hji] at hj
          exact hC j oj hj hoj q hq
      by_cases hqi : i = q
      · subst hqi; rw [h0'] at hq2; cases hq2
      · rw [getD_set_ne false hqi]; exact hq2
    have hset : ∀ j, (listed.setIfInBounds i true).getD j false = true → j ≠ i → listed.getD j false = true := by
      intro j hj hne
      rwa [getD_set_ne false (fun e => hne e.symm)] at hj
    have hkeep : ∀ j, listed.getD j false = true → (listed.setIfInBounds i true).getD j false = true := by
      intro j hj
      by_cases hji : i = j
      · subst hji; rw [h0'] at hj; cases hj
      · rw [getD_set_ne false hji]; exact hj
    have hNlt : ∀ c, NB l Ks (fun s => listed.getD s false) B c → w0.heap.size ≤ c ∧ c < w.heap.size := by
      rintro c ⟨j, h1, h2, h3, rfl⟩
      obtain ⟨-, h4, h5, -⟩ := hB j h1 h2 h3
      exact ⟨h4, h5⟩
    -- an operation that gives a value v, in a world in which old blocks stand
    have giv : ∀ (v : Value) (w' : World) (hdi : o.dst.isSome = true), Ext w w' → (phiN Φ i (NB l Ks (fun s => listed.getD s false) B) v w' ∧ ¬ isN (kdAt Ks i) ∨ ∀ N v w, phiN Φ i N v w) → (∀ s j, kdAt Ks i ≠ .s s j) →
        (isN (kdAt Ks i) → v = .pointer (some ⟨w.heap.size, 0, none⟩) ∧ w'.heap.size = w.heap.size + 1 ∧ w'.heap[w.heap.size]? = some (.cells (zAt Z i).1 (zAt Z i).2 (0, 0))) →
        JN n l Ks Φ Z f0 w0 (listed.setIfInBounds i true) (acts n (updO f o.dst v)) w' := by
      intro v w' hdi hxw hv hns hnew
      obtain ⟨di, hdi⟩ := Option.isSome_iff_exists.1 hdi
      have hDi := dstD_of hol hdi
      have hself : updO f o.dst v (dstD l i) = v := by rw [hDi, hdi]; exact upd_same f di v
      have hoth : ∀ j oj, l[j]? = some oj → oj.dst.isSome = true → j ≠ i → updO f o.dst v (dstD l j) = f (dstD l j) := by
        intro j oj hoj hdj hne
        obtain ⟨dj, hdj⟩ := Option.isSome_iff_exists.1 hdj
        rw [dstD_of hoj hdj, hdi]
        exact upd_ne f v (dst_ne hN hol hoj hdi hdj (fun e => hne e.symm))
      have hsrc : ∀ s a j, Ks[s]? = some (.s a j) → listed.getD s false = true → updO f o.dst v (dstD l j) = f (dstD l j) := by
        intro s a j hs hls
        have hsl := hlt s hls
        have hos : l[s]? = some l[s] := List.getElem?_eq_getElem hsl
        have hst := NSteps.at_ l 0 hS s l[s] hos
        simp only [Nat.zero_add] at hst
        have hk : kdAt Ks s = .s a j := by unfold kdAt; rw [List.getD_eq_getElem?_getD, hs]; rfl
        have hst := hst.2
        rw [hk] at hst
        obtain ⟨-, -, hoj, -, ⟨x, hxj, hxd⟩, -⟩ := hst
        have hlj := hC s l[s] hls hos j hoj
        refine hoth j x hxj hxd ?_
        rintro rfl
        rw [h0'] at hlj; cases hlj
      have hKN : KeepsN (NB l Ks (fun s => listed.getD s false) B) (NB l Ks (fun s => (listed.setIfInBounds i true).getD s false) (fun j => if j = i then w.heap.size else B j)) w w' := by
        refine ⟨hxw.size, fun c hc _ => hxw.block c hc, ?_⟩
        rintro c hc ⟨j, h1, h2, h3, h4⟩
        dsimp only at h4
        by_cases hji : j = i
        · rw [if_pos hji] at h4; omega
        · rw [if_neg hji] at h4
          exact ⟨j, h1, hset j h2 hji, h3, h4⟩
      refine ⟨updO f o.dst v, fun j => if j = i then w.heap.size else B j, rfl, fun t ht => ?_, hx.trans hxw, fun j hj hlj hdj => ?_, fun j hj hlj hkj => ?_, fun p q hp hq hpq hlp hlq hkp hkq => ?_, hClosed⟩
      · have hne : t ≠ di := by
          rintro rfl
          have := mem_dstsK (k := l.length) hol hil hdi
          rw [← List.contains_iff_mem, ht] at this
          cases this
        rw [hdi, show updO f (some di) v = upd f di v from rfl, upd_ne f v hne]
        exact hf t ht
      · by_cases hji : j = i
        · subst hji
          rw [hself]
          rcases hv with ⟨hv, hnn⟩ | hv
          · refine hmono j o hol _ _ _ _ _ ⟨Nat.le_refl _, fun _ _ _ => rfl, ?_⟩ hv
            rintro c hc ⟨q, h1, h2, h3, h4⟩
            dsimp only at h4
            by_cases hqj : q = j
            · subst hqj; exact absurd h3 hnn
            · rw [if_neg hqj] at h4
              exact ⟨q, h1, hset q h2 hqj, h3, h4⟩
          · exact hv _ _ _
        · obtain ⟨x, hxj, hxd⟩ := hdj
          rw [hoth j x hxj hxd hji]
          exact hmono j x hxj _ _ _ _ _ hKN (hφ j hj (hset j hlj hji) ⟨x, hxj, hxd⟩)
      · by_cases hji : j = i
        · subst hji
          obtain ⟨n1, n2, n4⟩ := hnew hkj
          rw [hself]
          dsimp only
          rw [if_pos rfl]
          refine ⟨n1, hx.size, by omega, _, n4, rfl, fun s q hs hls => ?_, fun _ => rfl⟩
          exfalso
          have hsi : s ≠ j := by
            rintro rfl
            have : kdAt Ks s = .s s q := by unfold kdAt; rw [List.getD_eq_getElem?_getD, hs]; rfl
            exact hns _ _ this
          have hls' := hset s hls hsi
          have hsl := hlt s hls'
          have hos : l[s]? = some l[s] := List.getElem?_eq_getElem hsl
          have hst := NSteps.at_ l 0 hS s l[s] hos
          simp only [Nat.zero_add] at hst
          have hk : kdAt Ks s = .s j q := by unfold kdAt; rw [List.getD_eq_getElem?_getD, hs]; rfl
          have hst := hst.2
          rw [hk] at hst
          have := hC s l[s] hls' hos j hst.2.1
          rw [h0'] at this; cases this
        · have hlj' := hset j hlj hji
          obtain ⟨b1, b2, b3, cur, b4, b5, b6, b7⟩ := hB j hj hlj' hkj
          have hoj : l[j]? = some l[j] := List.getElem?_eq_getElem hj
          have hst := NSteps.at_ l 0 hS j l[j] hoj
          simp only [Nat.zero_add] at hst
          have hdj : (l[j]).dst.isSome = true := by
            have hst := hst.2
            revert hkj hst
            cases kdAt Ks j <;> intro hkj hst
            · exact hkj.elim
            · exact hst.1
            · exact hkj.elim
          rw [hoth j l[j] hoj hdj hji]
          dsimp only
          rw [if_neg hji]
          refine ⟨b1, b2, Nat.lt_of_lt_of_le b3 hxw.size, cur, by rw [hxw.block _ b3]; exact b4, b5, fun s q hs hls => ?_, fun hno => b7 fun s q hs => ?_⟩
          · have hsi : s ≠ i := by
              rintro rfl
              have : kdAt Ks s = .s j q := by unfold kdAt; rw [List.getD_eq_getElem?_getD, hs]; rfl
              exact hns _ _ this
            have hls' := hset s hls hsi
            rw [hsrc s j q hs hls']
            exact b6 s q hs hls'
          · have this : (listed.setIfInBounds i true).getD s false = false := hno s q hs
            show listed.getD s false = false
            cases hc : listed.getD s false with
            | false => rfl
            | true => rw [hkeep s hc] at this; cases this
      · have hold : ∀ c, c < l.length → c ≠ i → (listed.setIfInBounds i true).getD c false = true → isN (kdAt Ks c) → B c < w.heap.size := by
          intro c hc hci hl hk
          exact (hB c hc (hset c hl hci) hk).2.2.1
        by_cases ea : p = i
        · have eb : q ≠ i := fun e => hpq (ea.trans e.symm)
          have q1 := hold q hq eb hlq hkq
          simp only [if_pos ea, if_neg eb]
          omega
        · have p1 := hold p hp ea hlp hkp
          by_cases eb : q = i
          · simp only [if_neg ea, if_pos eb]
            omega
          · simp only [if_neg ea, if_neg eb]
            exact hd2 p q hp hq hpq (hset p hlp ea) (hset q hlq eb) hkp hkq
    have hdeps : ∀ j, onB o j = true → (∃ x, l[j]? = some x ∧ x.dst.isSome = true) → phiN Φ j (NB l Ks (fun s => listed.getD s false) B) (f (dstD l j)) w := fun j hj hd => hφ j (hlt j (hdone j hj)) (hdone j hj) hd
    have hself : (listed.setIfInBounds i true).getD i false = true := by
      have hii : i < listed.size := by omega
      simp [Array.getD, hii]
    have hstep := hstep.2
    cases hk : kdAt Ks i with
    | v =>
      rw [hk] at hstep
      obtain ⟨hd1, hgo⟩ := hstep
      refine wpOp_of_SO ho (hgo f w _ hf hx hNlt hdeps) fun f' w' hK => ?_
      obtain ⟨v, rfl, hxw, hv⟩ := hK
      exact ih _ _ _ (by simp [hsz]) hcount (giv v _ hd1 hxw (.inl ⟨hv, fun hn => by rw [hk] at hn; exact hn⟩) (by intro s j e; rw [hk] at e; cases e) (fun hn => by rw [hk] at hn; exact hn.elim))
    | n =>
      rw [hk] at hstep
      obtain ⟨hd1, hphi, hgo⟩ := hstep
      refine wpOp_of_SO ho (hgo f w _ hf hx hNlt hdeps) fun f' w' hK => ?_
      obtain ⟨rfl, rfl⟩ := hK
      exact ih _ _ _ (by simp [hsz]) hcount (giv _ _ hd1 (Ext.alloc w _) (.inr hphi) (by intro s j e; rw [hk] at e; cases e) (fun _ => ⟨rfl, by simp, heap_alloc_new w _⟩))
    | s a j =>
      rw [hk] at hstep
      obtain ⟨hd0, hoa, hoj, ⟨xa, hxa, hxad⟩, ⟨xj, hxj, hxjd⟩, haj, hka, hsz2, hgo⟩ := hstep
      have hal := hlt a (hdone a hoa)
      obtain ⟨b1, b2, b3, cur, b4, b5, b6, b7⟩ := hB a hal (hdone a hoa) hka
      have kj3 := hφ j (hlt j (hdone j hoj)) (hdone j hoj) ⟨xj, hxj, hxjd⟩
      refine wpOp_of_SO ho (hgo f w _ (B a) cur hx b1 b4 b5 kj3) fun f' w' hK => ?_
      obtain ⟨rfl, rfl⟩ := hK
      have hki := kd_get hk
      have hKN : KeepsN (NB l Ks (fun s => listed.getD s false) B) (NB l Ks (fun s => (listed.setIfInBounds i true).getD s false) B) w (w.setRow (B a) (f' (dstD l j)).cells) := by
        refine ⟨by simp, fun c hc hnc => setRow_other w (B a) c _ fun e => hnc ⟨a, hal, hdone a hoa, hka, e⟩, ?_⟩
        rintro c hc ⟨q, h1, h2, h3, h4⟩
        have hqi : q ≠ i := by rintro rfl; rw [hk] at h3; exact h3
        exact ⟨q, h1, hset q h2 hqi, h3, h4⟩
      refine ih _ _ _ (by simp [hsz]) hcount ⟨f', B, rfl, hf, ⟨hx.os, hx.tape, hx.output, by simpa using hx.size, fun c hc => ?_⟩, fun q hq hlq hdq => ?_, fun q hq hlq hkq => ?_, fun p q hp hq hpq hlp hlq hkp hkq => ?_, hClosed⟩
      · rw [setRow_other w (B a) c _ (by omega)]; exact hx.block c hc
      · have hqi : q ≠ i := by
          rintro rfl
          obtain ⟨x, hx1, hx2⟩ := hdq
          rw [hol] at hx1
          cases hx1
          rw [hd0] at hx2; cases hx2
        obtain ⟨x, hx1, hx2⟩ := hdq
        exact hmono q x hx1 _ _ _ _ _ hKN (hφ q hq (hset q hlq hqi) ⟨x, hx1, hx2⟩)
      · have hqi : q ≠ i := by rintro rfl; rw [hk] at hkq; exact hkq
        have hlq' := hset q hlq hqi
        obtain ⟨c1, c2, c3, cur', c4, c5, c6, c7⟩ := hB q hq hlq' hkq
        by_cases hqa : q = a
        · subst hqa
          refine ⟨c1, c2, by simpa using c3, _, setRow_heap w (B q) cur _ _ _ b4, hsz2 _ _ _ kj3, fun s q' hs hls => ?_, fun hno => ?_⟩
          · have := once hO hs hki
            subst this
            rw [hki] at hs
            cases hs
            rfl
          · have this : (listed.setIfInBounds i true).getD i false = false := hno i j hki
            rw [hself] at this; cases this
        · have hbb : B q ≠ B a := hd2 q a hq hal hqa hlq' (hdone a hoa) hkq hka
          refine ⟨c1, c2, by simpa using c3, cur', by rw [setRow_other w (B a) (B q) _ hbb]; exact c4, c5, fun s q' hs hls => ?_, fun hno => c7 fun s q' hs => ?_⟩
          · have hsi : s ≠ i := by rintro rfl; rw [hki] at hs; cases hs; exact hqa rfl
            exact c6 s q' hs (hset s hls hsi)
          · have this : (listed.setIfInBounds i true).getD s false = false := hno s q' hs
            show listed.getD s false = false
            cases hc : listed.getD s false with
            | false => rfl
            | true => rw [hkeep s hc] at this; cases this
      · have hpi : p ≠ i := by rintro rfl; rw [hk] at hkp; exact hkp
        have hqi : q ≠ i := by rintro rfl; rw [hk] at hkq; exact hkq
        exact hd2 p q hp hq hpq (hset p hlp hpi) (hset q hlq hqi) hkp hkq

/-- **Such a region.** -/
theorem drn {id : Nat} {Q : Exit → Act → World → Prop} {f : Slots} {w : World} (Ks : List Kd) (Φ : List ((Nat → Prop) → Value → World → Prop)) (Z : List (Array Value × TypeId)) (hm : P.follows .mixedOrders = true) (hok : okS n l Ks = true)
    (hS : NSteps P n l Ks Φ Z f w 0 l)
    (hend : ∀ (f' : Slots) (w' : World) (B : Nat → Nat), (∀ t, (dstsK l.length l).contains t = false → f' t = f t) → Ext w w' → (∀ i x, l[i]? = some x → x.dst.isSome = true → phiN Φ i (NB l Ks (fun _ => true) B) (f' (dstD l i)) w') →
      (∀ i, i < l.length → isN (kdAt Ks i) → f' (dstD l i) = .pointer (some ⟨B i, 0, none⟩) ∧ w.heap.size ≤ B i ∧ B i < w'.heap.size ∧ ∃ cur, w'.heap[B i]? = some (.cells cur (zAt Z i).2 (0, 0)) ∧ Cont l Ks Z (fun _ => true) f' i cur) →
      (∀ i j, i < l.length → j < l.length → i ≠ j → isN (kdAt Ks i) → isN (kdAt Ks j) → B i ≠ B j) → Q .normal (acts n f') w') :
    WC P n (.region id l.toArray true) Q f w := by
  refine wp_region_any hm ?_
  have h3 : ∀ i, (Array.replicate l.length false).getD i false = false := by
    intro i
    simp only [Array.getD]; split <;> simp
  have h := wpAny_N (P := P) (w0 := w) (f0 := f) (Q := Q) hok hS hend l.length (Array.replicate l.length false) (acts n f) w.drew (by simp) (by simp) ⟨f, fun _ => 0, rfl, fun _ _ => rfl, Ext.drew w, fun i hi h => (by
    rw [h3] at h; cases h), fun i hi h => (by rw [h3] at h; cases h), fun i j _ _ _ h => (by rw [h3] at h; cases h), fun i o h _ _ _ => (by
    rw [h3] at h; cases h)⟩
  simpa using h
end

/-! Data of such a region. -/
/-- Blocks that are not to be relied on: those that may be written, and the region's own. -/
def MN (M N : Nat → Prop) (c : Nat) : Prop := M c ∨ N c
section
variable {α : Type} [GT α] {M N N' : Nat → Prop} {w0 w w' : World} {v : Value} {x : α}
theorem rvn_keep (h : RV (MN M N) w v x) (k : KeepsN N N' w w') : RV (MN M N') w' v x :=
  h.lift ⟨k.1, fun c hc hn => ⟨k.2.1 c hc fun h1 => hn (.inr h1), by
    rintro (h1 | h1)
    · exact hn (.inl h1)
    · exact hn (.inr (k.2.2 c hc h1))⟩⟩
theorem rvn_old (h : RV M w0 v x) (e : Ext w0 w) (hN : ∀ c, N c → w0.heap.size ≤ c ∧ c < w.heap.size) : RV (MN M N) w v x :=
  h.lift ⟨e.size, fun c hc hn => ⟨e.block c hc, by
    rintro (h1 | h1)
    · exact hn h1
    · have := (hN c h1).1; omega⟩⟩
theorem mn_below (hM : ∀ b, M b → b < w0.heap.size) (e : Ext w0 w) (hN : ∀ c, N c → w0.heap.size ≤ c ∧ c < w.heap.size) : ∀ b, MN M N b → b < w.heap.size := by
  rintro b (h | h)
  · exact Nat.lt_of_lt_of_le (hM b h) e.size
  · exact (hN b h).2
end
/-- Behind the region. -/
theorem rvn_out {α : Type} [GT α] {M0 N : Nat → Prop} {l : List Item} {w : World} {v : Value} {x : α} (bs : List (Nat × Array Value × TypeId)) (h : RV (MN (MS M0 l) N) w v x) (hb : ∀ q ∈ bs, N q.1) : RV (MS M0 (bs.map (fun q => box q.1 q.2.1 q.2.2) ++ l)) w v x :=
  h.lift (Up.less fun c hc hn => by
    rcases hn with h1 | ⟨it, hit, hib⟩
    · exact .inl (.inl h1)
    · rcases List.mem_append.1 hit with h2 | h2
      · obtain ⟨q, hq, rfl⟩ := List.mem_map.1 h2
        cases hib
        exact .inr (hb q hq)
      · exact .inl (.inr ⟨it, h2, hib⟩))
end Go.Ew
