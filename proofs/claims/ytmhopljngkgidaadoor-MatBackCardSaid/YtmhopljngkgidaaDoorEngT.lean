/- Engine, part T: regions that draw their order, whose operations read what was there, lay new blocks, and write each of these once at the most. -/
import Derived.Test.YtmhopljngkgidaaDoorEngS
namespace Go.Ew
open Go.RowKit
set_option linter.unusedVariables false
set_option linter.unusedSimpArgs false

/-- What an operation of such a region does: it gives a value; it lays a block; it writes the value of operation j into the block of operation a. -/
inductive Kd where
  | v
  | n
  | s (a j : Nat)

def isSt : Kd → Option Nat
  | .s a _ => some a
  | _ => none
def kdAt (Ks : List Kd) (i : Nat) : Kd := Ks.getD i .v
def phiV (Φ : List (Value → Prop)) (i : Nat) : Value → Prop := Φ.getD i (fun _ => True)
def zAt (Z : List (Array Value × TypeId)) (i : Nat) : Array Value × TypeId := Z.getD i (#[], 0)
/-- Edges go back; places differ; each block is written once at the most. -/
def okS (n : Nat) (l : List Oper) (Ks : List Kd) : Bool :=
  okEdges 0 l && nodupB (dstsK l.length l) && (dstsK l.length l).all (fun d => Nat.blt d n) && nodupB (Ks.filterMap isSt) && Nat.beq Ks.length l.length

def SStep (P : Program) (n : Nat) (l : List Oper) (Ks : List Kd) (Φ : List (Value → Prop)) (Z : List (Array Value × TypeId)) (f0 : Slots) (w0 : World) (i : Nat) (o : Oper) : Prop :=
  match kdAt Ks i with
  | .v => o.dst.isSome = true ∧ ∀ f w, (∀ t, (dstsK l.length l).contains t = false → f t = f0 t) → Ext w0 w → (∀ j, onB o j = true → (∃ x, l[j]? = some x ∧ x.dst.isSome = true) → phiV Φ j (f (dstD l j))) →
      SO P n l.toArray o f w (fun f' w' => ∃ v, f' = updO f o.dst v ∧ w' = w ∧ phiV Φ i v)
  | .n => o.dst.isSome = true ∧ ∀ f w, (∀ t, (dstsK l.length l).contains t = false → f t = f0 t) → Ext w0 w → (∀ j, onB o j = true → (∃ x, l[j]? = some x ∧ x.dst.isSome = true) → phiV Φ j (f (dstD l j))) →
      SO P n l.toArray o f w (fun f' w' => f' = updO f o.dst (.pointer (some ⟨w.heap.size, 0, none⟩)) ∧ w' = w.alloc (.cells (zAt Z i).1 (zAt Z i).2) ∧ phiV Φ i (.pointer (some ⟨w.heap.size, 0, none⟩)))
  | .s a j => o.dst = none ∧ onB o a = true ∧ onB o j = true ∧ (∃ x, l[a]? = some x ∧ x.dst.isSome = true) ∧ (∃ x, l[j]? = some x ∧ x.dst.isSome = true) ∧ (match kdAt Ks a with | .n => True | _ => False) ∧ (∀ v, phiV Φ j v → v.cells.size = (zAt Z a).1.size) ∧
      ∀ f w b cur, Ext w0 w → f (dstD l a) = .pointer (some ⟨b, 0, none⟩) → w.heap[b]? = some (.cells cur (zAt Z a).2 (0, 0)) → cur.size = (zAt Z a).1.size → phiV Φ j (f (dstD l j)) →
      SO P n l.toArray o f w (fun f' w' => f' = f ∧ w' = w.setRow b (f (dstD l j)).cells)
def SSteps (P : Program) (n : Nat) (l : List Oper) (Ks : List Kd) (Φ : List (Value → Prop)) (Z : List (Array Value × TypeId)) (f0 : Slots) (w0 : World) : Nat → List Oper → Prop
  | _, [] => True
  | i, o :: r => SStep P n l Ks Φ Z f0 w0 i o ∧ SSteps P n l Ks Φ Z f0 w0 (i + 1) r

section
variable {P : Program} {n : Nat} {l : List Oper} {Ks : List Kd} {Φ : List (Value → Prop)} {Z : List (Array Value × TypeId)} {f0 : Slots} {w0 : World}

theorem SSteps.at_ : ∀ (r : List Oper) (i : Nat), SSteps P n l Ks Φ Z f0 w0 i r → ∀ j o, r[j]? = some o → SStep P n l Ks Φ Z f0 w0 (i + j) o
  | [], _, _, j, o, h => by simp at h
  | x :: r, i, h, 0, o, hj => by
    simp only [List.getElem?_cons_zero, Option.some.injEq] at hj
    subst hj
    exact h.1
  | x :: r, i, h, j + 1, o, hj => by
    simp only [List.getElem?_cons_succ] at hj
    have := SSteps.at_ r (i + 1) h.2 j o hj
    rwa [show i + 1 + j = i + (j + 1) from by omega] at this

/-- The content of a block. -/
def Cont (l : List Oper) (Ks : List Kd) (Z : List (Array Value × TypeId)) (L : Nat → Bool) (f : Slots) (i : Nat) (cur : Array Value) : Prop :=
  cur.size = (zAt Z i).1.size ∧ (∀ s j, Ks[s]? = some (.s i j) → L s = true → cur = (f (dstD l j)).cells) ∧ ((∀ s j, Ks[s]? = some (.s i j) → L s = false) → cur = (zAt Z i).1)

def JS (n : Nat) (l : List Oper) (Ks : List Kd) (Φ : List (Value → Prop)) (Z : List (Array Value × TypeId)) (f0 : Slots) (w0 : World) (listed : Array Bool) (a : Act) (w : World) : Prop :=
  ∃ (f : Slots) (B : Nat → Nat), a = acts n f ∧ (∀ t, (dstsK l.length l).contains t = false → f t = f0 t) ∧ Ext w0 w ∧ (∀ i, i < l.length → listed.getD i false = true → (∃ x, l[i]? = some x ∧ x.dst.isSome = true) → phiV Φ i (f (dstD l i))) ∧
    (∀ i, i < l.length → listed.getD i false = true → (match kdAt Ks i with | .n => True | _ => False) → f (dstD l i) = .pointer (some ⟨B i, 0, none⟩) ∧ w0.heap.size ≤ B i ∧ B i < w.heap.size ∧ ∃ cur, w.heap[B i]? = some (.cells cur (zAt Z i).2 (0, 0)) ∧ Cont l Ks Z (fun s => listed.getD s false) f i cur) ∧
    (∀ i j, i < l.length → j < l.length → i ≠ j → listed.getD i false = true → listed.getD j false = true → (match kdAt Ks i with | .n => True | _ => False) → (match kdAt Ks j with | .n => True | _ => False) → B i ≠ B j) ∧
    ∀ i o, listed.getD i false = true → l[i]? = some o → ∀ j, onB o j = true → listed.getD j false = true

theorem dst_ne (hN : nodupB (dstsK l.length l) = true) {i j : Nat} {oi oj : Oper} (hi : l[i]? = some oi) (hj : l[j]? = some oj) {di dj : Nat} (hdi : oi.dst = some di) (hdj : oj.dst = some dj) (hne : i ≠ j) : dj ≠ di := by
  rintro rfl
  have hnd := nodupB_nodup _ hN
  unfold dstsK at hnd
  rw [List.take_length] at hnd
  exact hne (filterMap_inj (·.dst) l hnd i j oi oj hi hj (by simp [hdi]) (by simp [hdi, hdj]))
theorem dstD_of {i : Nat} {o : Oper} (hi : l[i]? = some o) {d : Nat} (hd : o.dst = some d) : dstD l i = d := by unfold dstD; rw [hi]; simp [hd]
theorem once {s s' a j j' : Nat} (h : nodupB (Ks.filterMap isSt) = true) (h1 : Ks[s]? = some (.s a j)) (h2 : Ks[s']? = some (.s a j')) : s = s' :=
  filterMap_inj isSt Ks (nodupB_nodup _ h) s s' _ _ h1 h2 rfl rfl
theorem kd_get {s a j : Nat} (h : kdAt Ks s = .s a j) : Ks[s]? = some (.s a j) := by
  unfold kdAt at h
  rw [List.getD_eq_getElem?_getD] at h
  cases hk : Ks[s]? with
  | none => rw [hk] at h; cases h
  | some x => rw [hk] at h; simp at h; rw [h]

theorem wpAny_S {Q : Exit → Act → World → Prop} (hok : okS n l Ks = true) (hS : SSteps P n l Ks Φ Z f0 w0 0 l)
    (hend : ∀ (f : Slots) (w : World) (B : Nat → Nat), (∀ t, (dstsK l.length l).contains t = false → f t = f0 t) → Ext w0 w → (∀ i x, l[i]? = some x → x.dst.isSome = true → phiV Φ i (f (dstD l i))) →
      (∀ i, i < l.length → (match kdAt Ks i with | .n => True | _ => False) → f (dstD l i) = .pointer (some ⟨B i, 0, none⟩) ∧ w0.heap.size ≤ B i ∧ ∃ cur, w.heap[B i]? = some (.cells cur (zAt Z i).2 (0, 0)) ∧ Cont l Ks Z (fun _ => true) f i cur) →
      (∀ i j, i < l.length → j < l.length → i ≠ j → (match kdAt Ks i with | .n => True | _ => False) → (match kdAt Ks j with | .n => True | _ => False) → B i ≠ B j) → Q .normal (acts n f) w) :
    ∀ (d : Nat) (listed : Array Bool) (a : Act) (w : World), listed.size = l.length → (listed.toList.filter (fun b => !b)).length = d →
      JS n l Ks Φ Z f0 w0 listed a w → wpAny P .any l.toArray Q d listed a w := by
  simp only [okS, Bool.and_eq_true, Nat.beq_eq_true_eq] at hok
  obtain ⟨⟨⟨⟨hE, hN⟩, hn⟩, hO⟩, hKl⟩ := hok
  intro d
  induction d with
  | zero =>
    intro listed a w hsz hd hJ
    have hall : ∀ i, i < l.length → listed.getD i false = true := by
      intro i hi
      have h0 := List.eq_nil_of_length_eq_zero hd
      rw [List.filter_eq_nil_iff] at h0
      have hi' : i < listed.size := by omega
      have := h0 listed[i] (by simp)
      simp at this
      simp [Array.getD, hi', this]
    refine ⟨?_, ?_⟩
    · apply List.eq_nil_iff_forall_not_mem.2
      intro i hi
      obtain ⟨h0, o, ho, -⟩ := mem_ready.1 hi
      have hol : l[i]? = some o := by simpa using ho
      have hil : i < l.length := (List.getElem?_eq_some_iff.1 hol).1
      rw [show listed.getD i true = listed.getD i false from getD_any (by omega) _ _, hall i hil] at h0
      cases h0
    · obtain ⟨f, B, rfl, hf, hx, hφ, hB, hd2, hC⟩ := hJ
      refine hend f w B hf hx (fun i x hi hdx => ?_) (fun i hi hk => ?_) (fun i j hi hj hne hki hkj => hd2 i j hi hj hne (hall i hi) (hall j hj) hki hkj)
      · have hil := (List.getElem?_eq_some_iff.1 hi).1
        exact hφ i hil (hall i hil) ⟨x, hi, hdx⟩
      · obtain ⟨h1, h2, h3, cur, h4, h5, h6, h7⟩ := hB i hi (hall i hi) hk
        refine ⟨h1, h2, cur, h4, h5, fun s j hs _ => h6 s j hs (hall s ?_), fun hno => h7 fun s j hs => ?_⟩
        · have h9 := (List.getElem?_eq_some_iff.1 hs).1
          have h8 := Nat.eq_of_beq_eq_true hKl
          omega
        · have := hno s j hs; cases this
  | succ d ih =>
    intro listed a w hsz hd hJ
    obtain ⟨i0, hi0⟩ : ∃ i, i < l.length ∧ listed.getD i false = false := by
      apply Classical.byContradiction
      intro hno
      have : listed.toList.filter (fun b => !b) = [] := by
        rw [List.filter_eq_nil_iff]
        intro b hb
        obtain ⟨i, hi, rfl⟩ := List.mem_iff_getElem.1 hb
        simp only [Array.length_toList] at hi
        cases hb2 : listed.toList[i] with
        | true => simp
        | false =>
          exfalso
          refine hno ⟨i, by omega, ?_⟩
          simp only [Array.getElem_toList] at hb2
          simp [Array.getD, hi, hb2]
      rw [this] at hd; cases hd
    obtain ⟨m, hm1, hm2⟩ := exists_least (p := fun i => i < l.length ∧ listed.getD i false = false) ⟨i0, hi0⟩
    have hml : m < l.length := by omega
    have hom : l[m]? = some l[m] := List.getElem?_eq_getElem hml
    have hmr : m ∈ Region.ready .any l.toArray listed := by
      rw [mem_ready]
      refine ⟨?_, l[m], by simp, fun e he hb => ?_⟩
      · rw [show listed.getD m true = listed.getD m false from getD_any (by omega) _ _]; exact hm1.2
      · have hlt := okEdges_at l 0 hE m l[m] hom e he hb
        cases hb2 : listed.getD e.on false with
        | true => rfl
        | false =>
          have := hm2 e.on ⟨by omega, hb2⟩
          omega
    refine ⟨fun h0 => (by rw [h0] at hmr; cases hmr), fun i hi => ?_⟩
    obtain ⟨h0, o, ho, hedges⟩ := mem_ready.1 hi
    have hol : l[i]? = some o := by simpa using ho
    have hil : i < l.length := (List.getElem?_eq_some_iff.1 hol).1
    have h0' : listed.getD i false = false := by
      rw [show listed.getD i false = listed.getD i true from getD_any (by omega) _ _]; exact h0
    obtain ⟨f, B, rfl, hf, hx, hφ, hB, hd2, hC⟩ := hJ
    have hstep := SSteps.at_ l 0 hS i o hol
    simp only [Nat.zero_add] at hstep
    have hdone : ∀ j, onB o j = true → listed.getD j false = true := by
      intro j hj
      obtain ⟨e, he, hb, hon⟩ := onB_iff.1 hj
      subst hon
      exact hedges e he hb
    have hlt : ∀ j, listed.getD j false = true → j < l.length := by
      intro j hj
      refine Classical.byContradiction fun hn => ?_
      rw [show listed.getD j false = false from by simp [Array.getD]; omega] at hj
      cases hj
    have hcount : ((listed.setIfInBounds i true).toList.filter (fun b => !b)).length = d := by
      have hii : i < listed.size := by omega
      have hget : listed.toList[i]? = some false := by
        rw [List.getElem?_eq_getElem (by simpa using hii)]
        simp only [Array.getD, hii, dif_pos] at h0'
        simpa [Array.getInternal_eq_getElem] using h0'
      have key : ∀ (L : List Bool) (i : Nat), L[i]? = some false → ((L.set i true).filter (fun b => !b)).length + 1 = (L.filter (fun b => !b)).length := by
        intro L
        induction L with
        | nil => intro i h; simp at h
        | cons b L ihL =>
          intro i h
          cases i with
          | zero => simp at h; subst h; simp
          | succ i =>
            simp at h
            have := ihL i h
            cases b <;> simp at this ⊢ <;> omega
      have := key listed.toList i hget
      rw [Array.toList_setIfInBounds]
      omega
    have hClosed : ∀ j oj, (listed.setIfInBounds i true).getD j false = true → l[j]? = some oj → ∀ q, onB oj q = true → (listed.setIfInBounds i true).getD q false = true := by
      intro j oj hj hoj q hq
      have hq2 : listed.getD q false = true := by
        by_cases hji : i = j
        · subst hji
          rw [hol] at hoj
          cases hoj
          exact hdone q hq
        · rw [getD_set_ne false hji] at hj
          exact hC j oj hj hoj q hq
      by_cases hqi : i = q
      · subst hqi; rw [h0'] at hq2; cases hq2
      · rw [getD_set_ne false hqi]; exact hq2
    have hset : ∀ j, (listed.setIfInBounds i true).getD j false = true → j ≠ i → listed.getD j false = true := by
      intro j hj hne
      rwa [getD_set_ne false (fun e => hne e.symm)] at hj
    have hkeep : ∀ j, listed.getD j false = true → (listed.setIfInBounds i true).getD j false = true := by
      intro j hj
      by_cases hji : i = j
      · subst hji; rw [h0'] at hj; cases hj
      · rw [getD_set_ne false hji]; exact hj
    -- an operation that gives a value v, in a world in which old blocks stand
    have giv : ∀ (v : Value) (w' : World) (hdi : o.dst.isSome = true) (B' : Nat → Nat), Ext w w' → phiV Φ i v → (∀ s j, kdAt Ks i ≠ .s s j) → (∀ j, listed.getD j false = true → B' j = B j) →
        ((match kdAt Ks i with | .n => True | _ => False) → v = .pointer (some ⟨B' i, 0, none⟩) ∧ w.heap.size ≤ B' i ∧ B' i < w'.heap.size ∧ w'.heap[B' i]? = some (.cells (zAt Z i).1 (zAt Z i).2 (0, 0))) →
        JS n l Ks Φ Z f0 w0 (listed.setIfInBounds i true) (acts n (updO f o.dst v)) w' := by
      intro v w' hdi B' hxw hv hns hBB hnew
      obtain ⟨di, hdi⟩ := Option.isSome_iff_exists.1 hdi
      have hDi := dstD_of hol hdi
      have hself : updO f o.dst v (dstD l i) = v := by rw [hDi, hdi]; exact upd_same f di v
      have hoth : ∀ j oj, l[j]? = some oj → oj.dst.isSome = true → j ≠ i → updO f o.dst v (dstD l j) = f (dstD l j) := by
        intro j oj hoj hdj hne
        obtain ⟨dj, hdj⟩ := Option.isSome_iff_exists.1 hdj
        rw [dstD_of hoj hdj, hdi]
        exact upd_ne f v (dst_ne hN hol hoj hdi hdj (fun e => hne e.symm))
      have hsrc : ∀ s a j, Ks[s]? = some (.s a j) → listed.getD s false = true → updO f o.dst v (dstD l j) = f (dstD l j) := by
        intro s a j hs hls
        have hsl := hlt s hls
        have hos : l[s]? = some l[s] := List.getElem?_eq_getElem hsl
        have hst := SSteps.at_ l 0 hS s l[s] hos
        simp only [Nat.zero_add] at hst
        have hk : kdAt Ks s = .s a j := by unfold kdAt; rw [List.getD_eq_getElem?_getD, hs]; rfl
        unfold SStep at hst
        rw [hk] at hst
        obtain ⟨-, -, hoj, -, ⟨x, hxj, hxd⟩, -⟩ := hst
        have hlj := hC s l[s] hls hos j hoj
        refine hoth j x hxj hxd ?_
        rintro rfl
        rw [h0'] at hlj; cases hlj
      refine ⟨updO f o.dst v, B', rfl, fun t ht => ?_, hx.trans hxw, fun j hj hlj hdj => ?_, fun j hj hlj hkj => ?_, fun p q hp hq hpq hlp hlq hkp hkq => ?_, hClosed⟩
      · have hne : t ≠ di := by
          rintro rfl
          have := mem_dstsK (k := l.length) hol hil hdi
          rw [← List.contains_iff_mem, ht] at this
          cases this
        rw [hdi, show updO f (some di) v = upd f di v from rfl, upd_ne f v hne]
        exact hf t ht
      · by_cases hji : j = i
        · subst hji; rw [hself]; exact hv
        · obtain ⟨x, hxj, hxd⟩ := hdj
          rw [hoth j x hxj hxd hji]
          exact hφ j hj (hset j hlj hji) ⟨x, hxj, hxd⟩
      · by_cases hji : j = i
        · subst hji
          obtain ⟨n1, n2, n3, n4⟩ := hnew hkj
          rw [hself]
          refine ⟨n1, Nat.le_trans hx.size n2, n3, _, n4, rfl, fun s q hs hls => ?_, fun _ => rfl⟩
          exfalso
          have hsi : s ≠ j := by
            rintro rfl
            have : kdAt Ks s = .s s q := by unfold kdAt; rw [List.getD_eq_getElem?_getD, hs]; rfl
            exact hns _ _ this
          have hls' := hset s hls hsi
          have hsl := hlt s hls'
          have hos : l[s]? = some l[s] := List.getElem?_eq_getElem hsl
          have hst := SSteps.at_ l 0 hS s l[s] hos
          simp only [Nat.zero_add] at hst
          have hk : kdAt Ks s = .s j q := by unfold kdAt; rw [List.getD_eq_getElem?_getD, hs]; rfl
          unfold SStep at hst
          rw [hk] at hst
          have := hC s l[s] hls' hos j hst.2.1
          rw [h0'] at this; cases this
        · have hlj' := hset j hlj hji
          obtain ⟨b1, b2, b3, cur, b4, b5, b6, b7⟩ := hB j hj hlj' hkj
          have hoj : l[j]? = some l[j] := List.getElem?_eq_getElem hj
          have hst := SSteps.at_ l 0 hS j l[j] hoj
          simp only [Nat.zero_add] at hst
          have hdj : (l[j]).dst.isSome = true := by
            unfold SStep at hst
            revert hkj hst
            cases kdAt Ks j <;> intro hkj hst
            · exact hkj.elim
            · exact hst.1
            · exact hkj.elim
          rw [hBB j hlj', hoth j l[j] hoj hdj hji]
          refine ⟨b1, b2, Nat.lt_of_lt_of_le b3 hxw.size, cur, by rw [hxw.block _ b3]; exact b4, b5, fun s q hs hls => ?_, fun hno => b7 fun s q hs => ?_⟩
          · have hsi : s ≠ i := by
              rintro rfl
              have : kdAt Ks s = .s j q := by unfold kdAt; rw [List.getD_eq_getElem?_getD, hs]; rfl
              exact hns _ _ this
            have hls' := hset s hls hsi
            rw [hsrc s j q hs hls']
            exact b6 s q hs hls'
          · have this : (listed.setIfInBounds i true).getD s false = false := hno s q hs
            show listed.getD s false = false
            cases hc : listed.getD s false with
            | false => rfl
            | true => rw [hkeep s hc] at this; cases this
      · by_cases hpi : p = i
        · subst hpi
          have hqi : q ≠ p := fun e => hpq e.symm
          have hlq' := hset q hlq hqi
          obtain ⟨n1, n2, n3, n4⟩ := hnew hkp
          have := (hB q hq hlq' hkq).2.2.1
          rw [hBB q hlq']
          omega
        · have hlp' := hset p hlp hpi
          by_cases hqi : q = i
          · subst hqi
            obtain ⟨n1, n2, n3, n4⟩ := hnew hkq
            have := (hB p hp hlp' hkp).2.2.1
            rw [hBB p hlp']
            omega
          · have hlq' := hset q hlq hqi
            rw [hBB p hlp', hBB q hlq']
            exact hd2 p q hp hq hpq hlp' hlq' hkp hkq
    have hdeps : ∀ j, onB o j = true → (∃ x, l[j]? = some x ∧ x.dst.isSome = true) → phiV Φ j (f (dstD l j)) := fun j hj hd => hφ j (hlt j (hdone j hj)) (hdone j hj) hd
    have hself : (listed.setIfInBounds i true).getD i false = true := by
      have hii : i < listed.size := by omega
      simp [Array.getD, hii]
    unfold SStep at hstep
    cases hk : kdAt Ks i with
    | v =>
      rw [hk] at hstep
      obtain ⟨hd1, hgo⟩ := hstep
      refine wpOp_of_SO ho (hgo f w hf hx hdeps) fun f' w' hK => ?_
      obtain ⟨v, rfl, rfl, hv⟩ := hK
      exact ih _ _ _ (by simp [hsz]) hcount (giv v _ hd1 B (Ext.refl _) hv (by intro s j e; rw [hk] at e; cases e) (fun _ _ => rfl) (fun hn => by rw [hk] at hn; exact hn.elim))
    | n =>
      rw [hk] at hstep
      obtain ⟨hd1, hgo⟩ := hstep
      refine wpOp_of_SO ho (hgo f w hf hx hdeps) fun f' w' hK => ?_
      obtain ⟨rfl, rfl, hv⟩ := hK
      refine ih _ _ _ (by simp [hsz]) hcount (giv _ _ hd1 (fun j => if j = i then w.heap.size else B j) (Ext.alloc w _) hv (by intro s j e; rw [hk] at e; cases e) (fun j hj => ?_) (fun _ => ?_))
      · have : j ≠ i := by rintro rfl; rw [h0'] at hj; cases hj
        simp only [if_neg this]
      · rw [if_pos rfl]
        exact ⟨rfl, Nat.le_refl _, by simp, heap_alloc_new w _⟩
    | s a j =>
      rw [hk] at hstep
      obtain ⟨hd0, hoa, hoj, ⟨xa, hxa, hxad⟩, ⟨xj, hxj, hxjd⟩, hka, hsz2, hgo⟩ := hstep
      have hal := hlt a (hdone a hoa)
      obtain ⟨b1, b2, b3, cur, b4, b5, b6, b7⟩ := hB a hal (hdone a hoa) hka
      have hpj := hdeps j hoj ⟨xj, hxj, hxjd⟩
      refine wpOp_of_SO ho (hgo f w (B a) cur hx b1 b4 b5 hpj) fun f' w' hK => ?_
      obtain ⟨rfl, rfl⟩ := hK
      have hki := kd_get hk
      refine ih _ _ _ (by simp [hsz]) hcount ⟨f', B, rfl, hf, ⟨hx.os, hx.tape, hx.output, by simpa using hx.size, fun c hc => ?_⟩, fun q hq hlq hdq => ?_, fun q hq hlq hkq => ?_, fun p q hp hq hpq hlp hlq hkp hkq => ?_, hClosed⟩
      · rw [setRow_other w (B a) c _ (by omega)]; exact hx.block c hc
      · have hqi : q ≠ i := by
          rintro rfl
          obtain ⟨x, hx1, hx2⟩ := hdq
          rw [hol] at hx1
          cases hx1
          rw [hd0] at hx2; cases hx2
        exact hφ q hq (hset q hlq hqi) hdq
      · have hqi : q ≠ i := by rintro rfl; rw [hk] at hkq; exact hkq
        have hlq' := hset q hlq hqi
        obtain ⟨c1, c2, c3, cur', c4, c5, c6, c7⟩ := hB q hq hlq' hkq
        by_cases hqa : q = a
        · subst hqa
          refine ⟨c1, c2, by simpa using c3, _, setRow_heap w (B q) cur _ _ _ b4, hsz2 _ hpj, fun s q' hs hls => ?_, fun hno => ?_⟩
          · have := once hO hs hki
            subst this
            rw [hki] at hs
            cases hs
            rfl
          · have this : (listed.setIfInBounds i true).getD i false = false := hno i j hki
            rw [hself] at this; cases this
        · have hbb : B q ≠ B a := hd2 q a hq hal hqa hlq' (hdone a hoa) hkq hka
          refine ⟨c1, c2, by simpa using c3, cur', by rw [setRow_other w (B a) (B q) _ hbb]; exact c4, c5, fun s q' hs hls => ?_, fun hno => c7 fun s q' hs => ?_⟩
          · have hsi : s ≠ i := by rintro rfl; rw [hki] at hs; cases hs; exact hqa rfl
            exact c6 s q' hs (hset s hls hsi)
          · have this : (listed.setIfInBounds i true).getD s false = false := hno s q' hs
            show listed.getD s false = false
            cases hc : listed.getD s false with
            | false => rfl
            | true => rw [hkeep s hc] at this; cases this
      · have hpi : p ≠ i := by rintro rfl; rw [hk] at hkp; exact hkp
        have hqi : q ≠ i := by rintro rfl; rw [hk] at hkq; exact hkq
        exact hd2 p q hp hq hpq (hset p hlp hpi) (hset q hlq hqi) hkp hkq

/-- **Such a region.** -/
theorem drs {id : Nat} {Q : Exit → Act → World → Prop} {f : Slots} {w : World} (Ks : List Kd) (Φ : List (Value → Prop)) (Z : List (Array Value × TypeId)) (hm : P.follows .mixedOrders = true) (hok : okS n l Ks = true)
    (hS : SSteps P n l Ks Φ Z f w 0 l)
    (hend : ∀ (f' : Slots) (w' : World) (B : Nat → Nat), (∀ t, (dstsK l.length l).contains t = false → f' t = f t) → Ext w w' → (∀ i x, l[i]? = some x → x.dst.isSome = true → phiV Φ i (f' (dstD l i))) →
      (∀ i, i < l.length → (match kdAt Ks i with | .n => True | _ => False) → f' (dstD l i) = .pointer (some ⟨B i, 0, none⟩) ∧ w.heap.size ≤ B i ∧ ∃ cur, w'.heap[B i]? = some (.cells cur (zAt Z i).2 (0, 0)) ∧ Cont l Ks Z (fun _ => true) f' i cur) →
      (∀ i j, i < l.length → j < l.length → i ≠ j → (match kdAt Ks i with | .n => True | _ => False) → (match kdAt Ks j with | .n => True | _ => False) → B i ≠ B j) → Q .normal (acts n f') w') :
    WC P n (.region id l.toArray true) Q f w := by
  refine wp_region_any hm ?_
  have h3 : ∀ i, (Array.replicate l.length false).getD i false = false := by
    intro i
    simp only [Array.getD]; split <;> simp
  have h := wpAny_S (P := P) (w0 := w) (f0 := f) (Q := Q) hok hS hend l.length (Array.replicate l.length false) (acts n f) w.drew (by simp) (by simp) ⟨f, fun _ => 0, rfl, fun _ _ => rfl, Ext.drew w, fun i hi h => (by
    rw [h3] at h; cases h), fun i hi h => (by rw [h3] at h; cases h), fun i j _ _ _ h => (by rw [h3] at h; cases h), fun i o h _ _ _ => (by
    rw [h3] at h; cases h)⟩
  simpa using h
/-- The store of a value into such a block. -/
theorem stS {ops : Array Oper} {f : Slots} {w : World} {x y : Operand} {ty T : TypeId} {ps : String} {af : Array Edge} {bytes size : Nat} {agg : Bool} {z v : Value} {b : Nat} {cur : Array Value} {tt : TypeId}
    (F : TyF P T size agg bytes z) (ox : okT n x = true) (oy : okT n y = true) (hx : ev f x = .pointer (some ⟨b, 0, none⟩)) (hy : ev f y = v) (hb : w.heap[b]? = some (.cells cur tt (0, 0))) (hs : v.cells.size = size) (hc : cur.size = size) (h1 : v.cells.toList.all Value.oneCell' = true) :
    SO P n ops ⟨none, .store T x y, ty, ps, af, none⟩ f w (fun f' w' => f' = f ∧ w' = w.setRow b v.cells) := by
  refine SO.skip (w' := w.setRow b v.cells) ?_ ⟨rfl, rfl⟩
  have e : wr cur 0 v.cells.toList = v.cells := by
    unfold wr
    have : cur.toList.drop (0 + v.cells.toList.length) = [] := by
      rw [List.drop_eq_nil_iff]; simp; omega
    rw [this]; simp
  have := run_storeVar F (v := v) (o := 0) hb hs (by simp; omega) (fun u hu => List.all_eq_true.1 h1 u hu)
  rw [e] at this
  simp [execOp, eval_acts ox, eval_acts oy, hx, hy, Instr.storeAt, Instr.sureAddr, this]
end
theorem alS {P : Program} {n : Nat} {ops : Array Oper} {f : Slots} {w : World} {d : Nat} {ty T : TypeId} {ps : String} {af : Array Edge} {bytes size : Nat} {agg : Bool} {z : Value} {K : Slots → World → Prop}
    (F : TyF P T size agg bytes z) (h : K (upd f d (.pointer (some ⟨w.heap.size, 0, none⟩))) (w.alloc (.cells z.cells T))) : SO P n ops ⟨some d, .alloc T, ty, ps, af, none⟩ f w K :=
  SO.value (v := .pointer (some ⟨w.heap.size, 0, none⟩)) (w' := w.alloc (.cells z.cells T)) (by simp [execOp, Instr.alloc, F.run_zero, newVar_run]) h
theorem bxS {P : Program} {n : Nat} {ops : Array Oper} {f : Slots} {w : World} {d : Nat} {x : Operand} {v : Value} {ty T : TypeId} {ps : String} {af : Array Edge} {K : Slots → World → Prop}
    (ox : okT n x = true) (hx : ev f x = v) (h : K (upd f d (.pointer (some ⟨w.heap.size, 0, none⟩))) (w.alloc (.cells v.cells T))) : SO P n ops ⟨some d, .box T x, ty, ps, af, none⟩ f w K :=
  SO.value (v := .pointer (some ⟨w.heap.size, 0, none⟩)) (w' := w.alloc (.cells v.cells T)) (by simp [execOp, Instr.box, eval_acts ox, hx, newVar_run]) h
theorem Cont.zero {l : List Oper} {Ks : List Kd} {Z : List (Array Value × TypeId)} {f : Slots} {i : Nat} {cur : Array Value} (h : Cont l Ks Z (fun _ => true) f i cur) (hn : (Ks.filterMap isSt).contains i = false) : cur = (zAt Z i).1 := by
  refine h.2.2 fun s j hs => ?_
  exfalso
  have : i ∈ Ks.filterMap isSt := List.mem_filterMap.2 ⟨_, List.mem_of_getElem? hs, rfl⟩
  rw [← List.contains_iff_mem, hn] at this
  cases this

/-! Loads whose facts are known of an earlier world. -/
section
variable {P : Program} {n : Nat} {ops : Array Oper} {f : Slots} {w ws : World} {K : Slots → World → Prop} {x y : Operand} {d : Nat} {ty T e : TypeId} {ps : String} {af : Array Edge} {v : Value} {M : Nat → Prop} {kk : IntKind} {bytes : Nat} {z : Value} {ad : Addr} {size : Nat} {agg : Bool}
theorem AtW.ext' {α : Type} [GT α] {M : Nat → Prop} {w w' : World} {ad : Addr} {x : α} (h : AtW M w ad x) (e : Ext w w') : AtW M w' ad x := AtW.ext h e
theorem ldWx {α : Type} [GT α] {xv : α} (hA : AtW M ws ad xv) (E : Ext ws w) (F : TyF P T (GT.size α) (GT.agg α) bytes z) (ox : okT n x = true) (hx : ev f x = .pointer (some ad))
    (h : ∀ v, RV M ws v xv → K (upd f d v) w) : SO P n ops ⟨some d, .load T x, ty, ps, af, none⟩ f w K := by
  obtain ⟨cs, h1, h2⟩ := hA
  have h3 : ∀ j v, cs[j]? = some v → w.cell? (ad.add j) = some v := fun j v hv => by
    have h4 := h2 j v hv
    have hlt : (ad.add j).block < ws.heap.size := block_lt_cell h4
    exact (World.cell?_of_block (E.block _ hlt)).trans h4
  exact SO.value (v := mkv (GT.agg α) cs) (by
    simp [execOp, eval_acts ox, hx, Instr.loadAt, Instr.sureAddr, run_loadVar F GT.single (GT.len h1) h3]) (h _ ⟨cs, h1, rfl⟩)
theorem ldIx {i : Int} (hA : AtW M ws ad i) (E : Ext ws w) (F : TyF P T 1 false bytes z) (ox : okT n x = true) (hx : ev f x = .pointer (some ad)) (h : I64 i → K (upd f d (.int .i64 i)) w) :
    SO P n ops ⟨some d, .load T x, ty, ps, af, none⟩ f w K := ldWx hA E F ox hx fun v hv => by obtain ⟨rfl, hi⟩ := RV.int.1 hv; exact h hi
theorem ldUx {u : BitVec 64} (hA : AtW M ws ad u) (E : Ext ws w) (F : TyF P T 1 false bytes z) (ox : okT n x = true) (hx : ev f x = .pointer (some ad)) (h : K (upd f d (U u)) w) :
    SO P n ops ⟨some d, .load T x, ty, ps, af, none⟩ f w K := ldWx hA E F ox hx fun v hv => by rw [RV.bv.1 hv]; exact h
theorem ld8x {u : BitVec 8} (hA : AtW M ws ad u) (E : Ext ws w) (F : TyF P T 1 false bytes z) (ox : okT n x = true) (hx : ev f x = .pointer (some ad)) (h : K (upd f d (U8 u)) w) :
    SO P n ops ⟨some d, .load T x, ty, ps, af, none⟩ f w K := ldWx hA E F ox hx fun v hv => by rw [RV.b8.1 hv]; exact h
theorem ldBx {u : Bool} (hA : AtW M ws ad u) (E : Ext ws w) (F : TyF P T 1 false bytes z) (ox : okT n x = true) (hx : ev f x = .pointer (some ad)) (h : K (upd f d (.bool u)) w) :
    SO P n ops ⟨some d, .load T x, ty, ps, af, none⟩ f w K := ldWx hA E F ox hx fun v hv => by rw [RV.bool.1 hv]; exact h
theorem ldSx {u : ByteArray} (hA : AtW M ws ad u) (E : Ext ws w) (F : TyF P T 1 false bytes z) (ox : okT n x = true) (hx : ev f x = .pointer (some ad)) (h : u.size ≤ maxLen → K (upd f d (.string u)) w) :
    SO P n ops ⟨some d, .load T x, ty, ps, af, none⟩ f w K := ldWx hA E F ox hx fun v hv => by obtain ⟨rfl, hi⟩ := RV.str.1 hv; exact h hi
theorem ldLx {α : Type} [GT α] {xs : List α} (hA : AtW M ws ad xs) (E : Ext ws w) (F : TyF P T 1 false bytes z) (ox : okT n x = true) (hx : ev f x = .pointer (some ad))
    (h : ∀ a c, RV M ws (.slice a xs.length c) xs → K (upd f d (.slice a xs.length c)) w) : SO P n ops ⟨some d, .load T x, ty, ps, af, none⟩ f w K :=
  ldWx hA E F ox hx fun v hv => by obtain ⟨a, c, rfl, hr⟩ := (RV.list.1 hv).explicit; exact h a c hr
theorem iax {α : Type} [GT α] {xs : List α} {i : Int} (hR : RV M ws v xs) (ox : okT n x = true) (oy : okT n y = true) (hx : ev f x = v) (hy : ev f y = .int kk i) (hi : 0 ≤ i ∧ i < xs.length) (hu : P.underlying T = some (.slice e)) (F : TyF P e (GT.size α) agg bytes z)
    (h : ∀ ad xv, xs[i.toNat]? = some xv → At M ws ad xv → K (upd f d (.pointer (some ad))) w) : SO P n ops ⟨some d, .indexAddr T x y, ty, ps, af, none⟩ f w K := by
  obtain ⟨a, m, c, rfl, h1, h2, h3, h4⟩ := RV.list.1 hR
  rcases h4 with h4 | ⟨ad, rfl, hs⟩
  · omega
  · have hlt : i.toNat < xs.length := by omega
    refine SO.value (v := .pointer (some (ad.add (i.toNat * GT.size α)))) ?_ (h _ xs[i.toNat] (List.getElem?_eq_getElem hlt) (hs _ _ (List.getElem?_eq_getElem hlt)))
    have hb : 0 ≤ i ∧ i < (m : Int) := by omega
    simp [execOp, eval_acts ox, eval_acts oy, hx, hy, Instr.indexAt, asIntOf, run_und hu, hb, F.run_size]
theorem iaOx {α : Type} [GT α] {xs : List α} {B : Nat} {i : Int} (hO : (own B e v xs).holds M ws) (ox : okT n x = true) (oy : okT n y = true) (hx : ev f x = v) (hy : ev f y = .int kk i) (hi : 0 ≤ i ∧ i < xs.length) (hu : P.underlying T = some (.slice e)) (F : TyF P e (GT.size α) agg bytes z)
    (h : ∀ g xv, v.ownBlock = some g → xs[i.toNat]? = some xv → AtW M ws ⟨g, i.toNat * GT.size α, none⟩ xv → K (upd f d (.pointer (some ⟨g, i.toNat * GT.size α, none⟩))) w) : SO P n ops ⟨some d, .indexAddr T x y, ty, ps, af, none⟩ f w K := by
  obtain ⟨cs, h1, h2⟩ := hO
  rcases h1.2 with ⟨_, h3⟩ | ⟨g, cap, cur, rfl, h3, h4, h5, h6, h7, h8⟩
  · omega
  · have hlt : i.toNat < xs.length := by omega
    have hadd : (⟨g, 0, none⟩ : Addr).add (i.toNat * GT.size α) = ⟨g, i.toNat * GT.size α, none⟩ := by unfold Addr.add; split <;> simp_all
    refine SO.value (v := .pointer (some ⟨g, i.toNat * GT.size α, none⟩)) ?_ (h g xs[i.toNat] rfl (List.getElem?_eq_getElem hlt) ?_)
    · have hb : 0 ≤ i ∧ i < (xs.length : Int) := by omega
      simp [execOp, eval_acts ox, eval_acts oy, hx, hy, Instr.indexAt, asIntOf, run_und hu, hb, F.run_size, hadd]
    · obtain ⟨c, hc1, hc2⟩ := Chunks.at_ h2 i.toNat xs[i.toNat] (List.getElem?_eq_getElem hlt)
      refine ⟨c, hc1, fun j u hu => ?_⟩
      have hcell := h1.cells (g := g) rfl (i.toNat * GT.size α + j) u (hc2 j u hu)
      rwa [← add_add, hadd] at hcell
end
end Go.Ew
