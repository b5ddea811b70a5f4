/- Plain words and laws: session order (layer 12). -/
import Derived.Test.YtmhopljngkgidaaDoorEwSpecO
import Derived.Test.YtmhopljngkgidaaDoorEwSpecP
namespace Go.Ew
set_option linter.unusedVariables false
set_option linter.unusedSimpArgs false

abbrev item0 : ItemL := (0, 0, false, 0, 0)
/-- The session, and the place, of item i. -/
def sesN (its : List ItemL) (i : Nat) : Int := (its.getD i item0).1
def plcN (its : List ItemL) (i : Nat) : Int := (its.getD i item0).2.1
theorem item_get {its : List ItemL} {i : Nat} {x : ItemL} (h : its[((i : Nat) : Int).toNat]? = some x) : its.getD i item0 = x := by rw [Int.toNat_natCast] at h; rw [List.getD_eq_getElem?_getD, h]; rfl
theorem item_getI {its : List ItemL} {i : Int} {x : ItemL} (h : its[i.toNat]? = some x) : its.getD i.toNat item0 = x := by rw [List.getD_eq_getElem?_getD, h]; rfl
theorem ses_at {its : List ItemL} {i : Nat} {x : ItemL} (h : its[((i : Nat) : Int).toNat]? = some x) : sesN its i = x.1 := by unfold sesN; rw [item_get h]
theorem ses_atI {its : List ItemL} {i : Int} {x : ItemL} (h : its[i.toNat]? = some x) : sesN its i.toNat = x.1 := by unfold sesN; rw [item_getI h]
theorem plc_atI {its : List ItemL} {i : Int} {x : ItemL} (h : its[i.toNat]? = some x) : plcN its i.toNat = x.2.1 := by unfold plcN; rw [item_getI h]

/-- Items as an interned history has them: session by session, place by place. -/
structure OrdI (its : List ItemL) : Prop where
  first : 0 < its.length → plcN its 0 = 0
  next : ∀ i, i + 1 < its.length → (sesN its (i + 1) = sesN its i ∧ plcN its (i + 1) = plcN its i + 1) ∨ (sesN its i < sesN its (i + 1) ∧ plcN its (i + 1) = 0)

section
variable {its : List ItemL} (o : OrdI its)
include o
theorem OrdI.le : ∀ (d i : Nat), i + d < its.length → sesN its i ≤ sesN its (i + d)
  | 0, i, h => Int.le_refl _
  | d + 1, i, h => by
    have h1 := OrdI.le d i (by omega)
    have h2 := o.next (i + d) (by omega)
    rw [show i + (d + 1) = i + d + 1 from rfl]; omega
theorem OrdI.mono {i j : Nat} (hij : i ≤ j) (h : j < its.length) : sesN its i ≤ sesN its j := by
  have := o.le (j - i) i (by omega)
  rwa [show i + (j - i) = j from by omega] at this
theorem OrdI.place : ∀ (d i : Nat), i + d < its.length → sesN its i = sesN its (i + d) → plcN its (i + d) = plcN its i + ((d : Nat) : Int)
  | 0, i, h, _ => by simp
  | d + 1, i, h, hs => by
    have h1 := o.mono (i := i) (j := i + d) (by omega) (by omega)
    have h2 := o.mono (i := i + d) (j := i + (d + 1)) (by omega) h
    have h3 := o.next (i + d) (by omega)
    have e : i + (d + 1) = i + d + 1 := rfl
    rw [e] at hs h2 ⊢
    have ih := OrdI.place d i (by omega) (by omega)
    omega
theorem OrdI.nonneg : ∀ i, i < its.length → 0 ≤ plcN its i
  | 0, h => by rw [o.first h]; exact Int.le_refl _
  | i + 1, h => by
    have := OrdI.nonneg i (by omega)
    have := o.next i h
    omega
/-- As many of its session ahead as the place says. -/
theorem OrdI.back : ∀ i, i < its.length → plcN its i ≤ ((i : Nat) : Int) ∧ ∀ k, ((i : Nat) : Int) - plcN its i ≤ ((k : Nat) : Int) → k ≤ i → sesN its k = sesN its i
  | 0, h => by
    rw [o.first h]
    exact ⟨by omega, fun k _ hk => by rw [show k = 0 from by omega]⟩
  | i + 1, h => by
    obtain ⟨h1, h2⟩ := OrdI.back i (by omega)
    have h0 := o.nonneg (i + 1) h
    rcases o.next i h with ⟨hs, hp⟩ | ⟨hs, hp⟩
    · refine ⟨by omega, fun k hk hki => ?_⟩
      by_cases e : k = i + 1
      · rw [e]
      · rw [hs]; exact h2 k (by omega) (by omega)
    · refine ⟨by omega, fun k hk hki => ?_⟩
      rw [show k = i + 1 from by omega]
theorem OrdI.ahead {i j : Nat} (hi : i < its.length) (hj : j < its.length) (hs : sesN its i = sesN its j) : (plcN its i < plcN its j ↔ i < j) := by
  rcases Nat.le_total i j with h | h
  · have := o.place (j - i) i (by omega) (by rw [show i + (j - i) = j from by omega]; exact hs)
    rw [show i + (j - i) = j from by omega] at this
    omega
  · have := o.place (i - j) j (by omega) (by rw [show j + (i - j) = i from by omega]; exact hs.symm)
    rw [show j + (i - j) = i from by omega] at this
    omega
end

/-! an interned history is so -/
theorem ord_snoc {its : List ItemL} (o : OrdI its) {x : ItemL} (h0 : its.length = 0 → x.2.1 = 0) (h : ∀ n, its.length = n + 1 → (x.1 = sesN its n ∧ x.2.1 = plcN its n + 1) ∨ (sesN its n < x.1 ∧ x.2.1 = 0)) : OrdI (its ++ [x]) := by
  have hold : ∀ i, i < its.length → (its ++ [x]).getD i item0 = its.getD i item0 := by
    intro i hi
    rw [List.getD_eq_getElem?_getD, List.getD_eq_getElem?_getD, List.getElem?_append_left hi]
  have hnew : (its ++ [x]).getD its.length item0 = x := by
    rw [List.getD_eq_getElem?_getD, List.getElem?_append_right (Nat.le_refl _)]; simp
  refine ⟨fun hl => ?_, fun i hi => ?_⟩
  · by_cases e : its.length = 0
    · have := hnew
      rw [e] at this
      unfold plcN; rw [this]; exact h0 e
    · have := o.first (by omega)
      unfold plcN at this ⊢
      rw [hold 0 (by omega)]; exact this
  · rw [List.length_append, List.length_singleton] at hi
    by_cases e : i + 1 < its.length
    · have := o.next i e
      unfold sesN plcN at this ⊢
      rw [hold i (by omega), hold (i + 1) e]; exact this
    · have e2 : its.length = i + 1 := by omega
      have := h i e2
      unfold sesN plcN at this ⊢
      rw [hold i (by omega), ← e2, hnew]
      rcases this with ⟨a, b⟩ | ⟨a, b⟩
      · exact .inl ⟨a, b⟩
      · exact .inr ⟨a, b⟩
/-- All sessions lie below j. -/
def Below_ (its : List ItemL) (j : Nat) : Prop := ∀ x ∈ its, x.1 < ((j : Nat) : Int)
theorem last_get {its : List ItemL} {n : Nat} (h : its.length = n + 1) : its.getD n item0 ∈ its := by
  rw [List.getD_eq_getElem?_getD, List.getElem?_eq_getElem (by omega)]
  exact List.getElem_mem _
theorem toO_ord {j : Nat} {st : StO} {ops : List OpL} (o : OrdI st.2) (hb : Below_ st.2 j) : ∀ k, k ≤ ops.length →
    OrdI (toO j st ops k).2 ∧ Below_ (toO j st ops k).2 (j + 1) ∧ (0 < k → ∃ n, (toO j st ops k).2.length = n + 1 ∧ sesN (toO j st ops k).2 n = ((j : Nat) : Int) ∧ plcN (toO j st ops k).2 n = ((k : Nat) : Int) - 1)
  | 0, _ => by
    rw [toO_zero]
    exact ⟨o, fun x hx => by have := hb x hx; omega, fun h => (by omega)⟩
  | k + 1, hk => by
    obtain ⟨ho, hbl, hlast⟩ := toO_ord (ops := ops) o hb k (by omega)
    have hx : ops[((k : Nat) : Int).toNat]? = some ops[k] := by rw [Int.toNat_natCast]; exact List.getElem?_eq_getElem (by omega)
    rw [toO_step hx]
    unfold stepO
    dsimp only
    refine ⟨ord_snoc ho (fun h0 => ?_) (fun n hn => ?_), ?_, fun _ => ⟨(toO j st ops k).2.length, by simp, ?_, ?_⟩⟩
    · show ((k : Nat) : Int) = 0
      by_cases hk0 : 0 < k
      · obtain ⟨n, h1, -⟩ := hlast hk0
        omega
      · omega
    · show (((j : Nat) : Int) = _ ∧ ((k : Nat) : Int) = _) ∨ (_ < ((j : Nat) : Int) ∧ ((k : Nat) : Int) = 0)
      by_cases hk0 : 0 < k
      · obtain ⟨n', h1, h2, h3⟩ := hlast hk0
        obtain rfl : n = n' := by omega
        exact .inl ⟨h2.symm, by rw [h3]; omega⟩
      · right
        have hk0 : k = 0 := by omega
        subst hk0
        rw [toO_zero] at hn ⊢
        exact ⟨hb _ (last_get hn), rfl⟩
    · intro x hxm
      rcases List.mem_append.1 hxm with h | h
      · exact hbl x h
      · rw [List.mem_singleton] at h
        subst h
        show ((j : Nat) : Int) < _
        omega
    · unfold sesN
      rw [List.getD_eq_getElem?_getD, List.getElem?_append_right (Nat.le_refl _)]; simp
    · unfold plcN
      rw [List.getD_eq_getElem?_getD, List.getElem?_append_right (Nat.le_refl _)]
      simp
theorem allO_ord (h : HistL) : ∀ j, j ≤ h.length → OrdI (allO h j).2 ∧ Below_ (allO h j).2 j
  | 0, _ => ⟨⟨fun h => (by simp [allO] at h), fun i hi => (by simp [allO] at hi)⟩, fun x hx => (by simp [allO] at hx)⟩
  | j + 1, hj => by
    obtain ⟨ho, hb⟩ := allO_ord h j (by omega)
    have hx : h[((j : Nat) : Int).toNat]? = some h[j] := by rw [Int.toNat_natCast]; exact List.getElem?_eq_getElem (by omega)
    rw [allO_step hx]
    have := toO_ord (ops := h[j]) ho hb _ (Nat.le_refl _)
    exact ⟨this.1, this.2.1⟩
theorem factI_ord (h : HistL) : OrdI (factI h) := (allO_ord h h.length (Nat.le_refl _)).1
theorem ofI_ord (h : HistL) : OrdI (ofI h) := by
  unfold ofI; split
  · exact factI_ord h
  · exact ⟨fun h => (by simp at h), fun i hi => (by simp at hi)⟩

/-! ### ahead -/
def ahN (its : List ItemL) (i j : Nat) : Bool := decide (i < j) && decide (j < its.length) && decide (sesN its i = sesN its j)
def ahA (its : List ItemL) (i j : Int) : Bool := decide (0 ≤ i) && decide (j < (its.length : Int)) && decide (i < j) && decide (sesN its i.toNat = sesN its j.toNat)
def ahB (its : List ItemL) (i j : Int) : Bool := decide (0 ≤ i) && decide (0 ≤ j) && decide (i < (its.length : Int)) && decide (j < (its.length : Int)) && decide (sesN its i.toNat = sesN its j.toNat) && decide (plcN its i.toNat < plcN its j.toNat)
theorem ahA_N (its : List ItemL) (i j : Nat) : ahA its ((i : Nat) : Int) ((j : Nat) : Int) = ahN its i j := by
  unfold ahA ahN
  rw [Bool.eq_iff_iff]
  simp only [Bool.and_eq_true, decide_eq_true_eq, Int.toNat_natCast]
  omega
theorem ahB_A {its : List ItemL} (o : OrdI its) (i j : Int) : ahB its i j = ahA its i j := by
  unfold ahA ahB
  rw [Bool.eq_iff_iff]
  simp only [Bool.and_eq_true, decide_eq_true_eq]
  constructor
  · rintro ⟨⟨⟨⟨⟨h1, h2⟩, h3⟩, h4⟩, h5⟩, h6⟩
    have := (o.ahead (i := i.toNat) (j := j.toNat) (by omega) (by omega) h5).1 h6
    exact ⟨⟨⟨h1, h4⟩, by omega⟩, h5⟩
  · rintro ⟨⟨⟨h1, h2⟩, h3⟩, h4⟩
    have := (o.ahead (i := i.toNat) (j := j.toNat) (by omega) (by omega) h4).2 (by omega)
    exact ⟨⟨⟨⟨⟨h1, by omega⟩, by omega⟩, h2⟩, h4⟩, this⟩
/-- The matrix of all. -/
def poR (its : List ItemL) : Rows := matP its.length (ahN its)
/-- .. from behind: the rows behind t are told. -/
def poTo (its : List ItemL) (t : Int) : Rows := matP its.length fun a b => decide (t < ((a : Nat) : Int)) && ahN its a b
theorem poTo_start (its : List ItemL) (t : Int) (h : (its.length : Int) - 2 = t) : newM (its.length : Int) = poTo its t := by
  rw [newM_matP]
  refine matP_congr fun a b ha hb => ?_
  unfold ahN
  rw [Bool.eq_iff_iff]
  simp only [Bool.and_eq_true, decide_eq_true_eq, Bool.false_eq_true, false_iff]
  omega
theorem poTo_end {its : List ItemL} {t : Int} (h : t < 0) : poTo its t = poR its := by
  refine matP_congr fun a b ha hb => ?_
  rw [decide_eq_true (by omega)]; rfl
theorem poTo_same {its : List ItemL} {t : Int} (h0 : 0 ≤ t) (h1 : t + 1 < (its.length : Int)) (hs : sesN its t.toNat = sesN its (t + 1).toNat) {x : Row} (hx : (poTo its t)[(t + 1).toNat]? = some x) :
    (poTo its t).set t.toNat (setR x (t + 1)) = poTo its (t - 1) := by
  unfold poTo at *
  obtain ⟨h2, rfl⟩ := matP_at hx
  rw [setR_rowP (by omega) h1, matP_set]
  refine matP_congr fun a b ha hb => ?_
  have e : (t + 1).toNat = t.toNat + 1 := by omega
  rw [e] at hs ⊢
  by_cases ea : a = t.toNat
  · subst ea
    rw [if_pos rfl]
    unfold ahN
    rw [Bool.eq_iff_iff]
    simp only [Bool.and_eq_true, Bool.or_eq_true, decide_eq_true_eq]
    constructor
    · rintro (⟨_, ⟨h3, h4⟩, h5⟩ | h3)
      · exact ⟨by omega, ⟨by omega, h4⟩, by rw [hs, h5]⟩
      · subst h3; exact ⟨by omega, ⟨by omega, by omega⟩, hs⟩
    · rintro ⟨_, ⟨h3, h4⟩, h5⟩
      by_cases e2 : b = t.toNat + 1
      · exact .inr e2
      · exact .inl ⟨by omega, ⟨by omega, h4⟩, by rw [← hs, h5]⟩
  · rw [if_neg ea, show decide (t < ((a : Nat) : Int)) = decide (t - 1 < ((a : Nat) : Int)) from by rw [decide_eq_decide]; omega]
theorem poTo_other {its : List ItemL} (o : OrdI its) {t : Int} (h0 : 0 ≤ t) (h1 : t + 1 < (its.length : Int)) (hs : ¬ sesN its t.toNat = sesN its (t + 1).toNat) : poTo its t = poTo its (t - 1) := by
  refine matP_congr fun a b ha hb => ?_
  have e : (t + 1).toNat = t.toNat + 1 := by omega
  rw [e] at hs
  by_cases ea : a = t.toNat
  · subst ea
    rw [decide_eq_false (by omega), Bool.false_and]
    symm
    unfold ahN
    rw [Bool.and_eq_false_iff]
    right
    rw [Bool.and_eq_false_iff]
    by_cases hb2 : t.toNat < b
    · right
      rw [decide_eq_false_iff_not]
      intro he
      have g1 := o.mono (i := t.toNat) (j := t.toNat + 1) (by omega) (by omega)
      have g2 := o.mono (i := t.toNat + 1) (j := b) (by omega) (by omega)
      omega
    · left
      rw [decide_eq_false (by omega)]; rfl
  · rw [show decide (t < ((a : Nat) : Int)) = decide (t - 1 < ((a : Nat) : Int)) from by rw [decide_eq_decide]; omega]
/-- .. and pair by pair. -/
def poU (its : List ItemL) (i j : Nat) : Rows := matP its.length fun a b => (decide (a < i) || (decide (a = i) && decide (b < j))) && ahN its a b
theorem poU_start (its : List ItemL) : newM (its.length : Int) = poU its 0 0 := by
  rw [newM_matP]
  exact matP_congr fun a b ha hb => by simp
theorem poU_row {its : List ItemL} {i j : Nat} (h : its.length ≤ j) : poU its i j = poU its (i + 1) 0 := by
  refine matP_congr fun a b ha hb => ?_
  congr 1
  rw [Bool.eq_iff_iff]
  simp only [Bool.or_eq_true, Bool.and_eq_true, decide_eq_true_eq]
  omega
theorem poU_end {its : List ItemL} {i : Nat} (h : its.length ≤ i) : poU its i 0 = poR its := by
  refine matP_congr fun a b ha hb => ?_
  rw [decide_eq_true (by omega)]; rfl
theorem poU_yes {its : List ItemL} {i j : Nat} (hi : i < its.length) (hj : j < its.length) (h : ahN its i j = true) : setMR (its.length : Int) (poU its i j) ((i : Nat) : Int) ((j : Nat) : Int) = poU its i (j + 1) := by
  unfold poU
  rw [setMR_matP (by rw [inM_nat]; simp [hi, hj])]
  refine matP_congr fun a b ha hb => ?_
  rw [Bool.eq_iff_iff]
  simp only [Bool.or_eq_true, Bool.and_eq_true, decide_eq_true_eq, Int.toNat_natCast]
  constructor
  · rintro (⟨h1, h2⟩ | ⟨rfl, rfl⟩)
    · exact ⟨by omega, h2⟩
    · exact ⟨.inr ⟨rfl, by omega⟩, h⟩
  · rintro ⟨h1, h2⟩
    by_cases e : a = i ∧ b = j
    · exact .inr e
    · exact .inl ⟨by omega, h2⟩
theorem poU_no {its : List ItemL} {i j : Nat} (h : ahN its i j = false) : poU its i j = poU its i (j + 1) := by
  refine matP_congr fun a b ha hb => ?_
  rw [Bool.eq_iff_iff]
  simp only [Bool.or_eq_true, Bool.and_eq_true, decide_eq_true_eq]
  constructor
  · rintro ⟨h1, h2⟩; exact ⟨by omega, h2⟩
  · rintro ⟨h1, h2⟩
    refine ⟨?_, h2⟩
    by_cases e : a = i ∧ b = j
    · rw [e.1, e.2, h] at h2; cases h2
    · omega

/-! ### up to one -/
def pastA (its : List ItemL) (t : Int) : List Int := if 0 ≤ t ∧ t < (its.length : Int) then (List.range ((plcN its t.toNat).toNat + 1)).map fun q => (t - plcN its t.toNat) + ((q : Nat) : Int) else []
def pastTo (f : Int) (q : Nat) : List Int := (List.range q).map fun k => f + ((k : Nat) : Int)
theorem pastTo_step (f : Int) (q : Nat) : pastTo f q ++ [f + ((q : Nat) : Int)] = pastTo f (q + 1) := by unfold pastTo; rw [List.range_succ, List.map_append]; rfl
theorem pastTo_len (f : Int) (q : Nat) : (pastTo f q).length = q := by unfold pastTo; simp
def pastB (its : List ItemL) (t : Int) (j : Nat) : List Int := ((List.range j).filter fun i => decide (((i : Nat) : Int) = t) || ahB its ((i : Nat) : Int) t).map fun i => ((i : Nat) : Int)
theorem pastB_yes {its : List ItemL} {t : Int} {j : Nat} (h : (decide (((j : Nat) : Int) = t) || ahB its ((j : Nat) : Int) t) = true) : pastB its t j ++ [((j : Nat) : Int)] = pastB its t (j + 1) := by
  unfold pastB; rw [List.range_succ, List.filter_append, List.map_append, List.filter_cons, if_pos h]; rfl
theorem pastB_no {its : List ItemL} {t : Int} {j : Nat} (h : (decide (((j : Nat) : Int) = t) || ahB its ((j : Nat) : Int) t) = false) : pastB its t j = pastB its t (j + 1) := by
  unfold pastB; rw [List.range_succ, List.filter_append, List.map_append, List.filter_cons, if_neg (by rw [h]; simp)]; simp
theorem pastB_len (its : List ItemL) (t : Int) (j : Nat) : (pastB its t j).length ≤ j := by
  unfold pastB; rw [List.length_map]
  have := List.length_filter_le (fun i => decide (((i : Nat) : Int) = t) || ahB its ((i : Nat) : Int) t) (List.range j)
  rwa [List.length_range] at this
theorem filter_range_between {lo hi : Nat} : ∀ n, hi ≤ n → lo ≤ hi → (List.range n).filter (fun i => decide (lo ≤ i) && decide (i < hi)) = (List.range (hi - lo)).map fun q => lo + q := by
  intro n hn hl
  have h1 : n = lo + ((hi - lo) + (n - hi)) := by omega
  rw [h1, range_add_map, range_add_map, List.filter_append, List.map_append, List.filter_append]
  have e1 : (List.range lo).filter (fun i => decide (lo ≤ i) && decide (i < hi)) = [] := by
    rw [List.filter_eq_nil_iff]; intro i hi2; have := List.mem_range.1 hi2; simp; omega
  have e2 : ((List.range (hi - lo)).map fun i => lo + i).filter (fun i => decide (lo ≤ i) && decide (i < hi)) = (List.range (hi - lo)).map fun i => lo + i := by
    rw [List.filter_eq_self]; intro i hi2
    obtain ⟨k, hk, rfl⟩ := List.mem_map.1 hi2
    have := List.mem_range.1 hk
    simp; omega
  have e3 : (((List.range (n - hi)).map fun i => hi - lo + i).map fun i => lo + i).filter (fun i => decide (lo ≤ i) && decide (i < hi)) = [] := by
    rw [List.filter_eq_nil_iff]; intro i hi2
    obtain ⟨k, hk, rfl⟩ := List.mem_map.1 hi2
    obtain ⟨k2, hk2, rfl⟩ := List.mem_map.1 hk
    simp; omega
  rw [e1, e2, e3]; simp
theorem past_eq {its : List ItemL} (o : OrdI its) (t : Int) : pastB its t its.length = pastA its t := by
  unfold pastB pastA
  split
  · rename_i ht
    obtain ⟨b1, b2⟩ := o.back t.toNat (by omega)
    have b0 := o.nonneg t.toNat (by omega)
    have key : ∀ i, i ∈ List.range its.length → (decide (((i : Nat) : Int) = t) || ahB its ((i : Nat) : Int) t) = (decide ((t - plcN its t.toNat).toNat ≤ i) && decide (i < t.toNat + 1)) := by
      intro i hi
      have hi := List.mem_range.1 hi
      rw [ahB_A o]
      unfold ahA
      rw [Bool.eq_iff_iff]
      simp only [Bool.or_eq_true, Bool.and_eq_true, decide_eq_true_eq, Int.toNat_natCast]
      constructor
      · rintro (h | ⟨⟨⟨h1, h2⟩, h3⟩, h4⟩)
        · omega
        · have := o.place (t.toNat - i) i (by omega) (by rw [show i + (t.toNat - i) = t.toNat from by omega]; exact h4)
          rw [show i + (t.toNat - i) = t.toNat from by omega] at this
          have := o.nonneg i (by omega)
          omega
      · rintro ⟨h1, h2⟩
        by_cases e : ((i : Nat) : Int) = t
        · exact .inl e
        · exact .inr ⟨⟨⟨by omega, ht.2⟩, by omega⟩, b2 i (by omega) (by omega)⟩
    rw [List.filter_congr key, filter_range_between its.length (by omega) (by omega), List.map_map]
    rw [show t.toNat + 1 - (t - plcN its t.toNat).toNat = (plcN its t.toNat).toNat + 1 from by omega]
    apply List.map_congr_left
    intro q _
    show (((t - plcN its t.toNat).toNat + q : Nat) : Int) = _
    omega
  · rename_i ht
    rw [List.filter_eq_nil_iff.2]
    · rfl
    · intro i hi
      have hi := List.mem_range.1 hi
      unfold ahB
      simp only [Bool.or_eq_true, Bool.and_eq_true, decide_eq_true_eq]
      omega

theorem ahA_no {its : List ItemL} {i j : Int} (h : ¬ (0 ≤ i ∧ j < (its.length : Int) ∧ i < j)) : false = ahA its i j := by
  unfold ahA; symm; simp only [Bool.and_eq_false_iff, decide_eq_false_iff_not]; omega
theorem ahA_yes {its : List ItemL} {i j : Int} {x y : ItemL} (h0 : 0 ≤ i) (h1 : j < (its.length : Int)) (h2 : i < j) (hx : its[i.toNat]? = some x) (hy : its[j.toNat]? = some y) : decide (x.1 = y.1) = ahA its i j := by
  unfold ahA; rw [decide_eq_true h0, decide_eq_true h1, decide_eq_true h2, ses_atI hx, ses_atI hy]; rfl
theorem ahB_no {its : List ItemL} {i j : Int} (h : ¬ (0 ≤ i ∧ 0 ≤ j ∧ i < (its.length : Int) ∧ j < (its.length : Int))) : false = ahB its i j := by
  unfold ahB; symm; simp only [Bool.and_eq_false_iff, decide_eq_false_iff_not]; omega
theorem ahB_ses {its : List ItemL} {i j : Int} {x y : ItemL} (hx : its[i.toNat]? = some x) (hy : its[j.toNat]? = some y) (hs : ¬ x.1 = y.1) : false = ahB its i j := by
  unfold ahB; rw [ses_atI hx, ses_atI hy, decide_eq_false hs]; simp
theorem ahB_yes {its : List ItemL} {i j : Int} {x y : ItemL} (h0 : 0 ≤ i) (h1 : 0 ≤ j) (h2 : i < (its.length : Int)) (h3 : j < (its.length : Int)) (hx : its[i.toNat]? = some x) (hy : its[j.toNat]? = some y) (hs : x.1 = y.1) : decide (x.2.1 < y.2.1) = ahB its i j := by
  unfold ahB; rw [decide_eq_true h0, decide_eq_true h1, decide_eq_true h2, decide_eq_true h3, ses_atI hx, ses_atI hy, plc_atI hx, plc_atI hy, decide_eq_true hs]; rfl
theorem pastA_no {its : List ItemL} {t : Int} (h : ¬ (0 ≤ t ∧ t < (its.length : Int))) : ([] : List Int) = pastA its t := by unfold pastA; rw [if_neg h]
theorem pastA_yes {its : List ItemL} {t : Int} {x : ItemL} {q : Nat} (h0 : 0 ≤ t) (h : t < (its.length : Int)) (hx : its[t.toNat]? = some x) (hp : 0 ≤ x.2.1) (hq : ((q : Nat) : Int) = x.2.1 + 1) : pastTo (t - x.2.1) q = pastA its t := by
  unfold pastA pastTo
  rw [if_pos ⟨h0, h⟩, plc_atI hx, show x.2.1.toNat + 1 = q from by omega]
theorem poR_len (its : List ItemL) : (poR its).length = its.length := matP_len _ _
theorem poTo_len (its : List ItemL) (t : Int) : (poTo its t).length = its.length := matP_len _ _
theorem poU_len (its : List ItemL) (i j : Nat) : (poU its i j).length = its.length := matP_len _ _
theorem poTo_row {its : List ItemL} {t : Int} {i : Nat} {x : Row} (h : (poTo its t)[i]? = some x) : x.length = words ((its.length : Nat) : Int) := by rw [(matP_at h).2, rowP_len]
theorem words_small {n : Nat} (h : n ≤ 4096) : words ((n : Nat) : Int) ≤ 64 := by rw [words_nat]; omega
/-- facts that a law has of its history -/
theorem sess_len {h : HistL} (hs : smallH h 40 = true) : (ofI h).length ≤ 40 := by
  have h1 := (small_iff.1 hs).2.1
  have := ofI_len h
  omega
theorem past_two (h : HistL) (t : Int) : pastB (ofI h) t (ofI h).length = pastA (ofI h) t := past_eq (ofI_ord h) t
theorem ahead_two (h : HistL) (i j : Int) : ahB (ofI h) i j = ahA (ofI h) i j := ahB_A (ofI_ord h) i j
end Go.Ew
