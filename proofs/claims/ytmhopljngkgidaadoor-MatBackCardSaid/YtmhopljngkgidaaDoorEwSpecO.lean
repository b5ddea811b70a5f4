/- Plain laws: what each item reads from (layer 11). -/
import Derived.Test.YtmhopljngkgidaaDoorEwSpecN
namespace Go.Ew
set_option linter.unusedVariables false
set_option linter.unusedSimpArgs false

theorem fromM_len (its : List ItemL) : (fromM its).length = its.length := by unfold fromM; simp
theorem fromR_len (its : List ItemL) : (fromR its).length = its.length := by unfold fromR; simp
theorem fromR_at {its : List ItemL} {j : Nat} {x : ItemL} {t : Int} (hx : its[((j : Nat) : Int).toNat]? = some x) (ht : (fromR its)[((j : Nat) : Int).toNat]? = some t) : t = frI its x := by
  unfold fromR at ht
  rw [List.getElem?_map, hx] at ht
  exact (Option.some.inj ht).symm
theorem fx_at {h : HistL} (hk : fOk h = true) {j : Nat} {x : ItemL} {t : Int} (hx : (fxI h)[((j : Nat) : Int).toNat]? = some x) (ht : (fromM (fxI h))[((j : Nat) : Int).toNat]? = some t) : t = frI (fxI h) x := by
  rw [fx_from hk] at ht; exact fromR_at hx ht
theorem reads_facts {its : List ItemL} {x : ItemL} {t : Int} (ht : t = frI its x) : (x.2.2.1 == decide (t = -3)) = true ∧ (t = -1 → x.2.2.2.2 = 0) ∧ -3 ≤ t ∧ t < (its.length : Int) ∧
    (0 ≤ t → ∃ y, its[t.toNat]? = some y ∧ y.2.2.1 = true ∧ y.2.2.2.1 = x.2.2.2.1 ∧ y.2.2.2.2 = x.2.2.2.2 ∧ x.2.2.2.2 ≠ 0) ∧
    (t = -2 → ∀ y ∈ its, y.2.2.1 = true → y.2.2.2.1 = x.2.2.2.1 → y.2.2.2.2 ≠ x.2.2.2.2) := by
  have hr := idxF_range (p := isW x.2.2.2.1 x.2.2.2.2) (r := its)
  have hlt : 0 ≤ wrI its x.2.2.2.1 x.2.2.2.2 → wrI its x.2.2.2.1 x.2.2.2.2 < (its.length : Int) := by
    intro h0
    obtain ⟨y, hy, -⟩ := wr_at h0
    have := (List.getElem?_eq_some_iff.1 hy).1
    omega
  subst ht
  unfold frI
  by_cases hw : x.2.2.1 = true
  · simp only [hw, if_true]
    refine ⟨by simp, fun h => (by omega), by omega, by omega, fun h => (by omega), fun h => (by omega)⟩
  · have hw' : x.2.2.1 = false := by simpa using hw
    simp only [hw', Bool.false_eq_true, if_false]
    by_cases h0 : x.2.2.2.2 = 0
    · simp only [h0, if_true]
      refine ⟨by simp, fun _ => (by first | trivial | rfl), by omega, by omega, fun h => (by omega), fun h => (by omega)⟩
    · simp only [h0, if_false]
      by_cases hp : 0 ≤ wrI its x.2.2.2.1 x.2.2.2.2
      · simp only [hp, if_true]
        have hl := hlt hp
        obtain ⟨y, hy, hyp⟩ := wr_at hp
        obtain ⟨y1, y2, y3⟩ := isW_iff.1 hyp
        have e : max (wrI its x.2.2.2.1 x.2.2.2.2) 0 = wrI its x.2.2.2.1 x.2.2.2.2 := by omega
        rw [e]
        refine ⟨?_, fun h => (by omega), by omega, hl, fun _ => ⟨y, hy, y1, y2, y3, h0⟩, fun h => (by omega)⟩
        rw [decide_eq_false (by omega)]; rfl
      · simp only [hp, if_false]
        refine ⟨rfl, fun h => (by omega), by omega, by omega, fun h => (by omega), fun _ y hy hyw hyv hyn => ?_⟩
        apply hp
        unfold wrI idxF
        cases hf : its.findIdx? (isW x.2.2.2.1 x.2.2.2.2) with
        | none =>
          rw [List.findIdx?_eq_none_iff] at hf
          have := hf y hy
          rw [isW_iff.2 ⟨hyw, hyv, hyn⟩] at this
          cases this
        | some i => simp

/-- How many lie from 0 up and below c. -/
def cntB (os : List Int) (c : Int) : Nat := (os.filter fun z => decide (0 ≤ z) && decide (z < c)).length
theorem cntB_low (os : List Int) : cntB os (-3) = 0 := by
  unfold cntB; rw [List.filter_eq_nil_iff.2]
  · rfl
  · intro z _; simp; omega
theorem cntB_le (os : List Int) (c : Int) : cntB os c ≤ os.length := List.length_filter_le _ _
theorem readsO_count (os : List Int) (t : Int) : (readsO os t os.length).length = (os.filter fun z => decide (z = t) && decide (0 ≤ t)).length := by
  unfold readsO
  rw [List.length_map]
  have : os = (List.range os.length).map fun i => os.getD i 0 := by
    apply List.ext_getElem
    · simp
    · intro i h1 h2; simp [List.getD_eq_getElem?_getD, h1]
  conv => rhs; rw [this]
  rw [List.filter_map, List.length_map]
  rfl
theorem filter_two {p q r : Int → Bool} (h : ∀ z, r z = (p z || q z)) (hd : ∀ z, p z = true → q z = false) : ∀ os : List Int, (os.filter p).length + (os.filter q).length = (os.filter r).length
  | [] => rfl
  | z :: os => by
    have ih := filter_two h hd os
    have h1 := h z
    have h2 := hd z
    simp only [List.filter_cons]
    cases hp : p z <;> cases hq : q z <;> rw [hp, hq] at h1 <;> simp only [h1, Bool.or_true, Bool.or_false, Bool.false_or, Bool.true_or, if_true, if_false, List.length_cons, Bool.false_eq_true]
    · exact ih
    · omega
    · omega
    · rw [h2 hp] at hq; cases hq
theorem cntB_step (os : List Int) (t : Int) : cntB os t + (readsO os t os.length).length = cntB os (t + 1) := by
  rw [readsO_count]
  unfold cntB
  refine filter_two (fun z => ?_) (fun z hz => ?_) os
  · rw [Bool.eq_iff_iff]; simp only [Bool.and_eq_true, Bool.or_eq_true, decide_eq_true_eq]; omega
  · simp only [Bool.and_eq_true, decide_eq_true_eq] at hz
    rw [Bool.and_eq_false_iff]; simp only [decide_eq_false_iff_not]; omega
theorem cntB_top {os : List Int} {c : Int} (h : ∀ z ∈ os, z < c) : cntB os c = (os.filter fun z => decide (0 ≤ z)).length := by
  unfold cntB
  congr 1
  apply List.filter_congr
  intro z hz
  rw [decide_eq_true (h z hz), Bool.and_true]
/-- .. of the first j. -/
def posTo (os : List Int) (j : Nat) : Nat := ((os.take j).filter fun z => decide (0 ≤ z)).length
theorem posTo_yes {os : List Int} {j : Nat} {x : Int} (hx : os[((j : Nat) : Int).toNat]? = some x) (h : 0 ≤ x) : posTo os (j + 1) = posTo os j + 1 := by
  unfold posTo; rw [take_at hx, List.filter_append, List.length_append, List.filter_cons, if_pos (by simpa using h)]; rfl
theorem posTo_no {os : List Int} {j : Nat} {x : Int} (hx : os[((j : Nat) : Int).toNat]? = some x) (h : ¬ 0 ≤ x) : posTo os (j + 1) = posTo os j := by
  unfold posTo; rw [take_at hx, List.filter_append, List.length_append, List.filter_cons, if_neg (by simpa using h)]; rfl
theorem posTo_le (os : List Int) (j : Nat) : posTo os j ≤ os.length := by
  unfold posTo
  have := List.length_filter_le (fun z => decide ((0 : Int) ≤ z)) (os.take j)
  rw [List.length_take] at this; omega
theorem once_end {its : List ItemL} {j : Nat} {c : Int} (hc : (its.length : Int) < c) (hj : (fromR its).length ≤ j) : ((cntB (fromR its) c : Nat) : Int) - ((posTo (fromR its) j : Nat) : Int) = 0 := by
  have : ∀ z ∈ fromR its, z < c := by
    intro z hz
    unfold fromR at hz
    obtain ⟨x, -, rfl⟩ := List.mem_map.1 hz
    have := (reads_facts (its := its) (x := x) rfl).2.2.2.1
    omega
  rw [cntB_top this]
  unfold posTo
  rw [List.take_of_length_le hj]; omega
theorem readsO_at {os : List Int} {t : Int} {j : Nat} {x : Int} (hx : (readsO os t os.length)[j]? = some x) : 0 ≤ x ∧ x < (os.length : Int) ∧ os[x.toNat]? = some t := by
  have hm := List.mem_of_getElem? hx
  unfold readsO at hm
  obtain ⟨i, hi, rfl⟩ := List.mem_map.1 hm
  rw [List.mem_filter, List.mem_range] at hi
  obtain ⟨h1, h2⟩ := hi
  simp only [Bool.and_eq_true, decide_eq_true_eq] at h2
  refine ⟨by omega, by omega, ?_⟩
  rw [Int.toNat_natCast, ← h2.1, List.getD_eq_getElem?_getD, List.getElem?_eq_getElem h1]; rfl
theorem readsO_rise (os : List Int) (t : Int) (m : Nat) : (readsO os t m).Pairwise (· < ·) := by
  unfold readsO
  rw [List.pairwise_map]
  exact (List.Pairwise.filter _ (List.pairwise_lt_range (n := m))).imp fun h => by omega
theorem readsO_less {os : List Int} {t : Int} {j : Nat} {x y : Int} (h0 : 0 < (j : Int)) (hx : (readsO os t os.length)[((j : Nat) : Int).toNat]? = some x) (hy : (readsO os t os.length)[(((j : Nat) : Int) - 1).toNat]? = some y) : decide (x ≤ y) = false := by
  have hp := readsO_rise os t os.length
  rw [List.pairwise_iff_getElem] at hp
  obtain ⟨h1, h2⟩ := List.getElem?_eq_some_iff.1 hx
  obtain ⟨h3, h4⟩ := List.getElem?_eq_some_iff.1 hy
  have := hp _ _ h3 h1 (by omega)
  rw [h2, h4] at this
  rw [decide_eq_false_iff_not]; omega
end Go.Ew
