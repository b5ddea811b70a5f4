/- Plain words: a word's bits from the lowest on; a row's list. -/
import Derived.Test.YtmhopljngkgidaaDoorEwSpecF
namespace Go.Ew
set_option linter.unusedVariables false

def listW (x : BitVec 64) : List Nat := (List.range 64).filter fun k => x.getLsbD k
def firstW (x : BitVec 64) : Nat := (listW x).headD 64
theorem filter_range_least {p : Nat → Bool} : ∀ (n : Nat), (∃ k < n, p k = true) → ∃ k, k < n ∧ p k = true ∧ (∀ j, j < k → p j = false) ∧ ∃ l, (List.range n).filter p = k :: l ∧ l = (List.range n).filter (fun i => p i && !decide (i = k))
  | 0, ⟨k, h, _⟩ => by omega
  | n + 1, h => by
    by_cases h1 : ∃ k < n, p k = true
    · obtain ⟨k, hk, hp, hl, l, e1, e2⟩ := filter_range_least n h1
      refine ⟨k, by omega, hp, hl, l ++ [n].filter p, ?_, ?_⟩
      · rw [List.range_succ, List.filter_append, e1]; rfl
      · rw [List.range_succ, List.filter_append, ← e2]
        congr 1
        have : ¬ n = k := by omega
        simp [List.filter_cons, this]
    · obtain ⟨k, hk, hp⟩ := h
      have hkn : k = n := by
        apply Classical.byContradiction
        intro hne
        exact h1 ⟨k, by omega, hp⟩
      subst hkn
      have hno : ∀ j, j < k → p j = false := by
        intro j hj
        cases hb : p j with
        | false => rfl
        | true => exact absurd ⟨j, hj, hb⟩ h1
      have hf : (List.range k).filter p = [] := by
        rw [List.filter_eq_nil_iff]
        intro j hj
        rw [List.mem_range] at hj
        simp [hno j hj]
      have hf2 : (List.range k).filter (fun i => p i && !decide (i = k)) = [] := by
        rw [List.filter_eq_nil_iff]
        intro j hj
        rw [List.mem_range] at hj
        simp [hno j hj]
      refine ⟨k, by omega, hp, hno, [], ?_, ?_⟩
      · rw [List.range_succ, List.filter_append, hf]; simp [hp]
      · rw [List.range_succ, List.filter_append, hf2]; simp
theorem bit_of_ne {x : BitVec 64} (h : x ≠ 0#64) : ∃ k < 64, x.getLsbD k = true := by
  apply Classical.byContradiction
  intro hn
  apply h
  apply BitVec.eq_of_getLsbD_eq
  intro i hi
  rw [BitVec.getLsbD_zero]
  cases hb : x.getLsbD i with
  | false => rfl
  | true => exact absurd ⟨i, hi, hb⟩ hn
theorem least {x : BitVec 64} (h : x ≠ 0#64) : ∃ l, firstW x < 64 ∧ x.getLsbD (firstW x) = true ∧ (∀ j, j < firstW x → x.getLsbD j = false) ∧ listW x = firstW x :: l ∧ l = (List.range 64).filter (fun i => x.getLsbD i && !decide (i = firstW x)) := by
  obtain ⟨k, hk, hp, hl, l, e1, e2⟩ := filter_range_least 64 (bit_of_ne h)
  have hf : firstW x = k := by unfold firstW listW; rw [e1]; rfl
  rw [hf]
  exact ⟨l, hk, hp, hl, e1, e2⟩
theorem below_iff {x : BitVec 64} {k : Nat} (hp : x.getLsbD k = true) (hl : ∀ j, j < k → x.getLsbD j = false) (i : Nat) : (∃ j, j < i ∧ x.getLsbD j = true) ↔ k < i := by
  constructor
  · rintro ⟨j, hj, h⟩
    rcases Nat.lt_or_ge k i with h1 | h1
    · exact h1
    · rw [hl j (by omega)] at h; cases h
  · intro h; exact ⟨k, h, hp⟩
theorem lowbit {x : BitVec 64} (h : x ≠ 0#64) : x &&& -x = 1#64 <<< firstW x := by
  obtain ⟨l, hk, hp, hl, -, -⟩ := least h
  apply BitVec.eq_of_getLsbD_eq
  intro i hi
  rw [BitVec.getLsbD_and, BitVec.getLsbD_neg, BitVec.getLsbD_shiftLeft]
  simp only [below_iff hp hl i]
  by_cases h1 : i = firstW x
  · subst h1; simp [hp, hk]
  · by_cases h2 : i < firstW x
    · simp [hl i h2, h2]
    · have h3 : firstW x < i := by omega
      have h4 : i - firstW x ≠ 0 := by omega
      cases hx : x.getLsbD i <;> simp [h2, h3, h4, hi]
theorem clear {x : BitVec 64} (h : x ≠ 0#64) : listW x = firstW x :: listW (x &&& (x - 1#64)) := by
  obtain ⟨l, hk, hp, hl, e1, e2⟩ := least h
  rw [e1, e2]
  congr 1
  unfold listW
  apply List.filter_congr
  intro i hi
  rw [List.mem_range] at hi
  have e : x - 1#64 = ~~~(-x) := by
    rw [BitVec.not_neg, BitVec.sub_eq_add_neg]
  rw [BitVec.getLsbD_and, e, BitVec.getLsbD_not, BitVec.getLsbD_neg]
  simp only [below_iff hp hl i]
  by_cases h1 : i = firstW x
  · subst h1; simp [hp, hk]
  · by_cases h2 : i < firstW x
    · simp [hl i h2]
    · have h3 : firstW x < i := by omega
      cases hx : x.getLsbD i <;> simp [h1, h3, hi]
theorem bruijn : ∀ k < 64, ((1#64 <<< k * 285870213051353865#64) >>> 58).toNat < 64 ∧ tabN.getD ((1#64 <<< k * 285870213051353865#64) >>> 58).toNat 0 = k := by decide +kernel
theorem zeros_lt {x : BitVec 64} (h : x ≠ 0#64) : (((x &&& -x) * 285870213051353865#64) >>> 58).toNat < 64 := by
  obtain ⟨l, hk, -⟩ := least h
  rw [lowbit h]; exact (bruijn _ hk).1
theorem zeros_eq {x : BitVec 64} (h : x ≠ 0#64) : ((tab8 (((x &&& -x) * 285870213051353865#64) >>> 58).toNat).toNat : Int) = ((firstW x : Nat) : Int) := by
  obtain ⟨l, hk, -⟩ := least h
  rw [tab8_nat (zeros_lt h), lowbit h, (bruijn _ hk).2]
theorem listW_zero : listW 0#64 = [] := by
  unfold listW
  rw [List.filter_eq_nil_iff]
  intro i _
  simp
theorem firstW_zero : firstW 0#64 = 64 := by unfold firstW; rw [listW_zero]; rfl
theorem firstW_le (x : BitVec 64) : firstW x ≤ 64 := by
  by_cases h : x = 0#64
  · subst h; rw [firstW_zero]; exact Nat.le_refl _
  · obtain ⟨l, hk, -⟩ := least h; omega
end Go.Ew
