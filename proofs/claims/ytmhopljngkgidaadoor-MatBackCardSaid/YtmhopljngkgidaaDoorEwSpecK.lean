/- Plain words and laws: a word's bits, low ones, sums (layer 1). -/
import Derived.Test.YtmhopljngkgidaaDoorEwSpecJ
import Derived.Test.YtmhopljngkgidaaDoorEngR
namespace Go.Ew
set_option linter.unusedVariables false
set_option linter.unusedSimpArgs false

theorem cntN_half (x : Nat) : ∀ k, cntN x (k + 1) = x % 2 + cntN (x / 2) k
  | 0 => by
    show cntN x 0 + _ = _
    simp only [cntN, Nat.testBit_zero]
    rcases Nat.mod_two_eq_zero_or_one x with h | h <;> simp [h]
  | k + 1 => by
    have ih := cntN_half x k
    show cntN x (k + 1) + (x.testBit (k + 1)).toNat = x % 2 + (cntN (x / 2) k + ((x / 2).testBit k).toNat)
    rw [ih, Nat.testBit_succ]; omega
theorem countW_half (y : BitVec 64) : countW y = (y % 2#64).toNat + countW (y / 2#64) := by
  have h := cntN_half y.toNat 63
  have hy := y.isLt
  unfold countW
  rw [h, BitVec.toNat_umod, BitVec.toNat_udiv]
  show y.toNat % 2 + cntN (y.toNat / 2) 63 = y.toNat % 2 + (cntN (y.toNat / 2) 63 + ((y.toNat / 2).testBit 63).toNat)
  have : (y.toNat / 2).testBit 63 = false := Nat.testBit_lt_two_pow (by omega)
  rw [this]; simp
theorem countW_zero : countW 0#64 = 0 := by decide +kernel
theorem half_less {y : BitVec 64} (h : 0 < y.toNat) : (y / 2#64).toNat < y.toNat := by
  rw [BitVec.toNat_udiv]
  show y.toNat / 2 < y.toNat
  omega
theorem count_step (w y : BitVec 64) : ((countW w : Nat) : Int) - ((countW y : Nat) : Int) + ((y % 2#64).toNat : Int) = ((countW w : Nat) : Int) - ((countW (y / 2#64) : Nat) : Int) := by
  have := countW_half y; omega
theorem count_end {w y : BitVec 64} (h : ¬ 0 < y.toNat) : ((countW w : Nat) : Int) - ((countW y : Nat) : Int) = ((countW w : Nat) : Int) := by
  have : y = 0#64 := BitVec.eq_of_toNat_eq (by simpa using h)
  rw [this, countW_zero]; omega

theorem hasW_nat (w : BitVec 64) (k : Nat) : hasW w ((k : Nat) : Int) = w.getLsbD k := by unfold hasW; simp
theorem first_hit {w : BitVec 64} {j : Nat} (h : hasW w ((j : Nat) : Int) = true) (hl : ∀ k, k < j → w.getLsbD k = false) : ((j : Nat) : Int) = ((firstW w : Nat) : Int) := by
  rw [hasW_nat] at h
  have hne : w ≠ 0#64 := by rintro rfl; simp at h
  obtain ⟨l, h1, h2, h3, -⟩ := least hne
  rcases Nat.lt_trichotomy j (firstW w) with h4 | h4 | h4
  · rw [h3 j h4] at h; cases h
  · omega
  · rw [hl _ h4] at h2; cases h2
theorem first_step {w : BitVec 64} {j : Nat} (hl : ∀ k, k < j → w.getLsbD k = false) (h : hasW w ((j : Nat) : Int) = false) : ∀ k, k < j + 1 → w.getLsbD k = false := by
  intro k hk
  rw [hasW_nat] at h
  rcases Nat.lt_succ_iff_lt_or_eq.1 hk with h1 | rfl
  · exact hl k h1
  · exact h
theorem first_miss {w : BitVec 64} {j : Nat} (hl : ∀ k, k < j → w.getLsbD k = false) (h : 64 ≤ j) : (64 : Int) = ((firstW w : Nat) : Int) := by
  have : w = 0#64 := by
    refine Classical.byContradiction fun hne => ?_
    obtain ⟨k, hk, hb⟩ := bit_of_ne hne
    rw [hl k (by omega)] at hb; cases hb
  rw [this, firstW_zero]; rfl
theorem first_has {w : BitVec 64} (h : w ≠ 0#64) : hasW w ((firstW w : Nat) : Int) = true := by
  obtain ⟨l, h1, h2, h3, -⟩ := least h
  rw [hasW_nat]; exact h2

theorem lowW_bit (k : Int) (i : Nat) : (lowW k).getLsbD i = (decide (i < 64) && decide ((i : Int) < k)) := by
  unfold lowW
  split
  · rw [show decide ((i : Int) < k) = false from decide_eq_false (by omega)]; simp
  · rename_i h
    rw [BitVec.getLsbD_ushiftRight, show (18446744073709551615#64 : BitVec 64) = BitVec.allOnes 64 from rfl, BitVec.getLsbD_allOnes, Bool.eq_iff_iff]
    simp only [decide_eq_true_eq, Bool.and_eq_true]
    omega
theorem bit_ext {x y : BitVec 64} (h : ∀ i, i < 64 → x.getLsbD i = y.getLsbD i) : x = y := BitVec.eq_of_getLsbD_eq h
theorem bitB_get {i : Int} (h0 : 0 ≤ i) (h : i ≤ 63) (k : Nat) (hk : k < 64) : (bitB i).getLsbD k = decide (k = i.toNat) := by
  rw [bitB_pow h0 h, BitVec.getLsbD_shiftLeft, BitVec.getLsbD_one, Bool.eq_iff_iff]
  simp only [Bool.and_eq_true, decide_eq_true_eq, Bool.not_eq_true', decide_eq_false_iff_not]
  omega
theorem hasW_range {w : BitVec 64} {i : Int} (h : hasW w i = true) : 0 ≤ i ∧ i ≤ 63 ∧ w.getLsbD i.toNat = true := by
  unfold hasW at h
  simp only [Bool.and_eq_true, decide_eq_true_eq] at h
  refine ⟨h.1, ?_, h.2⟩
  have := BitVec.lt_of_getLsbD h.2
  omega
theorem low_step {j : Nat} (h : j < 64) : lowW ((j : Nat) : Int) + bitB ((j : Nat) : Int) = lowW (((j + 1 : Nat) : Nat) : Int) := by
  have hn : hasW (lowW ((j : Nat) : Int)) ((j : Nat) : Int) = false := by rw [hasW_nat, lowW_bit]; simp
  rw [add_bit hn]
  refine bit_ext fun i hi => ?_
  rw [BitVec.getLsbD_or, lowW_bit, lowW_bit, bitB_get (by omega) (by omega) i hi, Bool.eq_iff_iff]
  simp only [Bool.or_eq_true, Bool.and_eq_true, decide_eq_true_eq]
  omega
theorem low_64 {k : Int} (h : 64 ≤ k) : lowW k = lowW 64 := by
  refine bit_ext fun i hi => ?_
  rw [lowW_bit, lowW_bit, Bool.eq_iff_iff]
  simp only [Bool.and_eq_true, decide_eq_true_eq]
  omega
theorem low_0 {k : Int} (h : k ≤ 0) : lowW k = lowW 0 := by rw [← lowW_no h]; rfl
theorem low_end {j : Nat} {n : Int} (hj : j ≤ 64) (hn : ((j : Nat) : Int) ≤ n ∨ j = 0) (h : ¬ ((j : Nat) : Int) < 64 ∨ ¬ ((j : Nat) : Int) < n) : lowW ((j : Nat) : Int) = lowW n := by
  by_cases h1 : ((j : Nat) : Int) < 64
  · rcases h with h | h
    · exact absurd h1 h
    · by_cases h2 : n ≤ 0
      · rw [low_0 h2, show j = 0 from by omega]; rfl
      · rw [show ((j : Nat) : Int) = n from by omega]
  · rw [low_64 (k := n) (by omega), show j = 64 from by omega]; rfl
theorem hasW_low {n k : Int} (h0 : 0 ≤ k) (h : k < 64) : hasW (lowW n) k = decide (k < n) := by
  unfold hasW
  rw [lowW_bit, Bool.eq_iff_iff]
  simp only [Bool.and_eq_true, decide_eq_true_eq]
  omega
theorem countW_low_nat : ∀ j : Nat, j ≤ 64 → countW (lowW ((j : Nat) : Int)) = j
  | 0, _ => by decide +kernel
  | j + 1, h => by
    have hn : hasW (lowW ((j : Nat) : Int)) ((j : Nat) : Int) = false := by rw [hasW_nat, lowW_bit]; simp
    rw [← low_step (by omega), add_bit hn, countW_or (by omega) (by rwa [hasW_nat] at hn), countW_low_nat j (by omega)]
theorem countW_low (n : Int) : ((countW (lowW n) : Nat) : Int) = min (max n 0) 64 := by
  by_cases h : n ≤ 0
  · rw [low_0 h]; have := countW_low_nat 0 (by omega); rw [show ((0 : Nat) : Int) = 0 from rfl] at this; rw [this]; omega
  · by_cases h2 : 64 ≤ n
    · rw [low_64 h2]; have := countW_low_nat 64 (by omega); rw [show ((64 : Nat) : Int) = 64 from rfl] at this; rw [this]; omega
    · have := countW_low_nat n.toNat (by omega)
      rw [show ((n.toNat : Nat) : Int) = n from by omega] at this
      rw [this]; omega

theorem mask_no {w : BitVec 64} {i : Int} (h : hasW w i = false) : w &&& lowW (i + 1) = w &&& lowW i := by
  refine bit_ext fun k hk => ?_
  rw [BitVec.getLsbD_and, BitVec.getLsbD_and, lowW_bit, lowW_bit]
  by_cases e : (k : Int) = i
  · subst e
    rw [hasW_nat] at h
    simp [h]
  · rw [show decide ((k : Int) < i + 1) = decide ((k : Int) < i) from by rw [decide_eq_decide]; omega]
theorem mask_yes {w : BitVec 64} {i : Int} (h : hasW w i = true) : w &&& lowW (i + 1) = (w &&& lowW i) + bitB i ∧ countW (w &&& lowW (i + 1)) = countW (w &&& lowW i) + 1 := by
  obtain ⟨h0, h1, h2⟩ := hasW_range h
  have hn : hasW (w &&& lowW i) i = false := by unfold hasW; rw [BitVec.getLsbD_and, lowW_bit]; simp; omega
  have e : w &&& lowW (i + 1) = (w &&& lowW i) ||| bitB i := by
    refine bit_ext fun k hk => ?_
    rw [BitVec.getLsbD_or, BitVec.getLsbD_and, BitVec.getLsbD_and, lowW_bit, lowW_bit, bitB_get h0 h1 k hk]
    by_cases ek : k = i.toNat
    · subst ek
      rw [h2, Bool.eq_iff_iff]; simp; omega
    · rw [show decide ((k : Int) < i + 1) = decide ((k : Int) < i) from by rw [decide_eq_decide]; omega]
      simp [ek]
  refine ⟨by rw [e, add_bit hn], ?_⟩
  rw [e]
  have : bitB i = bitB ((i.toNat : Nat) : Int) := by rw [show ((i.toNat : Nat) : Int) = i from by omega]
  rw [this]
  refine countW_or (by omega) ?_
  unfold hasW at hn
  simpa [h0] using hn
theorem next_i (j : Nat) : (((j + 1 : Nat) : Nat) : Int) - 1 = ((j : Int) - 1) + 1 := by omega
theorem mask_u_no {w : BitVec 64} {j : Nat} (h : hasW w ((j : Int) - 1) = false) : w &&& lowW ((j : Int) - 1) = w &&& lowW ((((j + 1 : Nat) : Nat) : Int) - 1) := by rw [next_i]; exact (mask_no h).symm
theorem mask_u_yes {w : BitVec 64} {j : Nat} (h : hasW w ((j : Int) - 1) = true) : (w &&& lowW ((j : Int) - 1)) + bitB ((j : Int) - 1) = w &&& lowW ((((j + 1 : Nat) : Nat) : Int) - 1) := by rw [next_i]; exact (mask_yes h).1.symm
theorem mask_i_no {w : BitVec 64} {j : Nat} (h : hasW w ((j : Int) - 1) = false) : ((countW (w &&& lowW ((j : Int) - 1)) : Nat) : Int) = ((countW (w &&& lowW ((((j + 1 : Nat) : Nat) : Int) - 1)) : Nat) : Int) := by rw [← mask_u_no h]
theorem mask_i_yes {w : BitVec 64} {j : Nat} (h : hasW w ((j : Int) - 1) = true) : ((countW (w &&& lowW ((j : Int) - 1)) : Nat) : Int) + 1 = ((countW (w &&& lowW ((((j + 1 : Nat) : Nat) : Int) - 1)) : Nat) : Int) := by
  rw [next_i, (mask_yes h).2]; omega
theorem mask_start (x : BitVec 64) : x &&& lowW (((0 : Nat) : Int) - 1) = 0#64 := by rw [← lowW_no (k := ((0 : Nat) : Int) - 1) (by omega)]; simp
theorem count_start (x : BitVec 64) : (0 : Int) = ((countW (x &&& lowW (((0 : Nat) : Int) - 1)) : Nat) : Int) := by rw [mask_start, countW_zero]; rfl
theorem mask_all {w : BitVec 64} {k : Int} (h : 64 ≤ k) : w &&& lowW k = w := by
  refine bit_ext fun i hi => ?_
  rw [BitVec.getLsbD_and, lowW_bit, show decide ((i : Int) < k) = true from decide_eq_true (by omega)]; simp [hi]
theorem mask_first {w : BitVec 64} (h : w ≠ 0#64) : w &&& lowW ((firstW w : Nat) : Int) = 0#64 := by
  obtain ⟨l, h1, h2, h3, -⟩ := least h
  refine bit_ext fun i hi => ?_
  rw [BitVec.getLsbD_and, lowW_bit]
  by_cases e : i < firstW w
  · rw [h3 i e]; simp
  · rw [show decide ((i : Int) < ((firstW w : Nat) : Int)) = false from decide_eq_false (by omega)]; simp
end Go.Ew
