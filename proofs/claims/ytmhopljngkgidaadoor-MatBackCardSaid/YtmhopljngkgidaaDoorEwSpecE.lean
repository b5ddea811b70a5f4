/- Plain words: the reference's way with bits and rows. -/
import Derived.Test.YtmhopljngkgidaaDoorEwSpecD
namespace Go.Ew
set_option linter.unusedVariables false

theorem shl_step (j : Nat) : (1#64 <<< j) * 2#64 = 1#64 <<< (j + 1) := by
  rw [show (2#64) = BitVec.twoPow 64 1 from rfl, BitVec.mul_twoPow_eq_shiftLeft, ← BitVec.shiftLeft_add]
theorem bitB_pow {i : Int} (h0 : 0 ≤ i) (h : i ≤ 63) : bitB i = 1#64 <<< i.toNat := by unfold bitB; rw [if_pos ⟨h0, h⟩]
theorem bitB_out {i : Int} (h : ¬ (0 ≤ i ∧ i ≤ 63)) : bitB i = 0#64 := by unfold bitB; rw [if_neg h]
theorem bitB_toNat {i : Int} (h0 : 0 ≤ i) (h : i ≤ 63) : (bitB i).toNat = 2 ^ i.toNat := by
  rw [bitB_pow h0 h, BitVec.toNat_shiftLeft, BitVec.toNat_ofNat, Nat.shiftLeft_eq]
  have h1 : i.toNat < 64 := by omega
  have : 2 ^ i.toNat < 2 ^ 64 := Nat.pow_lt_pow_right (by decide) h1
  rw [Nat.mod_eq_of_lt (a := 1) (by decide), Nat.one_mul, Nat.mod_eq_of_lt this]
theorem bitB_ne {i : Int} (h : ¬ bitB i = 0#64) : 0 ≤ i ∧ i ≤ 63 := by
  by_cases h1 : 0 ≤ i ∧ i ≤ 63
  · exact h1
  · exact absurd (bitB_out h1) h
theorem hasW_quo {w : BitVec 64} {i : Int} (h : ¬ bitB i = 0#64) : decide (w / bitB i % 2#64 = 1#64) = hasW w i := by
  obtain ⟨h0, h1⟩ := bitB_ne h
  unfold hasW
  rw [Bool.eq_iff_iff, decide_eq_true_eq, Bool.and_eq_true, decide_eq_true_eq]
  have e : w.getLsbD i.toNat = true ↔ w.toNat / 2 ^ i.toNat % 2 = 1 := by
    rw [BitVec.getLsbD, Nat.testBit_eq_decide_div_mod_eq, decide_eq_true_eq]
  rw [e]
  have e2 : (w / bitB i % 2#64).toNat = w.toNat / 2 ^ i.toNat % 2 := by
    rw [BitVec.toNat_umod, BitVec.toNat_udiv, bitB_toNat h0 h1]; rfl
  constructor
  · intro h2
    rw [h2] at e2
    exact ⟨h0, e2.symm⟩
  · rintro ⟨-, h2⟩
    apply BitVec.eq_of_toNat_eq
    rw [e2, h2]; rfl
theorem hasW_zero {w : BitVec 64} {i : Int} (h : bitB i = 0#64) : false = hasW w i := by
  unfold hasW
  by_cases h1 : 0 ≤ i ∧ i ≤ 63
  · have h2 := bitB_toNat h1.1 h1.2
    rw [h] at h2
    have : 0 < 2 ^ i.toNat := Nat.pow_pos (by decide)
    simp only [BitVec.toNat_ofNat, Nat.zero_mod] at h2; omega
  · by_cases h0 : 0 ≤ i
    · have : w.getLsbD i.toNat = false := BitVec.getLsbD_of_ge w _ (by omega)
      simp [this]
    · simp [h0]
/-- A bit that is not there may be added. -/
theorem add_bit {x : BitVec 64} {i : Int} (h : hasW x i = false) : x + bitB i = x ||| bitB i := by
  have e : x &&& bitB i = 0#64 := by
    have := hasW_eq x i
    rw [h] at this
    simpa using this
  exact BitVec.add_eq_or_of_and_eq_zero x (bitB i) e
theorem inR_64 {r : Row} {i : Int} (h0 : 0 ≤ i) : decide (i < 64 * (r.length : Int)) = inR r i := by unfold inR; simp [h0]
theorem inR_of {r : Row} {i : Int} (h0 : 0 ≤ i) (h : i < 64 * (r.length : Int)) : inR r i = true := by unfold inR; simp [h0, h]
theorem inR_not {r : Row} {i : Int} (h : ¬ (0 ≤ i ∧ i < 64 * (r.length : Int))) : inR r i = false := by unfold inR; simp; omega
theorem hasR_of {r : Row} {i : Int} (h0 : 0 ≤ i) (h : i < 64 * (r.length : Int)) {x : BitVec 64} (hx : r[(i / 64).toNat]? = some x) : hasW x (i % 64) = hasR r i := hasR_in (inR_of h0 h) hx
theorem hasR_no {r : Row} {i : Int} (h : ¬ (0 ≤ i ∧ i < 64 * (r.length : Int))) : false = hasR r i := hasR_out (inR_not h)
theorem setR_no {r : Row} {i : Int} (h : ¬ (0 ≤ i ∧ i < 64 * (r.length : Int))) : r = setR r i := setR_out (inR_not h)
theorem setR_add {r : Row} {i : Int} (h0 : 0 ≤ i) (h : i < 64 * (r.length : Int)) (hn : hasR r i = false) {x : BitVec 64} (hx : r[(i / 64).toNat]? = some x) : r.set (i / 64).toNat (x + bitB (i % 64)) = setR r i := by
  rw [add_bit (by rw [hasR_of h0 h hx]; exact hn), setR_in (inR_of h0 h) hx]
theorem words_pos {n : Int} (h : 0 ≤ n) : ((words n : Nat) : Int) = (n + 63) / 64 := by unfold words; omega
theorem words_neg {n : Int} (h : n < 0) : ((words n : Nat) : Int) = 0 := by unfold words; omega
end Go.Ew
