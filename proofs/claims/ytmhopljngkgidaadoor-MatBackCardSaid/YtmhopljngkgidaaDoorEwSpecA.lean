/- Plain words: bits, words, rows. -/
import Derived.Test.YtmhopljngkgidaaDoorEngO
namespace Go.Ew
set_option linter.unusedVariables false

def bitB (i : Int) : BitVec 64 := if 0 ≤ i ∧ i ≤ 63 then 1#64 <<< i.toNat else 0#64
theorem ofInt_i64 {i : Int} (h : I64 i) : ((BitVec.ofInt 64 i).toNat : Int) = if 0 ≤ i then i else i + 18446744073709551616 := by
  rw [← wrap_u64_bv, IntKind.wrap_u64]; unfold I64 at h; split <;> omega
theorem bitB_hi {i : Int} (h : I64 i) (h1 : 63 < (BitVec.ofInt 64 i).toNat) : 0#64 = bitB i := by
  unfold bitB; rw [if_neg]; have := ofInt_i64 h; unfold I64 at h; split at this <;> omega
theorem bitB_lo {i : Int} (h : I64 i) (h1 : ¬ 63 < (BitVec.ofInt 64 i).toNat) : 1#64 <<< ((BitVec.ofInt 64 i).toNat : Int).toNat = bitB i := by
  have h2 := ofInt_i64 h
  unfold bitB; unfold I64 at h
  split at h2
  · rw [if_pos (by omega)]; congr 1; omega
  · omega
/-- Has a word a bit? -/
def hasW (w : BitVec 64) (i : Int) : Bool := decide (0 ≤ i) && w.getLsbD i.toNat
theorem and_bit (w : BitVec 64) (k : Nat) (hk : k < 64) : (w &&& 1#64 <<< k = 0#64) ↔ w.getLsbD k = false := by
  constructor
  · intro h
    have := congrArg (·.getLsbD k) h
    simpa [hk] using this
  · intro h
    apply BitVec.eq_of_getLsbD_eq
    intro j hj
    simp only [BitVec.getLsbD_and, BitVec.getLsbD_shiftLeft, BitVec.getLsbD_zero]
    by_cases hjk : j = k
    · subst hjk; simp [h]
    · by_cases hlt : j < k
      · simp [hlt]
      · have : j - k ≠ 0 := by omega
        simp [this]
theorem hasW_eq (w : BitVec 64) (i : Int) : (!decide (w &&& bitB i = 0#64)) = hasW w i := by
  unfold bitB hasW
  by_cases h : 0 ≤ i ∧ i ≤ 63
  · rw [if_pos h, Bool.eq_iff_iff]
    have := and_bit w i.toNat (by omega)
    simp [this, h.1]
  · rw [if_neg h]
    by_cases h0 : 0 ≤ i
    · have : w.getLsbD i.toNat = false := BitVec.getLsbD_of_ge w _ (by omega)
      simp [this]
    · simp [h0]
/-- A row of words; its bits. -/
abbrev Row := List (BitVec 64)
def hasR (r : Row) (i : Int) : Bool := decide (0 ≤ i) && (r.getD (i.toNat / 64) 0#64).getLsbD (i.toNat % 64)
def inR (r : Row) (i : Int) : Bool := decide (0 ≤ i ∧ i < 64 * (r.length : Int))
theorem inR_yes {r : Row} {i : Int} (h : 0 ≤ i) : decide (i / 64 < (r.length : Int)) = inR r i := by
  unfold inR; congr 1; apply propext; omega
theorem inR_no {r : Row} {i : Int} (h : i < 0) : false = inR r i := by
  unfold inR; simp; omega
theorem hasR_in {r : Row} {i : Int} (h : inR r i = true) {x : BitVec 64} (hx : r[(i / 64).toNat]? = some x) : hasW x (i % 64) = hasR r i := by
  unfold inR at h; simp only [decide_eq_true_eq] at h
  unfold hasW hasR
  have e1 : (i / 64).toNat = i.toNat / 64 := by omega
  have e2 : (i % 64).toNat = i.toNat % 64 := by omega
  rw [e1] at hx
  rw [e2, List.getD_eq_getElem?_getD, hx]
  simp [h.1, Int.emod_nonneg]
theorem hasR_out {r : Row} {i : Int} (h : inR r i = false) : false = hasR r i := by
  unfold inR at h; simp only [decide_eq_false_iff_not] at h
  unfold hasR
  by_cases h0 : 0 ≤ i
  · rw [List.getD_eq_getElem?_getD, List.getElem?_eq_none (by omega)]; simp
  · simp [h0]
def setR (r : Row) (i : Int) : Row := if inR r i then r.set (i.toNat / 64) (r.getD (i.toNat / 64) 0#64 ||| bitB (i % 64)) else r
theorem setR_in {r : Row} {i : Int} (h : inR r i = true) {x : BitVec 64} (hx : r[(i / 64).toNat]? = some x) : r.set (i / 64).toNat (x ||| bitB (i % 64)) = setR r i := by
  unfold setR; rw [if_pos h]
  unfold inR at h; simp only [decide_eq_true_eq] at h
  have e1 : (i / 64).toNat = i.toNat / 64 := by omega
  rw [e1] at hx
  rw [e1, List.getD_eq_getElem?_getD, hx]; rfl
theorem setR_out {r : Row} {i : Int} (h : inR r i = false) : r = setR r i := by
  unfold setR; rw [if_neg (by simp [h])]
end Go.Ew
