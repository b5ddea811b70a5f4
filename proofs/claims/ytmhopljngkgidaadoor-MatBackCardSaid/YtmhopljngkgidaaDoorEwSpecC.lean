/- Plain words: rows: counting, parts, setting. -/
import Derived.Test.YtmhopljngkgidaaDoorEwSpecB
namespace Go.Ew
set_option linter.unusedVariables false

def countR (r : Row) : Nat := (r.map countW).sum
theorem countR_take {r : Row} {k : Nat} {x : BitVec 64} (h : r[((k : Nat) : Int).toNat]? = some x) : countR (r.take (k + 1)) = countR (r.take k) + countW x := by
  rw [take_at h]; simp [countR]
theorem countR_take_int {r : Row} {k : Nat} {x : BitVec 64} (h : r[((k : Nat) : Int).toNat]? = some x) : ((countR (r.take k) : Nat) : Int) + ((countW x : Nat) : Int) = ((countR (r.take (k + 1)) : Nat) : Int) := by
  rw [countR_take h]; omega
theorem countR_le (r : Row) : countR r ≤ 64 * r.length := by
  unfold countR
  induction r with
  | nil => simp
  | cons x r ih => have := countW_le x; simp; omega
def partW (x y : BitVec 64) : Bool := decide (x &&& ~~~y = 0#64)
/-- Is a row part of another one? -/
def subAt (a b : Row) (i : Nat) : Bool := partW (a.getD i 0#64) (b.getD i 0#64)
def subTo (a b : Row) (k : Nat) : Bool := (List.range k).all (subAt a b)
def subR (a b : Row) : Bool := subTo a b a.length
theorem subTo_step {a b : Row} {k : Nat} (h : subTo a b k = true) (h1 : subAt a b k = true) : subTo a b (k + 1) = true := by
  unfold subTo at *; rw [List.range_succ, List.all_append, h]; simpa using h1
theorem subR_no {a b : Row} {k : Nat} (hk : k < a.length) (h1 : subAt a b k = false) : false = subR a b := by
  symm; unfold subR subTo
  rw [List.all_eq_false]
  exact ⟨k, by simpa using hk, by simp [h1]⟩
theorem getD_at {r : Row} {k : Nat} {x : BitVec 64} (h : r[((k : Nat) : Int).toNat]? = some x) : r.getD k 0#64 = x := by
  rw [Int.toNat_natCast] at h; rw [List.getD_eq_getElem?_getD, h]; rfl
theorem getD_out {r : Row} {k : Nat} (h : r.length ≤ k) : r.getD k 0#64 = 0#64 := by
  rw [List.getD_eq_getElem?_getD, List.getElem?_eq_none h]; rfl
theorem subAt_in {a b : Row} {k : Nat} {x y : BitVec 64} (hx : a[((k : Nat) : Int).toNat]? = some x) (hy : b[((k : Nat) : Int).toNat]? = some y) : subAt a b k = decide (x &&& ~~~y = 0#64) := by
  unfold subAt partW; rw [getD_at hx, getD_at hy]
theorem subAt_out {a b : Row} {k : Nat} {x : BitVec 64} (hx : a[((k : Nat) : Int).toNat]? = some x) (hy : b.length ≤ k) : subAt a b k = decide (x = 0#64) := by
  unfold subAt partW; rw [getD_at hx, getD_out hy, show ~~~(0#64) = BitVec.allOnes 64 from rfl, BitVec.and_allOnes]
def sameTo (a b : Row) (k : Nat) : Prop := a.take k = b.take k
theorem take_eq_step {α : Type} {a b : List α} {k : Nat} {x y : α} (h : a.take k = b.take k) (hx : a[((k : Nat) : Int).toNat]? = some x) (hy : b[((k : Nat) : Int).toNat]? = some y) (e : x = y) : a.take (k + 1) = b.take (k + 1) := by
  rw [take_at hx, take_at hy, h, e]
theorem ne_of_at {α : Type} {a b : List α} {k : Nat} {x y : α} (hx : a[((k : Nat) : Int).toNat]? = some x) (hy : b[((k : Nat) : Int).toNat]? = some y) (e : ¬ x = y) : a ≠ b := by
  rintro rfl; rw [hx] at hy; exact e (Option.some.inj hy)
theorem eq_of_take {α : Type} {a b : List α} {k : Nat} (hl : a.length = b.length) (h : a.take k = b.take k) (hk : a.length ≤ k) : a = b := by
  rwa [List.take_of_length_le hk, List.take_of_length_le (by omega)] at h
def words (n : Int) : Nat := ((max n 0 + 63) / 64).toNat
def newR (n : Int) : Row := List.replicate (words n) 0#64

/-! Setting a bit. -/
theorem cntN_congr {x y : Nat} : ∀ k, (∀ j, j < k → x.testBit j = y.testBit j) → cntN x k = cntN y k
  | 0, _ => rfl
  | k + 1, h => by simp only [cntN]; rw [cntN_congr k fun j hj => h j (by omega), h k (by omega)]
theorem cntN_set {x y : Nat} {i : Nat} (hi : x.testBit i = false) (hy : y.testBit i = true) (h : ∀ j, j ≠ i → x.testBit j = y.testBit j) : ∀ k, i < k → cntN y k = cntN x k + 1
  | 0, h => by omega
  | k + 1, hk => by
    simp only [cntN]
    by_cases hik : i = k
    · subst hik
      rw [cntN_congr i fun j hj => (h j (by omega)).symm, hi, hy]; rfl
    · rw [cntN_set hi hy h k (by omega), h k (fun e => hik e.symm)]; omega
theorem or_bit_get (x : BitVec 64) (i j : Nat) (hi : i < 64) (hj : j < 64) : (x ||| bitB (i : Int)).getLsbD j = (x.getLsbD j || decide (j = i)) := by
  unfold bitB
  rw [if_pos (by omega), BitVec.getLsbD_or, BitVec.getLsbD_shiftLeft, Int.toNat_natCast]
  congr 1
  by_cases h : j = i
  · subst h; simp [hi]
  · by_cases h2 : j < i
    · simp [h, h2]
    · have : j - i ≠ 0 := by omega
      simp [h, h2, this, hj]
theorem or_bit_had {x : BitVec 64} {i : Nat} (hi : i < 64) (h : x.getLsbD i = true) : x ||| bitB (i : Int) = x := by
  apply BitVec.eq_of_getLsbD_eq
  intro j hj
  rw [or_bit_get _ _ _ hi hj]
  by_cases e : j = i
  · subst e; simp [h]
  · simp [e]
theorem countW_or {x : BitVec 64} {i : Nat} (hi : i < 64) (h : x.getLsbD i = false) : countW (x ||| bitB (i : Int)) = countW x + 1 := by
  unfold countW
  refine cntN_set (i := i) h ?_ ?_ 64 hi
  · have := or_bit_get x i i hi hi
    simp only [decide_true, Bool.or_true] at this
    exact this
  · intro j hj
    by_cases h64 : j < 64
    · have := or_bit_get x i j hi h64
      rw [decide_eq_false hj, Bool.or_false] at this
      exact this.symm
    · have e1 : x.getLsbD j = false := BitVec.getLsbD_of_ge _ _ (by omega)
      have e2 : (x ||| bitB (i : Int)).getLsbD j = false := BitVec.getLsbD_of_ge _ _ (by omega)
      exact e1.trans e2.symm
theorem setR_length (r : Row) (i : Int) : (setR r i).length = r.length := by unfold setR; split <;> simp
theorem inR_set (r : Row) (i j : Int) : inR (setR r i) j = inR r j := by unfold inR; rw [setR_length]
theorem setR_get {r : Row} {i : Int} (h : inR r i = true) (k : Nat) (hk : k < r.length) : (setR r i).getD k 0#64 = if k = i.toNat / 64 then r.getD k 0#64 ||| bitB ((i.toNat % 64 : Nat) : Int) else r.getD k 0#64 := by
  unfold setR; rw [if_pos h]
  unfold inR at h; simp only [decide_eq_true_eq] at h
  have e : i % 64 = ((i.toNat % 64 : Nat) : Int) := by omega
  simp only [List.getD_eq_getElem?_getD]
  by_cases hk2 : k = i.toNat / 64
  · subst hk2
    rw [List.getElem?_set_self hk, if_pos rfl, e]; rfl
  · rw [List.getElem?_set_ne (fun e => hk2 e.symm), if_neg hk2]
theorem hasR_set_self {r : Row} {i : Int} : hasR (setR r i) i = inR r i := by
  by_cases h : inR r i = true
  · have h' := h
    unfold inR at h'; simp only [decide_eq_true_eq] at h'
    have hm : i.toNat % 64 < 64 := Nat.mod_lt _ (by decide)
    rw [h]; unfold hasR
    rw [setR_get h _ (by omega), if_pos rfl, or_bit_get _ _ _ hm hm]
    simp [h'.1]
  · have h2 : inR (setR r i) i = false := by rw [inR_set]; simpa using h
    rw [← hasR_out h2]; simpa using h
theorem hasR_in_of {r : Row} {i : Int} (h : hasR r i = true) : inR r i = true := by
  cases h1 : inR r i with
  | true => rfl
  | false => rw [← hasR_out h1] at h; cases h
theorem setR_had {r : Row} {i : Int} (h : hasR r i = true) : setR r i = r := by
  have hi := hasR_in_of h
  have h' := hi
  unfold inR at h'; simp only [decide_eq_true_eq] at h'
  have hm : i.toNat % 64 < 64 := Nat.mod_lt _ (by decide)
  apply List.ext_getElem (setR_length _ _)
  intro k h1 h2
  have := setR_get hi k h2
  rw [List.getD_eq_getElem?_getD, List.getD_eq_getElem?_getD, List.getElem?_eq_getElem h1, List.getElem?_eq_getElem h2] at this
  simp only [Option.getD_some] at this
  rw [this]
  split
  · rename_i e
    refine or_bit_had hm ?_
    unfold hasR at h
    simp only [Bool.and_eq_true, decide_eq_true_eq] at h
    have h3 := h.2
    rw [← e, List.getD_eq_getElem?_getD, List.getElem?_eq_getElem h2] at h3
    exact h3
  · rfl
theorem setR_twice (r : Row) (i : Int) : setR (setR r i) i = setR r i := by
  cases h : inR r i with
  | true => exact setR_had (by rw [hasR_set_self]; exact h)
  | false => have e := setR_out h; rw [← e, ← e]
theorem countR_set {r : Row} {k : Nat} {x y : BitVec 64} (h : r[k]? = some x) : countR (r.set k y) + countW x = countR r + countW y := by
  unfold countR
  induction r generalizing k with
  | nil => simp at h
  | cons z r ih =>
    cases k with
    | zero => simp at h; subst h; simp; omega
    | succ k => simp at h; have := ih h; simp only [List.set_cons_succ, List.map_cons, List.sum_cons]; omega
theorem countR_setR {r : Row} {i : Int} (h : inR r i = true) (hn : hasR r i = false) : countR (setR r i) = countR r + 1 := by
  have h' := h
  unfold inR at h'; simp only [decide_eq_true_eq] at h'
  have hm : i.toNat % 64 < 64 := Nat.mod_lt _ (by decide)
  have hk : i.toNat / 64 < r.length := by omega
  have hx : r[i.toNat / 64]? = some r[i.toNat / 64] := List.getElem?_eq_getElem hk
  have hg : r.getD (i.toNat / 64) 0#64 = r[i.toNat / 64] := by rw [List.getD_eq_getElem?_getD, hx]; rfl
  have e : i % 64 = ((i.toNat % 64 : Nat) : Int) := by omega
  have hb : r[i.toNat / 64].getLsbD (i.toNat % 64) = false := by
    unfold hasR at hn
    rw [hg] at hn
    simpa [h'.1] using hn
  unfold setR
  rw [if_pos h, hg, e]
  have := countR_set (y := r[i.toNat / 64] ||| bitB ((i.toNat % 64 : Nat) : Int)) hx
  rw [countW_or hm hb] at this
  omega
theorem part_self (x y : BitVec 64) : x &&& ~~~(x ||| y) = 0#64 := by
  apply BitVec.eq_of_getLsbD_eq
  intro j hj
  rw [BitVec.getLsbD_and, BitVec.getLsbD_not, BitVec.getLsbD_or, BitVec.getLsbD_zero]
  cases x.getLsbD j <;> simp
theorem part_refl (x : BitVec 64) : x &&& ~~~x = 0#64 := by simp
theorem subR_set (r : Row) (i : Int) : subR r (setR r i) = true := by
  unfold subR subTo
  rw [List.all_eq_true]
  intro k hk
  have hk : k < r.length := by simpa using hk
  unfold subAt partW
  rw [decide_eq_true_eq]
  cases h : inR r i with
  | true =>
    rw [setR_get h k hk]
    split
    · exact part_self _ _
    · exact part_refl _
  | false => rw [← setR_out h]; exact part_refl _
/-- What RowOne says. -/
theorem rowOne_count {r : Row} {k : Int} (hk : 0 ≤ k) : ((countR (setR r k) : Nat) : Int) = if k < 64 * (r.length : Int) ∧ hasR r k = false then ((countR r : Nat) : Int) + 1 else ((countR r : Nat) : Int) := by
  by_cases h : k < 64 * (r.length : Int)
  · have hin : inR r k = true := by unfold inR; simp [hk, h]
    cases hh : hasR r k with
    | false => rw [if_pos ⟨h, rfl⟩, countR_setR hin hh]; omega
    | true => rw [if_neg (by simp), setR_had hh]
  · have hout : inR r k = false := by unfold inR; simp; omega
    rw [if_neg (fun e => h e.1), ← setR_out hout]
end Go.Ew
