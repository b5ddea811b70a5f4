/- Plain words: rows and their bits. -/
import Derived.Test.YtmhopljngkgidaaDoorEwSpecI
namespace Go.Ew
set_option linter.unusedVariables false

theorem hasR_neg (r : Row) {i : Int} (h : i < 0) : hasR r i = false := (hasR_no (by omega)).symm
theorem hasR_nat (r : Row) (n : Nat) : hasR r ((n : Nat) : Int) = (r.getD (n / 64) 0#64).getLsbD (n % 64) := by
  unfold hasR; rw [Int.toNat_natCast]; simp
theorem hasR_setR {r : Row} {i k : Int} : hasR (setR r i) k = (hasR r k || (decide (k = i) && inR r i)) := by
  cases h : inR r i with
  | false => rw [← setR_out h]; simp
  | true =>
    by_cases hk : k = i
    · subst hk; rw [hasR_set_self, h]; simp
    · simp only [hk, decide_false, Bool.false_and, Bool.or_false]
      by_cases hk0 : k < 0
      · rw [hasR_neg _ hk0, hasR_neg _ hk0]
      · obtain ⟨n, rfl⟩ : ∃ n : Nat, k = ((n : Nat) : Int) := ⟨k.toNat, by omega⟩
        have h' := h
        unfold inR at h'; simp only [decide_eq_true_eq] at h'
        rw [hasR_nat, hasR_nat]
        by_cases hw : n / 64 < r.length
        · rw [setR_get h _ hw]
          split
          · rename_i e
            rw [or_bit_get _ _ _ (by omega) (by omega)]
            have : ¬ n % 64 = i.toNat % 64 := by omega
            simp [this]
          · rfl
        · rw [getD_out (by rw [setR_length]; omega), getD_out (by omega)]
theorem row_ext {a b : Row} (hl : a.length = b.length) (h : ∀ n : Nat, hasR a ((n : Nat) : Int) = hasR b ((n : Nat) : Int)) : a = b := by
  apply List.ext_getElem hl
  intro j h1 h2
  apply BitVec.eq_of_getLsbD_eq
  intro k hk
  have e1 := hasR_word a j k hk
  have e2 := hasR_word b j k hk
  rw [h, e2, List.getD_eq_getElem?_getD, List.getD_eq_getElem?_getD, List.getElem?_eq_getElem h1, List.getElem?_eq_getElem h2] at e1
  simpa using e1.symm
theorem foldl_setR_length : ∀ (l : List Int) (r : Row), (l.foldl setR r).length = r.length
  | [], _ => rfl
  | i :: l, r => by rw [List.foldl_cons, foldl_setR_length l, setR_length]
theorem foldl_setR_has : ∀ (l : List Int) (r : Row) (k : Int), hasR (l.foldl setR r) k = (hasR r k || (l.any fun i => decide (k = i) && inR r i))
  | [], r, k => by simp
  | i :: l, r, k => by
    rw [List.foldl_cons, foldl_setR_has l, hasR_setR]
    simp only [inR_set, List.any_cons, Bool.or_assoc]
theorem words_mul (n : Nat) : words (64 * ((n : Nat) : Int)) = n := by unfold words; omega
theorem newR_has (n k : Int) : hasR (newR n) k = false := by
  by_cases hk : k < 0
  · exact hasR_neg _ hk
  · obtain ⟨m, rfl⟩ : ∃ m : Nat, k = ((m : Nat) : Int) := ⟨k.toNat, by omega⟩
    rw [hasR_nat]
    unfold newR
    rw [List.getD_eq_getElem?_getD]
    by_cases h : m / 64 < words n
    · simp [List.getElem?_replicate, h]
    · simp [List.getElem?_replicate, h]
theorem setAll (a : Row) : (listR a).foldl setR (newR (64 * (a.length : Int))) = a := by
  have hl : (newR (64 * (a.length : Int))).length = a.length := by rw [newR_length, words_mul]
  apply row_ext
  · rw [foldl_setR_length, hl]
  · intro n
    rw [foldl_setR_has, newR_has, Bool.false_or, Bool.eq_iff_iff, List.any_eq_true]
    constructor
    · rintro ⟨i, hi, h⟩
      simp only [Bool.and_eq_true, decide_eq_true_eq] at h
      rw [h.1]; exact mem_listR.1 hi
    · intro h
      have hin := hasR_in_of h
      refine ⟨_, mem_listR.2 h, ?_⟩
      unfold inR at hin ⊢
      rw [hl]
      simpa using hin
theorem listR_rise (a : Row) : (listR a).Pairwise (· < ·) := by
  rw [← listN_all]
  unfold listN
  rw [List.pairwise_map]
  refine List.Pairwise.filter _ (List.Pairwise.imp ?_ List.pairwise_lt_range)
  intro x y h; omega
theorem rise_at {a : Row} {j : Nat} {x y : Int} (h0 : 0 < (j : Int)) (hx : (listR a)[((j : Nat) : Int).toNat]? = some x) (hy : (listR a)[(((j : Nat) : Int) - 1).toNat]? = some y) : decide (x ≤ y) = false := by
  rw [decide_eq_false_iff_not]
  rw [Int.toNat_natCast] at hx
  obtain ⟨h1, rfl⟩ := List.getElem?_eq_some_iff.1 hx
  obtain ⟨h2, rfl⟩ := List.getElem?_eq_some_iff.1 hy
  have := List.pairwise_iff_getElem.1 (listR_rise a) _ _ h2 h1 (by omega)
  omega
theorem subR_iff {a b : Row} : subR a b = true ↔ ∀ i, hasR a i = true → hasR b i = true := by
  rw [← sub_has, List.all_eq_true]
  constructor
  · intro h i hi; exact h i (mem_listR.2 hi)
  · intro h i hi; exact h i (mem_listR.1 hi)
theorem hasR_or (a b : Row) (i : Int) : hasR (orR a b) i = (hasR a i || hasR b i) := by
  by_cases hk : i < 0
  · rw [hasR_neg _ hk, hasR_neg _ hk, hasR_neg _ hk]; rfl
  · obtain ⟨n, rfl⟩ : ∃ n : Nat, i = ((n : Nat) : Int) := ⟨i.toNat, by omega⟩
    rw [hasR_nat, hasR_nat, hasR_nat]
    by_cases h : n / 64 < max a.length b.length
    · have : (orR a b).getD (n / 64) 0#64 = orAt a b (n / 64) := by
        rw [List.getD_eq_getElem?_getD, List.getElem?_eq_getElem (by rw [orR_length]; exact h)]
        unfold orR
        simp
      rw [this, orAt, BitVec.getLsbD_or]
    · rw [getD_out (by rw [orR_length]; omega), getD_out (by omega), getD_out (by omega)]; simp
theorem subR_or (a b : Row) : subR a (orR a b) = true := subR_iff.2 fun i h => by rw [hasR_or, h]; rfl
theorem subR_or' (a b : Row) : subR b (orR a b) = true := subR_iff.2 fun i h => by rw [hasR_or, h]; simp
theorem listN_more (r : Row) : ∀ m, listN r (64 * r.length + m) = listN r (64 * r.length)
  | 0 => rfl
  | m + 1 => by
    rw [← Nat.add_assoc, listN_succ_no, listN_more r m]
    exact (hasR_no (by omega)).symm
theorem countR_upto (r : Row) {n : Nat} (h : 64 * r.length ≤ n) : countR r = ((List.range n).filter fun k => hasR r ((k : Nat) : Int)).length := by
  obtain ⟨m, rfl⟩ : ∃ m, n = 64 * r.length + m := ⟨n - 64 * r.length, by omega⟩
  have h1 := congrArg List.length (listN_more r m)
  rw [listN_all, listR_count] at h1
  rw [← h1]; unfold listN; rw [List.length_map]
theorem filter_or_length {α : Type} (p q : α → Bool) : ∀ l : List α, (l.filter q).length ≤ (l.filter fun x => p x || q x).length ∧ ((l.filter fun x => p x || q x).length = (l.filter q).length ↔ ∀ x ∈ l, p x = true → q x = true)
  | [] => by simp
  | x :: l => by
    obtain ⟨h1, h2⟩ := filter_or_length p q l
    cases hp : p x <;> cases hq : q x <;> simp [List.filter_cons, hp, hq] <;> (constructor <;> first | omega | (constructor <;> intro h <;> first | exact h2.1 (by omega) | (have := h2.2 h; omega)) | skip)
theorem sub_count (a b : Row) : (subR a b == decide (((countR (orR a b) : Nat) : Int) = ((countR b : Nat) : Int))) = true := by
  have hA := countR_upto (orR a b) (n := 64 * max a.length b.length) (by rw [orR_length]; exact Nat.le_refl _)
  have hB := countR_upto b (n := 64 * max a.length b.length) (by omega)
  have e : (fun k : Nat => hasR (orR a b) ((k : Nat) : Int)) = fun k : Nat => hasR a ((k : Nat) : Int) || hasR b ((k : Nat) : Int) := by funext k; exact hasR_or _ _ _
  rw [e] at hA
  obtain ⟨-, h2⟩ := filter_or_length (fun k : Nat => hasR a ((k : Nat) : Int)) (fun k : Nat => hasR b ((k : Nat) : Int)) (List.range (64 * max a.length b.length))
  rw [beq_iff_eq, Bool.eq_iff_iff, decide_eq_true_eq, subR_iff]
  constructor
  · intro h
    have := h2.2 fun k _ hk => h _ hk
    omega
  · intro h i hi
    have hin := hasR_in_of hi
    unfold inR at hin
    simp only [decide_eq_true_eq] at hin
    have := h2.1 (by omega) i.toNat (by rw [List.mem_range]; omega)
    rw [show ((i.toNat : Nat) : Int) = i from by omega] at this
    exact this hi
theorem or_both {m j : Nat} {a b xs : Row} {x0 x2 x3 : BitVec 64} (hs : xs = orTo m a b [] j) (ha : a[((j : Nat) : Int).toNat]? = some x0) (h2 : (xs.set ((j : Nat) : Int).toNat x0)[((j : Nat) : Int).toNat]? = some x2) (hb : b[((j : Nat) : Int).toNat]? = some x3) :
    (xs.set ((j : Nat) : Int).toNat x0).set ((j : Nat) : Int).toNat (x2 ||| x3) = orTo m a b [] (j + 1) := by
  have e2 : x2 = x0 := by
    have hl : ((j : Nat) : Int).toNat < xs.length := by
      have := (List.getElem?_eq_some_iff.1 h2).1
      simpa using this
    rw [List.getElem?_set_self hl] at h2
    exact (Option.some.inj h2).symm
  rw [List.set_set, e2, hs, Int.toNat_natCast]
  exact orTo_set (by unfold orAt; rw [getD_at ha, getD_at hb])
theorem or_left {m j : Nat} {a b xs : Row} {x0 : BitVec 64} (hs : xs = orTo m a b [] j) (ha : a[((j : Nat) : Int).toNat]? = some x0) (hb : b.length ≤ j) : xs.set ((j : Nat) : Int).toNat x0 = orTo m a b [] (j + 1) := by
  rw [hs, Int.toNat_natCast]
  exact orTo_set (by rw [← getD_at ha]; exact orAt_left hb)
theorem or_right {m j : Nat} {a b xs : Row} {x1 x2 : BitVec 64} (hs : xs = orTo m a b [] j) (ha : a.length ≤ j) (h1 : xs[((j : Nat) : Int).toNat]? = some x1) (hb : b[((j : Nat) : Int).toNat]? = some x2) : xs.set ((j : Nat) : Int).toNat (x1 ||| x2) = orTo m a b [] (j + 1) := by
  have e1 := orTo_get (hs ▸ h1)
  rw [hs, Int.toNat_natCast]
  refine orTo_set ?_
  unfold orAt
  rw [e1, getD_at hb, getD_out ha]
  simp
theorem or_none {m j : Nat} {a b xs : Row} (hs : xs = orTo m a b [] j) (ha : a.length ≤ j) (hb : b.length ≤ j) : xs = orTo m a b [] (j + 1) := by
  rw [hs]
  refine orTo_next ?_
  rw [← orAt_none ha hb]
  simp
end Go.Ew
