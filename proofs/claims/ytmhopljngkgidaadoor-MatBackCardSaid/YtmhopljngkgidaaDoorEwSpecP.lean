/- Plain words: rows and matrices that are told by what they have. -/
import Derived.Test.YtmhopljngkgidaaDoorEwSpecJ
namespace Go.Ew
set_option linter.unusedVariables false
set_option linter.unusedSimpArgs false

/-- The row of so many bits that has just those of p. -/
def rowP (n : Nat) (p : Nat → Bool) : Row := (((List.range n).filter p).map fun k => ((k : Nat) : Int)).foldl setR (newR ((n : Nat) : Int))
theorem words_nat (n : Nat) : words ((n : Nat) : Int) = (n + 63) / 64 := by unfold words; omega
theorem rowP_len (n : Nat) (p : Nat → Bool) : (rowP n p).length = words ((n : Nat) : Int) := by unfold rowP; rw [foldl_setR_length, newR_length]
theorem inR_newR {n : Nat} {i : Int} (h0 : 0 ≤ i) (h : i < ((n : Nat) : Int)) : inR (newR ((n : Nat) : Int)) i = true := inR_of h0 (by rw [newR_length, words_nat]; omega)
theorem rowP_has (n : Nat) (p : Nat → Bool) (i : Int) : hasR (rowP n p) i = (decide (0 ≤ i) && decide (i < ((n : Nat) : Int)) && p i.toNat) := by
  unfold rowP
  rw [foldl_setR_has, newR_has, Bool.false_or, Bool.eq_iff_iff]
  simp only [List.any_eq_true, List.mem_map, List.mem_filter, List.mem_range, Bool.and_eq_true, decide_eq_true_eq]
  constructor
  · rintro ⟨z, ⟨k, ⟨hk, hp⟩, rfl⟩, rfl, -⟩
    exact ⟨⟨by omega, by omega⟩, by simpa using hp⟩
  · rintro ⟨⟨h0, h1⟩, hp⟩
    exact ⟨i, ⟨i.toNat, ⟨by omega, hp⟩, by omega⟩, rfl, inR_newR h0 h1⟩
theorem row_is {r : Row} {n : Nat} {p : Nat → Bool} (hl : r.length = words ((n : Nat) : Int)) (h : ∀ k : Nat, hasR r ((k : Nat) : Int) = (decide (k < n) && p k)) : r = rowP n p := by
  refine row_ext (by rw [hl, rowP_len]) fun k => ?_
  rw [h, rowP_has]
  simp
theorem rowP_congr {n : Nat} {p q : Nat → Bool} (h : ∀ k, k < n → p k = q k) : rowP n p = rowP n q :=
  row_is (rowP_len n p) fun k => by
    rw [rowP_has]
    by_cases hk : k < n
    · simp [hk, h k hk]
    · simp [hk]
theorem rowP_eq {n : Nat} {p q : Nat → Bool} (h : rowP n p = rowP n q) : ∀ k, k < n → p k = q k := by
  intro k hk
  have := congrArg (fun r => hasR r ((k : Nat) : Int)) h
  simpa [rowP_has, hk] using this
theorem newR_rowP (n : Nat) : newR ((n : Nat) : Int) = rowP n fun _ => false := row_is (newR_length _) fun k => by rw [newR_has]; simp
theorem setR_rowP {n : Nat} {p : Nat → Bool} {j : Int} (h0 : 0 ≤ j) (h1 : j < ((n : Nat) : Int)) : setR (rowP n p) j = rowP n fun k => p k || decide (k = j.toNat) := by
  refine row_is (by rw [setR_length, rowP_len]) fun k => ?_
  rw [hasR_setR, rowP_has]
  have hin : inR (rowP n p) j = true := inR_of h0 (by rw [rowP_len, words_nat]; omega)
  rw [hin, Bool.and_true, Bool.eq_iff_iff]
  simp only [Bool.or_eq_true, Bool.and_eq_true, decide_eq_true_eq, Int.toNat_natCast]
  constructor
  · rintro (⟨⟨h2, h3⟩, h4⟩ | h2)
    · exact ⟨by omega, .inl h4⟩
    · exact ⟨by omega, .inr (by omega)⟩
  · rintro ⟨h2, h3 | h3⟩
    · exact .inl ⟨⟨by omega, by omega⟩, h3⟩
    · exact .inr (by omega)

/-- The matrix that has just the pairs of p. -/
def matP (n : Nat) (p : Nat → Nat → Bool) : Rows := (List.range n).map fun i => rowP n (p i)
theorem matP_len (n : Nat) (p : Nat → Nat → Bool) : (matP n p).length = n := by unfold matP; simp
theorem matP_at {n : Nat} {p : Nat → Nat → Bool} {i : Nat} {x : Row} (h : (matP n p)[i]? = some x) : i < n ∧ x = rowP n (p i) := by
  unfold matP at h
  rw [List.getElem?_map] at h
  cases hr : (List.range n)[i]? with
  | none => rw [hr] at h; cases h
  | some k =>
    rw [hr] at h
    obtain ⟨h1, h2⟩ := List.getElem?_eq_some_iff.1 hr
    simp at h1 h2
    subst h2
    exact ⟨h1, (Option.some.inj h).symm⟩
theorem matP_get {n : Nat} {p : Nat → Nat → Bool} {i : Nat} (h : i < n) : (matP n p)[i]? = some (rowP n (p i)) := by
  unfold matP; rw [List.getElem?_map, List.getElem?_range h]; rfl
theorem mat_is {rs : Rows} {n : Nat} {p : Nat → Nat → Bool} (hl : rs.length = n) (h : ∀ i, i < n → rs[i]? = some (rowP n (p i))) : rs = matP n p := by
  apply List.ext_getElem?
  intro i
  by_cases hi : i < n
  · rw [h i hi, matP_get hi]
  · rw [List.getElem?_eq_none (by omega), List.getElem?_eq_none (by rw [matP_len]; omega)]
theorem matP_congr {n : Nat} {p q : Nat → Nat → Bool} (h : ∀ i j, i < n → j < n → p i j = q i j) : matP n p = matP n q :=
  mat_is (matP_len n p) fun i hi => by rw [matP_get hi, rowP_congr fun j hj => h i j hi hj]
theorem matP_eq {n : Nat} {p q : Nat → Nat → Bool} (h : matP n p = matP n q) : ∀ i j, i < n → j < n → p i j = q i j := by
  intro i j hi hj
  have h1 := matP_get (p := p) hi
  rw [h, matP_get hi] at h1
  exact (rowP_eq (Option.some.inj h1) j hj).symm
theorem newM_matP (n : Nat) : newM ((n : Nat) : Int) = matP n fun _ _ => false := by
  refine mat_is (by rw [newM_length]; simp) fun i hi => ?_
  unfold newM
  rw [List.getElem?_replicate, if_pos (by simpa using hi), newR_rowP]
theorem newM_matP' {z : Int} (h : 0 ≤ z) : newM z = matP z.toNat fun _ _ => false := by
  have := newM_matP z.toNat
  rwa [Int.toNat_of_nonneg h] at this
theorem matP_set {n : Nat} {p : Nat → Nat → Bool} {i : Nat} {q : Nat → Bool} : (matP n p).set i (rowP n q) = matP n fun a b => if a = i then q b else p a b := by
  refine mat_is (by rw [List.length_set, matP_len]) fun k hk => ?_
  rw [List.getElem?_set]
  by_cases e : i = k
  · subst e
    rw [if_pos rfl, if_pos (by rw [matP_len]; exact hk)]
    congr 1
    exact rowP_congr fun j _ => by simp
  · rw [if_neg e, matP_get hk]
    congr 1
    exact rowP_congr fun j _ => by rw [if_neg fun e2 => e e2.symm]
theorem rowAt_matP {n : Nat} {p : Nat → Nat → Bool} {i : Int} (h0 : 0 ≤ i) (h : i < ((n : Nat) : Int)) : rowAt (matP n p) i = rowP n (p i.toNat) := rowAt_of (matP_get (by omega))
theorem setM_matP {n : Nat} {p : Nat → Nat → Bool} {i j : Int} (hi : inM ((n : Nat) : Int) [i, j] = true) : setM (matP n p) (i, j) = matP n fun a b => p a b || (decide (a = i.toNat) && decide (b = j.toNat)) := by
  obtain ⟨⟨h1, h2⟩, h3, h4⟩ := inM_two.1 hi
  unfold setM
  dsimp only
  rw [rowAt_matP h1 h2, setR_rowP h3 h4, matP_set]
  refine matP_congr fun a b ha hb => ?_
  by_cases e : a = i.toNat
  · subst e; simp
  · simp [e]
theorem hasM_matP {n : Nat} {p : Nat → Nat → Bool} {i j : Int} : hasM ((n : Nat) : Int) (matP n p) i j = (inM ((n : Nat) : Int) [i, j] && p i.toNat j.toNat) := by
  unfold hasM
  cases h : inM ((n : Nat) : Int) [i, j] with
  | false => rfl
  | true =>
    obtain ⟨⟨h1, h2⟩, h3, h4⟩ := inM_two.1 h
    rw [rowAt_matP h1 h2, rowP_has, decide_eq_true h3, decide_eq_true h4]; rfl
theorem setMR_matP {n : Nat} {p : Nat → Nat → Bool} {i j : Int} (hi : inM ((n : Nat) : Int) [i, j] = true) : setMR ((n : Nat) : Int) (matP n p) i j = matP n fun a b => p a b || (decide (a = i.toNat) && decide (b = j.toNat)) := by
  rw [(set_yes hi).2.1, setM_matP hi]
theorem inM_nat {n i j : Nat} : inM ((n : Nat) : Int) [((i : Nat) : Int), ((j : Nat) : Int)] = (decide (i < n) && decide (j < n)) := by
  rw [inM_eq, Bool.eq_iff_iff]
  simp only [Bool.and_eq_true, decide_eq_true_eq]
  omega
theorem hasM_nat {n : Nat} {p : Nat → Nat → Bool} {i j : Nat} (hi : i < n) (hj : j < n) : hasM ((n : Nat) : Int) (matP n p) ((i : Nat) : Int) ((j : Nat) : Int) = p i j := by
  rw [hasM_matP, inM_nat]; simp [hi, hj]
/-- Rows of the right size. -/
theorem matP_rows {n : Nat} {p : Nat → Nat → Bool} : ∀ x ∈ matP n p, x.length = words ((n : Nat) : Int) := by
  intro x hx
  obtain ⟨i, hi⟩ := List.mem_iff_getElem?.1 hx
  rw [(matP_at hi).2, rowP_len]
theorem matP_small {n : Nat} {p : Nat → Nat → Bool} (h : n ≤ 4096) : ∀ x ∈ matP n p, x.length ≤ 1000000000 := by
  intro x hx
  rw [matP_rows x hx, words_nat]; omega
end Go.Ew
