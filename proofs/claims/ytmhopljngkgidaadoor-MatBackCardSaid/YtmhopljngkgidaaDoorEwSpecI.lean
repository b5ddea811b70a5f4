/- Plain words: rows together; lists of rows the plain way. -/
import Derived.Test.YtmhopljngkgidaaDoorEwSpecH
namespace Go.Ew
set_option linter.unusedVariables false

def orAt (a b : Row) (i : Nat) : BitVec 64 := a.getD i 0#64 ||| b.getD i 0#64
def orR (a b : Row) : Row := (List.range (max a.length b.length)).map (orAt a b)
theorem orAt_comm (a b : Row) (i : Nat) : orAt a b i = orAt b a i := BitVec.or_comm _ _
theorem orR_comm (a b : Row) : orR a b = orR b a := by
  unfold orR
  rw [Nat.max_comm]
  exact List.map_congr_left fun i _ => orAt_comm a b i
theorem orR_length (a b : Row) : (orR a b).length = max a.length b.length := by unfold orR; simp
/-- The first j words are done; z: what stands in the others. -/
def orTo (m : Nat) (a b z : Row) (j : Nat) : Row := (List.range m).map fun i => if i < j then orAt a b i else z.getD i 0#64
theorem orTo_length (m : Nat) (a b z : Row) (j : Nat) : (orTo m a b z j).length = m := by unfold orTo; simp
theorem orTo_zero (a b z : Row) : z = orTo z.length a b z 0 := by
  apply List.ext_getElem
  · rw [orTo_length]
  · intro i h1 h2
    unfold orTo
    simp [List.getD_eq_getElem?_getD, h1]
theorem orTo_get {m : Nat} {a b z : Row} {j : Nat} {x : BitVec 64} (h : (orTo m a b z j)[((j : Nat) : Int).toNat]? = some x) : x = z.getD j 0#64 := by
  rw [Int.toNat_natCast] at h
  obtain ⟨h1, h2⟩ := List.getElem?_eq_some_iff.1 h
  rw [← h2]
  unfold orTo
  simp
theorem orTo_set {m : Nat} {a b z : Row} {j : Nat} {v : BitVec 64} (hv : v = orAt a b j) : (orTo m a b z j).set j v = orTo m a b z (j + 1) := by
  apply List.ext_getElem
  · simp [orTo_length]
  · intro i h1 h2
    have hm : i < m := by rw [orTo_length] at h2; exact h2
    rw [List.getElem_set]
    unfold orTo
    simp only [List.getElem_map, List.getElem_range]
    by_cases hij : j = i
    · subst hij; simp [hv]
    · have : (i < j + 1) ↔ (i < j) := by omega
      simp [hij, this]
theorem orTo_next {m : Nat} {a b z : Row} {j : Nat} (hz : z.getD j 0#64 = orAt a b j) : orTo m a b z j = orTo m a b z (j + 1) := by
  unfold orTo
  apply List.map_congr_left
  intro i _
  by_cases hij : i = j
  · subst hij; rw [if_neg (Nat.lt_irrefl _), if_pos (Nat.lt_succ_self _), hz]
  · have : (i < j + 1) ↔ (i < j) := by omega
    simp [this]
theorem orTo_all {a b z : Row} {j m : Nat} (hm : m = max a.length b.length) (h : ∀ i, j ≤ i → i < m → z.getD i 0#64 = orAt a b i) : orTo m a b z j = orR a b := by
  unfold orTo orR
  subst hm
  apply List.map_congr_left
  intro i hi
  rw [List.mem_range] at hi
  split
  · rfl
  · exact h i (by omega) hi
theorem orAt_left {a b : Row} {i : Nat} (h : b.length ≤ i) : a.getD i 0#64 = orAt a b i := by
  unfold orAt; rw [getD_out h, BitVec.or_zero]
theorem orAt_none {a b : Row} {i : Nat} (h1 : a.length ≤ i) (h : b.length ≤ i) : 0#64 = orAt a b i := by
  unfold orAt; rw [getD_out h, getD_out h1, BitVec.or_zero]

theorem orTo_rep (m : Nat) (a b : Row) : List.replicate m 0#64 = orTo m a b [] 0 := by
  apply List.ext_getElem
  · simp [orTo_length]
  · intro i h1 h2
    unfold orTo
    simp
/-! The list, asked bit by bit. -/
def listN (r : Row) (n : Nat) : List Int := ((List.range n).filter fun k => hasR r ((k : Nat) : Int)).map fun k => ((k : Nat) : Int)
theorem listN_succ_yes {r : Row} {n : Nat} (h : hasR r ((n : Nat) : Int) = true) : listN r (n + 1) = listN r n ++ [((n : Nat) : Int)] := by
  unfold listN; rw [List.range_succ, List.filter_append, List.map_append]; simp [h]
theorem listN_succ_no {r : Row} {n : Nat} (h : hasR r ((n : Nat) : Int) = false) : listN r (n + 1) = listN r n := by
  unfold listN; rw [List.range_succ, List.filter_append, List.map_append]; simp [h]
theorem listN_length (r : Row) (n : Nat) : (listN r n).length ≤ n := by
  unfold listN; rw [List.length_map]
  exact Nat.le_trans (List.length_filter_le _ _) (by simp)
theorem range_add_map (m k : Nat) : List.range (m + k) = List.range m ++ (List.range k).map (fun i => m + i) := by
  apply List.ext_getElem
  · simp
  · intro i h1 h2
    simp only [List.getElem_range]
    by_cases h : i < m
    · rw [List.getElem_append_left (by simpa using h)]; simp
    · rw [List.getElem_append_right (by simpa using h)]; simp; omega
theorem hasR_word (r : Row) (j k : Nat) (hk : k < 64) : hasR r (((64 * j + k : Nat) : Nat) : Int) = (r.getD j 0#64).getLsbD k := by
  unfold hasR
  rw [Int.toNat_natCast, show (64 * j + k) / 64 = j from by omega, show (64 * j + k) % 64 = k from by omega]
  simp only [Bool.and_eq_right_iff_imp, decide_eq_true_eq]
  intro _; omega
theorem listN_list (r : Row) : ∀ j, listN r (64 * j) = listTo r j
  | 0 => rfl
  | j + 1 => by
    rw [listTo_succ, ← listN_list r j, show 64 * (j + 1) = 64 * j + 64 from by omega]
    unfold listN intsW listW
    rw [range_add_map, List.filter_append, List.map_append]
    congr 1
    rw [List.filter_map, List.map_map]
    have e : (List.range 64).filter ((fun k => hasR r ((k : Nat) : Int)) ∘ fun i => 64 * j + i) = (List.range 64).filter fun k => (r.getD j 0#64).getLsbD k := by
      apply List.filter_congr
      intro k hk
      rw [List.mem_range] at hk
      exact hasR_word r j k hk
    rw [e]
    apply List.map_congr_left
    intro k _
    show ((64 * j + k : Nat) : Int) = (j : Int) * 64 + ((k : Nat) : Int)
    omega
theorem listN_all (r : Row) : listN r (64 * r.length) = listR r := listN_list r r.length
theorem listN_int {r : Row} {n : Nat} : ((n : Nat) : Int) < 64 * (r.length : Int) ↔ n < 64 * r.length := by omega
theorem cnt_filter (x : BitVec 64) : ∀ k, cntN x.toNat k = ((List.range k).filter fun i => x.getLsbD i).length
  | 0 => rfl
  | k + 1 => by
    rw [List.range_succ, List.filter_append, List.length_append, ← cnt_filter x k]
    show cntN x.toNat k + (x.toNat.testBit k).toNat = _
    congr 1
    show (x.getLsbD k).toNat = _
    cases h : x.getLsbD k <;> simp [h]
theorem countW_list (x : BitVec 64) : (listW x).length = countW x := by unfold listW countW; exact (cnt_filter x 64).symm
theorem listTo_count (r : Row) : ∀ j, j ≤ r.length → (listTo r j).length = countR (r.take j)
  | 0, _ => rfl
  | j + 1, h => by
    have hj : r[j]? = some r[j] := List.getElem?_eq_getElem (by omega)
    have hx : r[((j : Nat) : Int).toNat]? = some r[j] := hj
    rw [listTo_succ, List.length_append, listTo_count r j (by omega), countR_take hx, getD_at hx]
    unfold intsW
    rw [List.length_map, countW_list]
theorem listR_count (r : Row) : (listR r).length = countR r := by
  have := listTo_count r r.length (Nat.le_refl _)
  rw [List.take_length] at this
  exact this
theorem partW_iff (x y : BitVec 64) : partW x y = true ↔ ∀ k < 64, x.getLsbD k = true → y.getLsbD k = true := by
  unfold partW
  rw [decide_eq_true_eq]
  constructor
  · intro h k hk hx
    have := congrArg (·.getLsbD k) h
    simp only [BitVec.getLsbD_and, BitVec.getLsbD_not, BitVec.getLsbD_zero, hx, hk, decide_true, Bool.true_and, Bool.not_eq_false'] at this
    exact this
  · intro h
    apply BitVec.eq_of_getLsbD_eq
    intro k hk
    rw [BitVec.getLsbD_and, BitVec.getLsbD_not, BitVec.getLsbD_zero]
    cases hx : x.getLsbD k with
    | false => rfl
    | true => simp [hk, h k hk hx]
theorem mem_intsW {j : Nat} {x : BitVec 64} {i : Int} : i ∈ intsW j x ↔ ∃ k < 64, x.getLsbD k = true ∧ i = (j : Int) * 64 + ((k : Nat) : Int) := by
  unfold intsW listW
  simp only [List.mem_map, List.mem_filter, List.mem_range]
  constructor
  · rintro ⟨k, ⟨h1, h2⟩, rfl⟩; exact ⟨k, h1, h2, rfl⟩
  · rintro ⟨k, h1, h2, rfl⟩; exact ⟨k, ⟨h1, h2⟩, rfl⟩
theorem mem_listR {r : Row} {i : Int} : i ∈ listR r ↔ hasR r i = true := by
  unfold listR listTo
  simp only [List.mem_flatMap, List.mem_range, mem_intsW]
  constructor
  · rintro ⟨j, hj, k, hk, hx, rfl⟩
    have := hasR_word r j k hk
    rw [show (j : Int) * 64 + ((k : Nat) : Int) = ((64 * j + k : Nat) : Int) from by omega, this]; exact hx
  · intro h
    have hi := hasR_in_of h
    unfold inR at hi
    simp only [decide_eq_true_eq] at hi
    have hw := hasR_word r (i.toNat / 64) (i.toNat % 64) (by omega)
    rw [show (((64 * (i.toNat / 64) + i.toNat % 64 : Nat) : Nat) : Int) = i from by omega, h] at hw
    exact ⟨i.toNat / 64, by omega, i.toNat % 64, by omega, hw.symm, by omega⟩
theorem sub_has (a b : Row) : (listR a).all (hasR b) = subR a b := by
  rw [Bool.eq_iff_iff, List.all_eq_true]
  unfold subR subTo
  rw [List.all_eq_true]
  constructor
  · intro h j hj
    rw [List.mem_range] at hj
    unfold subAt
    rw [partW_iff]
    intro k hk hx
    rw [← hasR_word a j k hk] at hx
    rw [← hasR_word b j k hk]
    exact h _ (mem_listR.2 hx)
  · intro h i hi
    have hh := mem_listR.1 hi
    have hin := hasR_in_of hh
    unfold inR at hin
    simp only [decide_eq_true_eq] at hin
    have hj := h (i.toNat / 64) (by rw [List.mem_range]; omega)
    unfold subAt at hj
    rw [partW_iff] at hj
    have e : (((64 * (i.toNat / 64) + i.toNat % 64 : Nat) : Nat) : Int) = i := by omega
    have := hj (i.toNat % 64) (by omega) (by rw [← hasR_word a _ _ (by omega), e]; exact hh)
    rw [← hasR_word b _ _ (by omega), e] at this
    exact this
end Go.Ew
