/- Plain words and laws: what a matrix is told by the document; session order's pairs (layers 3, 4, 12). -/
import Derived.Test.YtmhopljngkgidaaDoorOwnA
import Derived.Laws.CopyRow
import Derived.JoinedCond
namespace Go.Ew
set_option linter.unusedVariables false
set_option linter.unusedSimpArgs false
def rowOk (n : Int) (r : Row) : Bool := decide (((r.length : Nat) : Int) = ((words n : Nat) : Int)) && (List.range (64 * r.length)).all fun k => decide (((k : Nat) : Int) < n) || !hasR r ((k : Nat) : Int)
def rightS (n : Int) (rs : Rows) : Bool := okN n && decide (((rs.length : Nat) : Int) = n) && rs.all (rowOk n)
theorem rightS_no {n : Int} {rs : Rows} (h : ¬ (0 ≤ n ∧ n ≤ 4096 ∧ ((rs.length : Nat) : Int) = n)) : false = rightS n rs := by
  unfold rightS
  by_cases h1 : okN n = true
  · have := okN_iff.1 h1
    rw [show decide (((rs.length : Nat) : Int) = n) = false from decide_eq_false (by omega)]; simp
  · rw [show okN n = false from by simpa using h1]; rfl
theorem rowOk_len {n : Int} {r : Row} (h : ¬ ((r.length : Nat) : Int) = ((words n : Nat) : Int)) : rowOk n r = false := by unfold rowOk; rw [decide_eq_false h]; rfl
theorem rowOk_bit {n : Int} {r : Row} {k : Int} (h0 : 0 ≤ k) (h1 : n ≤ k) (h2 : k < 64 * ((r.length : Nat) : Int)) (hb : hasR r k = true) : rowOk n r = false := by
  unfold rowOk
  rw [Bool.and_eq_false_iff]
  right
  rw [List.all_eq_false]
  refine ⟨k.toNat, List.mem_range.2 (by omega), ?_⟩
  rw [show ((k.toNat : Nat) : Int) = k from by omega, hb, decide_eq_false (by omega)]; simp
theorem rowOk_yes {n : Int} {r : Row} {j : Int} (hl : ((r.length : Nat) : Int) = ((words n : Nat) : Int)) (h : ∀ k : Int, n ≤ k → k < j → hasR r k = false) (hj : 64 * ((r.length : Nat) : Int) ≤ j) : rowOk n r = true := by
  unfold rowOk
  rw [decide_eq_true hl, Bool.true_and, List.all_eq_true]
  intro k hk
  have := List.mem_range.1 hk
  by_cases hn : ((k : Nat) : Int) < n
  · rw [decide_eq_true hn]; rfl
  · rw [h _ (by omega) (by omega)]; simp
theorem right_row {n : Int} {rs : Rows} {i : Nat} {x : Row} (hx : rs[i]? = some x) (h : rowOk n x = false) : false = rightS n rs := by
  unfold rightS; rw [all_no hx h]; simp
theorem right_end_ {n : Int} {rs : Rows} {j : Nat} (h0 : 0 ≤ n) (h1 : n ≤ 4096) (h2 : ((rs.length : Nat) : Int) = n) (hs : (rs.take j).all (rowOk n) = true) (hj : rs.length ≤ j) : true = rightS n rs := by
  unfold rightS; rw [take_end hj] at hs; rw [okN_iff.2 ⟨h0, h1⟩, decide_eq_true h2, hs]; rfl
theorem right_matP {n : Nat} {p : Nat → Nat → Bool} (h : n ≤ 4096) : rightS ((n : Nat) : Int) (matP n p) = true := by
  refine (right_end_ (j := (matP n p).length) (by omega) (by omega) (by rw [matP_len]) ?_ (Nat.le_refl _)).symm
  rw [List.take_length, List.all_eq_true]
  intro x hx
  obtain ⟨i, hi⟩ := List.mem_iff_getElem?.1 hx
  obtain ⟨h1, rfl⟩ := matP_at hi
  refine rowOk_yes (j := 64 * (((rowP n (p i)).length : Nat) : Int)) (by rw [rowP_len]) (fun k hk hk2 => ?_) (Int.le_refl _)
  rw [rowP_has, decide_eq_false (show ¬ k < ((n : Nat) : Int) from by omega)]; simp
def rowsP (rs : Rows) (i : Nat) : List (Int × Int) := (listR (rowAt rs ((i : Nat) : Int))).map fun j => (((i : Nat) : Int), j)
def pairsTo (rs : Rows) (i : Nat) : List (Int × Int) := (List.range i).flatMap (rowsP rs)
def pairsM (n : Int) (rs : Rows) : List (Int × Int) := pairsTo rs n.toNat
theorem pairsTo_step (rs : Rows) (i : Nat) : pairsTo rs (i + 1) = pairsTo rs i ++ rowsP rs i := by unfold pairsTo; rw [List.range_succ, List.flatMap_append]; simp
theorem listR_rowP (n : Nat) (q : Nat → Bool) : listR (rowP n q) = ((List.range n).filter q).map fun k => ((k : Nat) : Int) := by
  rw [← listN_all]
  unfold listN
  congr 1
  have hl := rowP_len n q
  rw [words_nat] at hl
  have e : 64 * (rowP n q).length = n + (64 * (rowP n q).length - n) := by omega
  rw [e, range_add_map, List.filter_append]
  have e2 : ((List.range (64 * (rowP n q).length - n)).map fun i => n + i).filter (fun k => hasR (rowP n q) ((k : Nat) : Int)) = [] := by
    rw [List.filter_eq_nil_iff]
    intro k hk
    obtain ⟨i, -, rfl⟩ := List.mem_map.1 hk
    rw [rowP_has, decide_eq_false (show ¬ (((n + i : Nat) : Nat) : Int) < ((n : Nat) : Int) from by omega)]; simp
  rw [e2, List.append_nil]
  apply List.filter_congr
  intro k hk
  have := List.mem_range.1 hk
  rw [rowP_has]
  simp [this]
theorem rowsP_matP {n : Nat} {p : Nat → Nat → Bool} {i : Nat} (h : i < n) : rowsP (matP n p) i = ((List.range n).filter (p i)).map fun j => (((i : Nat) : Int), ((j : Nat) : Int)) := by
  unfold rowsP
  rw [rowAt_matP (by omega) (by omega), Int.toNat_natCast, listR_rowP, List.map_map]; rfl
theorem mem_pairs {n : Nat} {p : Nat → Nat → Bool} {z : Int × Int} : z ∈ pairsM ((n : Nat) : Int) (matP n p) ↔ ∃ a b, a < n ∧ b < n ∧ p a b = true ∧ z = (((a : Nat) : Int), ((b : Nat) : Int)) := by
  unfold pairsM pairsTo
  rw [List.mem_flatMap]
  constructor
  · rintro ⟨a, ha, hz⟩
    have ha := List.mem_range.1 ha
    rw [Int.toNat_natCast] at ha
    rw [rowsP_matP ha] at hz
    obtain ⟨b, hb, rfl⟩ := List.mem_map.1 hz
    rw [List.mem_filter, List.mem_range] at hb
    exact ⟨a, b, ha, hb.1, hb.2, rfl⟩
  · rintro ⟨a, b, ha, hb, hp, rfl⟩
    refine ⟨a, List.mem_range.2 (by simpa using ha), ?_⟩
    rw [rowsP_matP ha]
    exact List.mem_map.2 ⟨b, List.mem_filter.2 ⟨List.mem_range.2 hb, hp⟩, rfl⟩
def rowSum (n : Nat) (p : Nat → Nat → Bool) : Nat := ((List.range n).map fun a => ((List.range n).filter (p a)).length).sum
theorem pairs_len {n : Nat} {p : Nat → Nat → Bool} : (pairsM ((n : Nat) : Int) (matP n p)).length = rowSum n p := by
  unfold pairsM pairsTo rowSum
  rw [List.length_flatMap, Int.toNat_natCast]
  congr 1
  apply List.map_congr_left
  intro a ha
  rw [rowsP_matP (List.mem_range.1 ha), List.length_map]
theorem pairs_small {n : Nat} {p : Nat → Nat → Bool} : (pairsM ((n : Nat) : Int) (matP n p)).length ≤ n * n := by
  rw [pairs_len]; unfold rowSum
  have : ∀ l : List Nat, (l.map fun a => ((List.range n).filter (p a)).length).sum ≤ l.length * n := by
    intro l
    induction l with
    | nil => simp
    | cons a l ih =>
      have h1 := List.length_filter_le (p a) (List.range n)
      rw [List.length_range] at h1
      simp only [List.map_cons, List.sum_cons, List.length_cons, Nat.add_mul, Nat.one_mul]; omega
  have h := this (List.range n)
  rwa [List.length_range] at h
theorem rowsP_len {rs : Rows} (hr : ∀ x ∈ rs, x.length ≤ 64) (i : Nat) : (rowsP rs i).length ≤ 4096 := by
  unfold rowsP
  rw [List.length_map]
  have h1 := listR_length (rowAt rs ((i : Nat) : Int))
  have : (rowAt rs ((i : Nat) : Int)).length ≤ 64 := by
    unfold rowAt
    rw [List.getD_eq_getElem?_getD]
    cases h : rs[((i : Nat) : Int).toNat]? with
    | none => simp
    | some x => exact hr x (List.mem_of_getElem? h)
  omega
theorem pairsTo_len {rs : Rows} (hr : ∀ x ∈ rs, x.length ≤ 64) : ∀ i, (pairsTo rs i).length ≤ 4096 * i
  | 0 => by simp [pairsTo]
  | i + 1 => by
    have := pairsTo_len hr i
    have := rowsP_len hr i
    rw [pairsTo_step, List.length_append]; omega
theorem rowsP_of {rs : Rows} {i : Nat} {x : Row} (hx : rs[((i : Nat) : Int).toNat]? = some x) : rowsP rs i = (listR x).map fun j => (((i : Nat) : Int), j) := by unfold rowsP; rw [rowAt_of hx]
theorem pair_step {rs : Rows} {i q : Nat} {x : Row} {y : Int} (hy : (listR x)[((q : Nat) : Int).toNat]? = some y) : (pairsTo rs i ++ ((listR x).take q).map fun j => (((i : Nat) : Int), j)) ++ [(((i : Nat) : Int), y)] = pairsTo rs i ++ ((listR x).take (q + 1)).map fun j => (((i : Nat) : Int), j) := by
  rw [take_at hy, List.map_append, List.append_assoc]; rfl
theorem pair_row {rs : Rows} {i q : Nat} {x : Row} (hx : rs[((i : Nat) : Int).toNat]? = some x) (hq : (listR x).length ≤ q) : (pairsTo rs i ++ ((listR x).take q).map fun j => (((i : Nat) : Int), j)) = pairsTo rs (i + 1) := by
  rw [take_end hq, pairsTo_step, rowsP_of hx]
theorem pairs_end {rs : Rows} {n : Int} {i : Nat} (h : n ≤ ((i : Nat) : Int)) (hi : ((i : Nat) : Int) ≤ n ∨ i = 0) : pairsTo rs i = pairsM n rs := by
  unfold pairsM; rw [show n.toNat = i from by omega]
theorem past_at {its : List ItemL} (o : OrdI its) {t : Int} (h0 : 0 ≤ t) (h : t < (its.length : Int)) {q : Nat} {x : Int} (hx : (pastA its t)[q]? = some x) : 0 ≤ x ∧ x ≤ t ∧ x < (its.length : Int) ∧ sesN its x.toNat = sesN its t.toNat ∧ plcN its x.toNat = ((q : Nat) : Int) ∧ x = t - plcN its t.toNat + ((q : Nat) : Int) := by
  obtain ⟨b1, b2⟩ := o.back t.toNat (by omega)
  have b0 := o.nonneg t.toNat (by omega)
  unfold pastA at hx
  rw [if_pos ⟨h0, h⟩, List.getElem?_map] at hx
  cases hr : (List.range ((plcN its t.toNat).toNat + 1))[q]? with
  | none => rw [hr] at hx; cases hx
  | some k =>
    rw [hr] at hx
    obtain ⟨h1, h2⟩ := List.getElem?_eq_some_iff.1 hr
    simp only [List.length_range] at h1
    rw [List.getElem_range] at h2
    subst h2
    have hx : (t - plcN its t.toNat) + ((q : Nat) : Int) = x := Option.some.inj hx
    have hs := b2 x.toNat (by omega) (by omega)
    refine ⟨by omega, by omega, by omega, hs, ?_, hx.symm⟩
    have := o.place (t.toNat - x.toNat) x.toNat (by omega) (by rw [show x.toNat + (t.toNat - x.toNat) = t.toNat from by omega]; exact hs)
    rw [show x.toNat + (t.toNat - x.toNat) = t.toNat from by omega] at this
    omega
theorem matP_64 {n : Nat} {p : Nat → Nat → Bool} (h : n ≤ 4096) : ∀ x ∈ matP n p, x.length ≤ 64 := by
  intro x hx
  obtain ⟨i, hi⟩ := List.getElem?_of_mem hx
  obtain ⟨-, rfl⟩ := matP_at hi
  have h1 := rowP_len n (p i)
  have := words_le (n := ((n : Nat) : Int)) (by omega)
  omega
end Go.Ew
namespace Go.Ew
set_option linter.unusedVariables false
set_option linter.unusedSimpArgs false
theorem rowOk_is {n : Nat} {r : Row} (h : rowOk ((n : Nat) : Int) r = true) : r = rowP n fun k => hasR r ((k : Nat) : Int) := by
  unfold rowOk at h
  rw [Bool.and_eq_true, decide_eq_true_eq, List.all_eq_true] at h
  refine row_is (by omega) fun k => ?_
  by_cases hk : k < n
  · simp [hk]
  · rw [decide_eq_false hk, Bool.false_and]
    by_cases h2 : k < 64 * r.length
    · have := h.2 k (List.mem_range.2 h2)
      rw [decide_eq_false (show ¬ ((k : Nat) : Int) < ((n : Nat) : Int) from by omega), Bool.false_or] at this
      simpa using this
    · exact (hasR_out (by unfold inR; exact decide_eq_false (by omega))).symm
theorem right_is {n : Int} {rs : Rows} (h : rightS n rs = true) : ∃ (m : Nat) (p : Nat → Nat → Bool), n = ((m : Nat) : Int) ∧ m ≤ 4096 ∧ rs = matP m p := by
  unfold rightS at h
  rw [Bool.and_eq_true, Bool.and_eq_true, decide_eq_true_eq, List.all_eq_true] at h
  obtain ⟨⟨h1, h2⟩, h3⟩ := h
  have h1 := okN_iff.1 h1
  refine ⟨n.toNat, fun i j => hasR (rs.getD i []) ((j : Nat) : Int), by omega, by omega, mat_is (by omega) fun i hi => ?_⟩
  have hx : rs[i]? = some rs[i] := List.getElem?_eq_getElem (by omega)
  have e : rs.getD i [] = rs[i] := by rw [List.getD_eq_getElem?_getD, hx]; rfl
  rw [hx, e]
  have := rowOk_is (n := n.toNat) (r := rs[i]) (by rw [show ((n.toNat : Nat) : Int) = n from by omega]; exact h3 _ (List.getElem_mem _))
  rw [← this]
theorem right_sq {n : Int} {rs : Rows} (h : rightS n rs = true) : ((rs.length : Nat) : Int) = n ∧ (∀ x ∈ rs, x.length ≤ 1000000000) ∧ n ≤ 4096 ∧ 0 ≤ n ∧ ∀ x ∈ rs, x.length ≤ 64 := by
  obtain ⟨m, p, rfl, hm, rfl⟩ := right_is h
  exact ⟨by rw [matP_len], matP_small hm, by omega, by omega, matP_64 hm⟩
def smallM (rs : Rows) (m : Int) : Bool := decide (((rs.length : Nat) : Int) ≤ m) && rs.all fun r => decide (r.length ≤ 4)
theorem smallM_big {rs : Rows} {m : Int} (h : m < ((rs.length : Nat) : Int)) : false = smallM rs m := by unfold smallM; rw [decide_eq_false (by omega)]; rfl
theorem smallM_row {rs : Rows} {m : Int} {i : Nat} {x : Row} (hx : rs[i]? = some x) (h : 4 < x.length) : false = smallM rs m := by unfold smallM; rw [all_no hx (decide_eq_false (by omega))]; simp
theorem smallM_end {rs : Rows} {m : Int} {j : Nat} (h : ¬ m < ((rs.length : Nat) : Int)) (hs : (rs.take j).all (fun r => decide (r.length ≤ 4)) = true) (hj : rs.length ≤ j) : true = smallM rs m := by
  unfold smallM; rw [take_end hj] at hs; rw [decide_eq_true (by omega), hs]; rfl
theorem pairs_mem {n : Nat} {p : Nat → Nat → Bool} {z : Int × Int} {q : Nat} (h : (pairsM ((n : Nat) : Int) (matP n p))[q]? = some z) : 0 ≤ z.1 ∧ z.1 < ((n : Nat) : Int) ∧ 0 ≤ z.2 ∧ z.2 < ((n : Nat) : Int) ∧ p z.1.toNat z.2.toNat = true := by
  obtain ⟨a, b, ha, hb, hp, rfl⟩ := mem_pairs.1 (List.mem_of_getElem? h)
  exact ⟨by omega, by omega, by omega, by omega, by simpa using hp⟩
end Go.Ew
namespace Go.Ew
set_option linter.unusedVariables false
set_option linter.unusedSimpArgs false
set_option linter.unusedSectionVars false
theorem right_pos {n : Int} {rs : Rows} (h : rightS n rs = true) : 0 ≤ n := (right_sq h).2.2.2.1
section
variable {n : Int} {rs : Rows} {i j : Int} (h : rightS n rs = true) (hi : inM n [i, j] = true)
include h hi
end
theorem right_pairs {n : Int} {rs : Rows} (h : rightS n rs = true) : (pairsM n rs).length ≤ 16777216 := by
  obtain ⟨m, p, rfl, hm, rfl⟩ := right_is h
  have h1 := pairs_small (n := m) (p := p)
  have h2 : m * m ≤ 4096 * 4096 := Nat.mul_le_mul hm hm
  omega
end Go.Ew
namespace Go.Ew
set_option linter.unusedVariables false
set_option linter.unusedSimpArgs false
set_option linter.unusedSectionVars false
def swapP (z : Int × Int) : Int × Int := (z.2, z.1)
def turnM (n : Int) (rs : Rows) : Rows := foldM n ((pairsM n rs).map swapP)
theorem right_pair {n : Int} {rs : Rows} (h : rightS n rs = true) {q : Nat} {z : Int × Int} (hz : (pairsM n rs)[q]? = some z) : 0 ≤ z.1 ∧ z.1 < n ∧ 0 ≤ z.2 ∧ z.2 < n := by
  obtain ⟨m, p, rfl, hm, rfl⟩ := right_is h
  obtain ⟨h1, h2, h3, h4, -⟩ := pairs_mem hz
  exact ⟨h1, h2, h3, h4⟩
theorem turn_row {n : Int} {ps : List (Int × Int)} {i : Nat} {x : Row} (h : (foldM n ps)[i]? = some x) {k : Int} (h0 : 0 ≤ k) (h1 : k < n) : 0 ≤ k / 64 ∧ k / 64 < ((x.length : Nat) : Int) ∧ (k / 64).toNat < x.length ∧ inR x k = true := by
  have hr := foldM_row h
  have hw : x.length = (n.toNat + 63) / 64 := by rw [hr, ← words_nat, show ((n.toNat : Nat) : Int) = n from by omega]
  refine ⟨by omega, by omega, by omega, inR_of h0 (by omega)⟩
theorem turn_step {n : Int} {l : List (Int × Int)} {j : Nat} {z : Int × Int} {xs : Rows} {x : Row} {u : BitVec 64} (hs : xs = foldM n ((l.map swapP).take j)) (hz : l[((j : Nat) : Int).toNat]? = some z) (hx : xs[z.2.toNat]? = some x) (hu : x[(z.1 / 64).toNat]? = some u) (h0 : 0 ≤ z.1) (h1 : z.1 < n) :
    xs.set z.2.toNat (x.set (z.1 / 64).toNat (u ||| bitB (z.1 % 64))) = foldM n ((l.map swapP).take (j + 1)) := by
  have hr := (turn_row (hs ▸ hx) h0 h1).2.2.2
  rw [foldM_step (p := (z.2, z.1)) (by rw [List.getElem?_map, hz]; rfl), ← hs, setR_in hr hu]
  exact setM_of hx
theorem turn_end {n : Int} {rs xs : Rows} {j : Nat} (hs : xs = foldM n (((pairsM n rs).map swapP).take j)) (hj : (pairsM n rs).length ≤ j) : xs = turnM n rs := by
  rw [hs, take_end (by rw [List.length_map]; exact hj)]; rfl
theorem turn_zero (n : Int) (l : List (Int × Int)) : List.replicate n.toNat (newR n) = foldM n ((l.map swapP).take 0) := rfl
theorem turnM_len (n : Int) (rs : Rows) : (turnM n rs).length = n.toNat := foldM_length _ _
end Go.Ew
namespace Go.Ew
set_option linter.unusedVariables false
set_option linter.unusedSimpArgs false
theorem foldl_matP {m : Nat} : ∀ (l : List (Int × Int)) (p : Nat → Nat → Bool), (∀ z ∈ l, inM ((m : Nat) : Int) [z.1, z.2] = true) → l.foldl setM (matP m p) = matP m fun a b => p a b || l.any fun z => decide (a = z.1.toNat) && decide (b = z.2.toNat)
  | [], p, _ => by
    show matP m p = _
    exact matP_congr fun a b _ _ => by simp
  | z :: l, p, h => by
    rw [List.foldl_cons, show z = (z.1, z.2) from rfl, setM_matP (h z List.mem_cons_self), foldl_matP l _ fun y hy => h y (List.mem_cons_of_mem _ hy)]
    exact matP_congr fun a b _ _ => by simp [Bool.or_assoc]
theorem foldM_matP {m : Nat} {l : List (Int × Int)} (h : ∀ z ∈ l, inM ((m : Nat) : Int) [z.1, z.2] = true) : foldM ((m : Nat) : Int) l = matP m fun a b => l.any fun z => decide (a = z.1.toNat) && decide (b = z.2.toNat) := by
  unfold foldM
  rw [newM_matP, foldl_matP l _ h]
  exact matP_congr fun a b _ _ => by simp
theorem pairs_in {m : Nat} {p : Nat → Nat → Bool} : ∀ z ∈ pairsM ((m : Nat) : Int) (matP m p), inM ((m : Nat) : Int) [z.1, z.2] = true := by
  intro z hz
  obtain ⟨a, b, ha, hb, -, rfl⟩ := mem_pairs.1 hz
  exact inM_two.2 ⟨⟨by omega, by omega⟩, by omega, by omega⟩
theorem any_pairs {m : Nat} {p : Nat → Nat → Bool} {a b : Nat} (ha : a < m) (hb : b < m) : ((pairsM ((m : Nat) : Int) (matP m p)).any fun z => decide (a = z.1.toNat) && decide (b = z.2.toNat)) = p a b := by
  rw [Bool.eq_iff_iff, List.any_eq_true]
  constructor
  · rintro ⟨z, hz, h⟩
    obtain ⟨c, d, hc, hd, hp, rfl⟩ := mem_pairs.1 hz
    simp only [Int.toNat_natCast, Bool.and_eq_true, decide_eq_true_eq] at h
    rw [h.1, h.2]; exact hp
  · intro hp
    exact ⟨_, mem_pairs.2 ⟨a, b, ha, hb, hp, rfl⟩, by simp⟩
theorem turn_matP {m : Nat} {p : Nat → Nat → Bool} : turnM ((m : Nat) : Int) (matP m p) = matP m fun a b => p b a := by
  unfold turnM
  rw [foldM_matP]
  · refine matP_congr fun a b ha hb => ?_
    rw [List.any_map, ← any_pairs (p := p) hb ha]
    congr 1
    funext z
    simp only [Function.comp, swapP]
    exact Bool.and_comm _ _
  · intro z hz
    obtain ⟨y, hy, rfl⟩ := List.mem_map.1 hz
    have := inM_two.1 (pairs_in y hy)
    exact inM_two.2 ⟨this.2, this.1⟩
section
variable {n : Int} {rs : Rows} (h : rightS n rs = true)
include h
theorem turn_right : rightS n (turnM n rs) = true := by
  obtain ⟨m, p, rfl, hm, rfl⟩ := right_is h
  rw [turn_matP]; exact right_matP hm
end
end Go.Ew
namespace Go.Ew
set_option linter.unusedVariables false
set_option linter.unusedSimpArgs false
def relM (rs : Rows) (i j : Nat) : Bool := hasR (rs.getD i []) ((j : Nat) : Int)
end Go.Ew
namespace Go.Ew
set_option linter.unusedVariables false
set_option linter.unusedSimpArgs false
set_option linter.unusedSectionVars false
inductive TC (n : Nat) (p : Nat → Nat → Bool) : Nat → Nat → Prop
  | one {a b : Nat} : a < n → b < n → p a b = true → TC n p a b
  | cons {a b c : Nat} : a < n → b < n → p a b = true → TC n p b c → TC n p a c
section
variable {n : Nat} {p q : Nat → Nat → Bool} {a b c : Nat}
theorem TC.lt (h : TC n p a b) : a < n ∧ b < n := by
  induction h with
  | one h1 h2 _ => exact ⟨h1, h2⟩
  | cons h1 _ _ _ ih => exact ⟨h1, ih.2⟩
theorem TC.trans (h : TC n p a b) (k : TC n p b c) : TC n p a c := by
  induction h with
  | one h1 h2 h3 => exact .cons h1 h2 h3 k
  | cons h1 h2 h3 _ ih => exact .cons h1 h2 h3 (ih k)
theorem TC.mono (h : TC n p a b) (hpq : ∀ x y, x < n → y < n → p x y = true → q x y = true) : TC n q a b := by
  induction h with
  | one h1 h2 h3 => exact .one h1 h2 (hpq _ _ h1 h2 h3)
  | cons h1 h2 h3 _ ih => exact .cons h1 h2 (hpq _ _ h1 h2 h3) ih
theorem TC.least {R : Nat → Nat → Prop} (h : TC n p a b) (h1 : ∀ x y, x < n → y < n → p x y = true → R x y) (h2 : ∀ x y z, x < n → y < n → z < n → R x y → R y z → R x z) : R a b := by
  induction h with
  | one k1 k2 k3 => exact h1 _ _ k1 k2 k3
  | cons k1 k2 k3 k4 ih => exact h2 _ _ _ k1 k2 k4.lt.2 (h1 _ _ k1 k2 k3) ih
end
theorem relM_matP {n : Nat} {p : Nat → Nat → Bool} {a b : Nat} (ha : a < n) (hb : b < n) : relM (matP n p) a b = p a b := by
  unfold relM
  rw [List.getD_eq_getElem?_getD, matP_get ha]
  show hasR (rowP n (p a)) _ = _
  rw [rowP_has]; simp [hb]
def natL (l : List Nat) : List Int := l.map fun k => ((k : Nat) : Int)
def lst (n : Nat) (f : Nat → Bool) : List Int := natL ((List.range n).filter f)
theorem listR_lst (n : Nat) (f : Nat → Bool) : listR (rowP n f) = lst n f := listR_rowP n f
end Go.Ew
namespace Go.Ew
set_option linter.unusedVariables false
set_option linter.unusedSimpArgs false
set_option linter.unusedSectionVars false
section
variable {n : Int} {rs : Rows} (h : rightS n rs = true)
include h
theorem has_rel {a b : Nat} (ha : ((a : Nat) : Int) < n) (hb : ((b : Nat) : Int) < n) : hasM n rs ((a : Nat) : Int) ((b : Nat) : Int) = relM rs a b := by
  obtain ⟨m, p, rfl, hm, rfl⟩ := right_is h
  rw [hasM_nat (by omega) (by omega), relM_matP (by omega) (by omega)]
theorem has_relI {a b : Int} (ha : 0 ≤ a ∧ a < n) (hb : 0 ≤ b ∧ b < n) : hasM n rs a b = relM rs a.toNat b.toNat := by
  have := has_rel h (a := a.toNat) (b := b.toNat) (by omega) (by omega)
  rwa [Int.toNat_of_nonneg ha.1, Int.toNat_of_nonneg hb.1] at this
end
section
variable {n : Int} {rs xs : Rows} {i j : Int} (h : rightS n rs = true)
include h
end
section
variable {n : Int} {rs xs : Rows} {l : List Int} {mk : Row} {k : Nat} (h : rightS n rs = true)
include h
end
end Go.Ew
namespace Go.Ew
set_option linter.unusedVariables false
set_option linter.unusedSimpArgs false
set_option linter.unusedSectionVars false
structure Rch (n : Nat) (p : Nat → Nat → Bool) (i : Nat) (sn : List Bool) (td : List Int) (at_ : Int) (j : Nat) : Prop where
  len : sn.length = n
  snd : ∀ k, sn.getD k false = true → TC n p i k
  tdo : ∀ t ∈ td, ∃ k, t = ((k : Nat) : Int) ∧ k < n ∧ (k = i ∨ sn.getD k false = true)
  don : ∀ x, x < n → (x = i ∨ sn.getD x false = true) → ((x : Nat) : Int) ∈ td ∨ (((x : Nat) : Int) = at_ ∧ ∀ y, y < j → p x y = true → sn.getD y false = true) ∨ ∀ y, y < n → p x y = true → sn.getD y false = true
section
variable {n : Nat} {p : Nat → Nat → Bool} {i j : Nat} {sn : List Bool} {td : List Int} {at_ : Int}
end
section
variable {n : Int} {rs : Rows} {i a j : Nat} {sn : List Bool} {td : List Int} {x : Int} (rt : rightS n rs = true) (e : x = ((a : Nat) : Int)) (h : Rch n.toNat (relM rs) i sn td x j) (han : a < n.toNat) (hj : j < n.toNat)
include rt e h han hj
end
section
variable {k : Int} {l : List (BitVec 8 × BitVec 8)} {z : BitVec 8 × BitVec 8} (hk : 0 < k) (h4 : k ≤ 4096)
include hk h4
end
end Go.Ew
namespace Go.Ew
set_option linter.unusedVariables false
set_option linter.unusedSimpArgs false
set_option linter.unusedSectionVars false
section
variable {n : Int} {rs : Rows} (h : rightS n rs = true)
include h
end
end Go.Ew
namespace Go.Ew
set_option linter.unusedVariables false
set_option linter.unusedSimpArgs false
set_option linter.unusedSectionVars false
def pastL (n : Int) (rs : Rows) (o : Int) : List Int := if 0 ≤ o ∧ o < n then lst n.toNat (fun a => relM rs a o.toNat) else []
def withL (n : Int) (rs : Rows) (o : Int) : List Int := if 0 ≤ o ∧ o < n then lst n.toNat (fun a => relM rs a o.toNat || decide (a = o.toNat)) else []
theorem pastL_no {n : Int} {rs : Rows} {o : Int} (h : ¬ (0 ≤ o ∧ o < n)) : pastL n rs o = [] := by unfold pastL; rw [if_neg h]
theorem withL_no {n : Int} {rs : Rows} {o : Int} (h : ¬ (0 ≤ o ∧ o < n)) : withL n rs o = [] := by unfold withL; rw [if_neg h]
theorem turn_row_is {n : Int} {rs : Rows} (h : rightS n rs = true) {o : Int} (h0 : 0 ≤ o ∧ o < n) {x : Row} (hx : (turnM n rs)[o.toNat]? = some x) : x = rowP n.toNat fun a => relM rs a o.toNat := by
  obtain ⟨m, p, rfl, hm, rfl⟩ := right_is h
  rw [turn_matP] at hx
  obtain ⟨h1, rfl⟩ := matP_at hx
  rw [Int.toNat_natCast]
  exact rowP_congr fun a ha => (relM_matP ha h1).symm
theorem pastL_yes {n : Int} {rs : Rows} (h : rightS n rs = true) {o : Int} (h0 : 0 ≤ o ∧ o < n) {x : Row} (hx : (turnM n rs)[o.toNat]? = some x) : listR x = pastL n rs o := by
  rw [turn_row_is h h0 hx, listR_lst]; unfold pastL; rw [if_pos h0]
theorem withL_yes {n : Int} {rs : Rows} (h : rightS n rs = true) {o : Int} (h0 : 0 ≤ o ∧ o < n) {x : Row} (hx : (turnM n rs)[o.toNat]? = some x) : listR (setR x o) = withL n rs o := by
  rw [turn_row_is h h0 hx, setR_rowP h0.1 (by omega), listR_lst]; unfold withL; rw [if_pos h0]
theorem turn_row_len {n : Int} {rs : Rows} (h : rightS n rs = true) {i : Nat} {x : Row} (hx : (turnM n rs)[i]? = some x) : x.length ≤ 64 := (right_sq (turn_right h)).2.2.2.2 _ (List.mem_of_getElem? hx)
section
variable {n : Int} {rs : Rows} (h : rightS n rs = true) {k : Int} (hk : 0 ≤ k ∧ k < n)
include h hk
end
end Go.Ew
namespace Go.Ew
open Go.RowKit
set_option linter.unusedVariables false
set_option linter.unusedSimpArgs false
def cutA (a : Option Addr) (c lo : Nat) : Option Addr := if c = lo then a else a.map (·.add (lo * 1))
theorem add0 (g j : Nat) : (⟨g, 0, none⟩ : Addr).add j = ⟨g, j, none⟩ := by unfold Addr.add; split <;> simp_all
theorem chunks_cut {M : Nat → Prop} {w : World} : ∀ (k : Nat) {xs : List Int} {cs : List Value}, Chunks M w cs xs → Chunks M w (cs.take k) (xs.take k) ∧ Chunks M w (cs.drop k) (xs.drop k)
  | 0, xs, cs, h => ⟨by rw [List.take_zero, List.take_zero]; rfl, by simpa using h⟩
  | k + 1, [], cs, h => by
    rw [show cs = [] from h]
    exact ⟨rfl, rfl⟩
  | k + 1, x :: xs, cs, h => by
    obtain ⟨c1, c2, rfl, h2, h3⟩ := h
    obtain ⟨i1, i2⟩ := chunks_cut k h3
    obtain ⟨e, hx⟩ := h2
    subst e
    exact ⟨⟨[.int .i64 x], c2.take k, rfl, ⟨rfl, hx⟩, i1⟩, i2⟩
section
variable {P : Program} {n : Nat} {ops : Array Oper} {f : Slots} {w : World} {K : Slots → World → Prop} {x y : Operand} {d : Nat} {ty T e : TypeId} {ps : String} {af : Array Edge} {v u : Value} {M M0 : Nat → Prop} {w0 : World} {l : List Item} {bytes : Nat} {z : Value} {B : Nat} {kk : IntKind} {agg : Bool} {xs ys : List Int} {a : Option Addr} {k c : Nat}
theorem own_shape (hO : (own B e (.slice a k c) xs).holds M w) : k = xs.length ∧ xs.length ≤ c := by
  obtain ⟨cs, h1, h2⟩ := hO
  rcases h1.2 with ⟨h3, h4⟩ | ⟨g, cap, cur, h3, h4, h5, h6, h7⟩
  · cases h3; omega
  · cases h3; exact ⟨rfl, h6⟩
theorem slOl {lo : Int} {ylo : Operand} (hO : (own B e (.slice a k c) xs).holds M w) (ox : okT n x = true) (ol : okT n ylo = true) (hx : ev f x = .slice a k c) (hl : ev f ylo = .int kk lo) (hb : 0 ≤ lo ∧ lo ≤ xs.length) (hu : P.underlying T = some (.slice e)) (F : TyF P e 1 agg bytes z)
    (h : K (upd f d (.slice (cutA a c lo.toNat) (k - lo.toNat) (c - lo.toNat))) w) :
    SO P n ops ⟨some d, .slice T x (some ylo) none none, ty, ps, af, none⟩ f w K := by
  obtain ⟨hk, hc⟩ := own_shape hO
  refine SO.value (v := .slice (cutA a c lo.toNat) (k - lo.toNat) (c - lo.toNat)) (w' := w) ?_ h
  have hel : P.underlying T = some (.slice (P.elem T)) := by rw [hu]; simp [Program.elem, hu]
  have hel2 : P.elem T = e := by simp [Program.elem, hu]
  simp [execOp, eval_acts ox, eval_acts ol, hx, hl, Instr.sliceAt, run_und hu]
  have := run_slice_l (P := P) (w := w) T a k c hel kk lo hb.1 (by omega)
  rw [hel2, F.run_size] at this
  simp [this, sliced, cutA]
theorem slOh {hi : Int} {yhi : Operand} (hO : (own B e (.slice a k c) xs).holds M w) (ox : okT n x = true) (oh : okT n yhi = true) (hx : ev f x = .slice a k c) (hh : ev f yhi = .int kk hi) (hb : 0 ≤ hi ∧ hi ≤ xs.length) (hu : P.underlying T = some (.slice e)) (F : TyF P e 1 agg bytes z)
    (h : K (upd f d (.slice (cutA a c 0) hi.toNat c)) w) :
    SO P n ops ⟨some d, .slice T x none (some yhi) none, ty, ps, af, none⟩ f w K := by
  obtain ⟨hk, hc⟩ := own_shape hO
  refine SO.value (v := .slice (cutA a c 0) hi.toNat c) (w' := w) ?_ h
  have hel : P.underlying T = some (.slice (P.elem T)) := by rw [hu]; simp [Program.elem, hu]
  have hel2 : P.elem T = e := by simp [Program.elem, hu]
  simp [execOp, eval_acts ox, eval_acts oh, hx, hh, Instr.sliceAt, run_und hu]
  have := run_slice_h (P := P) (w := w) T a k c hel kk hi hb.1 (by omega)
  rw [hel2, F.run_size] at this
  simp [this, sliced, cutA]
theorem HI.putSeg (H : HI M0 w0 w l) (i : Nat) {g cap : Nat} {cur : Array Value} {cs ds : List Value} {o : Nat} (hi : l[i]? = some (own w0.heap.size e (.slice (some ⟨g, 0, none⟩) xs.length cap) xs))
    (h3 : w0.heap.size ≤ g) (h4 : w.heap[g]? = some (.cells cur e (0, 0))) (h5 : xs.length ≤ cap) (h6 : cap ≤ maxLen) (h7 : cur.size = cap) (h8 : cur.toList.take xs.length = cs)
    (hc : Chunks (MS M0 l) w cs xs) (hd : Chunks (MS M0 l) w ds ys) (ho : o + ys.length ≤ xs.length) :
    HI M0 w0 (w.setRow g (cur.toList.take o ++ ds ++ cur.toList.drop (o + ds.length)).toArray) (l.set i (own w0.heap.size e (.slice (some ⟨g, 0, none⟩) xs.length cap) (xs.take o ++ (ys ++ xs.drop (o + ys.length))))) := by
  have hdl : ds.length = ys.length := by have := Chunks.length hd; simpa [GT.size] using this
  have hcl : cs.length = xs.length := by have := Chunks.length hc; simpa [GT.size] using this
  have hnl : (xs.take o ++ (ys ++ xs.drop (o + ys.length))).length = xs.length := by simp; omega
  have hcur : cur.toList.length = cap := by simpa using h7
  have hother : ∀ q, q < w.heap.size → (own w0.heap.size e (Value.slice (some ⟨g, 0, none⟩) xs.length cap) xs).blk ≠ some q → (w.setRow g (cur.toList.take o ++ ds ++ cur.toList.drop (o + ds.length)).toArray).heap[q]? = w.heap[q]? :=
    fun q hq hne => setRow_other w g q _ (fun e => hne (by rw [e]; rfl))
  refine H.turn i hi rfl rfl rfl (by simp) hother ?_ ?_
  · intro b hb
    refine ⟨?_, .inl hb⟩
    rw [size_setRow]
    exact (H.blks _ (List.mem_of_getElem? hi) b hb).2
  · have hup : Up (MS M0 l) w (MS M0 (l.set i (own w0.heap.size e (Value.slice (some ⟨g, 0, none⟩) xs.length cap) (xs.take o ++ (ys ++ xs.drop (o + ys.length)))))) (w.setRow g (cur.toList.take o ++ ds ++ cur.toList.drop (o + ds.length)).toArray) := by
      refine ⟨by simp, fun b hb hM => ⟨setRow_other w g b _ (fun e => hM (.inr ⟨_, List.mem_of_getElem? hi, by rw [e]; rfl⟩)), ?_⟩⟩
      rintro (hM' | ⟨it, hit, hitb⟩)
      · exact hM (.inl hM')
      · rcases List.mem_or_eq_of_mem_set hit with hit | rfl
        · exact hM (.inr ⟨it, hit, hitb⟩)
        · exact hM (.inr ⟨_, List.mem_of_getElem? hi, hitb⟩)
    refine ⟨cs.take o ++ (ds ++ cs.drop (o + ds.length)), ⟨by simp [GT.size]; omega, .inr ⟨g, cap, _, by rw [hnl], h3, setRow_heap w g cur _ e _ h4, by omega, h6, ?_, ?_⟩⟩, ?_⟩
    · simp only [List.size_toArray, List.length_append, List.length_take, List.length_drop, GT.size]
      omega
    · rw [hnl]
      show (cur.toList.take o ++ ds ++ cur.toList.drop (o + ds.length)).take (xs.length * 1) = _
      rw [← h8, Nat.mul_one, List.append_assoc, List.take_append, List.take_append, List.length_take, Nat.min_eq_left (by omega), List.take_take, List.take_take, List.drop_take, List.take_of_length_le (by omega : ds.length ≤ xs.length - o), Nat.min_comm o xs.length,
        show xs.length - o - ds.length = xs.length - (o + ds.length) from by omega]
    · have e9 : xs.drop (o + ys.length) = xs.drop (o + ds.length) := by rw [hdl]
      have q := Chunks.lift hup (chunks_cut (o + ds.length) hc).2
      exact Chunks.append (Chunks.lift hup (chunks_cut o hc).1) (Chunks.append (Chunks.lift hup hd) ((congrArg (fun r => Chunks _ _ _ r) e9).mpr q))
end
end Go.Ew
namespace Go.Ew
open Go.RowKit
set_option linter.unusedVariables false
set_option linter.unusedSimpArgs false
def FPH (P : Program) (g : FuncId) (C : List Value) (M : Nat → Prop) (w : World) (it : List Int → Item) (r : List Item) (xs : List Int) (p : Int → Bool) : Prop :=
  GoF P g ∧ ∀ w1 ys, HI M w w1 ([it ys] ++ r) → ∀ x, x ∈ xs → I64 x → Calls P g ([Value.int .i64 x] ++ C).toArray w1 (Ret fun u w2 => u = .bool (p x) ∧ Ext w1 w2)
theorem FPH.fp {P : Program} {g : FuncId} {C : List Value} {M M' : Nat → Prop} {w w1 : World} {it : List Int → Item} {r : List Item} {xs ys : List Int} {p : Int → Bool} (h : FPH P g C M w it r xs p) (H : HI M w w1 ([it ys] ++ r)) : FP P g C M' w1 xs p :=
  ⟨h.1, fun w2 v x hx e hv => by
    obtain ⟨cs, ⟨e1, hi⟩, e2⟩ := hv
    rw [e1] at e2
    cases e2
    exact h.2 w2 ys (H.ext e) x hx hi⟩
theorem zeroCells_one (v : Value) : ∀ n, (Builtin.zeroCells #[v] n).toList = List.replicate n v := by
  intro n
  unfold Builtin.zeroCells
  apply List.ext_getElem?
  intro i
  simp only [Array.toList_map, List.getElem?_map, Array.toList_range, List.getElem?_replicate]
  by_cases h : i < n
  · rw [List.getElem?_range (by simpa using h), if_pos h]
    simp [Nat.mod_one]
  · rw [List.getElem?_eq_none (by simpa using h), if_neg h]; rfl
section
variable {P : Program} {n : Nat} {ops : Array Oper} {f : Slots} {w : World} {K : Slots → World → Prop} {x y : Operand} {d : Nat} {ty T e : TypeId} {ps : String} {af : Array Edge} {v u : Value} {M M0 : Nat → Prop} {w0 : World} {l : List Item} {bytes : Nat} {B : Nat} {kk : IntKind} {agg : Bool} {xs ys : List Int} {a : Option Addr} {k c : Nat}
theorem slCut {hi : Int} {yhi : Operand} (H : HI M0 w0 w l) (i : Nat) (hi' : l[i]? = some (own B e (.slice a k c) xs)) (ox : okT n x = true) (oh : okT n yhi = true) (hx : ev f x = .slice a k c) (hh : ev f yhi = .int kk hi) (hb : 0 ≤ hi ∧ hi ≤ xs.length) (hu : P.underlying T = some (.slice e)) (F : TyF P e 1 agg bytes (.int .i64 0))
    (h : HI M0 w0 w (l.set i (own B e (.slice a (xs.take hi.toNat).length c) (xs.take hi.toNat))) → K (upd f d (.slice a (xs.take hi.toNat).length c)) w) :
    SO P n ops ⟨some d, .slice T x none (some yhi) none, ty, ps, af, none⟩ f w K := by
  have hO := H.at_ i hi'
  have hil := (List.getElem?_eq_some_iff.1 hi').1
  have hlen : (xs.take hi.toNat).length = hi.toNat := by simp; omega
  have hcut : cutA a c 0 = a := by
    unfold cutA
    split
    · rfl
    · obtain ⟨cs, h1, h2⟩ := hO
      rcases h1.2 with ⟨h3, h4⟩ | ⟨g, cap, cur, h3, h4⟩
      · cases h3; rfl
      · cases h3
        show some (Addr.add _ (0 * 1)) = _
        rw [add0]
  refine slOh hO ox oh hx hh hb hu F ?_
  rw [hcut]
  rw [hlen] at h
  refine h ?_
  refine H.weaken ?_ ?_
  · apply List.ext_getElem?
    intro j
    rw [List.getElem?_map, List.getElem?_map]
    by_cases hj : i = j
    · subst hj; rw [List.getElem?_set_self hil, hi']; cases a <;> rfl
    · rw [List.getElem?_set_ne hj]
  · intro j it it' hj hj' M hh'
    by_cases hj2 : i = j
    · subst hj2
      rw [List.getElem?_set_self hil] at hj'
      rw [hi'] at hj
      cases hj; cases hj'
      obtain ⟨cs, h1, h2⟩ := hh'
      have hcl := Chunks.length h2
      refine ⟨cs.take hi.toNat, ⟨by rw [hlen]; simp only [GT.size] at hcl ⊢; rw [List.length_take]; omega, ?_⟩, (chunks_cut _ h2).1⟩
      rcases h1.2 with ⟨h3, h4⟩ | ⟨g, cap, cur, h3, h4, h5, h6, h7, h8, h9⟩
      · cases h3
        refine .inl ⟨by rw [show hi.toNat = 0 from by omega], by rw [hlen]; omega⟩
      · cases h3
        refine .inr ⟨g, c, cur, by rw [hlen], h4, h5, by omega, h7, h8, ?_⟩
        rw [← h9, hlen, List.take_take]
        congr 1
        simp only [GT.size]; omega
    · rw [List.getElem?_set_ne hj2, hj] at hj'; cases hj'; exact hh'
theorem clO (H : HI M0 w0 w l) (i : Nat) (hi : l[i]? = some (own B e (.slice a k c) xs)) (hB : B = w0.heap.size) (ox : okT n x = true) {q : Nat} (hx : ev f x = .slice (cutA a c q) (k - q) (c - q))
    (hu : P.underlying T = some (.slice e)) (F : TyF P e 1 agg bytes (.int .i64 0)) (hq : q ≤ xs.length)
    (h : ∀ w', HI M0 w0 w' (l.set i (own B e (.slice a k c) (xs.take q ++ (List.replicate (xs.length - q) 0 ++ [])))) → K f w') :
    SO P n ops ⟨none, .call { callee := .builtin .clear, args := #[x], argTypes := #[T] }, ty, ps, af, none⟩ f w K := by
  subst hB
  have hO := H.at_ i hi
  have hil := (List.getElem?_eq_some_iff.1 hi).1
  obtain ⟨hk, hc⟩ := own_shape hO
  obtain ⟨cs, h1, h2⟩ := hO
  by_cases hq2 : q = xs.length
  · have hz : k - q = 0 := by omega
    refine SO.value (d := none) (v := .tuple #[]) (w' := w) ?_ (h w ?_)
    · have hr2 : (Builtin.clear_ #[T] ty #[.slice (cutA a c q) 0 (c - q)]).run P w = .ok (.tuple #[]) w := by
        cases hca : cutA a c q <;> simp [Builtin.clear_, run_underlying hu]
      rw [hz] at hx
      simp [execOp, resolve, invoke, builtin, eval_acts ox, hx, hr2]
    · have e9 : xs.take q ++ (List.replicate (xs.length - q) 0 ++ []) = xs := by rw [hq2]; simp
      rw [e9]
      have : l.set i (own w0.heap.size e (.slice a k c) xs) = l := by
        apply List.ext_getElem?
        intro j
        by_cases hj : i = j
        · subst hj; rw [List.getElem?_set_self hil, hi]
        · rw [List.getElem?_set_ne hj]
      rw [this]; exact H
  · rcases h1.2 with ⟨h0, h3⟩ | ⟨g', c1, cur, h0, h3, h4, h5, h6, h7, h8⟩
    · omega
    · cases h0
      have hsz : cur.size = c := by rw [h7]; simp [GT.size]
      have hcA : cutA (some ⟨g', 0, none⟩) c q = some ⟨g', q, none⟩ := by unfold cutA; rw [if_neg (by omega), Nat.mul_one]; show some (Addr.add _ q) = _; rw [add0]
      rw [hcA] at hx
      have hz : Chunks (MS M0 l) w (List.replicate (xs.length - q) (Value.int .i64 0)) (List.replicate (xs.length - q) (0 : Int)) := by
        have : ∀ m, Chunks (MS M0 l) w (List.replicate m (Value.int .i64 0)) (List.replicate m (0 : Int)) := by
          intro m
          induction m with
          | zero => rfl
          | succ m ih => exact ⟨[.int .i64 0], List.replicate m (.int .i64 0), by rw [List.replicate_succ]; rfl, ⟨rfl, by unfold I64; omega⟩, ih⟩
        exact this _
      have hst := run_storeCells_at P g' q e (List.replicate (xs.length - q) (Value.int .i64 0)) 0 cur w h4 (by rw [List.length_replicate]; omega) (Chunks.oneC hz)
      refine SO.value (d := none) (v := .tuple #[]) (w' := w.setRow g' (cur.toList.take q ++ List.replicate (xs.length - q) (Value.int .i64 0) ++ cur.toList.drop (q + (List.replicate (xs.length - q) (Value.int .i64 0)).length)).toArray) ?_ (h _ ?_)
      · obtain ⟨m, hm⟩ : ∃ m, xs.length - q = m + 1 := ⟨xs.length - q - 1, by omega⟩
        have hr2 : (Builtin.clear_ #[T] ty #[.slice (some ⟨g', q, none⟩) (xs.length - q) (c - q)]).run P w = .ok (.tuple #[]) (w.setRow g' (cur.toList.take q ++ List.replicate (xs.length - q) (Value.int .i64 0) ++ cur.toList.drop (q + (List.replicate (xs.length - q) (Value.int .i64 0)).length)).toArray) := by
          have hcells : (Builtin.zeroCells (Value.int .i64 0).cells (xs.length - q)).toList = List.replicate (xs.length - q) (Value.int .i64 0) := zeroCells_one _ _
          rw [Nat.add_zero] at hst
          rw [hm] at hst hcells ⊢
          simp [Builtin.clear_, run_underlying hu, F.run_zero, hcells, hst]
        simp [execOp, resolve, invoke, builtin, eval_acts ox, hx, hr2]
      · have := HI.putSeg (ys := List.replicate (xs.length - q) 0) (ds := List.replicate (xs.length - q) (Value.int .i64 0)) (o := q) H i hi h3 h4 h5 h6 hsz (by simpa [GT.size] using h8) h2 hz (by rw [List.length_replicate]; omega)
        have e8 : xs.drop (q + (List.replicate (xs.length - q) (0 : Int)).length) = [] := by rw [List.length_replicate]; exact List.drop_eq_nil_of_le (by omega)
        rw [e8] at this
        exact this
end
end Go.Ew
namespace Go.Ew
set_option linter.unusedVariables false
set_option linter.unusedSimpArgs false
set_option linter.unusedSectionVars false
def keepL (p : Int → Bool) (xs : List Int) : List Int := xs.filter fun x => !p x
def DF (p : Int → Bool) (xs ys : List Int) (q : Int) (k : Nat) : Prop := ys.length = xs.length ∧ ys.take q.toNat = keepL p (xs.take k) ∧ ys.drop k = xs.drop k
section
variable {p : Int → Bool} {xs ys : List Int} {q x : Int} {k : Nat}
theorem df_none (h : idxF p xs = -1) : xs = keepL p xs := by
  have h1 := idxF_any (p := p) (r := xs)
  rw [h, decide_eq_false (by omega)] at h1
  unfold keepL
  refine (List.filter_eq_self.2 fun x hx => ?_).symm
  have := List.any_eq_false.1 h1.symm x hx
  simpa using this
theorem df_start (h : ¬ idxF p xs = -1) : 0 ≤ idxF p xs ∧ (idxF p xs).toNat < xs.length ∧ DF p xs xs (idxF p xs) ((idxF p xs).toNat + 1) := by
  unfold idxF at h ⊢
  cases hf : xs.findIdx? p with
  | none => rw [hf] at h; exact absurd rfl h
  | some i =>
    rw [hf] at h
    obtain ⟨h1, h2, h3⟩ := List.findIdx?_eq_some_iff_getElem.1 hf
    refine ⟨by show (0 : Int) ≤ ((i : Nat) : Int); omega, h1, rfl, ?_, rfl⟩
    show xs.take i = keepL p (xs.take (i + 1))
    unfold keepL
    rw [List.take_add_one, List.getElem?_eq_getElem h1, List.filter_append]
    have e1 : (xs.take i).filter (fun x => !p x) = xs.take i := by
      refine List.filter_eq_self.2 fun y hy => ?_
      obtain ⟨j, hj⟩ := List.mem_iff_getElem?.1 hy
      have hjl := (List.getElem?_eq_some_iff.1 hj).1
      rw [List.length_take] at hjl
      have h4 := h3 j (by omega)
      rw [List.getElem?_take_of_lt (by omega), List.getElem?_eq_getElem (by omega)] at hj
      rw [← Option.some.inj hj]
      simpa using h4
    rw [e1]
    simp [h2]
theorem df_at (h : DF p xs ys q k) (hx : ys[k]? = some x) : xs[k]? = some x := by
  have h1 := h.2.2
  have : (ys.drop k)[0]? = some x := by rw [List.getElem?_drop]; exact hx
  rw [h1, List.getElem?_drop] at this
  exact this
theorem df_snoc (hx : xs[k]? = some x) : keepL p (xs.take (k + 1)) = keepL p (xs.take k) ++ (if p x = true then [] else [x]) := by
  unfold keepL
  rw [List.take_add_one, hx, List.filter_append]
  cases hp : p x <;> simp [hp]
theorem df_drop1 (h : DF p xs ys q k) : ys.drop (k + 1) = xs.drop (k + 1) := by
  have h1 := h.2.2
  rw [← List.drop_drop, ← List.drop_drop, h1]
theorem df_drop (h : DF p xs ys q k) (hx : ys[k]? = some x) (hp : p x = true) : DF p xs ys q (k + 1) :=
  ⟨h.1, by rw [df_snoc (df_at h hx), if_pos hp, List.append_nil]; exact h.2.1, df_drop1 h⟩
theorem df_keep (h : DF p xs ys q k) (hx : ys[k]? = some x) (hp : p x = false) (h0 : 0 ≤ q) (hq : q < ((k : Nat) : Int)) : DF p xs (ys.set q.toNat x) (q + 1) (k + 1) := by
  have hk := (List.getElem?_eq_some_iff.1 hx).1
  refine ⟨by rw [List.length_set]; exact h.1, ?_, ?_⟩
  · rw [df_snoc (df_at h hx), if_neg (by rw [hp]; decide), ← h.2.1, show (q + 1).toNat = q.toNat + 1 from by omega, List.take_add_one, List.take_set_of_le (Nat.le_refl _), List.getElem?_set_self (by omega)]
    rfl
  · rw [List.drop_set_of_lt (by omega)]
    exact df_drop1 h
theorem df_end (h : DF p xs ys q k) (hk : xs.length ≤ k) (h0 : 0 ≤ q) (hq : q.toNat ≤ ys.length) (m : Nat) : (ys.take q.toNat ++ (List.replicate m (0 : Int) ++ [])).take q.toNat = keepL p xs := by
  rw [List.take_left' (by rw [List.length_take]; omega), h.2.1, List.take_of_length_le hk]
end
def wrB (its : List ItemL) (v i : Int) : Bool := decide (i < 0) || (match its[i.toNat]? with
  | none => true
  | some x => !x.2.2.1 || !decide (x.2.2.2.1 = v))
def wrQ (its : List ItemL) (i : Int) : Bool := ((its[i.toNat]?).map (fun x => x.2.2.1)).getD false
section
variable {its : List ItemL} {v i : Int} {x : ItemL}
theorem wrB_neg (h : i < 0) : wrB its v i = true := by unfold wrB; rw [decide_eq_true h]; rfl
theorem wrB_out (h : ((its.length : Nat) : Int) ≤ i) : wrB its v i = true := by
  unfold wrB
  rw [List.getElem?_eq_none (by omega)]; simp
theorem wrB_at (h0 : ¬ i < 0) (hx : its[i.toNat]? = some x) : wrB its v i = (!x.2.2.1 || !decide (x.2.2.2.1 = v)) := by
  unfold wrB
  rw [decide_eq_false h0, hx]; rfl
theorem wrB_yes (h0 : ¬ i < 0) (hx : its[i.toNat]? = some x) (hw : x.2.2.1 = true) (hv : x.2.2.2.1 = v) : wrB its v i = false := by rw [wrB_at h0 hx, hw, hv]; simp
theorem wrB_nw (h0 : ¬ i < 0) (hx : its[i.toNat]? = some x) (hw : x.2.2.1 = false) : wrB its v i = true := by rw [wrB_at h0 hx, hw]; rfl
theorem wrB_nv (h0 : ¬ i < 0) (hx : its[i.toNat]? = some x) (hv : ¬ x.2.2.2.1 = v) : wrB its v i = true := by rw [wrB_at h0 hx, decide_eq_false hv]; simp
theorem wrQ_yes (hx : its[i.toNat]? = some x) (h : (!x.2.2.1) = true) : wrQ its i = false := by
  unfold wrQ; rw [hx]; simpa using h
theorem wrQ_no (hx : its[i.toNat]? = some x) (h : (!x.2.2.1) = false) : wrQ its i = true := by
  unfold wrQ; rw [hx]; simpa using h
theorem wrQ_at (hx : its[i.toNat]? = some x) : wrQ its i = x.2.2.1 := by unfold wrQ; rw [hx]; rfl
theorem keep_yes {l : List Int} {q : Nat} {p : Int → Bool} {x : Int} (hx : l[q]? = some x) (hp : p x = false) : keepL p (l.take q) ++ [x] = keepL p (l.take (q + 1)) := by
  rw [df_snoc hx, if_neg (by rw [hp]; decide)]
theorem keep_no {l : List Int} {q : Nat} {p : Int → Bool} {x : Int} (hx : l[q]? = some x) (hp : p x = true) : keepL p (l.take q) = keepL p (l.take (q + 1)) := by
  rw [df_snoc hx, if_pos hp, List.append_nil]
theorem keep_len (l : List Int) (q : Nat) (p : Int → Bool) : (keepL p (l.take q)).length ≤ q := by
  unfold keepL
  have := List.length_filter_le (fun x => !p x) (l.take q)
  rw [List.length_take] at this; omega
theorem pastA_mem (o : OrdI its) {t : Int} {q : Nat} {x : Int} (hx : (pastA its t)[q]? = some x) : 0 ≤ x ∧ x < ((its.length : Nat) : Int) := by
  by_cases h : 0 ≤ t ∧ t < (its.length : Int)
  · have := past_at o h.1 h.2 hx
    omega
  · rw [← pastA_no h] at hx; simp at hx
theorem pastB_mem {t : Int} {j q : Nat} {x : Int} (hx : (pastB its t j)[q]? = some x) : 0 ≤ x ∧ x < ((j : Nat) : Int) := by
  unfold pastB at hx
  rw [List.getElem?_map, Option.map_eq_some_iff] at hx
  obtain ⟨a, h1, rfl⟩ := hx
  have := List.mem_range.1 (List.mem_filter.1 (List.mem_of_getElem? h1)).1
  omega
end
def pastO (n : Int) (rs : Rows) (o : Int) (q : Nat) : List Int := ((List.range q).filter fun a => hasM n rs ((a : Nat) : Int) o).map fun a => ((a : Nat) : Int)
theorem pastO_yes {n : Int} {rs : Rows} {o : Int} {q : Nat} (h : hasM n rs ((q : Nat) : Int) o = true) : pastO n rs o q ++ [((q : Nat) : Int)] = pastO n rs o (q + 1) := by
  unfold pastO; rw [List.range_succ, List.filter_append, List.map_append]; simp [h]
theorem pastO_no {n : Int} {rs : Rows} {o : Int} {q : Nat} (h : hasM n rs ((q : Nat) : Int) o = false) : pastO n rs o q = pastO n rs o (q + 1) := by
  unfold pastO; rw [List.range_succ, List.filter_append, List.map_append]; simp [h]
theorem pastO_len (n : Int) (rs : Rows) (o : Int) (q : Nat) : (pastO n rs o q).length ≤ q := by
  unfold pastO; rw [List.length_map]
  have := List.length_filter_le (fun a => hasM n rs ((a : Nat) : Int) o) (List.range q)
  rw [List.length_range] at this; exact this
def withO (n : Int) (rs : Rows) (o : Int) (q : Nat) : List Int := ((List.range q).filter fun a => decide (((a : Nat) : Int) = o) || hasM n rs ((a : Nat) : Int) o).map fun a => ((a : Nat) : Int)
theorem withO_yes {n : Int} {rs : Rows} {o : Int} {q : Nat} (h : ((q : Nat) : Int) = o ∨ hasM n rs ((q : Nat) : Int) o = true) : withO n rs o q ++ [((q : Nat) : Int)] = withO n rs o (q + 1) := by
  have h : (decide (((q : Nat) : Int) = o) || hasM n rs ((q : Nat) : Int) o) = true := by
    rcases h with h | h
    · rw [decide_eq_true h]; rfl
    · rw [h, Bool.or_true]
  unfold withO; rw [List.range_succ, List.filter_append, List.map_append]; simp [h]
theorem withO_no {n : Int} {rs : Rows} {o : Int} {q : Nat} (h1 : ¬ ((q : Nat) : Int) = o) (h2 : hasM n rs ((q : Nat) : Int) o = false) : withO n rs o q = withO n rs o (q + 1) := by
  have h : (decide (((q : Nat) : Int) = o) || hasM n rs ((q : Nat) : Int) o) = false := by rw [decide_eq_false h1, h2]; rfl
  unfold withO; rw [List.range_succ, List.filter_append, List.map_append]; simp [h]
theorem withO_len (n : Int) (rs : Rows) (o : Int) (q : Nat) : (withO n rs o q).length ≤ q := by
  unfold withO; rw [List.length_map]
  have := List.length_filter_le (fun a => decide (((a : Nat) : Int) = o) || hasM n rs ((a : Nat) : Int) o) (List.range q)
  rw [List.length_range] at this; exact this
theorem hasM_out {n : Int} {rs : Rows} {a o : Int} (h : rightS n rs = true) (ho : ¬ (0 ≤ o ∧ o < n)) : hasM n rs a o = false := by
  unfold hasM
  first
    | (rw [if_neg (by rw [inM_two]; omega)])
    | (cases hq : inM n [a, o] with
       | true => exact absurd (inM_two.1 hq).2 ho
       | false => rfl)
theorem past_of {n : Int} {rs : Rows} (h : rightS n rs = true) (o : Int) : pastO n rs o n.toNat = pastL n rs o := by
  have h0 := right_pos h
  unfold pastL pastO
  split
  · rename_i ho
    unfold lst natL
    congr 1
    refine List.filter_congr fun a ha => ?_
    have := List.mem_range.1 ha
    rw [has_relI h ⟨by omega, by omega⟩ ho, Int.toNat_natCast]
  · rename_i ho
    rw [List.filter_eq_nil_iff.2 fun a _ => by rw [hasM_out h ho]; decide]; rfl
theorem with_of {n : Int} {rs : Rows} (h : rightS n rs = true) {o : Int} (ho : 0 ≤ o ∧ o < n) : withO n rs o n.toNat = withL n rs o := by
  unfold withL withO
  rw [if_pos ho]
  unfold lst natL
  congr 1
  refine List.filter_congr fun a ha => ?_
  have := List.mem_range.1 ha
  rw [has_relI h ⟨by omega, by omega⟩ ho, Int.toNat_natCast, Bool.or_comm]
  congr 1
  rw [decide_eq_decide]; omega
theorem with_end {n : Int} {rs : Rows} (h : rightS n rs = true) {o : Int} {q : Nat} (hq : q = 0 ∨ (0 ≤ o ∧ o < n)) (hq2 : q ≤ n.toNat) (hd : n.toNat ≤ q ∨ ¬ (0 ≤ o ∧ o < n)) : withO n rs o q = withL n rs o := by
  by_cases ho : 0 ≤ o ∧ o < n
  · rcases hd with hd | hd
    · rw [show q = n.toNat from by omega, with_of h ho]
    · exact absurd ho hd
  · rcases hq with rfl | hq
    · rw [withL_no ho]; rfl
    · exact absurd hq ho
end Go.Ew
namespace Go.Ew
set_option linter.unusedVariables false
set_option linter.unusedSimpArgs false
set_option linter.unusedSectionVars false
def o11 (h : HistL) : Bool := rightH h && decide ((chkA (ofI h)).2.2 = 0)
def o11V (h : HistL) : List ByteArray := if o11 h then ofV h else []
def o11I (h : HistL) : List ItemL := if o11 h then ofI h else []
def o11F (h : HistL) : List Int := if o11 h then fromR (ofI h) else []
theorem o11_no {h : HistL} (hq : o11 h = false) : o11V h = [] ∧ o11I h = [] ∧ o11F h = [] := by unfold o11V o11I o11F; simp [hq]
theorem o11_yes {h : HistL} (hq : o11 h = true) : o11V h = ofV h ∧ o11I h = ofI h ∧ o11F h = fromR (ofI h) := by unfold o11V o11I o11F; simp [hq]
theorem o11_no1 {h : HistL} (he : ¬ ofE h = 0) : o11 h = false := by
  unfold o11
  cases hr : rightH h with
  | false => rfl
  | true => exact absurd (of_ok hr).2.2 he
theorem o11_r {h : HistL} (he : ofE h = 0) : rightH h = true := by
  cases hr : rightH h with
  | true => rfl
  | false => rw [(of_bad hr).2.2] at he; cases he
theorem o11_no2 {h : HistL} (he : ¬ (chkA (ofI h)).2.2 = 0) : o11 h = false := by unfold o11; rw [decide_eq_false he]; simp
theorem o11_is {h : HistL} (he : ofE h = 0) (hc : (chkA (ofI h)).2.2 = 0) : o11 h = true := by unfold o11; rw [o11_r he, decide_eq_true hc]; rfl
theorem o11I_len (h : HistL) : (o11I h).length ≤ h.flatten.length := by
  unfold o11I; split
  · exact ofI_len h
  · simp
theorem ord_nil : OrdI ([] : List ItemL) := ⟨fun h => absurd h (Nat.lt_irrefl 0), fun i h => absurd h (Nat.not_lt_zero _)⟩
theorem o11_ord (h : HistL) : OrdI (o11I h) := by
  unfold o11I; split
  · exact ofI_ord h
  · exact ord_nil
end Go.Ew
namespace Go.Ew
open Go.RowKit Go.WideShapes Go.ChangeShapes
set_option linter.unusedVariables false
set_option linter.unusedSimpArgs false
structure Bulk (B : (H : Type) → DataW H → Nat) : Prop where
  lit : ∀ (H : Type) l, 1 ≤ B H (.lit l)
  str : ∀ (H : Type) bs, bs.length + 1 ≤ B H (.lit (.string bs))
  nil : ∀ (H : Type), 1 ≤ B H .nil
  slice : ∀ (H : Type) (es sp : List (DataW H)), (es.map (B H)).sum + 1 ≤ B H (.slice es sp)
  agg : ∀ (H : Type) (ps : List (DataW H)), (ps.map (B H)).sum ≤ B H (.agg ps)
class Wt (α : Type) where
  wt : α → Nat
instance wtInt : Wt Int := ⟨fun _ => 1⟩
instance wtBV : Wt (BitVec 64) := ⟨fun _ => 1⟩
instance wtB8 : Wt (BitVec 8) := ⟨fun _ => 1⟩
instance wtBool : Wt Bool := ⟨fun _ => 1⟩
instance wtStr : Wt ByteArray := ⟨fun s => s.size + 1⟩
instance wtList {α : Type} [Wt α] : Wt (List α) := ⟨fun l => (l.map Wt.wt).sum + 1⟩
instance wtProd {α β : Type} [Wt α] [Wt β] : Wt (α × β) := ⟨fun x => Wt.wt x.1 + Wt.wt x.2⟩
theorem wt_len {α : Type} [Wt α] (h1 : ∀ x : α, 1 ≤ Wt.wt x) : ∀ l : List α, l.length ≤ (l.map Wt.wt).sum
  | [] => Nat.le_refl _
  | x :: l => by
    have := wt_len h1 l
    have := h1 x
    simp only [List.length_cons, List.map_cons, List.sum_cons]; omega
theorem wt_flat {α : Type} [Wt α] (h1 : ∀ x : α, 1 ≤ Wt.wt x) : ∀ h : List (List α), h.flatten.length ≤ Wt.wt h := by
  intro h
  show _ ≤ (h.map Wt.wt).sum + 1
  induction h with
  | nil => simp
  | cons l h ih =>
    have := wt_len h1 l
    simp only [List.flatten_cons, List.length_append, List.map_cons, List.sum_cons]
    show _ ≤ ((l.map Wt.wt).sum + 1) + (h.map Wt.wt).sum + 1
    omega
theorem wt_prod {α β : Type} [Wt α] [Wt β] (h : ∀ x : β, 1 ≤ Wt.wt x) : ∀ x : α × β, 1 ≤ Wt.wt x := fun x => by
  have := h x.2
  show 1 ≤ Wt.wt x.1 + Wt.wt x.2
  omega
theorem wt_int : ∀ x : Int, 1 ≤ Wt.wt x := fun _ => Nat.le_refl _
def OpensB (B : (H : Type) → DataW H → Nat) (P : Program) (t : TypeId) (α : Type) [GT α] [Wt α] : Prop :=
  P.cellsOf t = GT.size α ∧ ∀ {H : Type} (enc : TypeId × Value → H) (W : World) (n : Nat) (cs : List Value) (x : DataW H × List MemPlace),
    DataW.trod enc P W 0 (fun _ => true) true n t cs = some x → ∃ y : α, GT.rep NoM W cs y ∧ Wt.wt y ≤ B H x.1
section
variable {P : Program} {t e : TypeId} {B : (H : Type) → DataW H → Nat}
theorem opensB_int (hB : Bulk B) (hc : P.cellsOf t = 1) (ht : P.underlying t = some (.int .i64)) : OpensB B P t Int := by
  refine ⟨hc, fun {H} enc W n cs x h => ?_⟩
  obtain ⟨k, rfl, rfl, hw⟩ := DataW.trod_int ht h
  exact ⟨k, ⟨rfl, bounds_i64 hw⟩, hB.lit H _⟩
theorem opensB_u64 (hB : Bulk B) (hc : P.cellsOf t = 1) (ht : P.underlying t = some (.int .u64)) : OpensB B P t (BitVec 64) := by
  refine ⟨hc, fun {H} enc W n cs x h => ?_⟩
  obtain ⟨y, hy⟩ := (opens_u64 hc ht).2 enc W n cs x h
  obtain ⟨k, rfl, rfl, -⟩ := DataW.trod_int ht h
  exact ⟨y, hy, hB.lit H _⟩
theorem opensB_bool (hB : Bulk B) (hc : P.cellsOf t = 1) (ht : P.underlying t = some .bool) : OpensB B P t Bool := by
  refine ⟨hc, fun {H} enc W n cs x h => ?_⟩
  obtain ⟨k, rfl, rfl⟩ := DataW.trod_bool ht h
  exact ⟨k, rfl, hB.lit H _⟩
theorem opensB_string (hB : Bulk B) (hc : P.cellsOf t = 1) (ht : P.underlying t = some .string) : OpensB B P t ByteArray := by
  refine ⟨hc, fun {H} enc W n cs x h => ?_⟩
  obtain ⟨k, rfl, rfl, hk⟩ := DataW.trod_string ht h
  refine ⟨k, ⟨rfl, hk⟩, ?_⟩
  have := hB.str H k.data.toList
  rw [Array.length_toList] at this
  exact this
theorem wt_sum {α : Type} [Wt α] {D : Type} (g : D → Nat) : ∀ (l : List α) (es : List D), l.length = es.length → (∀ (i : Nat) (y : α) (x : D), l[i]? = some y → es[i]? = some x → Wt.wt y ≤ g x) → (l.map Wt.wt).sum ≤ (es.map g).sum
  | [], [], _, _ => Nat.le_refl _
  | [], _ :: _, h, _ => by simp at h
  | _ :: _, [], h, _ => by simp at h
  | y :: l, x :: es, h, k => by
    have h1 := wt_sum g l es (by simpa using h) fun i y x hy hx => k (i + 1) y x (by simpa using hy) (by simpa using hx)
    have h2 := k 0 y x rfl rfl
    simp only [List.map_cons, List.sum_cons]; omega
theorem opensB_slice {α : Type} [GT α] [Wt α] (hB : Bulk B) (hc : P.cellsOf t = 1) (ht : P.underlying t = some (.slice e)) (O : OpensB B P e α) : OpensB B P t (List α) := by
  refine ⟨hc, fun {H} enc W n cs x h => ?_⟩
  rcases DataW.trod_slice ht h with ⟨rfl, rfl⟩ | ⟨a, len, cap, elems, rest, m, rfl, rfl, rfl, -, hl, hm, hlen, hel, -, -⟩
  · exact ⟨[], ⟨_, rfl, rs_nil _ _⟩, hB.nil H⟩
  · have one : ∀ i, i < len → ∃ y : α, At NoM W (a.add (i * GT.size α)) y ∧ ∀ z, elems[i]? = some z → Wt.wt y ≤ B H z.1 := by
      intro i hi
      have h1 := hel i hi
      rw [List.getElem?_eq_getElem (by omega : i < elems.length)] at h1
      simp only [Option.bind_eq_some_iff] at h1
      obtain ⟨ds, hd, hx⟩ := h1
      obtain ⟨y, hy, hw⟩ := O.2 enc W m ds _ hx
      rw [O.1] at hd
      refine ⟨y, ⟨ds, hy, fun h => h, cells_get hd⟩, fun z hz => ?_⟩
      rw [List.getElem?_eq_getElem (by omega : i < elems.length)] at hz
      cases hz
      exact hw
    obtain ⟨l, hl1, hl2⟩ := choose_list (Q := fun i (y : α) => At NoM W (a.add (i * GT.size α)) y ∧ ∀ z, elems[i]? = some z → Wt.wt y ≤ B H z.1) len one
    refine ⟨l, ⟨_, rfl, some a, len, cap, rfl, hl1, hl, hm, ?_⟩, ?_⟩
    · by_cases h0 : len = 0
      · exact .inl h0
      · exact .inr ⟨a, rfl, fun i y hy => (hl2 i y hy).1⟩
    · have h1 := wt_sum (fun z : DataW H × List MemPlace => B H z.1) l elems (by omega) fun i y x hy hx => (hl2 i y hy).2 x hx
      have h2 := hB.slice H (elems.map (·.1)) (rest.map (·.1))
      rw [List.map_map] at h2
      show (l.map Wt.wt).sum + 1 ≤ _
      exact Nat.le_trans (Nat.add_le_add_right h1 1) h2
def OpensRB (B : (H : Type) → DataW H → Nat) (P : Program) (off total : Nat) (fs : List Field) (α : Type) [GT α] [Wt α] : Prop :=
  off + GT.size α = total ∧ ∀ {H : Type} (enc : TypeId × Value → H) (W : World) (n : Nat) (cs : List Value) (xs : List (DataW H × List MemPlace)), cs.length = total → xs.length = fs.length →
    (∀ (i : Nat) f, fs[i]? = some f → DataW.trod enc P W 0 (fun _ => true) true n f.type ((cs.drop f.offset).take (P.cellsOf f.type)) = xs[i]?) → ∃ y : α, GT.rep NoM W (cs.drop off) y ∧ Wt.wt y ≤ ((xs.map (·.1)).map (B H)).sum
theorem opensRB_one {α : Type} [GT α] [Wt α] {f : Field} {off total : Nat} (ho : f.offset = off) (O : OpensB B P f.type α) (hs : off + GT.size α = total) : OpensRB B P off total [f] α := by
  refine ⟨hs, fun {H} enc W n cs xs hl hx h => ?_⟩
  match xs, hx, h with
  | [x], _, h =>
    have h1 := h 0 f rfl
    obtain ⟨y, hy, hw⟩ := O.2 enc W n _ _ h1
    rw [O.1, ho, List.take_of_length_le (by simp; omega)] at hy
    exact ⟨y, hy, by simpa using hw⟩
theorem opensRB_cons {α β : Type} [GT α] [GT β] [Wt α] [Wt β] {f : Field} {fs : List Field} {off off' total : Nat} (ho : f.offset = off) (O : OpensB B P f.type α) (hs : off + GT.size α = off') (R : OpensRB B P off' total fs β) : OpensRB B P off total (f :: fs) (α × β) := by
  refine ⟨by rw [← R.1, ← hs]; show off + (GT.size α + GT.size β) = _; omega, fun {H} enc W n cs xs hl hx h => ?_⟩
  match xs, hx, h with
  | x :: xs, hx, h =>
    have h1 := h 0 f rfl
    obtain ⟨y, hy, hw⟩ := O.2 enc W n _ _ h1
    obtain ⟨z, hz, hv⟩ := R.2 enc W n cs xs hl (by simpa using hx) fun i g hg => h (i + 1) g (by simpa using hg)
    rw [O.1, ho] at hy
    refine ⟨(y, z), ⟨(cs.drop off).take (GT.size α), cs.drop off', ?_, hy, hz⟩, ?_⟩
    · rw [← hs, ← List.drop_drop]
      exact (List.take_append_drop _ _).symm
    · simp only [List.map_cons, List.sum_cons]
      exact Nat.add_le_add hw hv
theorem opensB_struct {α : Type} [GT α] [Wt α] {fs : Array Field} (hB : Bulk B) (ht : P.underlying t = some (.struct fs)) (hc : P.cellsOf t = GT.size α) (R : OpensRB B P 0 (P.cellsOf t) fs.toList α) : OpensB B P t α := by
  refine ⟨hc, fun {H} enc W n cs x h => ?_⟩
  obtain ⟨xs, m, rfl, rfl, hl, hx, hf⟩ := DataW.trod_struct ht h
  obtain ⟨y, hy, hw⟩ := R.2 enc W m cs xs hl (by simpa using hx) fun i f hf' => hf i f (by rw [← Array.getElem?_toList]; exact hf')
  exact ⟨y, by simpa using hy, Nat.le_trans hw (hB.agg H _)⟩
section
variable {H : Type} {enc : TypeId × Value → H} {W : World} {base : Nat} {v : Value} {d : DataW H} {ps : List MemPlace}
theorem topB_struct {α : Type} [GT α] [Wt α] {fs : Array Field} (ht : P.underlying t = some (.struct fs)) (ha : GT.agg α = true) (O : OpensB B P t α) (hv : Value.okWide P W .any base t v) (h : DataW.Trod enc P W 0 (fun _ => true) true t v d ps) : ∃ y : α, RV NoM W v y ∧ Wt.wt y ≤ B H d := by
  obtain ⟨y0, hy0⟩ := top_struct ht ha ⟨O.1, fun enc W n cs x h => by obtain ⟨y, hy, _⟩ := O.2 enc W n cs x h; exact ⟨y, hy⟩⟩ hv h
  obtain ⟨m, h⟩ := h
  obtain ⟨y, hy, hw⟩ := O.2 enc W m _ _ h
  obtain ⟨cs, hcs, hvc⟩ := hy0
  refine ⟨y, ⟨_, hy, ?_⟩, hw⟩
  rw [hvc, ha]
  rfl
end
end
end Go.Ew
