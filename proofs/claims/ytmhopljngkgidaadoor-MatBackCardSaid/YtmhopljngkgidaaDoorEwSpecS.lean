/- Plain words and laws: what a matrix is told by the document; session order's pairs (layers 3, 4, 12). -/
import Derived.Test.YtmhopljngkgidaaDoorEwSpecQ
namespace Go.Ew
set_option linter.unusedVariables false
set_option linter.unusedSimpArgs false

/-! ### may a matrix be -/
def rowOk (n : Int) (r : Row) : Bool := decide (((r.length : Nat) : Int) = ((words n : Nat) : Int)) && (List.range (64 * r.length)).all fun k => decide (((k : Nat) : Int) < n) || !hasR r ((k : Nat) : Int)
def rightS (n : Int) (rs : Rows) : Bool := okN n && decide (((rs.length : Nat) : Int) = n) && rs.all (rowOk n)
theorem rightS_no {n : Int} {rs : Rows} (h : ¬ (0 ≤ n ∧ n ≤ 4096 ∧ ((rs.length : Nat) : Int) = n)) : false = rightS n rs := by
  unfold rightS
  by_cases h1 : okN n = true
  · have := okN_iff.1 h1
    rw [show decide (((rs.length : Nat) : Int) = n) = false from decide_eq_false (by omega)]; simp
  · rw [show okN n = false from by simpa using h1]; rfl
theorem rowOk_len {n : Int} {r : Row} (h : ¬ ((r.length : Nat) : Int) = ((words n : Nat) : Int)) : rowOk n r = false := by unfold rowOk; rw [decide_eq_false h]; rfl
theorem rowOk_bit {n : Int} {r : Row} {k : Int} (h0 : 0 ≤ k) (h1 : n ≤ k) (h2 : k < 64 * ((r.length : Nat) : Int)) (hb : hasR r k = true) : rowOk n r = false := by
  unfold rowOk
  rw [Bool.and_eq_false_iff]
  right
  rw [List.all_eq_false]
  refine ⟨k.toNat, List.mem_range.2 (by omega), ?_⟩
  rw [show ((k.toNat : Nat) : Int) = k from by omega, hb, decide_eq_false (by omega)]; simp
theorem rowOk_yes {n : Int} {r : Row} {j : Int} (hl : ((r.length : Nat) : Int) = ((words n : Nat) : Int)) (h : ∀ k : Int, n ≤ k → k < j → hasR r k = false) (hj : 64 * ((r.length : Nat) : Int) ≤ j) : rowOk n r = true := by
  unfold rowOk
  rw [decide_eq_true hl, Bool.true_and, List.all_eq_true]
  intro k hk
  have := List.mem_range.1 hk
  by_cases hn : ((k : Nat) : Int) < n
  · rw [decide_eq_true hn]; rfl
  · rw [h _ (by omega) (by omega)]; simp
theorem right_row {n : Int} {rs : Rows} {i : Nat} {x : Row} (hx : rs[i]? = some x) (h : rowOk n x = false) : false = rightS n rs := by
  unfold rightS; rw [all_no hx h]; simp
theorem right_end_ {n : Int} {rs : Rows} {j : Nat} (h0 : 0 ≤ n) (h1 : n ≤ 4096) (h2 : ((rs.length : Nat) : Int) = n) (hs : (rs.take j).all (rowOk n) = true) (hj : rs.length ≤ j) : true = rightS n rs := by
  unfold rightS; rw [take_end hj] at hs; rw [okN_iff.2 ⟨h0, h1⟩, decide_eq_true h2, hs]; rfl
theorem right_matP {n : Nat} {p : Nat → Nat → Bool} (h : n ≤ 4096) : rightS ((n : Nat) : Int) (matP n p) = true := by
  refine (right_end_ (j := (matP n p).length) (by omega) (by omega) (by rw [matP_len]) ?_ (Nat.le_refl _)).symm
  rw [List.take_length, List.all_eq_true]
  intro x hx
  obtain ⟨i, hi⟩ := List.mem_iff_getElem?.1 hx
  obtain ⟨h1, rfl⟩ := matP_at hi
  refine rowOk_yes (j := 64 * (((rowP n (p i)).length : Nat) : Int)) (by rw [rowP_len]) (fun k hk hk2 => ?_) (Int.le_refl _)
  rw [rowP_has, decide_eq_false (show ¬ k < ((n : Nat) : Int) from by omega)]; simp

/-! ### the least that goes round -/
def loopF (n : Int) (rs : Rows) : Option Nat := (List.range n.toNat).find? fun i => hasM n rs ((i : Nat) : Int) ((i : Nat) : Int)
theorem find_hit {p : Nat → Bool} {n j : Nat} (hj : j < n) (hp : p j = true) (hl : ∀ k, k < j → p k = false) : (List.range n).find? p = some j := by
  rw [List.find?_eq_some_iff_append]
  refine ⟨hp, List.range j, (List.range (n - j - 1)).map (fun i => j + 1 + i), ?_, fun a ha => by rw [hl a (List.mem_range.1 ha)]; rfl⟩
  have : n = j + (1 + (n - j - 1)) := by omega
  conv => lhs; rw [this]
  rw [range_add_map, range_add_map]
  simp [Nat.add_assoc]
theorem find_miss {p : Nat → Bool} {n j : Nat} (hj : n ≤ j) (hl : ∀ k, k < j → p k = false) : (List.range n).find? p = none := by
  rw [List.find?_eq_none]
  intro k hk
  rw [hl k (by have := List.mem_range.1 hk; omega)]; simp
theorem loop_hit {n : Int} {rs : Rows} {j : Nat} (hj : ((j : Nat) : Int) < n) (hp : hasM n rs ((j : Nat) : Int) ((j : Nat) : Int) = true) (hl : ∀ k, k < j → hasM n rs ((k : Nat) : Int) ((k : Nat) : Int) = false) : loopF n rs = some j := find_hit (by omega) hp hl
theorem loop_miss {n : Int} {rs : Rows} {j : Nat} (hj : n ≤ ((j : Nat) : Int)) (hl : ∀ k, k < j → hasM n rs ((k : Nat) : Int) ((k : Nat) : Int) = false) : loopF n rs = none := find_miss (by omega) hl
theorem below_step {p : Nat → Bool} {j : Nat} (hl : ∀ k, k < j → p k = false) (h : p j = false) : ∀ k, k < j + 1 → p k = false := by
  intro k hk
  rcases Nat.lt_succ_iff_lt_or_eq.1 hk with h1 | rfl
  · exact hl k h1
  · exact h

/-! ### is it closed -/
def cl3 (n : Int) (rs : Rows) (i j k : Nat) : Bool := !(hasM n rs ((i : Nat) : Int) ((j : Nat) : Int) && hasM n rs ((j : Nat) : Int) ((k : Nat) : Int)) || hasM n rs ((i : Nat) : Int) ((k : Nat) : Int)
def cl2 (n : Int) (rs : Rows) (i j : Nat) : Bool := (List.range n.toNat).all (cl3 n rs i j)
def cl1 (n : Int) (rs : Rows) (i : Nat) : Bool := (List.range n.toNat).all (cl2 n rs i)
def closedM (n : Int) (rs : Rows) : Bool := (List.range n.toNat).all (cl1 n rs)
theorem ra_step {p : Nat → Bool} {j : Nat} (h : (List.range j).all p = true) (hp : p j = true) : (List.range (j + 1)).all p = true := by
  rw [List.range_succ, List.all_append, h]; simp [hp]
theorem ra_end {p : Nat → Bool} {j : Nat} {n : Int} (h : (List.range j).all p = true) (hj : n ≤ ((j : Nat) : Int)) : (List.range n.toNat).all p = true := by
  rw [List.all_eq_true] at h ⊢
  intro k hk
  exact h k (List.mem_range.2 (by have := List.mem_range.1 hk; omega))
theorem ra_no {p : Nat → Bool} {j : Nat} {n : Int} (hj : ((j : Nat) : Int) < n) (hp : p j = false) : (List.range n.toNat).all p = false := by
  rw [List.all_eq_false]; exact ⟨j, List.mem_range.2 (by omega), by rw [hp]; simp⟩
theorem cl2_no {n : Int} {rs : Rows} {i j : Nat} (h : hasM n rs ((i : Nat) : Int) ((j : Nat) : Int) = false) : cl2 n rs i j = true := by
  unfold cl2; rw [List.all_eq_true]; intro k _; unfold cl3; rw [h]; rfl
theorem closed_no {n : Int} {rs : Rows} {i j k : Nat} (hi : ((i : Nat) : Int) < n) (hj : ((j : Nat) : Int) < n) (hk : ((k : Nat) : Int) < n) (h1 : hasM n rs ((i : Nat) : Int) ((j : Nat) : Int) = true) (h2 : hasM n rs ((j : Nat) : Int) ((k : Nat) : Int) = true) (h3 : hasM n rs ((i : Nat) : Int) ((k : Nat) : Int) = false) : false = closedM n rs := by
  have e3 : cl3 n rs i j k = false := by unfold cl3; rw [h1, h2, h3]; rfl
  have e2 : cl2 n rs i j = false := ra_no hk e3
  have e1 : cl1 n rs i = false := ra_no hj e2
  exact (ra_no hi e1).symm
theorem cl3_yes {n : Int} {rs : Rows} {i j k : Nat} (h : hasM n rs ((j : Nat) : Int) ((k : Nat) : Int) = false ∨ hasM n rs ((i : Nat) : Int) ((k : Nat) : Int) = true) : cl3 n rs i j k = true := by
  unfold cl3; rcases h with h | h <;> rw [h] <;> simp
theorem closed_matP {n : Nat} {p : Nat → Nat → Bool} : closedM ((n : Nat) : Int) (matP n p) = true ↔ ∀ i j k, i < n → j < n → k < n → p i j = true → p j k = true → p i k = true := by
  unfold closedM cl1 cl2 cl3
  simp only [List.all_eq_true, List.mem_range, Int.toNat_natCast]
  constructor
  · intro h i j k hi hj hk h1 h2
    have := h i hi j hj k hk
    rw [hasM_nat hi hj, hasM_nat hj hk, hasM_nat hi hk, h1, h2] at this
    simpa using this
  · intro h i hi j hj k hk
    rw [hasM_nat hi hj, hasM_nat hj hk, hasM_nat hi hk]
    cases h1 : p i j <;> cases h2 : p j k <;> simp
    exact h i j k hi hj hk h1 h2

/-! ### pairs -/
def rowsP (rs : Rows) (i : Nat) : List (Int × Int) := (listR (rowAt rs ((i : Nat) : Int))).map fun j => (((i : Nat) : Int), j)
def pairsTo (rs : Rows) (i : Nat) : List (Int × Int) := (List.range i).flatMap (rowsP rs)
def pairsM (n : Int) (rs : Rows) : List (Int × Int) := pairsTo rs n.toNat
theorem pairsTo_step (rs : Rows) (i : Nat) : pairsTo rs (i + 1) = pairsTo rs i ++ rowsP rs i := by unfold pairsTo; rw [List.range_succ, List.flatMap_append]; simp
theorem listR_rowP (n : Nat) (q : Nat → Bool) : listR (rowP n q) = ((List.range n).filter q).map fun k => ((k : Nat) : Int) := by
  rw [← listN_all]
  unfold listN
  congr 1
  have hl := rowP_len n q
  rw [words_nat] at hl
  have e : 64 * (rowP n q).length = n + (64 * (rowP n q).length - n) := by omega
  rw [e, range_add_map, List.filter_append]
  have e2 : ((List.range (64 * (rowP n q).length - n)).map fun i => n + i).filter (fun k => hasR (rowP n q) ((k : Nat) : Int)) = [] := by
    rw [List.filter_eq_nil_iff]
    intro k hk
    obtain ⟨i, -, rfl⟩ := List.mem_map.1 hk
    rw [rowP_has, decide_eq_false (show ¬ (((n + i : Nat) : Nat) : Int) < ((n : Nat) : Int) from by omega)]; simp
  rw [e2, List.append_nil]
  apply List.filter_congr
  intro k hk
  have := List.mem_range.1 hk
  rw [rowP_has]
  simp [this]
theorem rowsP_matP {n : Nat} {p : Nat → Nat → Bool} {i : Nat} (h : i < n) : rowsP (matP n p) i = ((List.range n).filter (p i)).map fun j => (((i : Nat) : Int), ((j : Nat) : Int)) := by
  unfold rowsP
  rw [rowAt_matP (by omega) (by omega), Int.toNat_natCast, listR_rowP, List.map_map]; rfl
theorem mem_pairs {n : Nat} {p : Nat → Nat → Bool} {z : Int × Int} : z ∈ pairsM ((n : Nat) : Int) (matP n p) ↔ ∃ a b, a < n ∧ b < n ∧ p a b = true ∧ z = (((a : Nat) : Int), ((b : Nat) : Int)) := by
  unfold pairsM pairsTo
  rw [List.mem_flatMap]
  constructor
  · rintro ⟨a, ha, hz⟩
    have ha := List.mem_range.1 ha
    rw [Int.toNat_natCast] at ha
    rw [rowsP_matP ha] at hz
    obtain ⟨b, hb, rfl⟩ := List.mem_map.1 hz
    rw [List.mem_filter, List.mem_range] at hb
    exact ⟨a, b, ha, hb.1, hb.2, rfl⟩
  · rintro ⟨a, b, ha, hb, hp, rfl⟩
    refine ⟨a, List.mem_range.2 (by simpa using ha), ?_⟩
    rw [rowsP_matP ha]
    exact List.mem_map.2 ⟨b, List.mem_filter.2 ⟨List.mem_range.2 hb, hp⟩, rfl⟩
def rowSum (n : Nat) (p : Nat → Nat → Bool) : Nat := ((List.range n).map fun a => ((List.range n).filter (p a)).length).sum
theorem pairs_len {n : Nat} {p : Nat → Nat → Bool} : (pairsM ((n : Nat) : Int) (matP n p)).length = rowSum n p := by
  unfold pairsM pairsTo rowSum
  rw [List.length_flatMap, Int.toNat_natCast]
  congr 1
  apply List.map_congr_left
  intro a ha
  rw [rowsP_matP (List.mem_range.1 ha), List.length_map]
theorem pairs_small {n : Nat} {p : Nat → Nat → Bool} : (pairsM ((n : Nat) : Int) (matP n p)).length ≤ n * n := by
  rw [pairs_len]; unfold rowSum
  have : ∀ l : List Nat, (l.map fun a => ((List.range n).filter (p a)).length).sum ≤ l.length * n := by
    intro l
    induction l with
    | nil => simp
    | cons a l ih =>
      have h1 := List.length_filter_le (p a) (List.range n)
      rw [List.length_range] at h1
      simp only [List.map_cons, List.sum_cons, List.length_cons, Nat.add_mul, Nat.one_mul]; omega
  have h := this (List.range n)
  rwa [List.length_range] at h
theorem rowsP_len {rs : Rows} (hr : ∀ x ∈ rs, x.length ≤ 64) (i : Nat) : (rowsP rs i).length ≤ 4096 := by
  unfold rowsP
  rw [List.length_map]
  have h1 := listR_length (rowAt rs ((i : Nat) : Int))
  have : (rowAt rs ((i : Nat) : Int)).length ≤ 64 := by
    unfold rowAt
    rw [List.getD_eq_getElem?_getD]
    cases h : rs[((i : Nat) : Int).toNat]? with
    | none => simp
    | some x => exact hr x (List.mem_of_getElem? h)
  omega
theorem pairsTo_len {rs : Rows} (hr : ∀ x ∈ rs, x.length ≤ 64) : ∀ i, (pairsTo rs i).length ≤ 4096 * i
  | 0 => by simp [pairsTo]
  | i + 1 => by
    have := pairsTo_len hr i
    have := rowsP_len hr i
    rw [pairsTo_step, List.length_append]; omega
theorem rowsP_of {rs : Rows} {i : Nat} {x : Row} (hx : rs[((i : Nat) : Int).toNat]? = some x) : rowsP rs i = (listR x).map fun j => (((i : Nat) : Int), j) := by unfold rowsP; rw [rowAt_of hx]
theorem pair_step {rs : Rows} {i q : Nat} {x : Row} {y : Int} (hy : (listR x)[((q : Nat) : Int).toNat]? = some y) : (pairsTo rs i ++ ((listR x).take q).map fun j => (((i : Nat) : Int), j)) ++ [(((i : Nat) : Int), y)] = pairsTo rs i ++ ((listR x).take (q + 1)).map fun j => (((i : Nat) : Int), j) := by
  rw [take_at hy, List.map_append, List.append_assoc]; rfl
theorem pair_row {rs : Rows} {i q : Nat} {x : Row} (hx : rs[((i : Nat) : Int).toNat]? = some x) (hq : (listR x).length ≤ q) : (pairsTo rs i ++ ((listR x).take q).map fun j => (((i : Nat) : Int), j)) = pairsTo rs (i + 1) := by
  rw [take_end hq, pairsTo_step, rowsP_of hx]
theorem pairs_end {rs : Rows} {n : Int} {i : Nat} (h : n ≤ ((i : Nat) : Int)) (hi : ((i : Nat) : Int) ≤ n ∨ i = 0) : pairsTo rs i = pairsM n rs := by
  unfold pairsM; rw [show n.toNat = i from by omega]
/-- Counted by columns. -/
theorem sum_col {A B : Type} (p : A → B → Bool) (a : A) (la : List A) : ∀ lb : List B, (lb.filter (p a)).length + (lb.map fun b => (la.filter fun a => p a b).length).sum = (lb.map fun b => ((a :: la).filter fun a => p a b).length).sum
  | [] => rfl
  | b :: lb => by
    have ih := sum_col p a la lb
    rw [List.map_cons, List.sum_cons, List.map_cons, List.sum_cons, ← ih, List.filter_cons, List.filter_cons]
    cases p a b
    · simp only [Bool.false_eq_true, if_false]; omega
    · simp only [if_true, List.length_cons]; omega
theorem sum_zero {B : Type} : ∀ lb : List B, (lb.map fun _ => 0).sum = 0
  | [] => rfl
  | _ :: lb => by rw [List.map_cons, List.sum_cons, sum_zero lb]
theorem sum_swap {A B : Type} (p : A → B → Bool) (lb : List B) : ∀ la : List A, (la.map fun a => (lb.filter (p a)).length).sum = (lb.map fun b => (la.filter fun a => p a b).length).sum
  | [] => by simp only [List.map_nil, List.sum_nil, List.filter_nil, List.length_nil]; exact (sum_zero lb).symm
  | a :: la => by rw [List.map_cons, List.sum_cons, sum_swap p lb la, sum_col]
theorem col_count {its : List ItemL} (o : OrdI its) {b : Nat} (hb : b < its.length) : ((((List.range its.length).filter fun a => ahN its a b).length : Nat) : Int) = plcN its b := by
  obtain ⟨b1, b2⟩ := o.back b hb
  have b0 := o.nonneg b hb
  have key : ∀ a ∈ List.range its.length, ahN its a b = (decide ((((b : Nat) : Int) - plcN its b).toNat ≤ a) && decide (a < b)) := by
    intro a ha
    have ha := List.mem_range.1 ha
    unfold ahN
    rw [Bool.eq_iff_iff]
    simp only [Bool.and_eq_true, decide_eq_true_eq]
    constructor
    · rintro ⟨⟨h1, h2⟩, h3⟩
      have := o.place (b - a) a (by omega) (by rw [show a + (b - a) = b from by omega]; exact h3)
      rw [show a + (b - a) = b from by omega] at this
      have := o.nonneg a ha
      omega
    · rintro ⟨h1, h2⟩
      exact ⟨⟨h2, hb⟩, b2 a (by omega) (by omega)⟩
  rw [List.filter_congr key, filter_range_between its.length (by omega) (by omega), List.length_map, List.length_range]
  omega
theorem sum_cast : ∀ l : List Nat, ((l.sum : Nat) : Int) = (l.map fun x => ((x : Nat) : Int)).sum
  | [] => rfl
  | x :: l => by simp only [List.sum_cons, List.map_cons]; rw [← sum_cast l]; omega
theorem po_pairs {its : List ItemL} (o : OrdI its) : (((pairsM ((its.length : Nat) : Int) (poR its)).length : Nat) : Int) = (its.map fun x => x.2.1).sum := by
  unfold poR
  rw [pairs_len]
  unfold rowSum
  rw [sum_swap (ahN its) (List.range its.length) (List.range its.length), sum_cast, List.map_map]
  have : its.map (fun x => x.2.1) = (List.range its.length).map (plcN its) := by
    apply List.ext_getElem
    · simp
    · intro i h1 h2
      simp only [List.length_map] at h1
      simp [plcN, List.getD_eq_getElem?_getD, h1]
  rw [this]
  congr 1
  apply List.map_congr_left
  intro b hb
  exact col_count o (List.mem_range.1 hb)

/-! ### places, summed -/
def tri (n : Nat) : Int := ((n : Nat) : Int) * (((n : Nat) : Int) - 1) / 2
theorem tri_bound : ∀ n : Nat, n < 41 → 0 ≤ ((n : Nat) : Int) * (((n : Nat) : Int) - 1) ∧ ((n : Nat) : Int) * (((n : Nat) : Int) - 1) ≤ 1600 := by decide
theorem tri_succ (n : Nat) : tri (n + 1) = tri n + ((n : Nat) : Int) := by
  unfold tri
  have : (((n + 1 : Nat) : Nat) : Int) * ((((n + 1 : Nat) : Nat) : Int) - 1) = ((n : Nat) : Int) * (((n : Nat) : Int) - 1) + 2 * ((n : Nat) : Int) := by
    rw [show (((n + 1 : Nat) : Nat) : Int) = ((n : Nat) : Int) + 1 from by omega, show ((n : Nat) : Int) + 1 - 1 = ((n : Nat) : Int) from by omega, Int.add_mul, Int.mul_sub]
    omega
  rw [this]; omega
def plcSum (its : List ItemL) : Int := (its.map fun x => x.2.1).sum
theorem plcSum_snoc (its : List ItemL) (x : ItemL) : plcSum (its ++ [x]) = plcSum its + x.2.1 := by unfold plcSum; simp
theorem toO_plc (j : Nat) (st : StO) (ops : List OpL) : ∀ k, k ≤ ops.length → plcSum (toO j st ops k).2 = plcSum st.2 + tri k
  | 0, _ => by rw [toO_zero]; simp [tri]
  | k + 1, h => by
    have hx : ops[((k : Nat) : Int).toNat]? = some ops[k] := by rw [Int.toNat_natCast]; exact List.getElem?_eq_getElem (by omega)
    rw [toO_step hx]
    unfold stepO
    rw [plcSum_snoc, toO_plc j st ops k (by omega), tri_succ]
    show _ + tri k + ((k : Nat) : Int) = _
    omega
def triTo (h : HistL) (j : Nat) : Int := ((h.take j).map fun l => tri l.length).sum
theorem triTo_step {h : HistL} {j : Nat} {x : List OpL} (hx : h[((j : Nat) : Int).toNat]? = some x) : triTo h (j + 1) = triTo h j + tri x.length := by unfold triTo; rw [take_at hx]; simp
theorem allO_plc (h : HistL) : ∀ j, j ≤ h.length → plcSum (allO h j).2 = triTo h j
  | 0, _ => rfl
  | j + 1, hj => by
    have hx : h[((j : Nat) : Int).toNat]? = some h[j] := by rw [Int.toNat_natCast]; exact List.getElem?_eq_getElem (by omega)
    rw [allO_step hx, triTo_step hx, ← allO_plc h j (by omega)]
    exact toO_plc j (allO h j) h[j] _ (Nat.le_refl _)
theorem order_count {h : HistL} (hr : rightH h = true) {j : Nat} (hj : h.length ≤ j) : (((pairsM (((ofI h).length : Nat) : Int) (poR (ofI h))).length : Nat) : Int) = triTo h j := by
  rw [po_pairs (ofI_ord h), (of_ok hr).2.1]
  have := allO_plc h h.length (Nat.le_refl _)
  unfold factI
  unfold plcSum at this
  rw [this]
  unfold triTo
  rw [List.take_of_length_le hj, List.take_length]
theorem tri_le {h : HistL} {n : Nat} (hn : n ≤ 40) (hf : ∀ l ∈ h, l.length ≤ 40) : ∀ j, 0 ≤ triTo h j ∧ triTo h j ≤ 800 * ((j : Nat) : Int)
  | 0 => by simp [triTo]
  | j + 1 => by
    have ih := tri_le hn hf j
    by_cases hj : j < h.length
    · have hx : h[((j : Nat) : Int).toNat]? = some h[j] := by rw [Int.toNat_natCast]; exact List.getElem?_eq_getElem hj
      rw [triTo_step hx]
      have h1 := hf h[j] (List.getElem_mem _)
      have h2 := tri_bound (h[j]).length (by omega)
      unfold tri
      omega
    · have : triTo h (j + 1) = triTo h j := by unfold triTo; rw [List.take_of_length_le (by omega), List.take_of_length_le (by omega)]
      rw [this]; omega
theorem ses_lens {h : HistL} (hs : smallH h 40 = true) : ∀ l ∈ h, l.length ≤ 40 := by
  intro l hl
  have h1 := (small_iff.1 hs).2.1
  have : l.length ≤ h.flatten.length := by
    clear h1 hs
    induction h with
    | nil => cases hl
    | cons y h ih =>
      rw [List.flatten_cons, List.length_append]
      rcases List.mem_cons.1 hl with rfl | hl
      · omega
      · have := ih hl; omega
  omega
/-- what session order is -/
theorem po_closed (its : List ItemL) : closedM ((its.length : Nat) : Int) (poR its) = true := by
  unfold poR
  rw [closed_matP]
  intro i j k hi hj hk h1 h2
  unfold ahN at *
  simp only [Bool.and_eq_true, decide_eq_true_eq] at *
  exact ⟨⟨by omega, hk⟩, by rw [h1.2, h2.2]⟩
theorem po_noloop (its : List ItemL) : loopF ((its.length : Nat) : Int) (poR its) = none := by
  unfold loopF
  rw [List.find?_eq_none]
  intro k hk
  have hk := List.mem_range.1 hk
  rw [Int.toNat_natCast] at hk
  unfold poR
  rw [hasM_nat hk hk]
  unfold ahN; simp
theorem po_right {its : List ItemL} (h : its.length ≤ 4096) : rightS ((its.length : Nat) : Int) (poR its) = true := right_matP h
theorem po_pair {its : List ItemL} {z : Int × Int} {q : Nat} (hz : (pairsM ((its.length : Nat) : Int) (poR its))[q]? = some z) : ahA its z.1 z.2 = true ∧ ahA its z.2 z.1 = false ∧ 0 ≤ z.1 ∧ z.1 < (its.length : Int) ∧ 0 ≤ z.2 ∧ z.2 < (its.length : Int) ∧ sesN its z.1.toNat = sesN its z.2.toNat := by
  have hm := List.mem_of_getElem? hz
  unfold poR at hm
  obtain ⟨a, b, ha, hb, hp, rfl⟩ := mem_pairs.1 hm
  dsimp only
  rw [ahA_N, ahA_N]
  refine ⟨hp, ?_, by omega, by omega, by omega, by omega, ?_⟩
  · unfold ahN at *
    simp only [Bool.and_eq_true, decide_eq_true_eq] at hp
    rw [decide_eq_false (by omega)]; rfl
  · unfold ahN at hp
    simp only [Bool.and_eq_true, decide_eq_true_eq] at hp
    simpa using hp.2
/-- what a past is -/
theorem pastA_len {its : List ItemL} (o : OrdI its) {t : Int} (h0 : 0 ≤ t) (h : t < (its.length : Int)) : (((pastA its t).length : Nat) : Int) = plcN its t.toNat + 1 := by
  have := o.nonneg t.toNat (by omega)
  unfold pastA; rw [if_pos ⟨h0, h⟩]; simp; omega
theorem past_at {its : List ItemL} (o : OrdI its) {t : Int} (h0 : 0 ≤ t) (h : t < (its.length : Int)) {q : Nat} {x : Int} (hx : (pastA its t)[q]? = some x) : 0 ≤ x ∧ x ≤ t ∧ x < (its.length : Int) ∧ sesN its x.toNat = sesN its t.toNat ∧ plcN its x.toNat = ((q : Nat) : Int) ∧ x = t - plcN its t.toNat + ((q : Nat) : Int) := by
  obtain ⟨b1, b2⟩ := o.back t.toNat (by omega)
  have b0 := o.nonneg t.toNat (by omega)
  unfold pastA at hx
  rw [if_pos ⟨h0, h⟩, List.getElem?_map] at hx
  cases hr : (List.range ((plcN its t.toNat).toNat + 1))[q]? with
  | none => rw [hr] at hx; cases hx
  | some k =>
    rw [hr] at hx
    obtain ⟨h1, h2⟩ := List.getElem?_eq_some_iff.1 hr
    simp only [List.length_range] at h1
    rw [List.getElem_range] at h2
    subst h2
    have hx : (t - plcN its t.toNat) + ((q : Nat) : Int) = x := Option.some.inj hx
    have hs := b2 x.toNat (by omega) (by omega)
    refine ⟨by omega, by omega, by omega, hs, ?_, hx.symm⟩
    have := o.place (t.toNat - x.toNat) x.toNat (by omega) (by rw [show x.toNat + (t.toNat - x.toNat) = t.toNat from by omega]; exact hs)
    rw [show x.toNat + (t.toNat - x.toNat) = t.toNat from by omega] at this
    omega
theorem matP_64 {n : Nat} {p : Nat → Nat → Bool} (h : n ≤ 4096) : ∀ x ∈ matP n p, x.length ≤ 64 := by
  intro x hx
  obtain ⟨i, hi⟩ := List.getElem?_of_mem hx
  obtain ⟨-, rfl⟩ := matP_at hi
  have h1 := rowP_len n (p i)
  have := words_le (n := ((n : Nat) : Int)) (by omega)
  omega
end Go.Ew
