/- Plain words and laws: what right matrices are; together, parts, pairs, turned about (layer 3). -/
import Derived.Test.YtmhopljngkgidaaDoorEwSpecS
import Derived.Test.YtmhopljngkgidaaDoorEwSpecK
namespace Go.Ew
set_option linter.unusedVariables false
set_option linter.unusedSimpArgs false

theorem rowOk_is {n : Nat} {r : Row} (h : rowOk ((n : Nat) : Int) r = true) : r = rowP n fun k => hasR r ((k : Nat) : Int) := by
  unfold rowOk at h
  rw [Bool.and_eq_true, decide_eq_true_eq, List.all_eq_true] at h
  refine row_is (by omega) fun k => ?_
  by_cases hk : k < n
  · simp [hk]
  · rw [decide_eq_false hk, Bool.false_and]
    by_cases h2 : k < 64 * r.length
    · have := h.2 k (List.mem_range.2 h2)
      rw [decide_eq_false (show ¬ ((k : Nat) : Int) < ((n : Nat) : Int) from by omega), Bool.false_or] at this
      simpa using this
    · exact (hasR_out (by unfold inR; exact decide_eq_false (by omega))).symm
/-- What is right is told by what it has. -/
theorem right_is {n : Int} {rs : Rows} (h : rightS n rs = true) : ∃ (m : Nat) (p : Nat → Nat → Bool), n = ((m : Nat) : Int) ∧ m ≤ 4096 ∧ rs = matP m p := by
  unfold rightS at h
  rw [Bool.and_eq_true, Bool.and_eq_true, decide_eq_true_eq, List.all_eq_true] at h
  obtain ⟨⟨h1, h2⟩, h3⟩ := h
  have h1 := okN_iff.1 h1
  refine ⟨n.toNat, fun i j => hasR (rs.getD i []) ((j : Nat) : Int), by omega, by omega, mat_is (by omega) fun i hi => ?_⟩
  have hx : rs[i]? = some rs[i] := List.getElem?_eq_getElem (by omega)
  have e : rs.getD i [] = rs[i] := by rw [List.getD_eq_getElem?_getD, hx]; rfl
  rw [hx, e]
  have := rowOk_is (n := n.toNat) (r := rs[i]) (by rw [show ((n.toNat : Nat) : Int) = n from by omega]; exact h3 _ (List.getElem_mem _))
  rw [← this]
theorem right_sq {n : Int} {rs : Rows} (h : rightS n rs = true) : ((rs.length : Nat) : Int) = n ∧ (∀ x ∈ rs, x.length ≤ 1000000000) ∧ n ≤ 4096 ∧ 0 ≤ n ∧ ∀ x ∈ rs, x.length ≤ 64 := by
  obtain ⟨m, p, rfl, hm, rfl⟩ := right_is h
  exact ⟨by rw [matP_len], matP_small hm, by omega, by omega, matP_64 hm⟩

/-! ### together -/
def orRs (a b : Rows) (n : Nat) : Rows := (List.range n).map fun i => orR (rowAt a ((i : Nat) : Int)) (rowAt b ((i : Nat) : Int))
theorem orRs_len (a b : Rows) (n : Nat) : (orRs a b n).length = n := by unfold orRs; simp
theorem orRs_step (a b : Rows) (n : Nat) : orRs a b (n + 1) = orRs a b n ++ [orR (rowAt a ((n : Nat) : Int)) (rowAt b ((n : Nat) : Int))] := by unfold orRs; rw [List.range_succ, List.map_append]; rfl
def orMN (an bn : Int) : Int := if an = bn then an else 0
def orMR (an : Int) (ar : Rows) (bn : Int) (br : Rows) : Rows := if an = bn then orRs ar br an.toNat else []
def orME (an bn : Int) : Int := if an = bn then 0 else 1
theorem orM_no {an bn : Int} {ar br : Rows} (h : ¬ an = bn) : orMN an bn = 0 ∧ orMR an ar bn br = [] ∧ orME an bn = 1 := by unfold orMN orMR orME; simp [h]
theorem orM_yes {an bn : Int} {ar br : Rows} (h : an = bn) : orMN an bn = an ∧ orMR an ar bn br = orRs ar br an.toNat ∧ orME an bn = 0 := by unfold orMN orMR orME; simp [h]
/-- filled one by one -/
def orFill (a b : Rows) (n j : Nat) : Rows := orRs a b j ++ List.replicate (n - j) []
theorem orFill_zero (a b : Rows) (n : Nat) : List.replicate n [] = orFill a b n 0 := by unfold orFill orRs; simp
theorem orFill_set {a b : Rows} {n j : Nat} {x y : Row} (hj : j < n) (hx : a[((j : Nat) : Int).toNat]? = some x) (hy : b[((j : Nat) : Int).toNat]? = some y) : (orFill a b n j).set j (orR x y) = orFill a b n (j + 1) := by
  unfold orFill
  rw [orRs_step, rowAt_of hx, rowAt_of hy]
  have hl := orRs_len a b j
  rw [List.set_append_right _ _ (by omega), hl, Nat.sub_self, show n - j = n - (j + 1) + 1 from by omega, List.replicate_succ, List.set_cons_zero]
  simp
theorem orFill_end {a b : Rows} {n j : Nat} (hj : n ≤ j) (h : j ≤ n) : orFill a b n j = orRs a b n := by
  obtain rfl : n = j := by omega
  unfold orFill; simp
theorem or_rowP {n : Nat} (p q : Nat → Bool) : orR (rowP n p) (rowP n q) = rowP n fun k => p k || q k := by
  refine row_is (by rw [orR_length, rowP_len, rowP_len]; omega) fun k => ?_
  rw [hasR_or, rowP_has, rowP_has]
  by_cases hk : k < n <;> simp [hk]
theorem orRs_matP {n : Nat} (p q : Nat → Nat → Bool) : orRs (matP n p) (matP n q) n = matP n fun a b => p a b || q a b := by
  refine mat_is (orRs_len _ _ _) fun i hi => ?_
  unfold orRs
  rw [List.getElem?_map, List.getElem?_range hi]
  simp only [Option.map_some]
  rw [rowAt_matP (by omega) (by omega), rowAt_matP (by omega) (by omega), Int.toNat_natCast, or_rowP]

/-! ### parts -/
def subRs (a b : Rows) (n : Nat) : Bool := (List.range n).all fun i => subR (rowAt a ((i : Nat) : Int)) (rowAt b ((i : Nat) : Int))
def subM (an : Int) (ar : Rows) (bn : Int) (br : Rows) : Bool := decide (an = bn) && subRs ar br an.toNat
theorem subM_ne {an bn : Int} {ar br : Rows} (h : ¬ an = bn) : false = subM an ar bn br := by unfold subM; rw [decide_eq_false h]; rfl
theorem subM_no {an bn : Int} {ar br : Rows} {i : Nat} {x y : Row} (hi : ((i : Nat) : Int) < an) (hx : ar[((i : Nat) : Int).toNat]? = some x) (hy : br[((i : Nat) : Int).toNat]? = some y) (h : subR x y = false) : false = subM an ar bn br := by
  unfold subM
  symm
  rw [Bool.and_eq_false_iff]
  right
  unfold subRs
  rw [List.all_eq_false]
  exact ⟨i, List.mem_range.2 (by omega), by rw [rowAt_of hx, rowAt_of hy, h]; simp⟩
theorem subRs_step {a b : Rows} {i : Nat} {x y : Row} (h : subRs a b i = true) (hx : a[((i : Nat) : Int).toNat]? = some x) (hy : b[((i : Nat) : Int).toNat]? = some y) (hs : subR x y = true) : subRs a b (i + 1) = true := by
  unfold subRs at *
  rw [List.range_succ, List.all_append, h]
  simp only [List.all_cons, List.all_nil, Bool.and_true, Bool.true_and]
  rw [rowAt_of hx, rowAt_of hy, hs]
theorem subM_yes {an bn : Int} {ar br : Rows} {i : Nat} (h : an = bn) (hi : an ≤ ((i : Nat) : Int)) (hi2 : ((i : Nat) : Int) ≤ an ∨ i = 0) (hs : subRs ar br i = true) : true = subM an ar bn br := by
  unfold subM
  rw [decide_eq_true h, show an.toNat = i from by omega, hs]; rfl
theorem sub_rowP {n : Nat} {p q : Nat → Bool} : subR (rowP n p) (rowP n q) = true ↔ ∀ k, k < n → p k = true → q k = true := by
  rw [subR_iff]
  constructor
  · intro h k hk hp
    have := h ((k : Nat) : Int) (by rw [rowP_has]; simp [hk, hp])
    rw [rowP_has] at this
    simpa [hk] using this
  · intro h i hi
    rw [rowP_has] at hi ⊢
    simp only [Bool.and_eq_true, decide_eq_true_eq] at hi ⊢
    exact ⟨hi.1, h _ (by omega) hi.2⟩
theorem subM_matP {n : Nat} {p q : Nat → Nat → Bool} : subM ((n : Nat) : Int) (matP n p) ((n : Nat) : Int) (matP n q) = true ↔ ∀ i j, i < n → j < n → p i j = true → q i j = true := by
  unfold subM subRs
  rw [decide_eq_true rfl, Bool.true_and, List.all_eq_true]
  simp only [List.mem_range, Int.toNat_natCast]
  constructor
  · intro h i j hi hj
    have := h i hi
    rw [rowAt_matP (by omega) (by omega), rowAt_matP (by omega) (by omega), Int.toNat_natCast, sub_rowP] at this
    exact this j hj
  · intro h i hi
    rw [rowAt_matP (by omega) (by omega), rowAt_matP (by omega) (by omega), Int.toNat_natCast, sub_rowP]
    exact fun j hj => h i j hi hj
def sameM (an : Int) (ar : Rows) (bn : Int) (br : Rows) : Bool := decide (an = bn) && decide (ar = br)
theorem sameM_refl (n : Int) (rs : Rows) : sameM n rs n rs = true := by unfold sameM; simp
/-! ### small ones -/
def smallM (rs : Rows) (m : Int) : Bool := decide (((rs.length : Nat) : Int) ≤ m) && rs.all fun r => decide (r.length ≤ 4)
theorem smallM_big {rs : Rows} {m : Int} (h : m < ((rs.length : Nat) : Int)) : false = smallM rs m := by unfold smallM; rw [decide_eq_false (by omega)]; rfl
theorem smallM_row {rs : Rows} {m : Int} {i : Nat} {x : Row} (hx : rs[i]? = some x) (h : 4 < x.length) : false = smallM rs m := by unfold smallM; rw [all_no hx (decide_eq_false (by omega))]; simp
theorem smallM_end {rs : Rows} {m : Int} {j : Nat} (h : ¬ m < ((rs.length : Nat) : Int)) (hs : (rs.take j).all (fun r => decide (r.length ≤ 4)) = true) (hj : rs.length ≤ j) : true = smallM rs m := by
  unfold smallM; rw [take_end hj] at hs; rw [decide_eq_true (by omega), hs]; rfl
theorem smallM_iff {rs : Rows} {m : Int} : smallM rs m = true ↔ ((rs.length : Nat) : Int) ≤ m ∧ ∀ r ∈ rs, r.length ≤ 4 := by
  unfold smallM; rw [Bool.and_eq_true, decide_eq_true_eq, List.all_eq_true]
  simp only [decide_eq_true_eq]

/-! ### the two ways to say 'right' -/
theorem spareW_bit {n : Int} {i : Nat} (hi : i < 64) : (spareW n).getLsbD i = (decide (n % 64 = 0) || decide (((i : Nat) : Int) < n % 64)) := by
  unfold spareW
  split
  · rw [lowW_bit, decide_eq_true hi, decide_eq_false (show ¬ n % 64 = 0 from by omega)]; simp
  · rw [decide_eq_true (show n % 64 = 0 from by omega), Bool.true_or, show (18446744073709551615#64 : BitVec 64) = BitVec.allOnes 64 from by decide, BitVec.getLsbD_allOnes]
    exact decide_eq_true hi
theorem spare_zero {x sp : BitVec 64} : x &&& ~~~sp = 0#64 ↔ ∀ i, i < 64 → sp.getLsbD i = false → x.getLsbD i = false := by
  constructor
  · intro h i hi hs
    have := congrArg (fun y => y.getLsbD i) h
    simp only [BitVec.getLsbD_and, BitVec.getLsbD_not, hs, hi, BitVec.getLsbD_zero] at this
    simpa using this
  · intro h
    apply BitVec.eq_of_getLsbD_eq
    intro i hi
    rw [BitVec.getLsbD_and, BitVec.getLsbD_not, BitVec.getLsbD_zero]
    cases hs : sp.getLsbD i with
    | true => simp
    | false => rw [h i hi hs]; rfl
theorem badRow_ok {n : Nat} {r : Row} (h0 : 1 ≤ n) : badRow ((words ((n : Nat) : Int) : Nat) : Int) (spareW ((n : Nat) : Int)) r = !rowOk ((n : Nat) : Int) r := by
  by_cases hl : ((r.length : Nat) : Int) = ((words ((n : Nat) : Int) : Nat) : Int)
  · unfold badRow
    rw [decide_eq_true hl, Bool.not_true, Bool.false_or]
    congr 1
    rw [Bool.eq_iff_iff, decide_eq_true_eq, spare_zero]
    unfold rowOk
    rw [decide_eq_true hl, Bool.true_and, List.all_eq_true]
    rw [words_nat] at hl ⊢
    have e1 : ((((n + 63) / 64 : Nat) : Int) - 1).toNat = (n + 63) / 64 - 1 := by omega
    rw [e1]
    constructor
    · intro h k hk
      have hk := List.mem_range.1 hk
      by_cases hn : k < n
      · rw [decide_eq_true (by omega)]; rfl
      · rw [hasR_nat, show k / 64 = (n + 63) / 64 - 1 from by omega, h (k % 64) (by omega) (by
          rw [spareW_bit (by omega), decide_eq_false (by omega), decide_eq_false (by omega)]; rfl)]
        simp
    · intro h i hi hs
      rw [spareW_bit hi] at hs
      simp only [Bool.or_eq_false_iff, decide_eq_false_iff_not] at hs
      have := h (64 * ((n + 63) / 64 - 1) + i) (List.mem_range.2 (by omega))
      rw [decide_eq_false (by omega), Bool.false_or, hasR_nat, show (64 * ((n + 63) / 64 - 1) + i) / 64 = (n + 63) / 64 - 1 from by omega, show (64 * ((n + 63) / 64 - 1) + i) % 64 = i from by omega] at this
      simpa using this
  · rw [rowOk_len hl]
    unfold badRow
    rw [decide_eq_false hl]; rfl
theorem right_two (n : Int) (rs : Rows) : rightM n rs = rightS n rs := by
  unfold rightM rightS
  by_cases h1 : okN n = true
  · by_cases h2 : ((rs.length : Nat) : Int) = n
    · rw [h1, decide_eq_true h2, Bool.true_and, Bool.true_and]
      by_cases h3 : rs = []
      · rw [h3]; rfl
      · have hp := List.length_pos_iff.2 h3
        obtain ⟨m, rfl⟩ : ∃ m : Nat, n = ((m : Nat) : Int) := ⟨rs.length, h2.symm⟩
        have : badRow ((words ((m : Nat) : Int) : Nat) : Int) (spareW ((m : Nat) : Int)) = fun r => !rowOk ((m : Nat) : Int) r := by
          funext r; exact badRow_ok (by omega)
        rw [this, List.not_any_eq_all_not]
        simp
    · rw [decide_eq_false h2]; simp
  · rw [show okN n = false from by simpa using h1]; simp

/-! ### turned about -/
theorem pairs_mem {n : Nat} {p : Nat → Nat → Bool} {z : Int × Int} {q : Nat} (h : (pairsM ((n : Nat) : Int) (matP n p))[q]? = some z) : 0 ≤ z.1 ∧ z.1 < ((n : Nat) : Int) ∧ 0 ≤ z.2 ∧ z.2 < ((n : Nat) : Int) ∧ p z.1.toNat z.2.toNat = true := by
  obtain ⟨a, b, ha, hb, hp, rfl⟩ := mem_pairs.1 (List.mem_of_getElem? h)
  exact ⟨by omega, by omega, by omega, by omega, by simpa using hp⟩

/-! ### a law of two, element by element -/
def allTo {A : Type} (q : A → A → Bool) (a b : List A) (j : Nat) : Bool := ((a.take j).zip (b.take j)).all fun x => q x.1 x.2
def allQ {A : Type} (q : A → A → Bool) (a b : List A) : Bool := decide (a.length = b.length) && allTo q a b a.length
theorem allQ_len {A : Type} {q : A → A → Bool} {a b : List A} (h : ¬ ((a.length : Nat) : Int) = ((b.length : Nat) : Int)) : false = allQ q a b := by unfold allQ; rw [decide_eq_false (by omega)]; rfl
theorem zip_snoc {A B : Type} : ∀ (a : List A) (b : List B) (x : A) (y : B), a.length = b.length → (a ++ [x]).zip (b ++ [y]) = a.zip b ++ [(x, y)] := by
  intro a b x y h
  rw [List.zip_append h]; rfl
theorem allTo_next {A : Type} {q : A → A → Bool} {a b : List A} {j : Nat} {x y : A} (hx : a[((j : Nat) : Int).toNat]? = some x) (hy : b[((j : Nat) : Int).toNat]? = some y) : allTo q a b (j + 1) = (allTo q a b j && q x y) := by
  have h1 := (List.getElem?_eq_some_iff.1 hx).1
  have h2 := (List.getElem?_eq_some_iff.1 hy).1
  unfold allTo
  rw [take_at hx, take_at hy, zip_snoc _ _ _ _ (by rw [List.length_take, List.length_take]; omega), List.all_append]
  simp
theorem allTo_step {A : Type} {q : A → A → Bool} {a b : List A} {j : Nat} {x y : A} (h : allTo q a b j = true) (hx : a[((j : Nat) : Int).toNat]? = some x) (hy : b[((j : Nat) : Int).toNat]? = some y) (hq : q x y = true) : allTo q a b (j + 1) = true := by
  rw [allTo_next hx hy, h, hq]; rfl
theorem allQ_end {A : Type} {q : A → A → Bool} {a b : List A} {j : Nat} (hl : ((a.length : Nat) : Int) = ((b.length : Nat) : Int)) (h : allTo q a b j = true) (hj : a.length ≤ j) : true = allQ q a b := by
  unfold allQ
  rw [decide_eq_true (by omega)]
  unfold allTo at *
  rw [List.take_of_length_le hj, List.take_of_length_le (by omega)] at h
  rw [List.take_length, List.take_of_length_le (by omega), h]; rfl
theorem allQ_no {A : Type} {q : A → A → Bool} {a b : List A} {j : Nat} {x y : A} (hx : a[((j : Nat) : Int).toNat]? = some x) (hy : b[((j : Nat) : Int).toNat]? = some y) (hq : q x y = false) : false = allQ q a b := by
  symm
  unfold allQ
  rw [Bool.and_eq_false_iff]
  by_cases hl : a.length = b.length
  · right
    unfold allTo
    rw [List.all_eq_false]
    refine ⟨(x, y), ?_, by simp [hq]⟩
    rw [List.take_length, List.take_of_length_le (by omega)]
    rw [List.mem_iff_getElem?]
    exact ⟨((j : Nat) : Int).toNat, by rw [List.getElem?_zip_eq_some]; exact ⟨hx, hy⟩⟩
  · left; exact decide_eq_false hl
theorem allQ_eq {A : Type} [DecidableEq A] (a b : List A) : (allQ (fun x y => decide (x = y)) a b) = decide (a = b) := by
  by_cases h : a = b
  · subst h
    rw [decide_eq_true rfl]
    unfold allQ allTo
    rw [decide_eq_true rfl, Bool.true_and, List.all_eq_true]
    intro z hz
    obtain ⟨i, hi⟩ := List.mem_iff_getElem?.1 hz
    rw [List.getElem?_zip_eq_some] at hi
    exact decide_eq_true (Option.some.inj (hi.1.symm.trans hi.2))
  · rw [decide_eq_false h]
    cases hq : allQ (fun x y => decide (x = y)) a b with
    | false => rfl
    | true =>
      exfalso
      apply h
      unfold allQ at hq
      rw [Bool.and_eq_true, decide_eq_true_eq] at hq
      apply List.ext_getElem hq.1
      intro i h1 h2
      have := hq.2
      unfold allTo at this
      rw [List.all_eq_true, List.take_length, List.take_of_length_le (by omega)] at this
      have := this (a[i], b[i]) (by
        rw [List.mem_iff_getElem?]
        exact ⟨i, by rw [List.getElem?_zip_eq_some]; exact ⟨List.getElem?_eq_getElem h1, List.getElem?_eq_getElem h2⟩⟩)
      simpa using this
end Go.Ew
