/- Plain words: matrices. -/
import Derived.Test.YtmhopljngkgidaaDoorEwSpecC
namespace Go.Ew
set_option linter.unusedVariables false

abbrev Rows := List (List (BitVec 64))
def outN (n k : Int) : Bool := decide (k < 0) || decide (n ≤ k)
def inM (n : Int) (l : List Int) : Bool := !l.any (outN n)
theorem inM_two {n a b : Int} : inM n [a, b] = true ↔ (0 ≤ a ∧ a < n) ∧ (0 ≤ b ∧ b < n) := by
  unfold inM outN
  simp
theorem inM_two_no {n a b : Int} : inM n [a, b] = false ↔ ¬((0 ≤ a ∧ a < n) ∧ (0 ≤ b ∧ b < n)) := by
  rw [← inM_two]; simp
def inP (n : Int) (p : Int × Int) : Bool := inM n [p.1, p.2]
def rowAt (rs : Rows) (i : Int) : Row := rs.getD i.toNat []
theorem rowAt_of {rs : Rows} {i : Int} {x : Row} (h : rs[i.toNat]? = some x) : rowAt rs i = x := by unfold rowAt; rw [List.getD_eq_getElem?_getD, h]; rfl
def setM (rs : Rows) (p : Int × Int) : Rows := rs.set p.1.toNat (setR (rowAt rs p.1) p.2)
theorem setM_length (rs : Rows) (p : Int × Int) : (setM rs p).length = rs.length := by unfold setM; simp
theorem setM_of {rs : Rows} {i j : Int} {x : Row} (h : rs[i.toNat]? = some x) : rs.set i.toNat (setR x j) = setM rs (i, j) := by unfold setM; rw [rowAt_of h]
def okN (n : Int) : Bool := decide (0 ≤ n) && decide (n ≤ 4096)
theorem okN_iff {n : Int} : okN n = true ↔ 0 ≤ n ∧ n ≤ 4096 := by unfold okN; simp
theorem okN_no {n : Int} : okN n = false ↔ ¬ (0 ≤ n ∧ n ≤ 4096) := by rw [← okN_iff]; simp
def newM (n : Int) : Rows := List.replicate n.toNat (newR n)
def newMN (n : Int) : Int := if okN n then n else 0
def newMR (n : Int) : Rows := if okN n then newM n else []
def newME (n : Int) : Int := if okN n then 0 else 1
theorem newM_yes {n : Int} (h : okN n = true) : newMN n = n ∧ newMR n = newM n ∧ newME n = 0 := by simp [newMN, newMR, newME, h]
theorem newM_no {n : Int} (h : okN n = false) : newMN n = 0 ∧ newMR n = [] ∧ newME n = 1 := by simp [newMN, newMR, newME, h]
theorem newM_length (n : Int) : (newM n).length = n.toNat := by unfold newM; simp
/-- A row of which k places are filled. -/
def fillTo {α : Type} (m k : Nat) (a b : α) : List α := List.replicate k a ++ List.replicate (m - k) b
theorem fillTo_zero {α : Type} (m : Nat) (a b : α) : List.replicate m b = fillTo m 0 a b := by simp [fillTo]
theorem fillTo_length {α : Type} {m k : Nat} (a b : α) (h : k ≤ m) : (fillTo m k a b).length = m := by simp [fillTo]; omega
theorem fillTo_set {α : Type} {m k : Nat} {a b : α} (h : k < m) : (fillTo m k a b).set k a = fillTo m (k + 1) a b := by
  unfold fillTo
  obtain ⟨q, hq⟩ : ∃ q, m - k = q + 1 := ⟨m - k - 1, by omega⟩
  rw [hq, List.set_append_right _ _ (by simp), show m - (k + 1) = q from by omega, List.length_replicate, Nat.sub_self, List.replicate_succ, List.set_cons_zero, List.replicate_succ', List.append_assoc]
  rfl
theorem fillTo_end {α : Type} {m k : Nat} {a b : α} (h : k = m) : fillTo m k a b = List.replicate m a := by subst h; simp [fillTo]

/-! The matrix of pairs. -/
def foldM (n : Int) (ps : List (Int × Int)) : Rows := ps.foldl setM (newM n)
theorem foldl_setM_length : ∀ (ps : List (Int × Int)) (rs : Rows), (ps.foldl setM rs).length = rs.length
  | [], _ => rfl
  | p :: ps, rs => by rw [List.foldl_cons, foldl_setM_length ps, setM_length]
theorem foldM_length (n : Int) (ps : List (Int × Int)) : (foldM n ps).length = n.toNat := by unfold foldM; rw [foldl_setM_length, newM_length]
theorem foldM_step {n : Int} {ps : List (Int × Int)} {j : Nat} {p : Int × Int} (h : ps[((j : Nat) : Int).toNat]? = some p) : foldM n (ps.take (j + 1)) = setM (foldM n (ps.take j)) p := by
  unfold foldM; rw [take_at h, List.foldl_append]; rfl
def ofOk (n : Int) (ps : List (Int × Int)) : Bool := okN n && ps.all (inP n)
def ofMN (n : Int) (ps : List (Int × Int)) : Int := if ofOk n ps then n else 0
def ofMR (n : Int) (ps : List (Int × Int)) : Rows := if ofOk n ps then foldM n ps else []
def ofME (n : Int) (ps : List (Int × Int)) : Int := if ofOk n ps then 0 else 1
theorem of_yes {n : Int} {ps : List (Int × Int)} (h : ofOk n ps = true) : ofMN n ps = n ∧ ofMR n ps = foldM n ps ∧ ofME n ps = 0 := by simp [ofMN, ofMR, ofME, h]
theorem of_no {n : Int} {ps : List (Int × Int)} (h : ofOk n ps = false) : ofMN n ps = 0 ∧ ofMR n ps = [] ∧ ofME n ps = 1 := by simp [ofMN, ofMR, ofME, h]
theorem all_take {α : Type} {l : List α} {q : α → Bool} {j : Nat} {x : α} (h : l[((j : Nat) : Int).toNat]? = some x) (h1 : (l.take j).all q = true) (h2 : q x = true) : (l.take (j + 1)).all q = true := by
  rw [take_at h, List.all_append, h1]; simp [h2]
theorem all_no {α : Type} {l : List α} {q : α → Bool} {i : Nat} {x : α} (h : l[i]? = some x) (h2 : q x = false) : l.all q = false := by
  rw [List.all_eq_false]; exact ⟨x, List.mem_of_getElem? h, by simp [h2]⟩
theorem ofOk_end {n : Int} {ps : List (Int × Int)} {j : Nat} (h : okN n = true) (h1 : (ps.take j).all (inP n) = true) (h2 : ps.length ≤ j) : ofOk n ps = true := by
  rw [take_end h2] at h1; simp [ofOk, h, h1]
theorem ofOk_no {n : Int} {ps : List (Int × Int)} {i : Nat} {p : Int × Int} (h : ps[i]? = some p) (h2 : inP n p = false) : ofOk n ps = false := by
  simp [ofOk, all_no h h2]
theorem ofOk_bad {n : Int} {ps : List (Int × Int)} (h : okN n = false) : ofOk n ps = false := by simp [ofOk, h]
theorem setM_rows {m : Nat} {rs : Rows} {p : Int × Int} (h : ∀ x ∈ rs, x.length = m) : ∀ x ∈ setM rs p, x.length = m := by
  intro x hx
  unfold setM at hx
  by_cases hi : p.1.toNat < rs.length
  · rcases List.mem_or_eq_of_mem_set hx with hx | rfl
    · exact h x hx
    · rw [setR_length]
      unfold rowAt
      rw [List.getD_eq_getElem?_getD, List.getElem?_eq_getElem hi]
      exact h _ (List.getElem_mem hi)
  · rw [List.set_eq_of_length_le (by omega)] at hx
    exact h x hx
theorem foldl_setM_rows {m : Nat} : ∀ (ps : List (Int × Int)) (rs : Rows), (∀ x ∈ rs, x.length = m) → ∀ x ∈ ps.foldl setM rs, x.length = m
  | [], _, h => h
  | p :: ps, rs, h => by rw [List.foldl_cons]; exact foldl_setM_rows ps _ (setM_rows h)
theorem newR_length (n : Int) : (newR n).length = words n := by unfold newR; simp
theorem foldM_row {n : Int} {ps : List (Int × Int)} {i : Nat} {x : Row} (h : (foldM n ps)[i]? = some x) : x.length = words n :=
  foldl_setM_rows ps (newM n) (by
    intro x hx
    unfold newM at hx
    rw [List.eq_of_mem_replicate hx, newR_length]) x (List.mem_of_getElem? h)
theorem words_le {n : Int} (h : n ≤ 4096) : words n ≤ 64 := by unfold words; omega
theorem newME_no {n : Int} (h : newME n ≠ 0) : okN n = false := by
  cases h1 : okN n with
  | false => rfl
  | true => exact absurd (newM_yes h1).2.2 h
theorem newME_yes {n : Int} (h : newME n = 0) : okN n = true := by
  cases h1 : okN n with
  | true => rfl
  | false => rw [(newM_no h1).2.2] at h; cases h
/-! Setting, asking, being right. -/
def setMN (n : Int) (i j : Int) : Int := if inM n [i, j] then n else 0
def setMR (n : Int) (rs : Rows) (i j : Int) : Rows := if inM n [i, j] then setM rs (i, j) else []
def setME (n : Int) (i j : Int) : Int := if inM n [i, j] then 0 else 1
def hasM (n : Int) (rs : Rows) (i j : Int) : Bool := inM n [i, j] && hasR (rowAt rs i) j
theorem set_yes {n i j : Int} {rs : Rows} (h : inM n [i, j] = true) : setMN n i j = n ∧ setMR n rs i j = setM rs (i, j) ∧ setME n i j = 0 := by simp [setMN, setMR, setME, h]
theorem set_no {n i j : Int} {rs : Rows} (h : inM n [i, j] = false) : setMN n i j = 0 ∧ setMR n rs i j = [] ∧ setME n i j = 1 := by simp [setMN, setMR, setME, h]
def lowW (k : Int) : BitVec 64 := if k ≤ 0 then 0#64 else 18446744073709551615#64 >>> (64 - min k 64).toNat
theorem lowW_no {k : Int} (h : k ≤ 0) : 0#64 = lowW k := by unfold lowW; rw [if_pos h]
theorem lowW_yes {k : Int} (h : ¬ k ≤ 0) : 18446744073709551615#64 >>> ((BitVec.ofInt 64 (64 - min k 64)).toNat : Int).toNat = lowW k := by
  unfold lowW
  rw [if_neg h, Int.toNat_natCast, BitVec.toNat_ofInt]
  congr 1
  have h1 : (0 : Int) ≤ 64 - min k 64 := by omega
  have h2 : 64 - min k 64 < 18446744073709551616 := by omega
  have h3 : (64 - min k 64) % ((2 ^ 64 : Nat) : Int) = 64 - min k 64 := Int.emod_eq_of_lt h1 h2
  rw [h3]
def spareW (n : Int) : BitVec 64 := if 0 < n % 64 then lowW (n % 64) else 18446744073709551615#64
def badRow (wn : Int) (sp : BitVec 64) (r : Row) : Bool := !decide ((r.length : Int) = wn) || !decide (r.getD (wn - 1).toNat 0#64 &&& ~~~sp = 0#64)
def rightM (n : Int) (rs : Rows) : Bool := okN n && decide ((rs.length : Int) = n) && !rs.any (badRow ((words n : Nat) : Int) (spareW n))
theorem at_is {α : Type} {l : List α} {i : Nat} {x y : α} (h : l[i]? = some x) (e : l[i]? = some y) : x = y := Option.some.inj (h.symm.trans e)
theorem getD_of {r : Row} {i : Int} {x : BitVec 64} (h : r[i.toNat]? = some x) : r.getD i.toNat 0#64 = x := by rw [List.getD_eq_getElem?_getD, h]; rfl
theorem inM_eq {n i j : Int} : inM n [i, j] = (decide (0 ≤ i) && decide (i < n) && decide (0 ≤ j) && decide (j < n)) := by
  rw [Bool.eq_iff_iff, inM_two]; simp [and_assoc]
def eqM (an : Int) (ar : Rows) (bn : Int) (br : Rows) : Bool := decide (an = bn ∧ ar = br)
theorem eqM_refl (an : Int) (ar : Rows) : eqM an ar an ar = true := by unfold eqM; simp
theorem eqM_no {an bn : Int} {ar br : Rows} (h : ¬ (an = bn ∧ ar = br)) : false = eqM an ar bn br := by unfold eqM; rw [decide_eq_false h]
theorem eqM_yes {an bn : Int} {ar br : Rows} (h : an = bn) (h2 : ar = br) : true = eqM an ar bn br := by unfold eqM; rw [decide_eq_true ⟨h, h2⟩]
theorem newME_dec (n : Int) : decide (newME n = 0) = okN n := by
  cases h : okN n with
  | true => rw [(newM_yes h).2.2]; rfl
  | false => rw [(newM_no h).2.2]; rfl
theorem ofME_zero {n : Int} {ps : List (Int × Int)} (h : ofME n ps = 0) : ofOk n ps = true := by
  cases h1 : ofOk n ps with
  | true => rfl
  | false => rw [(of_no h1).2.2] at h; cases h
theorem ofME_not {n : Int} {ps : List (Int × Int)} (h : ofME n ps ≠ 0) : ofOk n ps = false := by
  cases h1 : ofOk n ps with
  | false => rfl
  | true => exact absurd (of_yes h1).2.2 h
theorem ofOk_nil {n : Int} (h : okN n = true) : ofOk n [] = true := by simp [ofOk, h]
theorem ofOk_take {n : Int} {ps : List (Int × Int)} {j : Nat} {p : Int × Int} (hx : ps[((j : Nat) : Int).toNat]? = some p) (h : ofOk n (ps.take j) = true) : ofOk n (ps.take (j + 1)) = inP n p := by
  unfold ofOk at *
  rw [take_at hx, List.all_append]
  simp only [Bool.and_eq_true] at h
  simp [h.1, h.2]
theorem ofM_step {n : Int} {ps : List (Int × Int)} {j : Nat} {p : Int × Int} (hx : ps[((j : Nat) : Int).toNat]? = some p) (h : ofOk n (ps.take j) = true) :
    setMN (ofMN n (ps.take j)) p.1 p.2 = ofMN n (ps.take (j + 1)) ∧ setMR (ofMN n (ps.take j)) (ofMR n (ps.take j)) p.1 p.2 = ofMR n (ps.take (j + 1)) ∧ setME (ofMN n (ps.take j)) p.1 p.2 = ofME n (ps.take (j + 1)) := by
  have h1 := ofOk_take hx h
  obtain ⟨e1, e2, -⟩ := of_yes h
  rw [e1, e2]
  cases hp : inP n p with
  | true =>
    rw [hp] at h1
    obtain ⟨f1, f2, f3⟩ := of_yes h1
    obtain ⟨g1, g2, g3⟩ := set_yes (rs := foldM n (ps.take j)) (show inM n [p.1, p.2] = true from hp)
    rw [f1, f2, f3, g1, g2, g3]
    exact ⟨rfl, (foldM_step hx).symm, rfl⟩
  | false =>
    rw [hp] at h1
    obtain ⟨f1, f2, f3⟩ := of_no h1
    obtain ⟨g1, g2, g3⟩ := set_no (rs := foldM n (ps.take j)) (show inM n [p.1, p.2] = false from hp)
    rw [f1, f2, f3, g1, g2, g3]
    exact ⟨rfl, rfl, rfl⟩
theorem ofOk_back {n : Int} {ps : List (Int × Int)} (j : Nat) (h : ofOk n (ps.take j) = false) (hn : okN n = true) : ofOk n ps = false := by
  unfold ofOk at *
  rw [hn, Bool.true_and] at h
  rw [hn, Bool.true_and]
  obtain ⟨x, hx, h2⟩ := List.all_eq_false.1 h
  exact List.all_eq_false.2 ⟨x, List.mem_of_mem_take hx, h2⟩
theorem ofM_sq {n : Int} {ps : List (Int × Int)} (h : ofOk n ps = true) : (((ofMR n ps).length : Nat) : Int) = ofMN n ps ∧ (∀ x ∈ ofMR n ps, x.length ≤ 1000000000) ∧ ofMN n ps ≤ 4096 := by
  obtain ⟨e1, e2, -⟩ := of_yes h
  have hn : okN n = true := by unfold ofOk at h; simp only [Bool.and_eq_true] at h; exact h.1
  have hn2 := okN_iff.1 hn
  rw [e1, e2, foldM_length]
  refine ⟨by omega, fun x hx => ?_, hn2.2⟩
  obtain ⟨i, hi⟩ := List.mem_iff_getElem?.1 hx
  have h1 := foldM_row hi
  have h2 := words_le hn2.2
  omega
theorem ofOk_nil_eq (n : Int) : ofOk n [] = okN n := by unfold ofOk; simp
theorem ofM_nil (n : Int) : newMN n = ofMN n [] ∧ newMR n = ofMR n [] ∧ newME n = ofME n [] := by
  unfold newMN ofMN newMR ofMR newME ofME
  rw [ofOk_nil_eq]
  exact ⟨rfl, rfl, rfl⟩
theorem ofOk_less {n : Int} {ps : List (Int × Int)} (j : Nat) (h : ofOk n (ps.take j) = false) : ofOk n ps = false := by
  cases hn : okN n with
  | true => exact ofOk_back j h hn
  | false => exact ofOk_bad hn
end Go.Ew
