/- Plain words and laws: a row joined into another one (layer 4). -/
import Derived.Test.YtmhopljngkgidaaDoorEngX
import Derived.Test.YtmhopljngkgidaaDoorEwSpecX
namespace Go.Ew
set_option linter.unusedVariables false
set_option linter.unusedSimpArgs false
set_option linter.unusedSectionVars false

/-- What is read of the row that is joined, while the other one is written (they may be one and the same). -/
theorem join_from {l : List Item} {i j : Nat} {B e : Nat} {iv fv : Value} {a b xs : Row} {q : Nat} (hj : l[j]? = some (own B e fv b)) (hi : i < l.length) (hne : i ≠ j ∨ (iv = fv ∧ b = a)) (hxl : xs.length = a.length) (hxs : xs = orTo a.length a b a q) (hq : q ≤ b.length) (hlen : b.length ≤ a.length) :
    ∃ ys : Row, (l.set i (own B e iv xs))[j]? = some (own B e fv ys) ∧ ys.length = b.length ∧ ∀ x, ys[((q : Nat) : Int).toNat]? = some x → b.getD q 0#64 = x := by
  by_cases h : i = j
  · subst h
    rcases hne with h | ⟨rfl, rfl⟩
    · exact absurd rfl h
    · refine ⟨xs, by rw [List.getElem?_set_self hi], hxl, fun x hx => ?_⟩
      rw [hxs] at hx
      exact (orTo_get hx).symm
  · exact ⟨b, by rw [List.getElem?_set_ne h, hj], rfl, fun x hx => getD_at hx⟩
theorem join_step {a b xs : Row} {q : Nat} {x y : BitVec 64} (hs : xs = orTo a.length a b a q) (hx : b.getD q 0#64 = x) (hy : xs[((q : Nat) : Int).toNat]? = some y) : xs.set ((q : Nat) : Int).toNat (y ||| x) = orTo a.length a b a (q + 1) := by
  subst hs
  have e1 := orTo_get hy
  rw [Int.toNat_natCast]
  exact orTo_set (by rw [e1]; unfold orAt; rw [hx])
theorem join_end {a b xs : Row} {q : Nat} (hs : xs = orTo a.length a b a q) (hlen : b.length ≤ a.length) (hq : b.length ≤ q) : xs = orR a b := by
  rw [hs]
  refine orTo_all (by omega) (fun i h1 h2 => ?_)
  unfold orAt
  rw [getD_out (show b.length ≤ i by omega)]; simp
theorem set_at {l : List Item} {i : Nat} {it : Item} (hi : i < l.length) : (l.set i it)[i]? = some it := List.getElem?_set_self hi
theorem set_set {l : List Item} {i : Nat} {x y : Item} : (l.set i x).set i y = l.set i y := List.set_set ..
theorem set_own {l : List Item} {i : Nat} {x : Item} (h : l[i]? = some x) : l.set i x = l := by
  apply List.ext_getElem?
  intro m
  rw [List.getElem?_set]
  split
  · rename_i e
    subst e
    split
    · exact h.symm
    · rename_i hl
      rw [List.getElem?_eq_none (by omega)]
  · rfl

/-! ### turned about -/
def swapP (z : Int × Int) : Int × Int := (z.2, z.1)
def turnM (n : Int) (rs : Rows) : Rows := foldM n ((pairsM n rs).map swapP)
theorem right_pair {n : Int} {rs : Rows} (h : rightS n rs = true) {q : Nat} {z : Int × Int} (hz : (pairsM n rs)[q]? = some z) : 0 ≤ z.1 ∧ z.1 < n ∧ 0 ≤ z.2 ∧ z.2 < n := by
  obtain ⟨m, p, rfl, hm, rfl⟩ := right_is h
  obtain ⟨h1, h2, h3, h4, -⟩ := pairs_mem hz
  exact ⟨h1, h2, h3, h4⟩
theorem turn_row {n : Int} {ps : List (Int × Int)} {i : Nat} {x : Row} (h : (foldM n ps)[i]? = some x) {k : Int} (h0 : 0 ≤ k) (h1 : k < n) : 0 ≤ k / 64 ∧ k / 64 < ((x.length : Nat) : Int) ∧ (k / 64).toNat < x.length ∧ inR x k = true := by
  have hr := foldM_row h
  have hw : x.length = (n.toNat + 63) / 64 := by rw [hr, ← words_nat, show ((n.toNat : Nat) : Int) = n from by omega]
  refine ⟨by omega, by omega, by omega, inR_of h0 (by omega)⟩
theorem turn_step {n : Int} {l : List (Int × Int)} {j : Nat} {z : Int × Int} {xs : Rows} {x : Row} {u : BitVec 64} (hs : xs = foldM n ((l.map swapP).take j)) (hz : l[((j : Nat) : Int).toNat]? = some z) (hx : xs[z.2.toNat]? = some x) (hu : x[(z.1 / 64).toNat]? = some u) (h0 : 0 ≤ z.1) (h1 : z.1 < n) :
    xs.set z.2.toNat (x.set (z.1 / 64).toNat (u ||| bitB (z.1 % 64))) = foldM n ((l.map swapP).take (j + 1)) := by
  have hr := (turn_row (hs ▸ hx) h0 h1).2.2.2
  rw [foldM_step (p := (z.2, z.1)) (by rw [List.getElem?_map, hz]; rfl), ← hs, setR_in hr hu]
  exact setM_of hx
theorem turn_end {n : Int} {rs xs : Rows} {j : Nat} (hs : xs = foldM n (((pairsM n rs).map swapP).take j)) (hj : (pairsM n rs).length ≤ j) : xs = turnM n rs := by
  rw [hs, take_end (by rw [List.length_map]; exact hj)]; rfl
theorem turn_zero (n : Int) (l : List (Int × Int)) : List.replicate n.toNat (newR n) = foldM n ((l.map swapP).take 0) := rfl
theorem turnM_len (n : Int) (rs : Rows) : (turnM n rs).length = n.toNat := foldM_length _ _
theorem turn_set {n : Int} {rs0 : Rows} {j : Nat} {z : Int × Int} {rs : Rows} (h : rightS n rs0 = true) (hs : rs = foldM n (((pairsM n rs0).map swapP).take j)) (hz : (pairsM n rs0)[((j : Nat) : Int).toNat]? = some z) :
    setMN n z.2 z.1 = n ∧ setMR n rs z.2 z.1 = foldM n (((pairsM n rs0).map swapP).take (j + 1)) ∧ setME n z.2 z.1 = 0 := by
  obtain ⟨g1, g2, g3, g4⟩ := right_pair h hz
  have hin : inM n [z.2, z.1] = true := inM_two.2 ⟨⟨g3, g4⟩, g1, g2⟩
  refine ⟨(set_yes (rs := rs) hin).1, ?_, (set_yes (rs := rs) hin).2.2⟩
  rw [(set_yes hin).2.1, foldM_step (p := (z.2, z.1)) (by rw [List.getElem?_map, hz]; rfl), ← hs]
theorem right_ok {n : Int} {rs : Rows} (h : rightS n rs = true) : okN n = true := okN_iff.2 ⟨right_pos h, (right_sq h).2.2.1⟩
theorem fold_sq {n : Int} {rs0 : Rows} (h : rightS n rs0 = true) (ps : List (Int × Int)) : (((foldM n ps).length : Nat) : Int) = n ∧ ∀ x ∈ foldM n ps, x.length ≤ 1000000000 := by
  have h0 := right_pos h
  have h4 := (right_sq h).2.2.1
  refine ⟨by rw [foldM_length]; omega, fun x hx => ?_⟩
  obtain ⟨i, hi⟩ := List.mem_iff_getElem?.1 hx
  rw [foldM_row hi]
  have := words_le h4
  omega
end Go.Ew
