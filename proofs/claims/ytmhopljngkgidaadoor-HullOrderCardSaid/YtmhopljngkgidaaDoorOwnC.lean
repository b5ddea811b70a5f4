/- Plain words and laws: what is reached over pairs; hulls (law 4). -/
import Derived.Test.YtmhopljngkgidaaDoorOwnB
import Derived.ArgAppend
import Derived.Test.YtmhopljngkgidaaDoorOwnA
import Derived.JoinedCond
namespace Go.Ew
set_option linter.unusedVariables false
set_option linter.unusedSimpArgs false
set_option linter.unusedSectionVars false

/-- A way from one to another one, over what lies below n. -/
inductive TC (n : Nat) (p : Nat → Nat → Bool) : Nat → Nat → Prop
  | one {a b : Nat} : a < n → b < n → p a b = true → TC n p a b
  | cons {a b c : Nat} : a < n → b < n → p a b = true → TC n p b c → TC n p a c
section
variable {n : Nat} {p q : Nat → Nat → Bool} {a b c : Nat}
theorem TC.lt (h : TC n p a b) : a < n ∧ b < n := by
  induction h with
  | one h1 h2 _ => exact ⟨h1, h2⟩
  | cons h1 _ _ _ ih => exact ⟨h1, ih.2⟩
theorem TC.trans (h : TC n p a b) (k : TC n p b c) : TC n p a c := by
  induction h with
  | one h1 h2 h3 => exact .cons h1 h2 h3 k
  | cons h1 h2 h3 _ ih => exact .cons h1 h2 h3 (ih k)
theorem TC.snoc (h : TC n p a b) (hc : c < n) (hp : p b c = true) : TC n p a c := h.trans (.one h.lt.2 hc hp)
theorem TC.mono (h : TC n p a b) (hpq : ∀ x y, x < n → y < n → p x y = true → q x y = true) : TC n q a b := by
  induction h with
  | one h1 h2 h3 => exact .one h1 h2 (hpq _ _ h1 h2 h3)
  | cons h1 h2 h3 _ ih => exact .cons h1 h2 (hpq _ _ h1 h2 h3) ih
/-- The least that has them and is closed. -/
theorem TC.least {R : Nat → Nat → Prop} (h : TC n p a b) (h1 : ∀ x y, x < n → y < n → p x y = true → R x y) (h2 : ∀ x y z, x < n → y < n → z < n → R x y → R y z → R x z) : R a b := by
  induction h with
  | one k1 k2 k3 => exact h1 _ _ k1 k2 k3
  | cons k1 k2 k3 k4 ih => exact h2 _ _ _ k1 k2 k4.lt.2 (h1 _ _ k1 k2 k3) ih
theorem TC.last (h : TC n p a c) : p a c = true ∨ ∃ b, TC n p a b ∧ p b c = true := by
  induction h with
  | one _ _ h3 => exact .inl h3
  | cons h1 h2 h3 _ ih =>
    rcases ih with h | ⟨b, h4, h5⟩
    · exact .inr ⟨_, .one h1 h2 h3, h⟩
    · exact .inr ⟨b, .cons h1 h2 h3 h4, h5⟩
end
/-! ### round by round -/
theorem wM_sound {n : Nat} {p : Nat → Nat → Bool} : ∀ k, k ≤ n → ∀ a b, a < n → b < n → wM p k a b = true → TC n p a b
  | 0, _, a, b, ha, hb, h => .one ha hb h
  | k + 1, hk, a, b, ha, hb, h => by
    have h : (wM p k a b || (wM p k a k && wM p k k b)) = true := h
    rw [Bool.or_eq_true, Bool.and_eq_true] at h
    rcases h with h | ⟨h1, h2⟩
    · exact wM_sound k (by omega) a b ha hb h
    · exact (wM_sound k (by omega) a k ha (by omega) h1).trans (wM_sound k (by omega) k b (by omega) hb h2)
theorem wM_succ {p : Nat → Nat → Bool} {k a b : Nat} : wM p (k + 1) a b = true ↔ wM p k a b = true ∨ (wM p k a k = true ∧ wM p k k b = true) := by
  show (wM p k a b || (wM p k a k && wM p k k b)) = true ↔ _
  rw [Bool.or_eq_true, Bool.and_eq_true]
theorem wM_up {p : Nat → Nat → Bool} {a b : Nat} : ∀ k, p a b = true → wM p k a b = true
  | 0, h => h
  | k + 1, h => wM_succ.2 (.inl (wM_up k h))
theorem wM_closed {p : Nat → Nat → Bool} : ∀ k a b c, c < k → wM p k a c = true → wM p k c b = true → wM p k a b = true
  | 0, _, _, _, h, _, _ => absurd h (Nat.not_lt_zero _)
  | k + 1, a, b, c, h, h1, h2 => by
    have ih := fun a b c => wM_closed (p := p) k a b c
    rw [wM_succ] at h1 h2 ⊢
    by_cases hc : c < k
    · rcases h1 with h1 | ⟨h1, h3⟩
      · rcases h2 with h2 | ⟨h2, h4⟩
        · exact .inl (ih _ _ _ hc h1 h2)
        · exact .inr ⟨ih _ _ _ hc h1 h2, h4⟩
      · rcases h2 with h2 | ⟨h2, h4⟩
        · exact .inr ⟨h1, ih _ _ _ hc h3 h2⟩
        · exact .inr ⟨h1, h4⟩
    · have : c = k := by omega
      subst this
      have e1 : wM p c a c = true := by
        rcases h1 with h1 | ⟨h1, _⟩ <;> exact h1
      have e2 : wM p c c b = true := by
        rcases h2 with h2 | ⟨_, h2⟩ <;> exact h2
      exact .inr ⟨e1, e2⟩
/-- What leads to what. -/
def cl (n : Nat) (p : Nat → Nat → Bool) (a b : Nat) : Bool := wM p n a b
theorem cl_iff {n : Nat} {p : Nat → Nat → Bool} {a b : Nat} (ha : a < n) (hb : b < n) : cl n p a b = true ↔ TC n p a b :=
  ⟨wM_sound n (Nat.le_refl _) a b ha hb, fun h => h.least (R := fun x y => cl n p x y = true) (fun x y _ _ hp => wM_up n hp) fun x y z _ hy _ h1 h2 => wM_closed n x z y hy h1 h2⟩
theorem cl_congr {n : Nat} {p q : Nat → Nat → Bool} (h : ∀ a b, a < n → b < n → p a b = q a b) {a b : Nat} (ha : a < n) (hb : b < n) : cl n p a b = cl n q a b := by
  rw [Bool.eq_iff_iff, cl_iff ha hb, cl_iff ha hb]
  exact ⟨fun k => k.mono fun x y hx hy hp => by rw [← h x y hx hy]; exact hp, fun k => k.mono fun x y hx hy hp => by rw [h x y hx hy]; exact hp⟩
theorem cl_has {n : Nat} {p : Nat → Nat → Bool} {a b : Nat} (h : p a b = true) : cl n p a b = true := wM_up n h
theorem cl_trans {n : Nat} {p : Nat → Nat → Bool} {a b c : Nat} (hb : b < n) (h1 : cl n p a b = true) (h2 : cl n p b c = true) : cl n p a c = true := wM_closed n a c b hb h1 h2
theorem cl_closed {n : Nat} {p : Nat → Nat → Bool} (h : ∀ i j k, i < n → j < n → k < n → p i j = true → p j k = true → p i k = true) {a b : Nat} (ha : a < n) (hb : b < n) : cl n p a b = p a b := by
  rw [Bool.eq_iff_iff, cl_iff ha hb]
  exact ⟨fun k => k.least (R := fun x y => p x y = true) (fun _ _ _ _ hp => hp) h, fun hp => .one ha hb hp⟩
theorem cl_mono {n : Nat} {p q : Nat → Nat → Bool} (h : ∀ a b, a < n → b < n → p a b = true → q a b = true) {a b : Nat} (ha : a < n) (hb : b < n) (hc : cl n p a b = true) : cl n q a b = true :=
  (cl_iff ha hb).2 (((cl_iff ha hb).1 hc).mono h)
theorem relM_matP {n : Nat} {p : Nat → Nat → Bool} {a b : Nat} (ha : a < n) (hb : b < n) : relM (matP n p) a b = p a b := by
  unfold relM
  rw [List.getD_eq_getElem?_getD, matP_get ha]
  show hasR (rowP n (p a)) _ = _
  rw [rowP_has]; simp [hb]
theorem closeM_matP {n : Nat} {p : Nat → Nat → Bool} : closeM ((n : Nat) : Int) (matP n p) = matP n (cl n p) := by
  unfold closeM
  rw [Int.toNat_natCast]
  exact matP_congr fun a b ha hb => cl_congr (fun x y hx hy => relM_matP hx hy) ha hb
theorem closeM_right {n : Int} {rs : Rows} (h : rightS n rs = true) : rightS n (closeM n rs) = true := by
  obtain ⟨m, p, rfl, hm, rfl⟩ := right_is h
  rw [closeM_matP]; exact right_matP hm
/-! ### a pair more -/
def addP (p : Nat → Nat → Bool) (i j a b : Nat) : Bool := p a b || ((decide (a = i) || p a i) && (decide (b = j) || p j b))
theorem addP_iff {p : Nat → Nat → Bool} {i j a b : Nat} : addP p i j a b = true ↔ p a b = true ∨ ((a = i ∨ p a i = true) ∧ (b = j ∨ p j b = true)) := by
  unfold addP; simp
theorem add_cl {n : Nat} {p : Nat → Nat → Bool} (h : ∀ i j k, i < n → j < n → k < n → p i j = true → p j k = true → p i k = true) {i j a b : Nat} (hi : i < n) (hj : j < n) (ha : a < n) (hb : b < n) :
    cl n (fun x y => p x y || (decide (x = i) && decide (y = j))) a b = addP p i j a b := by
  rw [Bool.eq_iff_iff, cl_iff ha hb]
  constructor
  · intro k
    refine k.least (R := fun x y => addP p i j x y = true) (fun x y hx hy hp => ?_) fun x y z hx hy hz h1 h2 => ?_
    · simp only [Bool.or_eq_true, Bool.and_eq_true, decide_eq_true_eq] at hp
      exact addP_iff.2 (hp.imp id fun ⟨h1, h2⟩ => ⟨.inl h1, .inl h2⟩)
    · rw [addP_iff] at h1 h2 ⊢
      rcases h1 with h1 | ⟨h1, h3⟩
      · rcases h2 with h2 | ⟨h2, h4⟩
        · exact .inl (h _ _ _ hx hy hz h1 h2)
        · refine .inr ⟨.inr ?_, h4⟩
          rcases h2 with rfl | h2
          · exact h1
          · exact h _ _ _ hx hy hi h1 h2
      · rcases h2 with h2 | ⟨h2, h4⟩
        · refine .inr ⟨h1, .inr ?_⟩
          rcases h3 with rfl | h3
          · exact h2
          · exact h _ _ _ hj hy hz h3 h2
        · exact .inr ⟨h1, h4⟩
  · intro k
    have up : ∀ x y, x < n → y < n → p x y = true → TC n (fun x y => p x y || (decide (x = i) && decide (y = j))) x y := fun x y hx hy hp => .one hx hy (by simp [hp])
    rcases addP_iff.1 k with k | ⟨h1, h2⟩
    · exact up _ _ ha hb k
    · have m : TC n (fun x y => p x y || (decide (x = i) && decide (y = j))) i j := .one hi hj (by simp)
      have m2 : TC n (fun x y => p x y || (decide (x = i) && decide (y = j))) a j := by
        rcases h1 with rfl | h1
        · exact m
        · exact (up _ _ ha hi h1).trans m
      rcases h2 with rfl | h2
      · exact m2
      · exact m2.trans (up _ _ hj hb h2)
def addMR (n : Int) (rs : Rows) (i j : Int) : Rows := if inM n [i, j] then (if hasM n rs i j then rs else matP n.toNat (addP (relM rs) i.toNat j.toNat)) else []
theorem addMR_matP {n : Nat} {p : Nat → Nat → Bool} {i j : Int} (hi : inM ((n : Nat) : Int) [i, j] = true) (h : ∀ i j k, i < n → j < n → k < n → p i j = true → p j k = true → p i k = true) :
    addMR ((n : Nat) : Int) (matP n p) i j = matP n (cl n fun a b => p a b || (decide (a = i.toNat) && decide (b = j.toNat))) := by
  have hr := inM_two.1 hi
  unfold addMR
  rw [if_pos hi, hasM_matP, hi, Bool.true_and, Int.toNat_natCast]
  split
  · rename_i hp
    refine matP_congr fun a b ha hb => ?_
    rw [add_cl h (by omega) (by omega) ha hb, Bool.eq_iff_iff, addP_iff]
    refine ⟨.inl, fun k => ?_⟩
    rcases k with k | ⟨h1, h2⟩
    · exact k
    · have m2 : p a j.toNat = true := by
        rcases h1 with rfl | h1
        · exact hp
        · exact h _ _ _ ha (by omega) (by omega) h1 hp
      rcases h2 with rfl | h2
      · exact m2
      · exact h _ _ _ ha (by omega) hb m2 h2
  · refine matP_congr fun a b ha hb => ?_
    rw [add_cl h (by omega) (by omega) ha hb]
    unfold addP
    rw [relM_matP ha hb, relM_matP ha (by omega), relM_matP (by omega) hb]
theorem addMR_right {n : Int} {rs : Rows} {i j : Int} (h : rightS n rs = true) : rightS (setMN n i j) (addMR n rs i j) = true := by
  unfold setMN addMR
  split
  · split
    · exact h
    · obtain ⟨m, p, rfl, hm, rfl⟩ := right_is h
      rw [Int.toNat_natCast]; exact right_matP hm
  · rfl
/-! ### lists of numbers -/
def natL (l : List Nat) : List Int := l.map fun k => ((k : Nat) : Int)
def lst (n : Nat) (f : Nat → Bool) : List Int := natL ((List.range n).filter f)
theorem mem_lst {n : Nat} {f : Nat → Bool} {z : Int} : z ∈ lst n f ↔ ∃ k, k < n ∧ f k = true ∧ z = ((k : Nat) : Int) := by
  unfold lst natL
  simp only [List.mem_map, List.mem_filter, List.mem_range]
  constructor
  · rintro ⟨k, ⟨h1, h2⟩, rfl⟩; exact ⟨k, h1, h2, rfl⟩
  · rintro ⟨k, h1, h2, rfl⟩; exact ⟨k, ⟨h1, h2⟩, rfl⟩
theorem lst_nat {n : Nat} {f : Nat → Bool} {b : Nat} (hb : b < n) : ((b : Nat) : Int) ∈ lst n f ↔ f b = true := by
  rw [mem_lst]
  constructor
  · rintro ⟨k, _, h2, h3⟩
    have : b = k := by omega
    rw [this]; exact h2
  · intro h; exact ⟨b, hb, h, rfl⟩
theorem lst_len (n : Nat) (f : Nat → Bool) : (lst n f).length ≤ n := by
  unfold lst natL
  rw [List.length_map]
  have := List.length_filter_le f (List.range n)
  simpa using this
theorem lst_congr {n : Nat} {f g : Nat → Bool} (h : ∀ k, k < n → f k = g k) : lst n f = lst n g := by
  unfold lst natL
  congr 1
  exact List.filter_congr fun k hk => h k (List.mem_range.1 hk)
theorem lst_succ (n : Nat) (f : Nat → Bool) : lst (n + 1) f = lst n f ++ (if f n = true then [((n : Nat) : Int)] else []) := by
  unfold lst natL
  rw [List.range_succ, List.filter_append, List.map_append]
  congr 1
  cases h : f n <;> simp [h]
theorem listR_lst (n : Nat) (f : Nat → Bool) : listR (rowP n f) = lst n f := listR_rowP n f
/-! ### filled row by row -/
def rcP (n : Nat) (P : Nat → Nat → Bool) (i q a b : Nat) : Bool := (decide (a < i) && P a b) || (decide (a = i) && decide (((b : Nat) : Int) ∈ (lst n (P i)).take q))
theorem rc_zero {n : Nat} {P : Nat → Nat → Bool} : newM ((n : Nat) : Int) = matP n (rcP n P 0 0) := by
  rw [newM_matP]
  exact matP_congr fun a b _ _ => by unfold rcP; simp
theorem rc_row {n : Nat} {P : Nat → Nat → Bool} {i q : Nat} (h : (lst n (P i)).length ≤ q) : matP n (rcP n P i q) = matP n (rcP n P (i + 1) 0) := by
  refine matP_congr fun a b ha hb => ?_
  unfold rcP
  rw [List.take_of_length_le h, List.take_zero, Bool.eq_iff_iff]
  simp only [Bool.or_eq_true, Bool.and_eq_true, decide_eq_true_eq, lst_nat hb, List.not_mem_nil, and_false, or_false]
  constructor
  · rintro (⟨h1, h2⟩ | ⟨rfl, h2⟩)
    · exact ⟨by omega, h2⟩
    · exact ⟨by omega, h2⟩
  · rintro ⟨h1, h2⟩
    by_cases e : a = i
    · subst e; exact .inr ⟨rfl, h2⟩
    · exact .inl ⟨by omega, h2⟩
theorem rc_end {n : Nat} {P : Nat → Nat → Bool} : matP n (rcP n P n 0) = matP n P :=
  matP_congr fun a b ha hb => by unfold rcP; simp [ha]
theorem rc_step {n : Nat} {P : Nat → Nat → Bool} {i q : Nat} {x : Int} (hx : (lst n (P i))[q]? = some x) (hi : i < n) :
    inM ((n : Nat) : Int) [((i : Nat) : Int), x] = true ∧ setMR ((n : Nat) : Int) (matP n (rcP n P i q)) ((i : Nat) : Int) x = matP n (rcP n P i (q + 1)) := by
  obtain ⟨k, hk, hp, rfl⟩ := mem_lst.1 (List.mem_of_getElem? hx)
  have hin : inM ((n : Nat) : Int) [((i : Nat) : Int), ((k : Nat) : Int)] = true := by rw [inM_nat]; simp [hi, hk]
  refine ⟨hin, ?_⟩
  rw [setMR_matP hin]
  refine matP_congr fun a b ha hb => ?_
  unfold rcP
  have e := take_at (r := lst n (P i)) (k := q) (x := ((k : Nat) : Int)) (by rw [Int.toNat_natCast]; exact hx)
  rw [e, Bool.eq_iff_iff]
  simp only [Bool.or_eq_true, Bool.and_eq_true, decide_eq_true_eq, List.mem_append, List.mem_cons, List.not_mem_nil, or_false, Int.toNat_natCast]
  constructor
  · rintro ((h | ⟨h1, h2⟩) | ⟨h1, h2⟩)
    · exact .inl h
    · exact .inr ⟨h1, .inl h2⟩
    · exact .inr ⟨h1, .inr (by omega)⟩
  · rintro (h | ⟨h1, h2 | h2⟩)
    · exact .inl (.inl h)
    · exact .inl (.inr ⟨h1, h2⟩)
    · exact .inr ⟨h1, by omega⟩
end Go.Ew
namespace Go.Ew
set_option linter.unusedVariables false
set_option linter.unusedSimpArgs false
set_option linter.unusedSectionVars false

theorem close_end {n : Int} {rs xs : Rows} {q : Nat} (hs : xs = matP n.toNat (wM (relM rs) q)) (hq : q ≤ n.toNat) (hq2 : n.toNat ≤ q) : xs = closeM n rs := by
  obtain rfl : q = n.toNat := by omega
  exact hs
section
variable {n : Int} {rs : Rows} (h : rightS n rs = true)
include h
theorem close_start : rs = matP n.toNat (wM (relM rs) 0) := right_rel h
theorem has_rel {a b : Nat} (ha : ((a : Nat) : Int) < n) (hb : ((b : Nat) : Int) < n) : hasM n rs ((a : Nat) : Int) ((b : Nat) : Int) = relM rs a b := by
  obtain ⟨m, p, rfl, hm, rfl⟩ := right_is h
  rw [hasM_nat (by omega) (by omega), relM_matP (by omega) (by omega)]
theorem has_relI {a b : Int} (ha : 0 ≤ a ∧ a < n) (hb : 0 ≤ b ∧ b < n) : hasM n rs a b = relM rs a.toNat b.toNat := by
  have := has_rel h (a := a.toNat) (b := b.toNat) (by omega) (by omega)
  rwa [Int.toNat_of_nonneg ha.1, Int.toNat_of_nonneg hb.1] at this
theorem right_rowP {i : Nat} {x : Row} (hx : rs[i]? = some x) : x = rowP n.toNat (relM rs i) := by
  have h1 := right_rel h
  have h2 : (matP n.toNat (relM rs))[i]? = some x := by rw [← h1]; exact hx
  exact (matP_at h2).2
theorem right_bit {i : Nat} {x : Row} {q : Nat} {j : Int} (hx : rs[i]? = some x) (hj : (listR x)[q]? = some j) : 0 ≤ j ∧ j < n ∧ j < ((rs.length : Nat) : Int) := by
  rw [right_rowP h hx, listR_lst] at hj
  obtain ⟨k, hk, -, rfl⟩ := mem_lst.1 (List.mem_of_getElem? hj)
  have := (right_sq h).1
  omega
end
/-! ### is it closed, row by row -/
def clR (rs : Rows) (x : Row) : Bool := (listR x).all fun j => subR (rowAt rs j) x
theorem closed_rows {n : Int} {rs : Rows} (h : rightS n rs = true) : closedM n rs = (List.range rs.length).all fun i => clR rs (rowAt rs ((i : Nat) : Int)) := by
  obtain ⟨m, p, rfl, hm, rfl⟩ := right_is h
  rw [Bool.eq_iff_iff, closed_matP, matP_len, List.all_eq_true]
  constructor
  · intro hc i hi
    have hi := List.mem_range.1 hi
    unfold clR
    rw [rowAt_matP (by omega) (by omega), Int.toNat_natCast, listR_lst, List.all_eq_true]
    intro j hj
    obtain ⟨k, hk, hp, rfl⟩ := mem_lst.1 hj
    rw [rowAt_matP (by omega) (by omega), Int.toNat_natCast, sub_rowP]
    exact fun c hck h2 => hc i k c hi hk hck hp h2
  · intro hc i j k hi hj hk h1 h2
    have h3 := hc i (List.mem_range.2 hi)
    unfold clR at h3
    rw [rowAt_matP (by omega) (by omega), Int.toNat_natCast, listR_lst, List.all_eq_true] at h3
    have h4 := h3 _ ((lst_nat hj).2 h1)
    rw [rowAt_matP (by omega) (by omega), Int.toNat_natCast, sub_rowP] at h4
    exact h4 k hk h2
theorem closed_row_no {n : Int} {rs : Rows} (h : rightS n rs = true) {i q : Nat} {x y : Row} {j : Int} (hx : rs[i]? = some x) (hj : (listR x)[q]? = some j) (hy : rs[j.toNat]? = some y) (hs : subR y x = false) : false = closedM n rs := by
  rw [closed_rows h]
  symm
  rw [List.all_eq_false]
  refine ⟨i, List.mem_range.2 (List.getElem?_eq_some_iff.1 hx).1, ?_⟩
  rw [rowAt_of (i := ((i : Nat) : Int)) hx]
  unfold clR
  rw [all_no hj (by rw [rowAt_of hy]; exact hs)]; simp
def clTo (rs : Rows) (i : Nat) : Bool := (List.range i).all fun i => clR rs (rowAt rs ((i : Nat) : Int))
def clIn (rs : Rows) (x : Row) (q : Nat) : Bool := ((listR x).take q).all fun j => subR (rowAt rs j) x
theorem clIn_step {rs : Rows} {x y : Row} {q : Nat} {j : Int} (hj : (listR x)[((q : Nat) : Int).toNat]? = some j) (h : clIn rs x q = true) (hy : rs[j.toNat]? = some y) (hs : subR y x = true) : clIn rs x (q + 1) = true := all_take hj h (by rw [rowAt_of hy]; exact hs)
theorem closed_row_end {n : Int} {rs : Rows} (h : rightS n rs = true) {i : Nat} (hs : clTo rs i = true) (hi : i ≤ rs.length) (hj : rs.length ≤ i) : true = closedM n rs := by
  obtain rfl : i = rs.length := by omega
  rw [closed_rows h]; exact hs.symm
theorem closed_row_step {rs : Rows} {i q : Nat} {x : Row} (hs : clTo rs i = true) (hx : rs[((i : Nat) : Int).toNat]? = some x) (h2 : clIn rs x q = true) (hq : (listR x).length ≤ q) : clTo rs (i + 1) = true := by
  unfold clIn at h2
  rw [take_end hq] at h2
  exact ra_step (p := fun i => clR rs (rowAt rs ((i : Nat) : Int))) hs (by show clR rs (rowAt rs ((i : Nat) : Int)) = true; rw [rowAt_of hx]; exact h2)
/-! ### a pair more, row by row -/
def adP (p : Nat → Nat → Bool) (i j k a b : Nat) : Bool := if a < k then addP p i j a b else p a b
section
variable {n : Int} {rs xs : Rows} {i j : Int} (h : rightS n rs = true)
theorem add_no (hq : inM n [i, j] = false) : setMN n i j = 0 ∧ addMR n rs i j = [] ∧ setME n i j = 1 := by
  refine ⟨(set_no (rs := rs) hq).1, ?_, (set_no (rs := rs) hq).2.2⟩
  unfold addMR; rw [if_neg (by rw [hq]; decide)]
theorem add_had (hq : inM n [i, j] = true) (hb : hasM n rs i j = true) : addMR n rs i j = rs := by unfold addMR; rw [if_pos hq, if_pos hb]
include h
theorem ad_start : rs = matP n.toNat (adP (relM rs) i.toNat j.toNat 0) := by
  rw [show matP n.toNat (adP (relM rs) i.toNat j.toNat 0) = matP n.toNat (relM rs) from matP_congr fun a b _ _ => by unfold adP; simp]
  exact right_rel h
theorem ad_len {k q : Nat} {x : Row} (hs : xs = matP n.toNat (adP (relM rs) i.toNat j.toNat k)) (hx : xs[q]? = some x) : x.length = words n := by
  subst hs
  have := (right_sq h).2.2.2.1
  rw [(matP_at hx).2, rowP_len, Int.toNat_of_nonneg this]
theorem ad_yes {k : Nat} {x xj : Row} (hq : inM n [i, j] = true) (hs : xs = matP n.toNat (adP (relM rs) i.toNat j.toNat k)) (hx : xs[((k : Nat) : Int).toNat]? = some x) (hj : rs[j.toNat]? = some xj)
    (hc : ((k : Nat) : Int) = i ∨ ∃ z, rs[((k : Nat) : Int).toNat]? = some z ∧ hasR z i = true) : xs.set ((k : Nat) : Int).toNat (orR x (setR xj j)) = matP n.toNat (adP (relM rs) i.toNat j.toNat (k + 1)) := by
  have hr := inM_two.1 hq
  have hn : ((n.toNat : Nat) : Int) = n := by omega
  subst hs
  obtain ⟨hk, hx⟩ := matP_at hx
  rw [Int.toNat_natCast] at hk ⊢
  rw [Int.toNat_natCast] at hx
  rw [hx, right_rowP h hj, setR_rowP hr.2.1 (by omega), or_rowP, matP_set]
  have hki : ((decide (k = i.toNat)) || relM rs k i.toNat) = true := by
    rcases hc with hc | ⟨z, hz, hb⟩
    · simp [show k = i.toNat from by omega]
    · rw [Int.toNat_natCast] at hz
      rw [right_rowP h hz, rowP_has] at hb
      simp only [Bool.and_eq_true] at hb
      rw [hb.2]; simp
  refine matP_congr fun a b ha hb => ?_
  unfold adP
  by_cases e : a = k
  · subst e
    rw [if_pos rfl, if_neg (by omega), if_pos (by omega)]
    unfold addP
    rw [hki, Bool.true_and]
    cases relM rs a b <;> cases relM rs j.toNat b <;> simp
  · rw [if_neg e]
    by_cases e2 : a < k
    · rw [if_pos e2, if_pos (by omega)]
    · rw [if_neg e2, if_neg (by omega)]
theorem ad_no {k : Nat} {z : Row} (hq : inM n [i, j] = true) (hs : xs = matP n.toNat (adP (relM rs) i.toNat j.toNat k)) (hne : ¬ ((k : Nat) : Int) = i) (hz : rs[((k : Nat) : Int).toNat]? = some z) (hb : hasR z i = false) :
    xs = matP n.toNat (adP (relM rs) i.toNat j.toNat (k + 1)) := by
  have hr := inM_two.1 hq
  rw [hs]
  refine matP_congr fun a b ha hb' => ?_
  unfold adP
  by_cases e2 : a < k
  · rw [if_pos e2, if_pos (by omega)]
  · by_cases e : a = k
    · subst e
      rw [if_neg e2, if_pos (by omega)]
      unfold addP
      rw [right_rowP h hz, rowP_has, Int.toNat_natCast] at hb
      have hb2 : relM rs a i.toNat = false := by
        have h1 : decide (0 ≤ i) = true := decide_eq_true hr.1.1
        have h2 : decide (i < ((n.toNat : Nat) : Int)) = true := decide_eq_true (by omega)
        rw [h1, h2] at hb
        simpa using hb
      rw [hb2, decide_eq_false (show ¬ a = i.toNat from by omega)]; simp
    · rw [if_neg e2, if_neg (by omega)]
theorem ad_end {k : Nat} (hq : inM n [i, j] = true) (hb : hasM n rs i j = false) (hs : xs = matP n.toNat (adP (relM rs) i.toNat j.toNat k)) (hk : n.toNat ≤ k) : xs = addMR n rs i j := by
  unfold addMR
  rw [if_pos hq, if_neg (by rw [hb]; decide), hs]
  exact matP_congr fun a b ha _ => by unfold adP; rw [if_pos (by omega)]
end
/-! ### those among numbers -/
def wiP (p : Nat → Nat → Bool) (l : List Int) (a b : Nat) : Bool := p a b && (decide (((a : Nat) : Int) ∈ l) && decide (((b : Nat) : Int) ∈ l))
def withinM (n : Int) (rs : Rows) (l : List Int) : Rows := matP n.toNat (wiP (relM rs) l)
def maskP (n : Nat) (l : List Int) : Row := rowP n fun b => decide (((b : Nat) : Int) ∈ l)
theorem msk_zero {n : Int} (h : 0 ≤ n) (l : List Int) : newR n = maskP n.toNat (l.take 0) := by
  have := newR_rowP n.toNat
  rw [Int.toNat_of_nonneg h] at this
  rw [this]
  exact rowP_congr fun k _ => by simp
theorem msk_yes {n : Int} {l : List Int} {q : Nat} {x : Int} {mk : Row} (hs : mk = maskP n.toNat (l.take q)) (hx : l[((q : Nat) : Int).toNat]? = some x) (h : x < n) : setR mk x = maskP n.toNat (l.take (q + 1)) := by
  subst hs
  rw [take_at hx]
  by_cases h0 : 0 ≤ x
  · unfold maskP
    rw [setR_rowP h0 (by omega)]
    refine rowP_congr fun k _ => ?_
    rw [Bool.eq_iff_iff]
    simp only [Bool.or_eq_true, decide_eq_true_eq, List.mem_append, List.mem_cons, List.not_mem_nil, or_false]
    exact or_congr Iff.rfl ⟨fun e => by omega, fun e => by omega⟩
  · rw [← setR_no (by omega)]
    refine rowP_congr fun k _ => ?_
    rw [Bool.eq_iff_iff]
    simp only [decide_eq_true_eq, List.mem_append, List.mem_cons, List.not_mem_nil, or_false]
    exact ⟨.inl, fun e => e.elim id fun e => by omega⟩
theorem msk_no {n : Int} {l : List Int} {q : Nat} {x : Int} {mk : Row} (hs : mk = maskP n.toNat (l.take q)) (hx : l[((q : Nat) : Int).toNat]? = some x) (h : n ≤ x) : mk = maskP n.toNat (l.take (q + 1)) := by
  rw [hs, take_at hx]
  refine rowP_congr fun k hk => ?_
  rw [Bool.eq_iff_iff]
  simp only [decide_eq_true_eq, List.mem_append, List.mem_cons, List.not_mem_nil, or_false]
  exact ⟨.inl, fun e => e.elim id fun e => by omega⟩
theorem maskP_len {n : Int} (h : 0 ≤ n) (l : List Int) : (maskP n.toNat l).length = words n := by unfold maskP; rw [rowP_len, Int.toNat_of_nonneg h]
/-- word by word -/
def andTo (x m : Row) (k : Nat) : Row := (List.range x.length).map fun t => if t < k then x.getD t 0#64 &&& m.getD t 0#64 else 0#64
theorem andTo_len (x m : Row) (k : Nat) : (andTo x m k).length = x.length := by unfold andTo; simp
theorem andTo_zero (x m : Row) : List.replicate x.length 0#64 = andTo x m 0 := by
  unfold andTo
  apply List.ext_getElem
  · simp
  · intro i h1 h2; simp
theorem andTo_step {x m : Row} {k : Nat} {u v : BitVec 64} (hu : x[((k : Nat) : Int).toNat]? = some u) (hv : m[((k : Nat) : Int).toNat]? = some v) : (andTo x m k).set ((k : Nat) : Int).toNat (u &&& v) = andTo x m (k + 1) := by
  have e1 := getD_at hu
  have e2 := getD_at hv
  rw [Int.toNat_natCast]
  apply List.ext_getElem
  · rw [List.length_set, andTo_len, andTo_len]
  · intro i h1 h2
    rw [List.getElem_set]
    simp only [andTo, List.getElem_map, List.getElem_range]
    by_cases e : k = i
    · subst e; rw [if_pos rfl, if_pos (by omega), e1, e2]
    · rw [if_neg e]
      by_cases h3 : i < k
      · rw [if_pos h3, if_pos (by omega)]
      · rw [if_neg h3, if_neg (by omega)]
theorem andTo_has {n : Nat} {p q : Nat → Bool} {k : Nat} (h : (rowP n p).length ≤ k) : andTo (rowP n p) (rowP n q) k = rowP n fun b => p b && q b := by
  refine row_is (by rw [andTo_len, rowP_len]) fun b => ?_
  have h1 : ∀ r : Row, hasR r ((b : Nat) : Int) = (r.getD (b / 64) 0#64).getLsbD (b % 64) := by intro r; unfold hasR; simp
  have e1 := rowP_has n p ((b : Nat) : Int)
  have e2 := rowP_has n q ((b : Nat) : Int)
  rw [h1] at e1 e2 ⊢
  by_cases hb : b / 64 < (rowP n p).length
  · have : (andTo (rowP n p) (rowP n q) k).getD (b / 64) 0#64 = (rowP n p).getD (b / 64) 0#64 &&& (rowP n q).getD (b / 64) 0#64 := by
      unfold andTo
      rw [List.getD_eq_getElem?_getD, List.getElem?_map, List.getElem?_range hb]
      show (if b / 64 < k then _ else _) = _
      rw [if_pos (by omega)]
    rw [this, BitVec.getLsbD_and, e1, e2]
    by_cases hbn : b < n
    · simp [hbn]
    · simp [hbn]
  · have hbn : ¬ b < n := by
      intro hbn
      apply hb
      rw [rowP_len, words_nat]; omega
    have : (andTo (rowP n p) (rowP n q) k).getD (b / 64) 0#64 = 0#64 := by
      rw [List.getD_eq_getElem?_getD, List.getElem?_eq_none (by rw [andTo_len]; omega)]; rfl
    rw [this]; simp [hbn]
/-- row by row -/
def wiT (p : Nat → Nat → Bool) (l : List Int) (k a b : Nat) : Bool := if a < k then wiP p l a b else false
section
variable {n : Int} {rs xs : Rows} {l : List Int} {mk : Row} {k : Nat} (h : rightS n rs = true)
include h
theorem wi_start : List.replicate n.toNat (newR n) = matP n.toNat (wiT (relM rs) l 0) := by
  have h0 := right_pos h
  have := newM_matP n.toNat
  unfold newM at this
  rw [Int.toNat_of_nonneg h0] at this
  rw [this]
  exact matP_congr fun a b _ _ => by unfold wiT; simp
theorem wi_skip (hs : xs = matP n.toNat (wiT (relM rs) l k)) (hm : mk = maskP n.toNat l) (hk : k < n.toNat) (hb : hasR mk ((k : Nat) : Int) = false) : xs = matP n.toNat (wiT (relM rs) l (k + 1)) := by
  rw [hs]
  refine matP_congr fun a b ha hb' => ?_
  unfold wiT
  by_cases e2 : a < k
  · rw [if_pos e2, if_pos (by omega)]
  · by_cases e : a = k
    · subst e
      rw [if_neg e2, if_pos (by omega)]
      rw [hm] at hb
      unfold maskP at hb
      rw [rowP_has] at hb
      have hb3 : decide (((a : Nat) : Int) ∈ l) = false := by
        have h2 : decide (((a : Nat) : Int) < ((n.toNat : Nat) : Int)) = true := decide_eq_true (by omega)
        rw [h2] at hb
        simpa using hb
      unfold wiP
      rw [hb3]; simp
    · rw [if_neg e2, if_neg (by omega)]
theorem wi_in (hs : xs = matP n.toNat (wiT (relM rs) l k)) {x : Row} (hx : rs[((k : Nat) : Int).toNat]? = some x) : xs = xs.set k (andTo x mk 0) := by
  have hx' : rs[k]? = some x := hx
  have hk : k < n.toNat := by have := (List.getElem?_eq_some_iff.1 hx').1; have := (right_sq h).1; omega
  have h0 := right_pos h
  have e : andTo x mk 0 = newR n := by
    rw [← andTo_zero]
    unfold newR
    rw [right_row_len h hx']
  rw [e]
  apply List.ext_getElem?
  intro a
  rw [List.getElem?_set]
  split
  · rename_i e2; subst e2
    rw [if_pos (by rw [hs, matP_len]; exact hk), hs, matP_get hk]
    congr 1
    have := newR_rowP n.toNat
    rw [Int.toNat_of_nonneg h0] at this
    rw [this]
    exact rowP_congr fun b _ => by unfold wiT; simp
  · rfl
theorem wi_row {q : Nat} {x r : Row} {ys : Rows} (hs : xs = matP n.toNat (wiT (relM rs) l k)) (hy : ys = xs.set k (andTo x mk q)) (hx : rs[((k : Nat) : Int).toNat]? = some x) (hr : ys[((k : Nat) : Int).toNat]? = some r) : r = andTo x mk q := by
  have hx' : rs[k]? = some x := hx
  have hk : k < n.toNat := by have := (List.getElem?_eq_some_iff.1 hx').1; have := (right_sq h).1; omega
  rw [hy, Int.toNat_natCast, List.getElem?_set_self (by rw [hs, matP_len]; exact hk)] at hr
  exact (Option.some.inj hr).symm
theorem wi_step {q : Nat} {x r : Row} {ys : Rows} {u v : BitVec 64} (hs : xs = matP n.toNat (wiT (relM rs) l k)) (hy : ys = xs.set k (andTo x mk q)) (hx : rs[((k : Nat) : Int).toNat]? = some x) (hr : ys[((k : Nat) : Int).toNat]? = some r)
    (hu : x[((q : Nat) : Int).toNat]? = some u) (hv : mk[((q : Nat) : Int).toNat]? = some v) : ys.set ((k : Nat) : Int).toNat (r.set ((q : Nat) : Int).toNat (u &&& v)) = xs.set k (andTo x mk (q + 1)) := by
  rw [wi_row h hs hy hx hr, hy, andTo_step hu hv, Int.toNat_natCast, List.set_set]
theorem wi_next {q : Nat} {x : Row} {ys : Rows} (hs : xs = matP n.toNat (wiT (relM rs) l k)) (hy : ys = xs.set k (andTo x mk q)) (hx : rs[((k : Nat) : Int).toNat]? = some x) (hm : mk = maskP n.toNat l) (hb : hasR mk ((k : Nat) : Int) = true) (hq : x.length ≤ q) : ys = matP n.toNat (wiT (relM rs) l (k + 1)) := by
  have hx' : rs[k]? = some x := hx
  have hk : k < n.toNat := by have := (List.getElem?_eq_some_iff.1 hx').1; have := (right_sq h).1; omega
  rw [hy, hm, hs, right_rowP h hx']
  unfold maskP
  rw [andTo_has (by rw [right_rowP h hx'] at hq; exact hq), matP_set]
  rw [hm] at hb
  unfold maskP at hb
  rw [rowP_has] at hb
  simp only [Bool.and_eq_true] at hb
  refine matP_congr fun a b ha hb' => ?_
  unfold wiT
  by_cases e : a = k
  · subst e
    rw [if_pos rfl, if_pos (by omega)]
    unfold wiP
    have : decide (((a : Nat) : Int) ∈ l) = true := by simpa using hb.2
    rw [this, Bool.true_and]
  · rw [if_neg e]
    by_cases e2 : a < k
    · rw [if_pos e2, if_pos (by omega)]
    · rw [if_neg e2, if_neg (by omega)]
theorem wi_end (hs : xs = matP n.toNat (wiT (relM rs) l k)) (hk : n.toNat ≤ k) : xs = withinM n rs l := by
  rw [hs]
  exact matP_congr fun a b ha _ => by unfold wiT; rw [if_pos (by omega)]
end
/-- the reference's way -/
def inL (l : List Int) (z : Int × Int) : Bool := decide (z.1 ∈ l) && decide (z.2 ∈ l)
theorem within_fold {n : Int} {rs : Rows} (h : rightS n rs = true) (l : List Int) : foldM n ((pairsM n rs).filter (inL l)) = withinM n rs l := by
  obtain ⟨m, p, rfl, hm, rfl⟩ := right_is h
  rw [foldM_matP fun z hz => pairs_in z (List.mem_filter.1 hz).1]
  unfold withinM
  rw [Int.toNat_natCast]
  refine matP_congr fun a b ha hb => ?_
  unfold wiP
  rw [relM_matP ha hb, Bool.eq_iff_iff, List.any_eq_true]
  simp only [Bool.and_eq_true, decide_eq_true_eq]
  constructor
  · rintro ⟨z, hz, h1, h2⟩
    obtain ⟨hz, hl⟩ := List.mem_filter.1 hz
    obtain ⟨c, d, hc, hd, hp, rfl⟩ := mem_pairs.1 hz
    simp only [Int.toNat_natCast] at h1 h2
    subst h1; subst h2
    unfold inL at hl
    simp only [Bool.and_eq_true, decide_eq_true_eq] at hl
    exact ⟨hp, hl⟩
  · rintro ⟨hp, h1, h2⟩
    refine ⟨(((a : Nat) : Int), ((b : Nat) : Int)), List.mem_filter.2 ⟨mem_pairs.2 ⟨a, b, ha, hb, hp, rfl⟩, ?_⟩, by simp, by simp⟩
    unfold inL; simp [h1, h2]
theorem within_right {n : Int} {rs : Rows} (h : rightS n rs = true) (l : List Int) : rightS n (withinM n rs l) = true := by
  obtain ⟨m, p, rfl, hm, rfl⟩ := right_is h
  unfold withinM; rw [Int.toNat_natCast]; exact right_matP hm
theorem fold_take {n : Int} {l : List (Int × Int)} {f : Int × Int → Bool} {q : Nat} {z : Int × Int} (hz : l[((q : Nat) : Int).toNat]? = some z) : foldM n ((l.take (q + 1)).filter f) = if f z = true then setM (foldM n ((l.take q).filter f)) z else foldM n ((l.take q).filter f) := by
  rw [take_at hz, List.filter_append]
  unfold foldM
  rw [List.foldl_append]
  cases h : f z <;> simp [h]
end Go.Ew
namespace Go.Ew
set_option linter.unusedVariables false
set_option linter.unusedSimpArgs false
set_option linter.unusedSectionVars false

/-- Where the search stands: what is seen is reached; what is seen is waiting, or is being looked at up to j, or all it leads to is seen. -/
structure Rch (n : Nat) (p : Nat → Nat → Bool) (i : Nat) (sn : List Bool) (td : List Int) (at_ : Int) (j : Nat) : Prop where
  len : sn.length = n
  snd : ∀ k, sn.getD k false = true → TC n p i k
  tdo : ∀ t ∈ td, ∃ k, t = ((k : Nat) : Int) ∧ k < n ∧ (k = i ∨ sn.getD k false = true)
  don : ∀ x, x < n → (x = i ∨ sn.getD x false = true) → ((x : Nat) : Int) ∈ td ∨ (((x : Nat) : Int) = at_ ∧ ∀ y, y < j → p x y = true → sn.getD y false = true) ∨ ∀ y, y < n → p x y = true → sn.getD y false = true
section
variable {n : Nat} {p : Nat → Nat → Bool} {i j : Nat} {sn : List Bool} {td : List Int} {at_ : Int}
theorem getD_set {l : List Bool} {k m : Nat} {b : Bool} (hk : k < l.length) : (l.set k b).getD m false = if m = k then b else l.getD m false := by
  rw [List.getD_eq_getElem?_getD, List.getElem?_set]
  by_cases e : k = m
  · subst e; rw [if_pos rfl, if_pos rfl, if_pos hk]; rfl
  · rw [if_neg e, if_neg fun e2 => e e2.symm, List.getD_eq_getElem?_getD]
theorem rch_start (hi : i < n) : Rch n p i (List.replicate n false) [((i : Nat) : Int)] (-1) 0 := by
  have hg : ∀ k, (List.replicate n false).getD k false = false := by
    intro k
    rw [List.getD_eq_getElem?_getD, List.getElem?_replicate]; split <;> rfl
  refine ⟨by simp, fun k hk => (by rw [hg] at hk; cases hk), fun t ht => ?_, fun x hx h => ?_⟩
  · exact ⟨i, by simpa using ht, hi, .inl rfl⟩
  · rcases h with rfl | h
    · exact .inl (by simp)
    · rw [hg] at h; cases h
theorem rch_at {x : Int} (h : Rch n p i sn td (-1) 0) (hx : td[0]? = some x) : ∃ k : Nat, x = ((k : Nat) : Int) ∧ k < n ∧ (k = i ∨ TC n p i k) := by
  obtain ⟨k, h1, h2, h3⟩ := h.tdo x (List.mem_of_getElem? hx)
  exact ⟨k, h1, h2, h3.imp id (h.snd k)⟩
theorem rch_pop {x : Int} (h : Rch n p i sn td (-1) 0) (hx : td[0]? = some x) : Rch n p i sn (td.drop 1) x 0 := by
  cases td with
  | nil => simp at hx
  | cons y td =>
    simp at hx
    subst hx
    refine ⟨h.len, h.snd, fun t ht => h.tdo t (List.mem_cons_of_mem _ (by simpa using ht)), fun x hx' hs => ?_⟩
    rcases h.don x hx' hs with h1 | ⟨h1, -⟩ | h1
    · rcases List.mem_cons.1 h1 with h1 | h1
      · exact .inr (.inl ⟨h1, fun y hy => absurd hy (Nat.not_lt_zero _)⟩)
      · exact .inl (by simpa using h1)
    · omega
    · exact .inr (.inr h1)
theorem rch_yes {a : Nat} (h : Rch n p i sn td ((a : Nat) : Int) j) (ha : a = i ∨ TC n p i a) (han : a < n) (hj : j < n) (hp : p a j = true) : Rch n p i (sn.set j true) (td ++ [((j : Nat) : Int)]) ((a : Nat) : Int) (j + 1) := by
  have hl : j < sn.length := by rw [h.len]; exact hj
  have up : ∀ y, sn.getD y false = true → (sn.set j true).getD y false = true := fun y hy => by rw [getD_set hl]; split <;> first | rfl | exact hy
  refine ⟨by rw [List.length_set]; exact h.len, fun k hk => ?_, fun t ht => ?_, fun x hx hs => ?_⟩
  · rw [getD_set hl] at hk
    split at hk
    · rename_i e
      subst e
      rcases ha with rfl | ha
      · exact .one han hj hp
      · exact ha.snoc hj hp
    · exact h.snd k hk
  · rcases List.mem_append.1 ht with ht | ht
    · obtain ⟨k, h1, h2, h3⟩ := h.tdo t ht
      exact ⟨k, h1, h2, h3.imp id (up k)⟩
    · exact ⟨j, by simpa using ht, hj, .inr (by rw [getD_set hl, if_pos rfl])⟩
  · by_cases e : x = j
    · subst e; exact .inl (by simp)
    · have hs2 : x = i ∨ sn.getD x false = true := hs.imp id fun hs => by rw [getD_set hl, if_neg e] at hs; exact hs
      rcases h.don x hx hs2 with h1 | ⟨h1, h2⟩ | h1
      · exact .inl (List.mem_append_left _ h1)
      · refine .inr (.inl ⟨h1, fun y hy hpy => ?_⟩)
        by_cases e2 : y = j
        · subst e2; rw [getD_set hl, if_pos rfl]
        · exact up y (h2 y (by omega) hpy)
      · exact .inr (.inr fun y hy hpy => up y (h1 y hy hpy))
theorem rch_no {a : Nat} (h : Rch n p i sn td ((a : Nat) : Int) j) (hp : p a j = false ∨ sn.getD j false = true) : Rch n p i sn td ((a : Nat) : Int) (j + 1) := by
  refine ⟨h.len, h.snd, h.tdo, fun x hx hs => ?_⟩
  rcases h.don x hx hs with h1 | ⟨h1, h2⟩ | h1
  · exact .inl h1
  · refine .inr (.inl ⟨h1, fun y hy hpy => ?_⟩)
    by_cases e2 : y = j
    · subst e2
      rcases hp with hp | hp
      · have : x = a := by omega
        subst this; rw [hp] at hpy; cases hpy
      · exact hp
    · exact h2 y (by omega) hpy
  · exact .inr (.inr h1)
theorem rch_next (h : Rch n p i sn td at_ j) (hj : n ≤ j) : Rch n p i sn td (-1) 0 := by
  refine ⟨h.len, h.snd, h.tdo, fun x hx hs => ?_⟩
  rcases h.don x hx hs with h1 | ⟨h1, h2⟩ | h1
  · exact .inl h1
  · exact .inr (.inr fun y hy => h2 y (by omega))
  · exact .inr (.inr h1)
theorem rch_end (h : Rch n p i sn [] (-1) 0) (hi : i < n) {k : Nat} (hk : k < n) : sn.getD k false = cl n p i k := by
  have step : ∀ x y, x < n → y < n → (x = i ∨ sn.getD x false = true) → p x y = true → sn.getD y false = true := by
    intro x y hx hy hs hp
    rcases h.don x hx hs with h1 | ⟨h1, -⟩ | h1
    · cases h1
    · omega
    · exact h1 y hy hp
  have all : ∀ a b, TC n p a b → (a = i ∨ sn.getD a false = true) → sn.getD b false = true := by
    intro a b hab
    induction hab with
    | one h1 h2 h3 => exact fun hs => step _ _ h1 h2 hs h3
    | cons h1 h2 h3 _ ih => exact fun hs => ih (.inr (step _ _ h1 h2 hs h3))
  rw [Bool.eq_iff_iff, cl_iff hi hk]
  exact ⟨h.snd k, fun ht => all i k ht (.inl rfl)⟩
theorem count_set {l : List Bool} {k : Nat} (h : l[k]? = some false) : (l.set k true).count false + 1 = l.count false := by
  induction l generalizing k with
  | nil => simp at h
  | cons b l ih =>
    cases k with
    | zero => simp at h; subst h; simp
    | succ k =>
      simp at h
      have := ih h
      rw [List.set_cons_succ, List.count_cons, List.count_cons]
      omega
theorem getD_of' {l : List Bool} {k : Nat} {b : Bool} (h : l[((k : Nat) : Int).toNat]? = some b) : l.getD k false = b := by
  rw [Int.toNat_natCast] at h
  rw [List.getD_eq_getElem?_getD, h]; rfl
end
theorem td_none {td : List Int} (h : ¬ (0 : Int) < ((td.length : Nat) : Int)) : td = [] := List.eq_nil_of_length_eq_zero (by omega)
section
variable {n : Int} {rs : Rows} {i a j : Nat} {sn : List Bool} {td : List Int} {x : Int} (rt : rightS n rs = true) (e : x = ((a : Nat) : Int)) (h : Rch n.toNat (relM rs) i sn td x j) (han : a < n.toNat) (hj : j < n.toNat)
include rt e h han hj
theorem rchI_yes (ha : a = i ∨ TC n.toNat (relM rs) i a) (hp : hasM n rs x ((j : Nat) : Int) = true) : Rch n.toNat (relM rs) i (sn.set ((j : Nat) : Int).toNat true) (td ++ [((j : Nat) : Int)]) x (j + 1) := by
  subst e
  exact rch_yes h ha han hj (by rw [← has_rel rt (by omega) (by omega)]; exact hp)
theorem rchI_no (hp : hasM n rs x ((j : Nat) : Int) = false) : Rch n.toNat (relM rs) i sn td x (j + 1) := by
  subst e
  exact rch_no h (.inl (by rw [← has_rel rt (by omega) (by omega)]; exact hp))
theorem rchI_had {b : Bool} (hb : sn[((j : Nat) : Int).toNat]? = some b) (h2 : b = true) : Rch n.toNat (relM rs) i sn td x (j + 1) := by
  subst e
  exact rch_no h (.inr (by rw [getD_of' hb]; exact h2))
end
theorem count_setI {sn : List Bool} {j : Nat} {b : Bool} {td : List Int} {z : Nat} (hb : sn[((j : Nat) : Int).toNat]? = some b) (h2 : b = false) (hz : 2 * sn.count false + td.length ≤ z) : 2 * (sn.set ((j : Nat) : Int).toNat true).count false + (td ++ [((j : Nat) : Int)]).length ≤ z := by
  subst h2
  have := count_set (l := sn) (k := j) hb
  rw [Int.toNat_natCast, List.length_append, List.length_singleton]
  omega
/-- the reference's hull, pair by pair -/
theorem rc_sq {n : Int} {rs : Rows} (h : rightS n rs = true) (P : Nat → Nat → Bool) : (((matP n.toNat P).length : Nat) : Int) = n ∧ (∀ x ∈ matP n.toNat P, x.length ≤ 1000000000) ∧ n ≤ 4096 := by
  have h0 := right_pos h
  have h4 := (right_sq h).2.2.1
  exact ⟨by rw [matP_len]; omega, matP_small (by omega), h4⟩
theorem rc_set {n : Int} {rs xs : Rows} (h : rightS n rs = true) {P : Nat → Nat → Bool} {i q : Nat} {x : Int} (hs : xs = matP n.toNat (rcP n.toNat P i q)) (hx : (lst n.toNat (P i))[((q : Nat) : Int).toNat]? = some x) (hi : ((i : Nat) : Int) < n) :
    setMN n ((i : Nat) : Int) x = n ∧ setMR n xs ((i : Nat) : Int) x = matP n.toNat (rcP n.toNat P i (q + 1)) ∧ setME n ((i : Nat) : Int) x = 0 := by
  have h0 := right_pos h
  have hn : ((n.toNat : Nat) : Int) = n := by omega
  obtain ⟨h1, h2⟩ := rc_step (n := n.toNat) hx (by omega)
  rw [hn] at h1 h2
  refine ⟨(set_yes (rs := rs) h1).1, ?_, (set_yes (rs := rs) h1).2.2⟩
  rw [hs]; exact h2
theorem rc_start {n : Int} {rs : Rows} (h : rightS n rs = true) (P : Nat → Nat → Bool) : newMR n = matP n.toNat (rcP n.toNat P 0 0) := by
  rw [(newM_yes (right_ok h)).2.1]
  have := rc_zero (n := n.toNat) (P := P)
  rwa [Int.toNat_of_nonneg (right_pos h)] at this
theorem rc_fin {n : Int} {xs : Rows} {P : Nat → Nat → Bool} {i : Nat} (hs : xs = matP n.toNat (rcP n.toNat P i 0)) (hi : n ≤ ((i : Nat) : Int)) : xs = matP n.toNat P := by
  rw [hs]
  exact matP_congr fun a b ha hb => by unfold rcP; simp [show a < i from by omega]
/-! ### pairs one by one (HullOrder) -/
def prK (k : Int) (z : BitVec 8 × BitVec 8) : Int × Int := (((z.1.toNat : Nat) : Int) % k, ((z.2.toNat : Nat) : Int) % k)
def memP (ps : List (Int × Int)) (a b : Nat) : Bool := ps.any fun z => decide (a = z.1.toNat) && decide (b = z.2.toNat)
theorem memP_snoc (ps : List (Int × Int)) (z : Int × Int) (a b : Nat) : memP (ps ++ [z]) a b = (memP ps a b || (decide (a = z.1.toNat) && decide (b = z.2.toNat))) := by
  unfold memP; rw [List.any_append]; simp
theorem prK_in {k : Int} (hk : 0 < k) (z : BitVec 8 × BitVec 8) : inM k [(prK k z).1, (prK k z).2] = true :=
  inM_two.2 ⟨⟨Int.emod_nonneg _ (by omega), Int.emod_lt_of_pos _ hk⟩, Int.emod_nonneg _ (by omega), Int.emod_lt_of_pos _ hk⟩
def rotL (l : List (BitVec 8 × BitVec 8)) (t i : Nat) : List (BitVec 8 × BitVec 8) := (List.range i).map fun j => l.getD ((j + t) % l.length) (0#8, 0#8)
theorem rotL_succ {l : List (BitVec 8 × BitVec 8)} {t i : Nat} {z : BitVec 8 × BitVec 8} (hz : l[(i + t) % l.length]? = some z) : rotL l t (i + 1) = rotL l t i ++ [z] := by
  unfold rotL
  rw [List.range_succ, List.map_append]
  simp only [List.map_cons, List.map_nil]
  rw [List.getD_eq_getElem?_getD, hz]; rfl
theorem mem_rotL {l : List (BitVec 8 × BitVec 8)} {t : Nat} {z : BitVec 8 × BitVec 8} : z ∈ rotL l t l.length ↔ z ∈ l := by
  unfold rotL
  rw [List.mem_map]
  constructor
  · rintro ⟨j, hj, rfl⟩
    have hj := List.mem_range.1 hj
    have hlt : (j + t) % l.length < l.length := Nat.mod_lt _ (by omega)
    rw [List.getD_eq_getElem?_getD, List.getElem?_eq_getElem hlt]
    exact List.getElem_mem _
  · intro hz
    obtain ⟨i, hi, rfl⟩ := List.mem_iff_getElem.1 hz
    refine ⟨(i + (l.length - t % l.length)) % l.length, List.mem_range.2 (Nat.mod_lt _ (by omega)), ?_⟩
    have hm : t % l.length < l.length := Nat.mod_lt _ (by omega)
    have e : ((i + (l.length - t % l.length)) % l.length + t) % l.length = i := by
      rw [Nat.mod_add_mod]
      have h1 : i + (l.length - t % l.length) + t = i + l.length * (t / l.length + 1) := by
        have := Nat.div_add_mod t l.length
        rw [Nat.mul_add, Nat.mul_one]
        omega
      rw [h1, Nat.add_mul_mod_self_left, Nat.mod_eq_of_lt hi]
    rw [e, List.getD_eq_getElem?_getD, List.getElem?_eq_getElem hi]; rfl
def allK (k : Int) (l : List (BitVec 8 × BitVec 8)) : Rows := matP k.toNat (memP (l.map (prK k)))
def hulK (k : Int) (l : List (BitVec 8 × BitVec 8)) : Rows := matP k.toNat (cl k.toNat (memP (l.map (prK k))))
section
variable {k : Int} {l : List (BitVec 8 × BitVec 8)} {z : BitVec 8 × BitVec 8} (hk : 0 < k) (h4 : k ≤ 4096)
include hk h4
theorem hulK_right : rightS k (hulK k l) = true := by
  have := right_matP (n := k.toNat) (p := cl k.toNat (memP (l.map (prK k)))) (by omega)
  rwa [Int.toNat_of_nonneg (by omega)] at this
theorem allK_right : rightS k (allK k l) = true := by
  have := right_matP (n := k.toNat) (p := memP (l.map (prK k))) (by omega)
  rwa [Int.toNat_of_nonneg (by omega)] at this
theorem allK_zero : newMR k = allK k [] := by
  rw [(newM_yes (okN_iff.2 ⟨by omega, h4⟩)).2.1]
  unfold allK
  have := newM_matP k.toNat
  rw [Int.toNat_of_nonneg (by omega)] at this
  rw [this]; rfl
theorem hulK_zero : newMR k = hulK k [] := by
  rw [allK_zero hk h4]
  refine matP_congr fun a b ha hb => ?_
  exact (cl_closed (p := memP (([] : List (BitVec 8 × BitVec 8)).map (prK k))) (fun i j k _ _ _ h => by cases h) ha hb).symm
theorem allK_snoc : setMR k (allK k l) (prK k z).1 (prK k z).2 = allK k (l ++ [z]) := by
  have hin := prK_in hk z
  have hn : ((k.toNat : Nat) : Int) = k := by omega
  unfold allK
  have := setMR_matP (n := k.toNat) (p := memP (l.map (prK k))) (i := (prK k z).1) (j := (prK k z).2) (by rw [hn]; exact hin)
  rw [hn] at this
  rw [this, List.map_append]
  exact matP_congr fun a b _ _ => (memP_snoc _ _ a b).symm
theorem hulK_snoc : addMR k (hulK k l) (prK k z).1 (prK k z).2 = hulK k (l ++ [z]) := by
  have hin := prK_in hk z
  have hn : ((k.toNat : Nat) : Int) = k := by omega
  unfold hulK
  have hcl : ∀ i j m, i < k.toNat → j < k.toNat → m < k.toNat → cl k.toNat (memP (l.map (prK k))) i j = true → cl k.toNat (memP (l.map (prK k))) j m = true → cl k.toNat (memP (l.map (prK k))) i m = true := fun i j m _ hj _ h1 h2 => cl_trans hj h1 h2
  have := addMR_matP (n := k.toNat) (p := cl k.toNat (memP (l.map (prK k)))) (i := (prK k z).1) (j := (prK k z).2) (by rw [hn]; exact hin) hcl
  rw [hn] at this
  rw [this, List.map_append]
  refine matP_congr fun a b ha hb => ?_
  rw [Bool.eq_iff_iff, cl_iff ha hb, cl_iff ha hb]
  constructor
  · intro t
    refine t.least (R := fun x y => TC k.toNat (memP (l.map (prK k) ++ [prK k z])) x y) (fun x y hx hy hp => ?_) fun _ _ _ _ _ _ h1 h2 => h1.trans h2
    rw [Bool.or_eq_true] at hp
    rcases hp with hp | hp
    · exact ((cl_iff hx hy).1 hp).mono fun a b _ _ h => by rw [memP_snoc, h]; rfl
    · exact .one hx hy (by rw [memP_snoc, hp]; simp)
  · intro t
    refine t.mono fun x y hx hy hp => ?_
    have hp : memP (l.map (prK k) ++ [prK k z]) x y = true := hp
    rw [memP_snoc, Bool.or_eq_true] at hp
    rw [Bool.or_eq_true]
    exact hp.imp cl_has id
theorem hulK_end (t : Nat) : hulK k (rotL l t l.length) = closeM k (allK k l) := by
  have hn : ((k.toNat : Nat) : Int) = k := by omega
  unfold allK hulK
  have := closeM_matP (n := k.toNat) (p := memP (l.map (prK k)))
  rw [hn] at this
  rw [this]
  refine matP_congr fun a b ha hb => cl_congr (fun x y _ _ => ?_) ha hb
  unfold memP
  rw [Bool.eq_iff_iff, List.any_eq_true, List.any_eq_true]
  simp only [List.mem_map, mem_rotL]
end
/-! ### the reference's way -/
def raddMR (n : Int) (rs : Rows) (i j : Int) : Rows := if inM n [i, j] then closeM n (setMR n rs i j) else []
theorem radd_no {n : Int} {rs : Rows} {i j : Int} (h : inM n [i, j] = false) : raddMR n rs i j = [] := by unfold raddMR; rw [if_neg (by rw [h]; decide)]
theorem radd_yes {n : Int} {rs : Rows} {i j : Int} (h : inM n [i, j] = true) : closeM (setMN n i j) (setMR n rs i j) = raddMR n rs i j := by unfold raddMR; rw [if_pos h, (set_yes (rs := rs) h).1]
theorem memI_yes {l : List Int} {x y : Int} {j : Nat} (hx : l[((j : Nat) : Int).toNat]? = some y) (h : y = x) : true = decide (x ∈ l) := by
  subst h; exact (decide_eq_true (List.mem_of_getElem? hx)).symm
theorem memI_no {l : List Int} {x : Int} {j : Nat} (hs : x ∉ l.take j) (h : l.length ≤ j) : false = decide (x ∈ l) := by
  rw [take_end h] at hs; exact (decide_eq_false hs).symm
theorem memI_step {l : List Int} {x y : Int} {j : Nat} (hs : x ∉ l.take j) (hx : l[((j : Nat) : Int).toNat]? = some y) (h : ¬ y = x) : x ∉ l.take (j + 1) := by
  rw [take_at hx]
  intro hm
  rcases List.mem_append.1 hm with hm | hm
  · exact hs hm
  · simp at hm; exact h hm.symm
end Go.Ew
namespace Go.Ew
set_option linter.unusedVariables false
set_option linter.unusedSimpArgs false
set_option linter.unusedSectionVars false

section
variable {n : Int} {rs : Rows} (h : rightS n rs = true)
include h
theorem add_radd (i j : Int) : addMR n (closeM n rs) i j = raddMR n (closeM n rs) i j := by
  obtain ⟨m, p, rfl, hm, rfl⟩ := right_is h
  rw [closeM_matP]
  by_cases hq : inM ((m : Nat) : Int) [i, j] = true
  · rw [addMR_matP (p := cl m p) hq fun i j k _ hj _ h1 h2 => cl_trans (p := p) hj h1 h2]
    unfold raddMR
    rw [if_pos hq, setMR_matP hq, closeM_matP]
  · have hq : inM ((m : Nat) : Int) [i, j] = false := by simpa using hq
    rw [(add_no hq).2.1, radd_no hq]
theorem hull_closed : closedM n (closeM n rs) = true := by
  obtain ⟨m, p, rfl, hm, rfl⟩ := right_is h
  rw [closeM_matP, closed_matP]
  exact fun i j k _ hj _ h1 h2 => cl_trans hj h1 h2
theorem hull_sub : subM n rs n (closeM n rs) = true := by
  obtain ⟨m, p, rfl, hm, rfl⟩ := right_is h
  rw [closeM_matP, subM_matP]
  exact fun i j _ _ hp => cl_has hp
theorem hull_hull : closeM n (closeM n rs) = closeM n rs := by
  obtain ⟨m, p, rfl, hm, rfl⟩ := right_is h
  rw [closeM_matP, closeM_matP]
  exact matP_congr fun a b ha hb => cl_closed (p := cl m p) (fun i j k _ hj _ h1 h2 => cl_trans (p := p) hj h1 h2) ha hb
theorem hull_least {n' : Int} {rs' : Rows} (h' : rightS n' rs' = true) (hs : subM n rs n' (closeM n' rs') = true) : subM n (closeM n rs) n' (closeM n' rs') = true := by
  obtain ⟨m, p, rfl, hm, rfl⟩ := right_is h
  obtain ⟨m', p', rfl, hm', rfl⟩ := right_is h'
  have e : m = m' := by
    unfold subM at hs
    rw [Bool.and_eq_true, decide_eq_true_eq] at hs
    omega
  subst e
  rw [closeM_matP, subM_matP] at hs
  rw [closeM_matP, closeM_matP, subM_matP]
  intro i j hi hj hc
  rw [cl_iff hi hj] at hc
  exact hc.least (R := fun x y => cl m p' x y = true) (fun x y hx hy hp => hs x y hx hy hp) fun x y z _ hy _ h1 h2 => cl_trans hy h1 h2
theorem turn_close : closeM n (turnM n rs) = turnM n (closeM n rs) := by
  obtain ⟨m, p, rfl, hm, rfl⟩ := right_is h
  rw [turn_matP, closeM_matP, closeM_matP, turn_matP]
  refine matP_congr fun a b ha hb => ?_
  have key : ∀ (p : Nat → Nat → Bool) (a b : Nat), TC m p a b → TC m (fun x y => p y x) b a := by
    intro p a b t
    induction t with
    | one h1 h2 h3 => exact .one h2 h1 h3
    | cons h1 h2 h3 _ ih => exact ih.snoc h1 h3
  rw [Bool.eq_iff_iff, cl_iff ha hb, cl_iff hb ha]
  exact ⟨fun t => key _ _ _ t, fun t => key _ _ _ t⟩
theorem turn_close_right : rightS n (turnM n (closeM n rs)) = true := turn_right (closeM_right h)
theorem sub_more {i j : Int} (hi : inM n [i, j] = true) : subM n (closeM n rs) (setMN n i j) (closeM (setMN n i j) (setMR n rs i j)) = true := by
  obtain ⟨m, p, rfl, hm, rfl⟩ := right_is h
  rw [(set_yes (rs := matP m p) hi).1, setMR_matP hi, closeM_matP, closeM_matP, subM_matP]
  exact fun a b ha hb hc => cl_mono (fun x y _ _ hp => by simp [hp]) ha hb hc
end
theorem rot_idx {j L : Nat} {t : Int} (h : 0 ≤ t) : ((((j : Nat) : Int) + t) % ((L : Nat) : Int)).toNat = (j + t.toNat) % L := by
  obtain ⟨m, rfl⟩ : ∃ m : Nat, t = ((m : Nat) : Int) := ⟨t.toNat, by omega⟩
  rw [Int.toNat_natCast, ← Int.natCast_add, ← Int.natCast_emod, Int.toNat_natCast]
theorem rot_at {l : List (BitVec 8 × BitVec 8)} {j : Nat} {t : Int} {x : BitVec 8 × BitVec 8} (h : 0 ≤ t) (hx : l[((((j : Nat) : Int) + t) % ((l.length : Nat) : Int)).toNat]? = some x) : rotL l t.toNat (j + 1) = rotL l t.toNat j ++ [x] := rotL_succ (by rwa [rot_idx h] at hx)
end Go.Ew
namespace Go.Ew
open Go.RowKit
set_option linter.unusedVariables false
set_option linter.unusedSimpArgs false

/-- A slice of the call's own, wherever in its block it begins. -/
def ownQ {α : Type} [GT α] (B : Nat) (e : TypeId) (v : Value) (xs : List α) : Item :=
  ⟨v.ownBlock, fun M w => ∃ cs, Chunks M w cs xs ∧ ((v = .slice none 0 0 ∧ xs = []) ∨ ∃ g o c cur, v = .slice (some ⟨g, o, none⟩) xs.length c ∧ B ≤ g ∧ w.heap[g]? = some (.cells cur e (0, 0)) ∧ xs.length ≤ c ∧ c ≤ maxLen ∧ o + c * GT.size α ≤ cur.size ∧ (cur.toList.drop o).take (xs.length * GT.size α) = cs), fun {M M' w w'} h u hb => by
    obtain ⟨cs, h2, h1⟩ := h
    refine ⟨cs, Chunks.lift u h2, ?_⟩
    rcases h1 with h3 | ⟨g, o, c, cur, rfl, h4, h5, h6⟩
    · exact .inl h3
    · exact .inr ⟨g, o, c, cur, rfl, h4, (hb g rfl).trans h5, h6⟩⟩
theorem ownQ_of {α : Type} [GT α] {B : Nat} {e : TypeId} {v : Value} {xs : List α} {M : Nat → Prop} {w : World} (h : (own B e v xs).holds M w) : (ownQ B e v xs).holds M w := by
  obtain ⟨cs, h1, h2⟩ := h
  refine ⟨cs, h2, ?_⟩
  rcases h1.2 with ⟨rfl, h3⟩ | ⟨g, cap, cur, rfl, h3, h4, h5, h6, h7, h8⟩
  · exact .inl ⟨rfl, List.eq_nil_of_length_eq_zero h3⟩
  · exact .inr ⟨g, 0, cap, cur, rfl, h3, h4, h5, h6, by omega, by rw [List.drop_zero]; exact h8⟩
section
variable {P : Program} {n : Nat} {ops : Array Oper} {f : Slots} {w : World} {K : Slots → World → Prop} {x y : Operand} {d : Nat} {ty T e : TypeId} {ps : String} {af : Array Edge} {v u : Value} {M M0 : Nat → Prop} {w0 : World} {l : List Item} {bytes : Nat} {z : Value} {B : Nat} {kk : IntKind} {agg : Bool} {α : Type} [GT α] {xs ys : List α}
theorem HI.toQ (H : HI M0 w0 w l) (i : Nat) (hi : l[i]? = some (own B e v xs)) : HI M0 w0 w (l.set i (ownQ B e v xs)) := by
  have hil := (List.getElem?_eq_some_iff.1 hi).1
  refine H.weaken ?_ ?_
  · apply List.ext_getElem?
    intro j
    rw [List.getElem?_map, List.getElem?_map]
    by_cases h : i = j
    · subst h; rw [List.getElem?_set_self hil, hi]; rfl
    · rw [List.getElem?_set_ne h]
  · intro j it it' hj hj' M hh
    by_cases h : i = j
    · subst h
      rw [List.getElem?_set_self hil] at hj'
      rw [hi] at hj
      cases hj; cases hj'
      exact ownQ_of hh
    · rw [List.getElem?_set_ne h, hj] at hj'; cases hj'; exact hh
/-- The address of an element. -/
theorem iaQ {i : Int} (hO : (ownQ B e v xs).holds M w) (ox : okT n x = true) (oy : okT n y = true) (hx : ev f x = v) (hy : ev f y = .int kk i) (hi : 0 ≤ i ∧ i < xs.length) (hu : P.underlying T = some (.slice e)) (F : TyF P e (GT.size α) agg bytes z)
    (h : ∀ ad xv, xs[i.toNat]? = some xv → AtW M w ad xv → K (upd f d (.pointer (some ad))) w) : SO P n ops ⟨some d, .indexAddr T x y, ty, ps, af, none⟩ f w K := by
  obtain ⟨cs, h2, h1⟩ := hO
  rcases h1 with ⟨_, h3⟩ | ⟨g, o, c, cur, rfl, h3, h4, h5, h6, h7, h8⟩
  · rw [h3] at hi; simp at hi; omega
  · have hlt : i.toNat < xs.length := by omega
    have hadd : ∀ j, (⟨g, o, none⟩ : Addr).add j = ⟨g, o + j, none⟩ := fun j => by unfold Addr.add; split <;> simp_all
    refine SO.value (v := .pointer (some ⟨g, o + i.toNat * GT.size α, none⟩)) ?_ (h _ xs[i.toNat] (List.getElem?_eq_getElem hlt) ?_)
    · have hb : 0 ≤ i ∧ i < (xs.length : Int) := by omega
      simp [execOp, eval_acts ox, eval_acts oy, hx, hy, Instr.indexAt, asIntOf, run_und hu, hb, F.run_size, hadd]
    · obtain ⟨c', hc1, hc2⟩ := Chunks.at_ h2 i.toNat xs[i.toNat] (List.getElem?_eq_getElem hlt)
      refine ⟨c', hc1, fun j u hu => ?_⟩
      have hcell := hc2 j u hu
      have hadd2 : (⟨g, o + i.toNat * GT.size α, none⟩ : Addr).add j = ⟨g, o + i.toNat * GT.size α + j, none⟩ := by unfold Addr.add; split <;> simp_all
      rw [hadd2, cell_of_row w g _ cur e (0, 0) h4]
      rw [← h8] at hcell
      obtain ⟨h9, h10⟩ := List.getElem?_eq_some_iff.1 hcell
      rw [List.getElem?_take_of_lt (by rw [List.length_take] at h9; omega), List.getElem?_drop, ← Nat.add_assoc] at hcell
      rw [← hcell, Array.getElem?_toList]
/-- xs[lo:] -/
theorem slQ {lo : Int} {ylo : Operand} (H : HI M0 w0 w l) (i : Nat) (hi : l[i]? = some (ownQ B e v xs)) (ox : okT n x = true) (ol : okT n ylo = true) (hx : ev f x = v) (hl : ev f ylo = .int kk lo) (hb : 0 ≤ lo ∧ lo ≤ xs.length) (hu : P.underlying T = some (.slice e)) (F : TyF P e (GT.size α) agg bytes z)
    (h : ∀ a c, HI M0 w0 w (l.set i (ownQ B e (.slice a (xs.drop lo.toNat).length c) (xs.drop lo.toNat))) → K (upd f d (.slice a (xs.drop lo.toNat).length c)) w) :
    SO P n ops ⟨some d, .slice T x (some ylo) none none, ty, ps, af, none⟩ f w K := by
  have hO := H.at_ i hi
  have hil := (List.getElem?_eq_some_iff.1 hi).1
  obtain ⟨cs, h2, h1⟩ := hO
  have hlen : (xs.drop lo.toNat).length = xs.length - lo.toNat := by simp
  obtain ⟨ao, cc, rfl, hcc⟩ : ∃ ao cc, v = .slice ao xs.length cc ∧ xs.length ≤ cc := by
    rcases h1 with ⟨rfl, h3⟩ | ⟨g, o, c, cur, rfl, h3, h4, h5, h6⟩
    · exact ⟨none, 0, by rw [h3]; rfl, by rw [h3]; exact Nat.le_refl _⟩
    · exact ⟨_, _, rfl, h5⟩
  refine SO.value (v := .slice (if cc = lo.toNat then ao else ao.map (·.add (lo.toNat * GT.size α))) (xs.length - lo.toNat) (cc - lo.toNat)) (w' := w) ?_ ?_
  · have hel : P.underlying T = some (.slice (P.elem T)) := by rw [hu]; simp [Program.elem, hu]
    have hel2 : P.elem T = e := by simp [Program.elem, hu]
    simp [execOp, eval_acts ox, eval_acts ol, hx, hl, Instr.sliceAt, run_und hu]
    have := run_slice_l (P := P) (w := w) T ao xs.length cc hel kk lo hb.1 (by omega)
    rw [hel2, F.run_size] at this
    simp [this, sliced]
  · rw [hlen] at h
    refine h _ _ ?_
    have hblk : ∀ (aa : Option Addr) (c1 c2 c3 c4 : Nat) (f2 : Addr → Addr), (∀ q, (f2 q).block = q.block) → Value.ownBlock (.slice (aa.map f2) c1 c2) = Value.ownBlock (.slice aa c3 c4) := by
      intro aa c1 c2 c3 c4 f2 hf
      cases aa with
      | none => rfl
      | some q => show some _ = some _; rw [hf]
    refine H.weaken ?_ ?_
    · apply List.ext_getElem?
      intro j
      rw [List.getElem?_map, List.getElem?_map]
      by_cases hj : i = j
      · subst hj
        rw [List.getElem?_set_self hil, hi]
        show some (Value.ownBlock _) = some (Value.ownBlock _)
        split
        · cases ao <;> rfl
        · rw [hblk ao _ _ xs.length cc _ (fun q => add_block q _)]
      · rw [List.getElem?_set_ne hj]
    · intro j it it' hj hj' M' hh
      by_cases hji : i = j
      · subst hji
        rw [List.getElem?_set_self hil] at hj'
        rw [hi] at hj
        cases hj; cases hj'
        obtain ⟨ds, k2, k1⟩ := hh
        rcases k1 with ⟨k3, k4⟩ | ⟨g, o, c, cur, k3, k4, k5, k6, k7, k8, k9⟩
        · have e1 : lo.toNat = 0 := by rw [k4] at hb; simp at hb; omega
          subst k4
          injection k3 with k3a k3b k3c
          subst k3a; subst k3c
          refine ⟨[], by simp; rfl, .inl ⟨?_, by simp⟩⟩
          rw [e1]; rfl
        · injection k3 with k3a k3b k3c
          subst k3a; subst k3c
          have hadd : ∀ j, (⟨g, o, none⟩ : Addr).add j = ⟨g, o + j, none⟩ := fun j => by unfold Addr.add; split <;> simp_all
          refine ⟨ds.drop (lo.toNat * GT.size α), ?_, .inr ?_⟩
          · have : ∀ (k : Nat) (xs : List α) (cs : List Value), k ≤ xs.length → Chunks M' w cs xs → Chunks M' w (cs.drop (k * GT.size α)) (xs.drop k) := by
              intro k
              induction k with
              | zero => intro xs cs _ hc; simpa using hc
              | succ k ih =>
                intro xs cs hk hc
                cases xs with
                | nil => simp at hk
                | cons q xs =>
                  obtain ⟨c1, c2, rfl, m1, m2⟩ := hc
                  have := ih xs c2 (by simpa using hk) m2
                  rw [List.drop_succ_cons, show (k + 1) * GT.size α = c1.length + k * GT.size α from by rw [GT.len m1, Nat.add_mul]; omega, ← List.drop_drop, List.drop_left]
                  exact this
            exact this _ _ _ (by omega) k2
          · by_cases hcl : cc = lo.toNat
            · rw [if_pos hcl]
              have hz : xs.drop lo.toNat = [] := List.drop_eq_nil_of_le (by omega)
              refine ⟨g, o, cc - lo.toNat, cur, by rw [hlen], k4, k5, by rw [hlen]; omega, by omega, ?_, ?_⟩
              · have : (cc - lo.toNat) * GT.size α ≤ cc * GT.size α := Nat.mul_le_mul_right _ (by omega)
                omega
              · rw [hz, ← k9]
                rw [List.length_nil, Nat.zero_mul, List.take_zero, List.drop_eq_nil_of_le]
                rw [List.length_take]
                have : xs.length * GT.size α ≤ lo.toNat * GT.size α := Nat.mul_le_mul_right _ (by omega)
                omega
            · rw [if_neg hcl]
              refine ⟨g, o + lo.toNat * GT.size α, cc - lo.toNat, cur, by rw [hlen]; simp [hadd], k4, k5, by rw [hlen]; omega, by omega, ?_, ?_⟩
              · have : lo.toNat * GT.size α + (cc - lo.toNat) * GT.size α = cc * GT.size α := by rw [← Nat.add_mul]; congr 1; omega
                omega
              · rw [← k9, hlen, List.drop_take, List.drop_drop]
                congr 1
                rw [← Nat.sub_mul]
      · rw [List.getElem?_set_ne hji, hj] at hj'; cases hj'; exact hh
/-- q = append(q, ys...) -/
theorem apQ (H : HI M0 w0 w l) (i : Nat) (hi : l[i]? = some (ownQ B e v xs)) (hB : B = w0.heap.size) (ox : okT n x = true) (oy : okT n y = true) (hx : ev f x = v) (hy : ev f y = u)
    (hs : Src (MS M0 l) w u ys) (hne : 0 < ys.length) (hu : P.underlying T = some (.slice e)) (F : TyF P e (GT.size α) agg bytes z) (hz : z.cells.size = GT.size α) (hl : (xs.length + ys.length) * bytes ≤ 140737488355328) (hl2 : xs.length + ys.length ≤ 9223372036854775807)
    (h : ∀ a c w', HI M0 w0 w' (l.set i (ownQ B e (.slice a (xs ++ ys).length c) (xs ++ ys))) → K (upd f d (.slice a (xs ++ ys).length c)) w') :
    SO P n ops ⟨some d, .call { callee := .builtin .append, args := #[x, y], argTypes := #[T, T] }, ty, ps, af, none⟩ f w K := by
  subst hB
  obtain ⟨cs, h2, h1⟩ := H.at_ i hi
  obtain ⟨a0, c0, rfl, hsrc⟩ := hs
  obtain ⟨inf, hi1, hi2, hi3, hi4⟩ := F.info
  have hlt : ∀ b, v.ownBlock = some b → w0.heap.size ≤ b ∧ b < w.heap.size := H.blks _ (List.mem_of_getElem? hi)
  obtain ⟨ad, rfl, ds, hd1, hd2⟩ : ∃ ad, a0 = some ad ∧ ∃ cs, Chunks (MS M0 l) w cs ys ∧ ∀ j u, cs[j]? = some u → w.cell? (ad.add j) = some u := by
    rcases hsrc with h0 | h0
    · omega
    · exact h0
  have hcl := Chunks.length h2
  have hdl := Chunks.length hd1
  have fromRow : ∀ (v' : Value) (w' : World) (B' : Nat) (qs : List α) (M' : Nat → Prop) (es : List Value), w0.heap.size ≤ B' → w'.ownsRow B' e (GT.size α) v' qs.length es → Chunks M' w' es qs → (ownQ w0.heap.size e v' qs).holds M' w' := by
    intro v' w' B' qs M' es hB' ho hc
    refine ownQ_of ⟨es, ⟨ho.1, ?_⟩, hc⟩
    rcases ho.2 with h3 | ⟨g, cap, cur, rfl, h3, h4⟩
    · exact .inl h3
    · exact .inr ⟨g, cap, cur, rfl, Nat.le_trans hB' h3, h4⟩
  obtain ⟨a', c', w', hrun, hgr, hch, hhold⟩ : ∃ a' c' w', (Builtin.append_ #[T, T] ty #[v, .slice (some ad) ys.length c0]).run P w = .ok (.slice a' (xs.length + ys.length) c') w' ∧ w.grownBy w' v.ownBlock ∧
      ((Value.slice a' (xs.length + ys.length) c').ownBlock = v.ownBlock ∨ ∀ b, (Value.slice a' (xs.length + ys.length) c').ownBlock = some b → w.heap.size ≤ b ∧ b < w'.heap.size) ∧
      ∀ M', Up (MS M0 l) w M' w' → (ownQ w0.heap.size e (.slice a' (xs ++ ys).length c') (xs ++ ys)).holds M' w' := by
    rcases h1 with ⟨rfl, rfl⟩ | ⟨g, o, c, cur, rfl, h3, h4, h5, h6, h7, h8⟩
    · obtain ⟨v', w', r1, r2, r3, _, r4⟩ := run_append_own_at (P := P) w w0.heap.size T ty e inf z (GT.size α) bytes hu hi1 hi2 hi3 hi4 hz GT.pos (.slice none 0 0) 0 [] (World.ownsRow_nil w _ e _) ad ys.length c0 ds hdl hd2 (Chunks.oneC hd1) (by simp only [maxLen]; simp at hl2; omega) (by simpa using hl) H.below.size
      obtain ⟨a', c', rfl⟩ := owns_explicit r2
      refine ⟨a', c', w', by simpa using r1, r3, ?_, fun M' hup => ?_⟩
      · rcases r4 with hb | hb
        · exact .inl (by simpa using hb)
        · refine .inr fun b hvb => ⟨?_, (r2.lt b (by simpa using hvb)).2⟩
          simp only [List.length_nil, Nat.zero_add] at hvb hb
          rw [hb] at hvb; cases hvb; exact Nat.le_refl _
      · refine fromRow _ _ w0.heap.size _ M' ds (Nat.le_refl _) ?_ ?_
        · simpa using r2
        · simpa using Chunks.lift hup hd1
    · by_cases hroom : xs.length + ys.length ≤ c
      · have hfit : o + xs.length * GT.size α + ds.length ≤ cur.size := by
          have : (xs.length + ys.length) * GT.size α ≤ c * GT.size α := Nat.mul_le_mul_right _ hroom
          rw [Nat.add_mul] at this
          omega
        have hf := run_firstCells_some (P := P) w inf.size ys.length ad ys.length c0 ds (by rw [hi3]; exact hdl) hd2
        rw [hi3] at hf
        have hst := run_storeCells_at P g (o + xs.length * GT.size α) e ds 0 cur w h4 (by simpa using hfit) (Chunks.oneC hd1)
        simp only [Nat.add_zero] at hst
        have hadd : ∀ j, (⟨g, o, none⟩ : Addr).add j = ⟨g, o + j, none⟩ := fun j => by unfold Addr.add; split <;> simp_all
        have hrun : (Builtin.append_ #[T, T] ty #[.slice (some ⟨g, o, none⟩) xs.length c, .slice (some ad) ys.length c0]).run P w = .ok (.slice (some ⟨g, o, none⟩) (xs.length + ys.length) c) (w.setRow g (cur.toList.take (o + xs.length * GT.size α) ++ ds ++ cur.toList.drop (o + xs.length * GT.size α + ds.length)).toArray) := by
          simp [Builtin.append_, run_und hu, sizeOf, typeInfo, hi1, Builtin.lenOf, hroom, hf, hi3, hadd, hst]
        refine ⟨_, _, _, hrun, ⟨rfl, rfl, rfl, by simp, fun k _ hk => setRow_other w g k _ (fun e => hk (by simp [Value.ownBlock, e]))⟩, .inl rfl, fun M' hup => ?_⟩
        refine ⟨cs ++ ds, Chunks.append (Chunks.lift hup h2) (Chunks.lift hup hd1), .inr ⟨g, o, c, _, rfl, h3, setRow_heap w g cur _ e _ h4, by rw [List.length_append]; exact hroom, h6, ?_, ?_⟩⟩
        · simp only [List.size_toArray, List.length_append, List.length_take, List.length_drop, Array.length_toList]
          omega
        · rw [List.length_append, Nat.add_mul, ← hdl]
          have hcur : cur.toList.length = cur.size := by simp
          have e1 : (cur.toList.take (o + xs.length * GT.size α)).length = o + xs.length * GT.size α := by rw [List.length_take]; omega
          show List.take _ (List.drop o (cur.toList.take (o + xs.length * GT.size α) ++ ds ++ cur.toList.drop (o + xs.length * GT.size α + ds.length))) = _
          rw [List.append_assoc, List.drop_append_of_le_length (by omega), List.drop_take, show o + xs.length * GT.size α - o = xs.length * GT.size α from by omega, h8]
          rw [← List.append_assoc, List.take_left' (by rw [List.length_append, hcl])]
      · have holds : ∀ j u, cs[j]? = some u → w.cell? ((⟨g, o, none⟩ : Addr).add j) = some u := by
          intro j u hju
          have hadd : (⟨g, o, none⟩ : Addr).add j = ⟨g, o + j, none⟩ := by unfold Addr.add; split <;> simp_all
          rw [hadd, cell_of_row w g _ cur e (0, 0) h4]
          rw [← h8] at hju
          obtain ⟨k1, k2⟩ := List.getElem?_eq_some_iff.1 hju
          rw [List.getElem?_take_of_lt (by rw [List.length_take] at k1; omega), List.getElem?_drop] at hju
          rw [← hju, Array.getElem?_toList]
        obtain ⟨v', w', r1, r2, r3⟩ := run_append_arg_grows (P := P) w T ty e inf z (GT.size α) bytes hu hi1 hi2 hi3 hi4 hz GT.pos ⟨g, o, none⟩ xs.length c cs hcl holds ad ys.length c0 ds hdl hd2 (by omega) (by simp only [maxLen]; omega) hl
        obtain ⟨a', c', rfl⟩ := owns_explicit r2
        refine ⟨a', c', w', r1, ⟨r3.os, r3.tape, r3.output, r3.size, fun k hk _ => r3.block k hk (by simp)⟩, .inr fun b hvb => r2.lt b hvb, fun M' hup => ?_⟩
        refine fromRow _ _ w.heap.size _ M' (cs ++ ds) H.below.size (by rw [List.length_append]; exact r2) (Chunks.append (Chunks.lift hup h2) (Chunks.lift hup hd1))
  refine SO.value (v := .slice a' (xs.length + ys.length) c') (w' := w') ?_ ?_
  · simp [execOp, resolve, invoke, builtin, eval_acts ox, eval_acts oy, hx, hy, hrun]
  · have := h a' c' w'
    rw [List.length_append] at this
    refine this ?_
    have hblk : ∀ b, (ownQ w0.heap.size e (.slice a' (xs.length + ys.length) c') (xs ++ ys)).blk = some b → b < w'.heap.size ∧ ((ownQ w0.heap.size e v xs).blk = some b ∨ w.heap.size ≤ b) := by
      intro b hb
      rcases hch with hch | hch
      · have hb2 : v.ownBlock = some b := hch.symm.trans hb
        exact ⟨Nat.lt_of_lt_of_le (hlt b hb2).2 hgr.size, .inl hb2⟩
      · exact ⟨(hch b hb).2, .inr (hch b hb).1⟩
    refine H.turn i hi hgr.os hgr.tape hgr.output hgr.size (fun c hc hne => hgr.block c hc (fun e => hne e.symm)) hblk ?_
    have h9 := hhold (MS M0 (l.set i (ownQ w0.heap.size e (.slice a' (xs.length + ys.length) c') (xs ++ ys)))) ?_
    · rw [List.length_append] at h9; exact h9
    · refine ⟨hgr.size, fun b hb hM => ⟨hgr.block b hb (fun e => hM (.inr ⟨_, List.mem_of_getElem? hi, e.symm⟩)), ?_⟩⟩
      rintro (hM' | ⟨it, hit, hitb⟩)
      · exact hM (.inl hM')
      · rcases List.mem_or_eq_of_mem_set hit with hit | rfl
        · exact hM (.inr ⟨it, hit, hitb⟩)
        · rcases (hblk b hitb).2 with h' | h'
          · exact hM (.inr ⟨_, List.mem_of_getElem? hi, h'⟩)
          · omega
end
end Go.Ew
namespace Go.Ew
open Go.RowKit Go.WideShapes Go.ChangeShapes
set_option linter.unusedVariables false
set_option linter.unusedSimpArgs false

/-- A count of what a reading holds: each value and each letter counts. -/
structure Bulk (B : (H : Type) → DataW H → Nat) : Prop where
  lit : ∀ (H : Type) l, 1 ≤ B H (.lit l)
  str : ∀ (H : Type) bs, bs.length + 1 ≤ B H (.lit (.string bs))
  nil : ∀ (H : Type), 1 ≤ B H .nil
  slice : ∀ (H : Type) (es sp : List (DataW H)), (es.map (B H)).sum + 1 ≤ B H (.slice es sp)
  agg : ∀ (H : Type) (ps : List (DataW H)), (ps.map (B H)).sum ≤ B H (.agg ps)

/-- What data of a kind counts. -/
class Wt (α : Type) where
  wt : α → Nat
instance wtInt : Wt Int := ⟨fun _ => 1⟩
instance wtBV : Wt (BitVec 64) := ⟨fun _ => 1⟩
instance wtB8 : Wt (BitVec 8) := ⟨fun _ => 1⟩
instance wtBool : Wt Bool := ⟨fun _ => 1⟩
instance wtStr : Wt ByteArray := ⟨fun s => s.size + 1⟩
instance wtList {α : Type} [Wt α] : Wt (List α) := ⟨fun l => (l.map Wt.wt).sum + 1⟩
instance wtProd {α β : Type} [Wt α] [Wt β] : Wt (α × β) := ⟨fun x => Wt.wt x.1 + Wt.wt x.2⟩

theorem wt_len {α : Type} [Wt α] (h1 : ∀ x : α, 1 ≤ Wt.wt x) : ∀ l : List α, l.length ≤ (l.map Wt.wt).sum
  | [] => Nat.le_refl _
  | x :: l => by
    have := wt_len h1 l
    have := h1 x
    simp only [List.length_cons, List.map_cons, List.sum_cons]; omega
theorem wt_flat {α : Type} [Wt α] (h1 : ∀ x : α, 1 ≤ Wt.wt x) : ∀ h : List (List α), h.flatten.length ≤ Wt.wt h := by
  intro h
  show _ ≤ (h.map Wt.wt).sum + 1
  induction h with
  | nil => simp
  | cons l h ih =>
    have := wt_len h1 l
    simp only [List.flatten_cons, List.length_append, List.map_cons, List.sum_cons]
    show _ ≤ ((l.map Wt.wt).sum + 1) + (h.map Wt.wt).sum + 1
    omega
theorem wt_prod {α β : Type} [Wt α] [Wt β] (h : ∀ x : β, 1 ≤ Wt.wt x) : ∀ x : α × β, 1 ≤ Wt.wt x := fun x => by
  have := h x.2
  show 1 ≤ Wt.wt x.1 + Wt.wt x.2
  omega
theorem wt_int : ∀ x : Int, 1 ≤ Wt.wt x := fun _ => Nat.le_refl _

/-- What a reading through these cells meets is data of the kind, that counts no more than the reading. -/
def OpensB (B : (H : Type) → DataW H → Nat) (P : Program) (t : TypeId) (α : Type) [GT α] [Wt α] : Prop :=
  P.cellsOf t = GT.size α ∧ ∀ {H : Type} (enc : TypeId × Value → H) (W : World) (n : Nat) (cs : List Value) (x : DataW H × List MemPlace),
    DataW.trod enc P W 0 (fun _ => true) true n t cs = some x → ∃ y : α, GT.rep NoM W cs y ∧ Wt.wt y ≤ B H x.1

section
variable {P : Program} {t e : TypeId} {B : (H : Type) → DataW H → Nat}
theorem opensB_int (hB : Bulk B) (hc : P.cellsOf t = 1) (ht : P.underlying t = some (.int .i64)) : OpensB B P t Int := by
  refine ⟨hc, fun {H} enc W n cs x h => ?_⟩
  obtain ⟨k, rfl, rfl, hw⟩ := DataW.trod_int ht h
  exact ⟨k, ⟨rfl, bounds_i64 hw⟩, hB.lit H _⟩
theorem opensB_u64 (hB : Bulk B) (hc : P.cellsOf t = 1) (ht : P.underlying t = some (.int .u64)) : OpensB B P t (BitVec 64) := by
  refine ⟨hc, fun {H} enc W n cs x h => ?_⟩
  obtain ⟨y, hy⟩ := (opens_u64 hc ht).2 enc W n cs x h
  obtain ⟨k, rfl, rfl, -⟩ := DataW.trod_int ht h
  exact ⟨y, hy, hB.lit H _⟩
theorem opensB_u8 (hB : Bulk B) (hc : P.cellsOf t = 1) (ht : P.underlying t = some (.int .u8)) : OpensB B P t (BitVec 8) := by
  refine ⟨hc, fun {H} enc W n cs x h => ?_⟩
  obtain ⟨y, hy⟩ := (opens_u8 hc ht).2 enc W n cs x h
  obtain ⟨k, rfl, rfl, -⟩ := DataW.trod_int ht h
  exact ⟨y, hy, hB.lit H _⟩
theorem opensB_bool (hB : Bulk B) (hc : P.cellsOf t = 1) (ht : P.underlying t = some .bool) : OpensB B P t Bool := by
  refine ⟨hc, fun {H} enc W n cs x h => ?_⟩
  obtain ⟨k, rfl, rfl⟩ := DataW.trod_bool ht h
  exact ⟨k, rfl, hB.lit H _⟩
theorem opensB_string (hB : Bulk B) (hc : P.cellsOf t = 1) (ht : P.underlying t = some .string) : OpensB B P t ByteArray := by
  refine ⟨hc, fun {H} enc W n cs x h => ?_⟩
  obtain ⟨k, rfl, rfl, hk⟩ := DataW.trod_string ht h
  refine ⟨k, ⟨rfl, hk⟩, ?_⟩
  have := hB.str H k.data.toList
  rw [Array.length_toList] at this
  exact this
theorem wt_sum {α : Type} [Wt α] {D : Type} (g : D → Nat) : ∀ (l : List α) (es : List D), l.length = es.length → (∀ (i : Nat) (y : α) (x : D), l[i]? = some y → es[i]? = some x → Wt.wt y ≤ g x) → (l.map Wt.wt).sum ≤ (es.map g).sum
  | [], [], _, _ => Nat.le_refl _
  | [], _ :: _, h, _ => by simp at h
  | _ :: _, [], h, _ => by simp at h
  | y :: l, x :: es, h, k => by
    have h1 := wt_sum g l es (by simpa using h) fun i y x hy hx => k (i + 1) y x (by simpa using hy) (by simpa using hx)
    have h2 := k 0 y x rfl rfl
    simp only [List.map_cons, List.sum_cons]; omega
theorem opensB_slice {α : Type} [GT α] [Wt α] (hB : Bulk B) (hc : P.cellsOf t = 1) (ht : P.underlying t = some (.slice e)) (O : OpensB B P e α) : OpensB B P t (List α) := by
  refine ⟨hc, fun {H} enc W n cs x h => ?_⟩
  rcases DataW.trod_slice ht h with ⟨rfl, rfl⟩ | ⟨a, len, cap, elems, rest, m, rfl, rfl, rfl, -, hl, hm, hlen, hel, -, -⟩
  · exact ⟨[], ⟨_, rfl, rs_nil _ _⟩, hB.nil H⟩
  · have one : ∀ i, i < len → ∃ y : α, At NoM W (a.add (i * GT.size α)) y ∧ ∀ z, elems[i]? = some z → Wt.wt y ≤ B H z.1 := by
      intro i hi
      have h1 := hel i hi
      rw [List.getElem?_eq_getElem (by omega : i < elems.length)] at h1
      simp only [Option.bind_eq_some_iff] at h1
      obtain ⟨ds, hd, hx⟩ := h1
      obtain ⟨y, hy, hw⟩ := O.2 enc W m ds _ hx
      rw [O.1] at hd
      refine ⟨y, ⟨ds, hy, fun h => h, cells_get hd⟩, fun z hz => ?_⟩
      rw [List.getElem?_eq_getElem (by omega : i < elems.length)] at hz
      cases hz
      exact hw
    obtain ⟨l, hl1, hl2⟩ := choose_list (Q := fun i (y : α) => At NoM W (a.add (i * GT.size α)) y ∧ ∀ z, elems[i]? = some z → Wt.wt y ≤ B H z.1) len one
    refine ⟨l, ⟨_, rfl, some a, len, cap, rfl, hl1, hl, hm, ?_⟩, ?_⟩
    · by_cases h0 : len = 0
      · exact .inl h0
      · exact .inr ⟨a, rfl, fun i y hy => (hl2 i y hy).1⟩
    · have h1 := wt_sum (fun z : DataW H × List MemPlace => B H z.1) l elems (by omega) fun i y x hy hx => (hl2 i y hy).2 x hx
      have h2 := hB.slice H (elems.map (·.1)) (rest.map (·.1))
      rw [List.map_map] at h2
      show (l.map Wt.wt).sum + 1 ≤ _
      exact Nat.le_trans (Nat.add_le_add_right h1 1) h2
/-- The fields from off on, of total cells. -/
def OpensRB (B : (H : Type) → DataW H → Nat) (P : Program) (off total : Nat) (fs : List Field) (α : Type) [GT α] [Wt α] : Prop :=
  off + GT.size α = total ∧ ∀ {H : Type} (enc : TypeId × Value → H) (W : World) (n : Nat) (cs : List Value) (xs : List (DataW H × List MemPlace)), cs.length = total → xs.length = fs.length →
    (∀ (i : Nat) f, fs[i]? = some f → DataW.trod enc P W 0 (fun _ => true) true n f.type ((cs.drop f.offset).take (P.cellsOf f.type)) = xs[i]?) → ∃ y : α, GT.rep NoM W (cs.drop off) y ∧ Wt.wt y ≤ ((xs.map (·.1)).map (B H)).sum
theorem opensRB_one {α : Type} [GT α] [Wt α] {f : Field} {off total : Nat} (ho : f.offset = off) (O : OpensB B P f.type α) (hs : off + GT.size α = total) : OpensRB B P off total [f] α := by
  refine ⟨hs, fun {H} enc W n cs xs hl hx h => ?_⟩
  match xs, hx, h with
  | [x], _, h =>
    have h1 := h 0 f rfl
    obtain ⟨y, hy, hw⟩ := O.2 enc W n _ _ h1
    rw [O.1, ho, List.take_of_length_le (by simp; omega)] at hy
    exact ⟨y, hy, by simpa using hw⟩
theorem opensRB_cons {α β : Type} [GT α] [GT β] [Wt α] [Wt β] {f : Field} {fs : List Field} {off off' total : Nat} (ho : f.offset = off) (O : OpensB B P f.type α) (hs : off + GT.size α = off') (R : OpensRB B P off' total fs β) : OpensRB B P off total (f :: fs) (α × β) := by
  refine ⟨by rw [← R.1, ← hs]; show off + (GT.size α + GT.size β) = _; omega, fun {H} enc W n cs xs hl hx h => ?_⟩
  match xs, hx, h with
  | x :: xs, hx, h =>
    have h1 := h 0 f rfl
    obtain ⟨y, hy, hw⟩ := O.2 enc W n _ _ h1
    obtain ⟨z, hz, hv⟩ := R.2 enc W n cs xs hl (by simpa using hx) fun i g hg => h (i + 1) g (by simpa using hg)
    rw [O.1, ho] at hy
    refine ⟨(y, z), ⟨(cs.drop off).take (GT.size α), cs.drop off', ?_, hy, hz⟩, ?_⟩
    · rw [← hs, ← List.drop_drop]
      exact (List.take_append_drop _ _).symm
    · simp only [List.map_cons, List.sum_cons]
      exact Nat.add_le_add hw hv
theorem opensB_struct {α : Type} [GT α] [Wt α] {fs : Array Field} (hB : Bulk B) (ht : P.underlying t = some (.struct fs)) (hc : P.cellsOf t = GT.size α) (R : OpensRB B P 0 (P.cellsOf t) fs.toList α) : OpensB B P t α := by
  refine ⟨hc, fun {H} enc W n cs x h => ?_⟩
  obtain ⟨xs, m, rfl, rfl, hl, hx, hf⟩ := DataW.trod_struct ht h
  obtain ⟨y, hy, hw⟩ := R.2 enc W m cs xs hl (by simpa using hx) fun i f hf' => hf i f (by rw [← Array.getElem?_toList]; exact hf')
  exact ⟨y, by simpa using hy, Nat.le_trans hw (hB.agg H _)⟩
theorem opensB_array2 {α : Type} [GT α] [Wt α] (hB : Bulk B) (ht : P.underlying t = some (.array 2 e)) (hc : P.cellsOf t = GT.size α + GT.size α) (O : OpensB B P e α) : OpensB B P t (α × α) := by
  refine ⟨hc, fun {H} enc W n cs x h => ?_⟩
  obtain ⟨xs, m, rfl, rfl, hl, hx, hf⟩ := DataW.trod_array ht h
  match xs, hx, hf with
  | [x0, x1], _, hf =>
    have h0 := hf 0 (by omega)
    have h1 := hf 1 (by omega)
    rw [O.1] at h0 h1
    obtain ⟨y, hy, hv⟩ := O.2 enc W m _ _ h0
    obtain ⟨z, hz, hw⟩ := O.2 enc W m _ _ h1
    rw [Nat.zero_mul, List.drop_zero] at hy
    rw [Nat.one_mul, List.take_of_length_le (by simp; omega)] at hz
    refine ⟨(y, z), ⟨_, _, (List.take_append_drop _ _).symm, hy, hz⟩, Nat.le_trans ?_ (hB.agg H _)⟩
    simp only [List.map_cons, List.map_nil, List.sum_cons, List.sum_nil]
    exact Nat.add_le_add hv (by simpa using hw)

section
variable {H : Type} {enc : TypeId × Value → H} {W : World} {base : Nat} {v : Value} {d : DataW H} {ps : List MemPlace}
theorem topB_slice {α : Type} [GT α] [Wt α] (ht : P.underlying t = some (.slice e)) (O : OpensB B P t (List α)) (hv : Value.okWide P W .any base t v) (h : DataW.Trod enc P W 0 (fun _ => true) true t v d ps) :
    ∃ (y : List α) (a : Option Addr) (c : Nat), v = .slice a y.length c ∧ RV NoM W (.slice a y.length c) y ∧ Wt.wt y ≤ B H d := by
  obtain ⟨a, n, c, rfl⟩ := okWide_slice ht hv
  obtain ⟨m, h⟩ := h
  obtain ⟨y, hy, hw⟩ := O.2 enc W m _ _ h
  obtain ⟨a', c', e, hr⟩ := RS.explicit (RV.list.1 (⟨_, hy, rfl⟩ : RV NoM W (.slice a n c) y))
  injection e with e1 e2 e3
  subst e1 e2 e3
  exact ⟨y, a, c, rfl, hr, hw⟩
theorem topB_struct {α : Type} [GT α] [Wt α] {fs : Array Field} (ht : P.underlying t = some (.struct fs)) (ha : GT.agg α = true) (O : OpensB B P t α) (hv : Value.okWide P W .any base t v) (h : DataW.Trod enc P W 0 (fun _ => true) true t v d ps) : ∃ y : α, RV NoM W v y ∧ Wt.wt y ≤ B H d := by
  obtain ⟨y0, hy0⟩ := top_struct ht ha ⟨O.1, fun enc W n cs x h => by obtain ⟨y, hy, _⟩ := O.2 enc W n cs x h; exact ⟨y, hy⟩⟩ hv h
  obtain ⟨m, h⟩ := h
  obtain ⟨y, hy, hw⟩ := O.2 enc W m _ _ h
  obtain ⟨cs, hcs, hvc⟩ := hy0
  refine ⟨y, ⟨_, hy, ?_⟩, hw⟩
  rw [hvc, ha]
  rfl
end
end
end Go.Ew
