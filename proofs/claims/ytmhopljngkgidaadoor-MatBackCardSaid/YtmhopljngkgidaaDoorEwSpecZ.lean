/- Plain laws: matrices, turned about and made again of their pairs (law 3). -/
import Derived.Test.YtmhopljngkgidaaDoorEwSpecY
namespace Go.Ew
set_option linter.unusedVariables false
set_option linter.unusedSimpArgs false

theorem foldl_matP {m : Nat} : ∀ (l : List (Int × Int)) (p : Nat → Nat → Bool), (∀ z ∈ l, inM ((m : Nat) : Int) [z.1, z.2] = true) → l.foldl setM (matP m p) = matP m fun a b => p a b || l.any fun z => decide (a = z.1.toNat) && decide (b = z.2.toNat)
  | [], p, _ => by
    show matP m p = _
    exact matP_congr fun a b _ _ => by simp
  | z :: l, p, h => by
    rw [List.foldl_cons, show z = (z.1, z.2) from rfl, setM_matP (h z List.mem_cons_self), foldl_matP l _ fun y hy => h y (List.mem_cons_of_mem _ hy)]
    exact matP_congr fun a b _ _ => by simp [Bool.or_assoc]
theorem foldM_matP {m : Nat} {l : List (Int × Int)} (h : ∀ z ∈ l, inM ((m : Nat) : Int) [z.1, z.2] = true) : foldM ((m : Nat) : Int) l = matP m fun a b => l.any fun z => decide (a = z.1.toNat) && decide (b = z.2.toNat) := by
  unfold foldM
  rw [newM_matP, foldl_matP l _ h]
  exact matP_congr fun a b _ _ => by simp
theorem pairs_in {m : Nat} {p : Nat → Nat → Bool} : ∀ z ∈ pairsM ((m : Nat) : Int) (matP m p), inM ((m : Nat) : Int) [z.1, z.2] = true := by
  intro z hz
  obtain ⟨a, b, ha, hb, -, rfl⟩ := mem_pairs.1 hz
  exact inM_two.2 ⟨⟨by omega, by omega⟩, by omega, by omega⟩
theorem any_pairs {m : Nat} {p : Nat → Nat → Bool} {a b : Nat} (ha : a < m) (hb : b < m) : ((pairsM ((m : Nat) : Int) (matP m p)).any fun z => decide (a = z.1.toNat) && decide (b = z.2.toNat)) = p a b := by
  rw [Bool.eq_iff_iff, List.any_eq_true]
  constructor
  · rintro ⟨z, hz, h⟩
    obtain ⟨c, d, hc, hd, hp, rfl⟩ := mem_pairs.1 hz
    simp only [Int.toNat_natCast, Bool.and_eq_true, decide_eq_true_eq] at h
    rw [h.1, h.2]; exact hp
  · intro hp
    exact ⟨_, mem_pairs.2 ⟨a, b, ha, hb, hp, rfl⟩, by simp⟩
theorem of_pairs {m : Nat} {p : Nat → Nat → Bool} : foldM ((m : Nat) : Int) (pairsM ((m : Nat) : Int) (matP m p)) = matP m p := by
  rw [foldM_matP pairs_in]
  exact matP_congr fun a b ha hb => any_pairs ha hb
theorem turn_matP {m : Nat} {p : Nat → Nat → Bool} : turnM ((m : Nat) : Int) (matP m p) = matP m fun a b => p b a := by
  unfold turnM
  rw [foldM_matP]
  · refine matP_congr fun a b ha hb => ?_
    rw [List.any_map, ← any_pairs (p := p) hb ha]
    congr 1
    funext z
    simp only [Function.comp, swapP]
    exact Bool.and_comm _ _
  · intro z hz
    obtain ⟨y, hy, rfl⟩ := List.mem_map.1 hz
    have := inM_two.1 (pairs_in y hy)
    exact inM_two.2 ⟨this.2, this.1⟩
section
variable {n : Int} {rs : Rows} (h : rightS n rs = true)
include h
theorem back_ok : ofOk n (pairsM n rs) = true := by
  obtain ⟨m, p, rfl, hm, rfl⟩ := right_is h
  unfold ofOk
  rw [okN_iff.2 ⟨by omega, by omega⟩, Bool.true_and, List.all_eq_true]
  intro z hz
  exact pairs_in z hz
theorem back_of : eqM (ofMN n (pairsM n rs)) (ofMR n (pairsM n rs)) n rs = true := by
  obtain ⟨e1, e2, -⟩ := of_yes (back_ok h)
  rw [e1, e2]
  obtain ⟨m, p, rfl, hm, rfl⟩ := right_is h
  rw [of_pairs]; exact eqM_refl _ _
theorem back_e : ofME n (pairsM n rs) = 0 := (of_yes (back_ok h)).2.2
theorem turn_right : rightS n (turnM n rs) = true := by
  obtain ⟨m, p, rfl, hm, rfl⟩ := right_is h
  rw [turn_matP]; exact right_matP hm
theorem turn_turn : turnM n (turnM n rs) = rs := by
  obtain ⟨m, p, rfl, hm, rfl⟩ := right_is h
  rw [turn_matP, turn_matP]
theorem turn_has (i j : Int) : hasM n (turnM n rs) j i = hasM n rs i j := by
  obtain ⟨m, p, rfl, hm, rfl⟩ := right_is h
  rw [turn_matP, hasM_matP, hasM_matP]
  congr 1
  rw [Bool.eq_iff_iff, inM_two, inM_two]; exact And.comm
theorem turn_len : (pairsM n (turnM n rs)).length = (pairsM n rs).length := by
  obtain ⟨m, p, rfl, hm, rfl⟩ := right_is h
  rw [turn_matP, pairs_len, pairs_len]
  unfold rowSum
  exact (sum_swap p (List.range m) (List.range m)).symm
theorem same_two {br : Rows} {bn : Int} (hb : rightS bn br = true) : sameM n rs bn br = (subM n rs bn br && subM bn br n rs) := by
  obtain ⟨m, p, rfl, hm, rfl⟩ := right_is h
  obtain ⟨m', p', rfl, hm', rfl⟩ := right_is hb
  by_cases e : m = m'
  · subst e
    rw [Bool.eq_iff_iff, Bool.and_eq_true, subM_matP, subM_matP]
    unfold sameM
    rw [decide_eq_true rfl, Bool.true_and, decide_eq_true_eq]
    constructor
    · intro he
      have := matP_eq he
      exact ⟨fun i j hi hj hp => by rw [← this i j hi hj]; exact hp, fun i j hi hj hp => by rw [this i j hi hj]; exact hp⟩
    · rintro ⟨h1, h2⟩
      refine matP_congr fun i j hi hj => ?_
      rw [Bool.eq_iff_iff]
      exact ⟨h1 i j hi hj, h2 i j hi hj⟩
  · unfold sameM subM
    rw [decide_eq_false (show ¬ ((m : Nat) : Int) = ((m' : Nat) : Int) from by omega)]; rfl
end
end Go.Ew
