/- Plain laws: one pair more (law 3). -/
import Derived.Test.YtmhopljngkgidaaDoorEwSpecW
namespace Go.Ew
set_option linter.unusedVariables false
set_option linter.unusedSimpArgs false
set_option linter.unusedSectionVars false

theorem inM_mod {n i j : Int} (h : 0 < n) : inM n [i % n, j % n] = true := inM_two.2 ⟨⟨Int.emod_nonneg _ (by omega), Int.emod_lt_of_pos _ h⟩, Int.emod_nonneg _ (by omega), Int.emod_lt_of_pos _ h⟩
theorem right_pos {n : Int} {rs : Rows} (h : rightS n rs = true) : 0 ≤ n := (right_sq h).2.2.2.1
section
variable {n : Int} {rs : Rows} {i j : Int} (h : rightS n rs = true) (hi : inM n [i, j] = true)
include h hi
theorem set_right : rightS (setMN n i j) (setMR n rs i j) = true := by
  obtain ⟨m, p, rfl, hm, rfl⟩ := right_is h
  rw [(set_yes (rs := matP m p) hi).1, setMR_matP hi]
  exact right_matP hm
theorem or_set_right : rightS (orMN n (setMN n i j)) (orMR n rs (setMN n i j) (setMR n rs i j)) = true := by
  obtain ⟨m, p, rfl, hm, rfl⟩ := right_is h
  rw [(set_yes (rs := matP m p) hi).1, setMR_matP hi, (orM_yes (ar := matP m p) (br := matP m p) rfl).1, (orM_yes rfl).2.1, Int.toNat_natCast, orRs_matP]
  exact right_matP hm
theorem or_set_e : orME n (setMN n i j) = 0 := by rw [(set_yes (rs := rs) hi).1]; exact (orM_yes (ar := rs) (br := rs) rfl).2.2
theorem set_e : setME n i j = 0 := (set_yes (rs := rs) hi).2.2
theorem set_has : hasM (setMN n i j) (setMR n rs i j) i j = true := by
  obtain ⟨m, p, rfl, hm, rfl⟩ := right_is h
  rw [(set_yes (rs := matP m p) hi).1, setMR_matP hi, hasM_matP, hi]
  simp
theorem set_sub : subM n rs (setMN n i j) (setMR n rs i j) = true := by
  obtain ⟨m, p, rfl, hm, rfl⟩ := right_is h
  rw [(set_yes (rs := matP m p) hi).1, setMR_matP hi, subM_matP]
  intro a b _ _ hp
  simp [hp]
theorem set_or_same : sameM (orMN n (setMN n i j)) (orMR n rs (setMN n i j) (setMR n rs i j)) (setMN n i j) (setMR n rs i j) = true := by
  obtain ⟨m, p, rfl, hm, rfl⟩ := right_is h
  rw [(set_yes (rs := matP m p) hi).1, setMR_matP hi, (orM_yes (ar := matP m p) (br := matP m p) rfl).1, (orM_yes rfl).2.1, Int.toNat_natCast, orRs_matP]
  have : (matP m fun a b => p a b || (p a b || (decide (a = i.toNat) && decide (b = j.toNat)))) = matP m fun a b => p a b || (decide (a = i.toNat) && decide (b = j.toNat)) :=
    matP_congr fun a b _ _ => by cases p a b <;> simp
  rw [this]
  exact sameM_refl _ _
theorem set_right2 : rightM (setMN n i j) (setMR n rs i j) = true := by rw [right_two]; exact set_right h hi
omit h hi in
theorem filter_one {A : Type} [DecidableEq A] (p : A → Bool) (x : A) : ∀ l : List A, x ∈ l → l.Nodup → (l.filter fun y => p y || decide (y = x)).length = (l.filter p).length + (if p x = true then 0 else 1)
  | [], h, _ => by cases h
  | y :: l, h, hn => by
    obtain ⟨h1, h2⟩ := List.nodup_cons.1 hn
    by_cases e : y = x
    · subst e
      have : (l.filter fun z => p z || decide (z = y)) = l.filter p := by
        apply List.filter_congr
        intro z hz
        have : ¬ z = y := fun e => h1 (e ▸ hz)
        simp [this]
      rw [List.filter_cons, List.filter_cons, this]
      cases hp : p y <;> simp
    · have hx : x ∈ l := by
        rcases List.mem_cons.1 h with h | h
        · exact absurd h.symm e
        · exact h
      have ih := filter_one p x l hx h2
      rw [List.filter_cons, List.filter_cons]
      cases hp : p y <;> simp [e, ih]
      omega
omit h hi in
theorem sum_one {A : Type} [DecidableEq A] (f g : A → Nat) (x : A) (d : Nat) (hf : ∀ y, y ≠ x → f y = g y) (hx : f x = g x + d) : ∀ l : List A, x ∈ l → l.Nodup → (l.map f).sum = (l.map g).sum + d
  | [], h, _ => by cases h
  | y :: l, h, hn => by
    obtain ⟨h1, h2⟩ := List.nodup_cons.1 hn
    simp only [List.map_cons, List.sum_cons]
    by_cases e : y = x
    · subst e
      have : l.map f = l.map g := List.map_congr_left fun z hz => hf z fun e => h1 (e ▸ hz)
      rw [this, hx]; omega
    · have hx' : x ∈ l := by
        rcases List.mem_cons.1 h with h | h
        · exact absurd h.symm e
        · exact h
      rw [hf y e, sum_one f g x d hf hx l hx' h2]; omega
theorem set_len : (((pairsM (setMN n i j) (setMR n rs i j)).length : Nat) : Int) = (((pairsM n rs).length : Nat) : Int) + (if hasM n rs i j = true then 0 else 1) := by
  obtain ⟨m, p, rfl, hm, rfl⟩ := right_is h
  have hr := inM_two.1 hi
  rw [(set_yes (rs := matP m p) hi).1, setMR_matP hi, pairs_len, pairs_len]
  have hh : hasM ((m : Nat) : Int) (matP m p) i j = p i.toNat j.toNat := by rw [hasM_matP, hi, Bool.true_and]
  rw [hh]
  have key := sum_one (fun a => ((List.range m).filter fun b => p a b || (decide (a = i.toNat) && decide (b = j.toNat))).length) (fun a => ((List.range m).filter (p a)).length) i.toNat (if p i.toNat j.toNat = true then 0 else 1)
    (fun a ha => by
      have : (fun b => p a b || (decide (a = i.toNat) && decide (b = j.toNat))) = p a := by funext b; simp [ha]
      simp only [this])
    (by
      have := filter_one (p i.toNat) j.toNat (List.range m) (List.mem_range.2 (by omega)) List.nodup_range
      simpa using this)
    (List.range m) (List.mem_range.2 (by omega)) List.nodup_range
  unfold rowSum
  rw [key]
  split <;> omega
end
theorem right_pairs {n : Int} {rs : Rows} (h : rightS n rs = true) : (pairsM n rs).length ≤ 16777216 := by
  obtain ⟨m, p, rfl, hm, rfl⟩ := right_is h
  have h1 := pairs_small (n := m) (p := p)
  have h2 : m * m ≤ 4096 * 4096 := Nat.mul_le_mul hm hm
  omega
end Go.Ew
