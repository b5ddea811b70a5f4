/- Plain laws: differentiated histories (layer 10). -/
import Derived.Test.YtmhopljngkgidaaDoorEwSpecL
namespace Go.Ew
set_option linter.unusedVariables false
set_option linter.unusedSimpArgs false

theorem fb_cases (its : List ItemL) : (fbI its = none ∧ (∀ k, badI its k = false)) ∨ ∃ j, j < its.length ∧ fbI its = some j ∧ badI its j = true ∧ ∀ k, k < j → badI its k = false := by
  unfold fbI
  cases h : (List.range its.length).find? (badI its) with
  | none =>
    left
    refine ⟨rfl, fun k => ?_⟩
    rw [List.find?_eq_none] at h
    by_cases hk : k < its.length
    · simpa using h k (List.mem_range.2 hk)
    · unfold badI; rw [List.getElem?_eq_none (by omega)]; rfl
  | some j =>
    right
    rw [List.find?_eq_some_iff_append] at h
    obtain ⟨hb, as, bs, he, ha⟩ := h
    have hj : j < its.length := by
      have : j ∈ List.range its.length := by rw [he]; simp
      exact List.mem_range.1 this
    have hlen : as.length = j := by
      have h1 : (List.range its.length)[as.length]? = some j := by rw [he]; simp
      have h2 : as.length < its.length := by
        have := congrArg List.length he
        simp at this; omega
      rw [List.getElem?_range h2] at h1
      exact Option.some.inj h1
    refine ⟨j, hj, rfl, hb, fun k hk => ?_⟩
    have h1 : (List.range its.length)[k]? = as[k]? := by rw [he, List.getElem?_append_left (by omega)]
    rw [List.getElem?_range (by omega), List.getElem?_eq_getElem (by omega)] at h1
    have := ha as[k] (List.getElem_mem _)
    rw [← Option.some.inj h1] at this
    simpa using this
theorem chk_ok {its : List ItemL} (h : (chkA its).2.2 = 0) : fbI its = none ∧ ∀ k, badI its k = false := by
  rcases fb_cases its with h1 | ⟨j, hj, hf, hb, hl⟩
  · exact h1
  · exfalso
    unfold chkA at h
    rw [hf] at h
    simp only [List.getElem?_eq_getElem hj] at h
    split at h <;> simp at h
theorem chk_ok0 {its : List ItemL} (h : (chkA its).2.2 = 0) : (chkA its).1 = 0 ∧ (chkA its).2.1 = 0 := by
  unfold chkA; rw [(chk_ok h).1]; exact ⟨rfl, rfl⟩
theorem wr_self {its : List ItemL} {j : Nat} {x : ItemL} (hx : its[((j : Nat) : Int).toNat]? = some x) (hw : x.2.2.1 = true) : 0 ≤ wrI its x.2.2.2.1 x.2.2.2.2 ∧ wrI its x.2.2.2.1 x.2.2.2.2 ≤ ((j : Nat) : Int) := by
  have hp : isW x.2.2.2.1 x.2.2.2.2 x = true := by unfold isW; simp [hw]
  cases hf : (its.take j).findIdx? (isW x.2.2.2.1 x.2.2.2.2) with
  | none => have := idxF_here hx hp hf; unfold wrI; rw [this]; omega
  | some i =>
    have := idxF_take hf
    have hi := (List.findIdx?_eq_some_iff_getElem.1 hf).1
    rw [List.length_take] at hi
    unfold wrI; rw [this]; omega
theorem chk_good {its : List ItemL} (h : (chkA its).2.2 = 0) {j : Nat} {x : ItemL} (hx : its[((j : Nat) : Int).toNat]? = some x) (hw : x.2.2.1 = true) : x.2.2.2.2 ≠ 0 ∧ wrI its x.2.2.2.1 x.2.2.2.2 = ((j : Nat) : Int) := by
  have hb := (chk_ok h).2 j
  rw [bad_at hx] at hb
  unfold bad1 at hb
  rw [hw, Bool.true_and, Bool.or_eq_false_iff, decide_eq_false_iff_not, decide_eq_false_iff_not] at hb
  have := wr_self hx hw
  omega
theorem wr_at {its : List ItemL} {v val : Int} (h : 0 ≤ wrI its v val) : ∃ x, its[(wrI its v val).toNat]? = some x ∧ isW v val x = true := by
  unfold wrI idxF at h ⊢
  cases hf : its.findIdx? (isW v val) with
  | none => rw [hf] at h; simp at h
  | some i =>
    obtain ⟨hi, hp, -⟩ := List.findIdx?_eq_some_iff_getElem.1 hf
    exact ⟨its[i], by simp [hi], hp⟩
theorem isW_iff {v val : Int} {x : ItemL} : isW v val x = true ↔ x.2.2.1 = true ∧ x.2.2.2.1 = v ∧ x.2.2.2.2 = val := by unfold isW; simp [and_assoc]
theorem chk_bad {its : List ItemL} (h : (chkA its).2.2 ≠ 0) : ∃ x y, its[(chkA its).1.toNat]? = some x ∧ its[(chkA its).2.1.toNat]? = some y ∧ 0 ≤ (chkA its).1 ∧ (chkA its).1 ≤ (chkA its).2.1 ∧ (chkA its).2.1 < (its.length : Int) ∧
    x.2.2.1 = true ∧ y.2.2.1 = true ∧ x.2.2.2.1 = y.2.2.2.1 ∧ x.2.2.2.2 = y.2.2.2.2 ∧ ((chkA its).2.2 = 5 → (chkA its).1 = (chkA its).2.1 ∧ x.2.2.2.2 = 0) ∧ ((chkA its).2.2 ≠ 5 → (chkA its).2.2 = 4 ∧ (chkA its).1 < (chkA its).2.1 ∧ x.2.2.2.2 ≠ 0) := by
  rcases fb_cases its with ⟨h1, -⟩ | ⟨j, hj, hf, hb, hl⟩
  · exfalso; apply h; unfold chkA; rw [h1]
  · have hx : its[((j : Nat) : Int).toNat]? = some its[j] := by rw [Int.toNat_natCast]; exact List.getElem?_eq_getElem hj
    rw [bad_at hx] at hb
    unfold bad1 at hb
    simp only [Bool.and_eq_true, Bool.or_eq_true, decide_eq_true_eq] at hb
    obtain ⟨hw, hc⟩ := hb
    by_cases h0 : (its[j]).2.2.2.2 = 0
    · rw [chk_zero hl hx hw h0]
      exact ⟨its[j], its[j], hx, hx, by simp, by simp, by simp [hj], hw, hw, rfl, rfl, fun _ => ⟨rfl, h0⟩, fun h => absurd rfl h⟩
    · have hc : max (wrI its (its[j]).2.2.2.1 (its[j]).2.2.2.2) 0 < ((j : Nat) : Int) := by
        rcases hc with hc | hc
        · exact absurd hc h0
        · exact hc
      rw [chk_twice hl hx hw h0 hc]
      obtain ⟨w0, w1⟩ := wr_self hx hw
      obtain ⟨y, hy, hp⟩ := wr_at w0
      obtain ⟨p1, p2, p3⟩ := isW_iff.1 hp
      have e : max (wrI its (its[j]).2.2.2.1 (its[j]).2.2.2.2) 0 = wrI its (its[j]).2.2.2.1 (its[j]).2.2.2.2 := by omega
      refine ⟨y, its[j], by rw [e]; exact hy, hx, by simp only [e]; exact w0, by simp only [e]; exact w1, by simp [hj], p1, hw, p2, p3, fun h => (by simp at h), fun _ => ⟨rfl, hc, by rw [p3]; exact h0⟩⟩

/-! ### with more behind -/
theorem allO_more (h : HistL) : ∀ j m, ∃ r, (allO h (j + m)).2 = (allO h j).2 ++ r
  | j, 0 => ⟨[], by simp⟩
  | j, m + 1 => by
    obtain ⟨r, hr⟩ := allO_more h j m
    by_cases hj : j + m < h.length
    · have hx : h[((j + m : Nat) : Int).toNat]? = some h[j + m] := by rw [Int.toNat_natCast]; exact List.getElem?_eq_getElem hj
      have e : (allO h (j + (m + 1))).2 = (allO h (j + m)).2 ++ ((allO h (j + (m + 1))).2.drop (allO h (j + m)).2.length) := by
        rw [show j + (m + 1) = (j + m) + 1 from rfl, allO_step hx]
        unfold sesO
        have key : ∀ q, q ≤ h[j + m].length → ∃ r, (toO (j + m) (allO h (j + m)) h[j + m] q).2 = (allO h (j + m)).2 ++ r := by
          intro q
          induction q with
          | zero => intro _; exact ⟨[], by simp [toO_zero]⟩
          | succ q ih =>
            intro hq
            obtain ⟨r, hr⟩ := ih (by omega)
            have hy : h[j + m][((q : Nat) : Int).toNat]? = some h[j + m][q] := by rw [Int.toNat_natCast]; exact List.getElem?_eq_getElem (by omega)
            rw [toO_step hy]
            unfold stepO
            rw [hr]
            exact ⟨_, List.append_assoc _ _ _⟩
        obtain ⟨r', hr'⟩ := key _ (Nat.le_refl _)
        rw [hr']; simp
      rw [hr] at e
      exact ⟨_, by rw [e, List.append_assoc]⟩
    · have : allO h (j + (m + 1)) = allO h (j + m) := by
        unfold allO
        rw [List.take_of_length_le (by omega), List.take_of_length_le (by omega)]
      rw [this]; exact ⟨r, hr⟩
theorem allO_append (a b : HistL) : allO (a ++ b) a.length = allO a a.length := by
  unfold allO
  rw [List.take_left, List.take_length]
theorem factI_append (a b : HistL) : ∃ r, factI (a ++ b) = factI a ++ r := by
  obtain ⟨r, hr⟩ := allO_more (a ++ b) a.length b.length
  refine ⟨r, ?_⟩
  unfold factI
  rw [List.length_append, hr, allO_append]
theorem right_append {a b : HistL} (ha : rightH a = true) (hb : rightH b = true) (hl : (a ++ b).flatten.length ≤ 4096) : rightH (a ++ b) = true := by
  unfold rightH at *
  simp only [Bool.and_eq_true, decide_eq_true_eq] at *
  refine ⟨?_, hl⟩
  rw [List.flatten_append, List.all_append, ha.1, hb.1]; rfl
theorem wr_prefix {p r : List ItemL} {j : Nat} {x : ItemL} (hx : p[((j : Nat) : Int).toNat]? = some x) (hw : x.2.2.1 = true) : wrI (p ++ r) x.2.2.2.1 x.2.2.2.2 = wrI p x.2.2.2.1 x.2.2.2.2 := by
  have h0 := (wr_self hx hw).1
  unfold wrI idxF at *
  cases hf : p.findIdx? (isW x.2.2.2.1 x.2.2.2.2) with
  | none => rw [hf] at h0; simp at h0
  | some i => rw [List.findIdx?_append, hf]; rfl
theorem bad_prefix {p r : List ItemL} {j : Nat} (hj : j < p.length) : badI (p ++ r) j = badI p j := by
  have hx : p[((j : Nat) : Int).toNat]? = some p[j] := by rw [Int.toNat_natCast]; exact List.getElem?_eq_getElem hj
  have hx' : (p ++ r)[((j : Nat) : Int).toNat]? = some p[j] := by rw [Int.toNat_natCast, List.getElem?_append_left hj]; exact List.getElem?_eq_getElem hj
  rw [bad_at hx, bad_at hx']
  unfold bad1
  cases hw : (p[j]).2.2.1 with
  | false => rfl
  | true => rw [wr_prefix hx hw]
theorem chk_prefix {p r : List ItemL} (h : (chkA p).2.2 ≠ 0) : chkA (p ++ r) = chkA p := by
  rcases fb_cases p with ⟨h1, -⟩ | ⟨j, hj, hf, hb, hl⟩
  · exfalso; apply h; unfold chkA; rw [h1]
  · have hl' : ∀ k, k < j → badI (p ++ r) k = false := fun k hk => by rw [bad_prefix (by omega)]; exact hl k hk
    have hf' : fbI (p ++ r) = some j := fb_some hl' (by rw [List.length_append]; omega) (by rw [bad_prefix hj]; exact hb)
    have hx : p[((j : Nat) : Int).toNat]? = some p[j] := by rw [Int.toNat_natCast]; exact List.getElem?_eq_getElem hj
    have hw : (p[j]).2.2.1 = true := by
      rw [bad_at hx] at hb; unfold bad1 at hb; simp only [Bool.and_eq_true] at hb; exact hb.1
    unfold chkA
    rw [hf, hf']
    simp only [List.getElem?_append_left hj, List.getElem?_eq_getElem hj, wr_prefix hx hw]
theorem chk_behind {p r : List ItemL} (h : (chkA p).2.2 = 0) (h' : (chkA (p ++ r)).2.2 ≠ 0) : (p.length : Int) ≤ (chkA (p ++ r)).2.1 := by
  rcases fb_cases (p ++ r) with ⟨h1, -⟩ | ⟨j, hj, hf, hb, hl⟩
  · exfalso; apply h'; unfold chkA; rw [h1]
  · have hge : p.length ≤ j := by
      refine Classical.byContradiction fun hn => ?_
      rw [bad_prefix (by omega), (chk_ok h).2 j] at hb
      cases hb
    have : (chkA (p ++ r)).2.1 = ((j : Nat) : Int) := by
      unfold chkA
      rw [hf]
      simp only [List.getElem?_eq_getElem hj]
      split <;> rfl
    rw [this]; omega
theorem more_same {a b : HistL} (ha : rightH a = true) (hb : rightH b = true) (hl : (a ++ b).flatten.length ≤ 4096) (h : (chkA (ofI a)).2.2 ≠ 0) : chkA (ofI (a ++ b)) = chkA (ofI a) := by
  obtain ⟨r, hr⟩ := factI_append a b
  rw [(of_ok ha).2.1] at h ⊢
  rw [(of_ok (right_append ha hb hl)).2.1, hr]
  exact chk_prefix h
theorem more_behind {a b : HistL} (ha : rightH a = true) (hb : rightH b = true) (hl : (a ++ b).flatten.length ≤ 4096) (h : (chkA (ofI a)).2.2 = 0) (h' : (chkA (ofI (a ++ b))).2.2 ≠ 0) : ((ofI a).length : Int) ≤ (chkA (ofI (a ++ b))).2.1 := by
  obtain ⟨r, hr⟩ := factI_append a b
  rw [(of_ok ha).2.1] at h ⊢
  rw [(of_ok (right_append ha hb hl)).2.1, hr] at h' ⊢
  exact chk_behind h h'
theorem flat_two {a b : HistL} (ha : smallH a 40 = true) (hb : smallH b 40 = true) : (a ++ b).flatten.length ≤ 80 := by
  have h1 := (small_iff.1 ha).2.1
  have h2 := (small_iff.1 hb).2.1
  rw [List.flatten_append, List.length_append]; omega
end Go.Ew
