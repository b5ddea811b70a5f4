/- Plain words and laws: what each item reads from (layer 11). -/
import Derived.Test.YtmhopljngkgidaaDoorEwSpecM
namespace Go.Ew
set_option linter.unusedVariables false
set_option linter.unusedSimpArgs false

/-- What an item reads from, by the document. -/
def frI (its : List ItemL) (x : ItemL) : Int := if x.2.2.1 then -3 else if x.2.2.2.2 = 0 then -1 else if 0 ≤ wrI its x.2.2.2.1 x.2.2.2.2 then max (wrI its x.2.2.2.1 x.2.2.2.2) 0 else -2
def fromR (its : List ItemL) : List Int := its.map (frI its)
/-- .. and by a map of last writes. -/
def lastM (its : List ItemL) (j : Nat) : KV := ((its.take j).zipIdx).foldl (fun m x => if x.1.2.2.1 then putM m (x.1.2.2.2.1, x.1.2.2.2.2) ((x.2 : Nat) : Int) else m) []
def frM (m : KV) (x : ItemL) : Int := if x.2.2.1 then -3 else if x.2.2.2.2 = 0 then -1 else if (getM m (x.2.2.2.1, x.2.2.2.2)).isSome then (getM m (x.2.2.2.1, x.2.2.2.2)).getD 0 else -2
def fromM (its : List ItemL) : List Int := its.map (frM (lastM its its.length))
theorem lastM_write {its : List ItemL} {j : Nat} {x : ItemL} (hx : its[((j : Nat) : Int).toNat]? = some x) (hw : x.2.2.1 = true) : putM (lastM its j) (x.2.2.2.1, x.2.2.2.2) ((j : Nat) : Int) = lastM its (j + 1) := by
  unfold lastM; rw [zip_step hx, List.foldl_append]; simp [hw]
theorem lastM_read {its : List ItemL} {j : Nat} {x : ItemL} (hx : its[((j : Nat) : Int).toNat]? = some x) (hw : x.2.2.1 = false) : lastM its j = lastM its (j + 1) := by
  unfold lastM; rw [zip_step hx, List.foldl_append]; simp [hw]
/-- The first j told, the others still 0. -/
def frTo (m : KV) (its : List ItemL) (j : Nat) : List Int := (its.take j).map (frM m) ++ List.replicate (its.length - j) 0
theorem frTo_zero (m : KV) (its : List ItemL) : List.replicate its.length 0 = frTo m its 0 := by unfold frTo; simp
theorem frTo_len (m : KV) (its : List ItemL) {j : Nat} (hj : j ≤ its.length) : (frTo m its j).length = its.length := by unfold frTo; simp; omega
theorem frTo_set {m : KV} {its : List ItemL} {j : Nat} {x : ItemL} {v : Int} (hx : its[((j : Nat) : Int).toNat]? = some x) (hv : v = frM m x) : (frTo m its j).set j v = frTo m its (j + 1) := by
  have hj : j < its.length := by rw [Int.toNat_natCast] at hx; exact (List.getElem?_eq_some_iff.1 hx).1
  unfold frTo
  have h1 : its.length - j = (its.length - (j + 1)) + 1 := by omega
  rw [take_at hx, List.map_append, h1, List.replicate_succ, List.set_append_right _ _ (by simp; omega)]
  have h2 : j - ((its.take j).map (frM m)).length = 0 := by simp; omega
  rw [h2, List.set_cons_zero, hv]
  simp
theorem frTo_end {m : KV} {its : List ItemL} {j : Nat} (h : its.length ≤ j) : frTo m its j = its.map (frM m) := by
  unfold frTo; rw [List.take_of_length_le h, show its.length - j = 0 from by omega]; simp
theorem frM_w {m : KV} {x : ItemL} (hw : x.2.2.1 = true) : (-3 : Int) = frM m x := by unfold frM; simp [hw]
theorem frM_0 {m : KV} {x : ItemL} (hw : x.2.2.1 = false) (h0 : x.2.2.2.2 = 0) : (-1 : Int) = frM m x := by unfold frM; simp [hw, h0]
theorem frM_s {m : KV} {x : ItemL} (hw : x.2.2.1 = false) (h0 : ¬ x.2.2.2.2 = 0) (hs : (getM m (x.2.2.2.1, x.2.2.2.2)).isSome = true) : (getM m (x.2.2.2.1, x.2.2.2.2)).getD 0 = frM m x := by unfold frM; simp [hw, h0, hs]
theorem frM_n {m : KV} {x : ItemL} (hw : x.2.2.1 = false) (h0 : ¬ x.2.2.2.2 = 0) (hs : (getM m (x.2.2.2.1, x.2.2.2.2)).isSome = false) : (-2 : Int) = frM m x := by unfold frM; simp only [hw, h0, hs]; rfl
theorem frI_w {its : List ItemL} {x : ItemL} (hw : x.2.2.1 = true) : (-3 : Int) = frI its x := by unfold frI; simp [hw]
theorem frI_0 {its : List ItemL} {x : ItemL} (hw : x.2.2.1 = false) (h0 : x.2.2.2.2 = 0) : (-1 : Int) = frI its x := by unfold frI; simp [hw, h0]
theorem frI_s {its : List ItemL} {x : ItemL} (hw : x.2.2.1 = false) (h0 : ¬ x.2.2.2.2 = 0) (hs : decide (0 ≤ wrI its x.2.2.2.1 x.2.2.2.2) = true) : max (wrI its x.2.2.2.1 x.2.2.2.2) 0 = frI its x := by unfold frI; simp only [hw, h0, of_decide_eq_true hs]; rfl
theorem frI_n {its : List ItemL} {x : ItemL} (hw : x.2.2.1 = false) (h0 : ¬ x.2.2.2.2 = 0) (hs : decide (0 ≤ wrI its x.2.2.2.1 x.2.2.2.2) = false) : (-2 : Int) = frI its x := by unfold frI; simp only [hw, h0, of_decide_eq_false hs]; rfl
theorem fromR_step {its : List ItemL} {j : Nat} {x : ItemL} {v : Int} (hx : its[((j : Nat) : Int).toNat]? = some x) (hv : v = frI its x) : (its.take j).map (frI its) ++ [v] = (its.take (j + 1)).map (frI its) := by
  rw [take_at hx, List.map_append, hv]; rfl
theorem frI_range {its : List ItemL} (x : ItemL) : -3 ≤ frI its x ∧ frI its x ≤ its.length := by
  have := idxF_range (p := isW x.2.2.2.1 x.2.2.2.2) (r := its)
  unfold frI wrI
  repeat' split
  all_goals omega

/-- Of a differentiated history the last write of a value is the first one. -/
theorem last_first {its : List ItemL} (h : (chkA its).2.2 = 0) : ∀ j, j ≤ its.length → FirstM its j (lastM its j)
  | 0, _ => firstM_nil its
  | j + 1, hj => by
    have ih := last_first h j (by omega)
    have hx : its[((j : Nat) : Int).toNat]? = some its[j] := by rw [Int.toNat_natCast]; exact List.getElem?_eq_getElem (by omega)
    cases hw : (its[j]).2.2.1 with
    | false => rw [← lastM_read hx hw]; exact firstM_read ih hx hw
    | true =>
      rw [← lastM_write hx hw]
      refine firstM_put ih hx hw ?_
      rw [ih]
      have hg := (chk_good h hx hw).2
      cases hf : (its.take j).findIdx? (isW (its[j]).2.2.2.1 (its[j]).2.2.2.2) with
      | none => simp [hf]
      | some i =>
        exfalso
        have h1 := idxF_take hf
        have h2 := (List.findIdx?_eq_some_iff_getElem.1 hf).1
        rw [List.length_take] at h2
        unfold wrI at hg
        omega
theorem frM_eq {its : List ItemL} (h : (chkA its).2.2 = 0) (x : ItemL) : frM (lastM its its.length) x = frI its x := by
  have hF := last_first h its.length (Nat.le_refl _) (x.2.2.2.1, x.2.2.2.2)
  rw [List.take_length] at hF
  unfold frM frI wrI idxF
  rw [hF]
  dsimp only
  cases hf : its.findIdx? (isW x.2.2.2.1 x.2.2.2.2) with
  | none => simp
  | some i => simp
theorem from_eq {its : List ItemL} (h : (chkA its).2.2 = 0) : fromM its = fromR its := by
  unfold fromM fromR
  exact List.map_congr_left fun x _ => frM_eq h x

/-- The reads of a write. -/
def readsO (os : List Int) (t : Int) (j : Nat) : List Int := ((List.range j).filter fun i => decide (os.getD i 0 = t) && decide (0 ≤ t)).map fun i => ((i : Nat) : Int)
theorem getD_int {os : List Int} {j : Nat} {x : Int} (hx : os[((j : Nat) : Int).toNat]? = some x) : os.getD j 0 = x := by rw [Int.toNat_natCast] at hx; rw [List.getD_eq_getElem?_getD, hx]; rfl
theorem readsO_yes {os : List Int} {t : Int} {j : Nat} {x : Int} (hx : os[((j : Nat) : Int).toNat]? = some x) (h1 : x = t) (h2 : 0 ≤ t) : readsO os t j ++ [((j : Nat) : Int)] = readsO os t (j + 1) := by
  unfold readsO; rw [List.range_succ, List.filter_append, List.map_append, List.filter_cons]
  rw [if_pos (by rw [getD_int hx]; simp [h1, h2])]; rfl
theorem readsO_no {os : List Int} {t : Int} {j : Nat} {x : Int} (hx : os[((j : Nat) : Int).toNat]? = some x) (h1 : x ≠ t ∨ ¬ 0 ≤ t) : readsO os t j = readsO os t (j + 1) := by
  unfold readsO; rw [List.range_succ, List.filter_append, List.map_append, List.filter_cons]
  rw [if_neg (by rw [getD_int hx]; simp; omega)]; simp
theorem readsO_neg {os : List Int} {t : Int} (h : ¬ 0 ≤ t) : ∀ j, readsO os t j = [] := by
  intro j; unfold readsO
  rw [List.filter_eq_nil_iff.2]
  · rfl
  · intro i _; simp; omega
theorem readsO_len (os : List Int) (t : Int) (j : Nat) : (readsO os t j).length ≤ j := by
  unfold readsO; rw [List.length_map]
  have := List.length_filter_le (fun i => decide (os.getD i 0 = t) && decide (0 ≤ t)) (List.range j)
  rwa [List.length_range] at this

/-! ### the law's words: facts of a history that is looked at -/
def fOk (h : HistL) : Bool := smallH h 40 && rightH h && decide ((chkA (ofI h)).2.2 = 0)
def fLook (h : HistL) : Bool := smallH h 40 && rightH h
def fxV (h : HistL) : List ByteArray := if fLook h then ofV h else []
def fxI (h : HistL) : List ItemL := if fLook h then ofI h else []
theorem fx_no {h : HistL} (hl : fLook h = false) : fxV h = [] ∧ fxI h = [] ∧ fOk h = false := by unfold fxV fxI fOk; rw [show (smallH h 40 && rightH h) = false from hl, hl]; simp
theorem fx_yes {h : HistL} (hl : fLook h = true) : fxV h = ofV h ∧ fxI h = ofI h ∧ fOk h = decide ((chkA (ofI h)).2.2 = 0) := by unfold fxV fxI fOk; rw [show (smallH h 40 && rightH h) = true from hl, hl]; simp
theorem look_no1 {h : HistL} (h1 : smallH h 40 = false) : fLook h = false := by unfold fLook; rw [h1]; rfl
theorem look_no2 {h : HistL} (h1 : rightH h = false) : fLook h = false := by unfold fLook; rw [h1]; simp
theorem look_yes {h : HistL} (h1 : smallH h 40 = true) (h2 : rightH h = true) : fLook h = true := by unfold fLook; rw [h1, h2]; rfl
theorem fok_iff {h : HistL} : fOk h = true ↔ fLook h = true ∧ (chkA (fxI h)).2.2 = 0 := by
  cases hl : fLook h with
  | false => rw [(fx_no hl).2.2]; simp
  | true => rw [(fx_yes hl).2.2, (fx_yes hl).2.1]; simp
theorem fxI_len (h : HistL) : (fxI h).length ≤ 40 := by
  unfold fxI; split
  · rename_i hl
    unfold fLook at hl
    simp only [Bool.and_eq_true] at hl
    have h1 := (small_iff.1 hl.1).2.1
    have := ofI_len h
    omega
  · simp
theorem fx_from {h : HistL} (hk : fOk h = true) : fromM (fxI h) = fromR (fxI h) := from_eq (fok_iff.1 hk).2
end Go.Ew
