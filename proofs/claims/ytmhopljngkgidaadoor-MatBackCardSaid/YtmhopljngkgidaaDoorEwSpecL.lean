/- Plain words: histories, interned ones, differentiated ones (layers 6, 9, 10). -/
import Derived.Test.YtmhopljngkgidaaDoorEwSpecK
namespace Go.Ew
set_option linter.unusedVariables false
set_option linter.unusedSimpArgs false

abbrev OpL := Bool × ByteArray × Int
abbrev ItemL := Int × Int × Bool × Int × Int
abbrev HistL := List (List OpL)

/-! ### names -/
def okC (c : UInt8) : Bool := !(decide (((c.toNat : Nat) : Int) < 97)) && !(decide ((122 : Int) < ((c.toNat : Nat) : Int)))
def nameS (s : ByteArray) : Bool := s.data.toList.all okC && decide (1 ≤ s.size) && decide (s.size ≤ 8)
theorem byte_at {s : ByteArray} {j : Nat} {c : UInt8} (h : s[((j : Nat) : Int).toNat]? = some c) : s.data.toList[((j : Nat) : Int).toNat]? = some c := by
  rw [Int.toNat_natCast] at h ⊢
  rw [Array.getElem?_toList]
  have hj : j < s.size := by
    refine Classical.byContradiction fun hn => ?_
    rw [getElem?_neg s j hn] at h; cases h
  rw [getElem?_pos s j hj] at h
  rw [Array.getElem?_eq_getElem hj]
  exact h
theorem name_no {s : ByteArray} {j : Nat} {c : UInt8} (h : s[((j : Nat) : Int).toNat]? = some c) (h1 : okC c = false) : false = nameS s := by
  unfold nameS; rw [all_no (byte_at h) h1]; rfl
theorem name_end {s : ByteArray} {j : Nat} (h : (s.data.toList.take j).all okC = true) (hj : s.size ≤ j) : s.data.toList.all okC = true := by
  rwa [List.take_of_length_le (by rw [Array.length_toList]; exact hj)] at h
theorem okC_lo {c : UInt8} (h : decide (((c.toNat : Nat) : Int) < 97) = true) : okC c = false := by unfold okC; rw [h]; rfl
theorem okC_hi {c : UInt8} (h : decide ((122 : Int) < ((c.toNat : Nat) : Int)) = true) : okC c = false := by unfold okC; rw [h]; simp
theorem okC_yes {c : UInt8} (h : decide (((c.toNat : Nat) : Int) < 97) = false) (h1 : decide ((122 : Int) < ((c.toNat : Nat) : Int)) = false) : okC c = true := by unfold okC; rw [h, h1]; rfl

/-! ### flat -/
theorem flat_step {α : Type} {h : List (List α)} {j : Nat} {x : List α} (hx : h[((j : Nat) : Int).toNat]? = some x) : (h.take (j + 1)).flatten = (h.take j).flatten ++ x := by
  rw [take_at hx]; simp
theorem flat_len {α : Type} {h : List (List α)} {j : Nat} {x : List α} (hx : h[((j : Nat) : Int).toNat]? = some x) : ((h.take j).flatten).length + x.length ≤ h.flatten.length := by
  have h1 : h.flatten = (h.take (j + 1)).flatten ++ (h.drop (j + 1)).flatten := by rw [← List.flatten_append, List.take_append_drop]
  rw [h1, flat_step hx]; simp
def opName (o : OpL) : Bool := nameS o.2.1
def rightH (h : HistL) : Bool := h.flatten.all opName && decide (h.flatten.length ≤ 4096)
theorem right_no {h : HistL} {i : Nat} {x : OpL} (hx : h.flatten[i]? = some x) (h1 : nameS x.2.1 = false) : false = rightH h := by
  unfold rightH; rw [all_no hx h1]; rfl
theorem right_end {h : HistL} {j : Nat} (hs : (h.flatten.take j).all opName = true) (hj : h.flatten.length ≤ j) : decide ((h.flatten.length : Int) ≤ 4096) = rightH h := by
  unfold rightH; rw [take_end hj] at hs; rw [hs, Bool.true_and, decide_eq_decide]; omega
def opShort (o : OpL) : Bool := decide (o.2.1.size ≤ 20)
def smallH (h : HistL) (m : Int) : Bool := decide ((h.length : Int) ≤ m) && decide ((h.flatten.length : Int) ≤ m) && h.flatten.all opShort
theorem small_iff {h : HistL} {m : Int} : smallH h m = true ↔ (h.length : Int) ≤ m ∧ (h.flatten.length : Int) ≤ m ∧ ∀ o ∈ h.flatten, o.2.1.size ≤ 20 := by
  unfold smallH
  rw [Bool.and_eq_true, Bool.and_eq_true, decide_eq_true_eq, decide_eq_true_eq, List.all_eq_true, and_assoc]
  unfold opShort
  simp only [decide_eq_true_eq]
theorem small_no1 {h : HistL} {m : Int} (hm : m < (h.length : Int)) : false = smallH h m := by unfold smallH; rw [decide_eq_false (by omega)]; rfl
theorem small_no2 {h : HistL} {m : Int} (hm : m < (h.flatten.length : Int)) : false = smallH h m := by unfold smallH; rw [show decide ((h.flatten.length : Int) ≤ m) = false from decide_eq_false (by omega)]; simp
theorem small_no3 {h : HistL} {m : Int} {i : Nat} {x : OpL} (hx : h.flatten[i]? = some x) (h1 : 20 < (x.2.1.size : Int)) : false = smallH h m := by
  unfold smallH; rw [all_no hx (show opShort x = false from decide_eq_false (by omega))]; simp
theorem small_end {h : HistL} {m : Int} {j : Nat} (h1 : ¬ m < (h.length : Int)) (h2 : ¬ m < (h.flatten.length : Int)) (hs : (h.flatten.take j).all opShort = true) (hj : h.flatten.length ≤ j) : true = smallH h m := by
  unfold smallH; rw [take_end hj] at hs; rw [hs, decide_eq_true (by omega), decide_eq_true (by omega)]; rfl

/-! ### interned -/
def isS (s : ByteArray) (t : ByteArray) : Bool := decide (t = s)
def findS (l : List ByteArray) (s : ByteArray) : Int := idxF (isS s) l
def addV (vs : List ByteArray) (s : ByteArray) : List ByteArray := if findS vs s < 0 then vs ++ [s] else vs
def numV (vs : List ByteArray) (s : ByteArray) : Int := if findS vs s < 0 then (vs.length : Int) else findS vs s
abbrev StO := List ByteArray × List ItemL
def stepO (i : Nat) (st : StO) (x : OpL × Nat) : StO := (addV st.1 x.1.2.1, st.2 ++ [(((i : Nat) : Int), ((x.2 : Nat) : Int), x.1.1, numV st.1 x.1.2.1, x.1.2.2)])
def toO (i : Nat) (st : StO) (ops : List OpL) (k : Nat) : StO := ((ops.take k).zipIdx).foldl (stepO i) st
def sesO (i : Nat) (st : StO) (ops : List OpL) : StO := toO i st ops ops.length
def allO (h : HistL) (j : Nat) : StO := ((h.take j).zipIdx).foldl (fun st x => sesO x.2 st x.1) ([], [])
theorem zip_step {α : Type} {l : List α} {k : Nat} {x : α} (hx : l[((k : Nat) : Int).toNat]? = some x) : (l.take (k + 1)).zipIdx = (l.take k).zipIdx ++ [(x, k)] := by
  have hk : k < l.length := by rw [Int.toNat_natCast] at hx; exact (List.getElem?_eq_some_iff.1 hx).1
  rw [take_at hx, List.zipIdx_append]
  simp; omega
theorem toO_zero (i : Nat) (st : StO) (ops : List OpL) : toO i st ops 0 = st := rfl
theorem toO_step {i k : Nat} {st : StO} {ops : List OpL} {x : OpL} (hx : ops[((k : Nat) : Int).toNat]? = some x) : toO i st ops (k + 1) = stepO i (toO i st ops k) (x, k) := by
  unfold toO; rw [zip_step hx, List.foldl_append]; rfl
theorem allO_step {h : HistL} {j : Nat} {x : List OpL} (hx : h[((j : Nat) : Int).toNat]? = some x) : allO h (j + 1) = sesO j (allO h j) x := by
  unfold allO; rw [zip_step hx, List.foldl_append]; rfl
theorem getD_row {α : Type} {h : List (List α)} {j : Nat} {x : List α} (hx : h[((j : Nat) : Int).toNat]? = some x) : h.getD j [] = x := by
  rw [Int.toNat_natCast] at hx; rw [List.getD_eq_getElem?_getD, hx]; rfl
theorem allO_end {h : HistL} {j k : Nat} (hj : j < h.length) (hk : (h.getD j []).length ≤ k) : toO j (allO h j) (h.getD j []) k = allO h (j + 1) := by
  have hx : h[((j : Nat) : Int).toNat]? = some h[j] := by rw [Int.toNat_natCast]; exact List.getElem?_eq_getElem hj
  rw [allO_step hx, getD_row hx] at *
  unfold sesO toO
  rw [List.take_of_length_le hk, List.take_length]
theorem toO_len (i : Nat) (st : StO) (ops : List OpL) : ∀ k, k ≤ ops.length → (toO i st ops k).2.length = st.2.length + k ∧ (toO i st ops k).1.length ≤ st.1.length + k
  | 0, _ => by rw [toO_zero]; omega
  | k + 1, h => by
    have ih := toO_len i st ops k (by omega)
    have hx : ops[((k : Nat) : Int).toNat]? = some ops[k] := by rw [Int.toNat_natCast]; exact List.getElem?_eq_getElem (by omega)
    rw [toO_step hx]
    have e1 : (stepO i (toO i st ops k) (ops[k], k)).2.length = (toO i st ops k).2.length + 1 := by unfold stepO; simp
    have e2 : (stepO i (toO i st ops k) (ops[k], k)).1.length ≤ (toO i st ops k).1.length + 1 := by unfold stepO addV; simp only; split <;> simp
    omega
theorem allO_len (h : HistL) : ∀ j, j ≤ h.length → (allO h j).2.length = ((h.take j).flatten).length ∧ (allO h j).1.length ≤ ((h.take j).flatten).length
  | 0, _ => by simp [allO]
  | j + 1, hj => by
    have ih := allO_len h j (by omega)
    have hx : h[((j : Nat) : Int).toNat]? = some h[j] := by rw [Int.toNat_natCast]; exact List.getElem?_eq_getElem (by omega)
    rw [allO_step hx, flat_step hx, List.length_append]
    have := toO_len j (allO h j) h[j] h[j].length (Nat.le_refl _)
    unfold sesO
    omega
theorem of_room {h : HistL} {j k : Nat} {x : List OpL} (hx : h[((j : Nat) : Int).toNat]? = some x) (hk : k < x.length) :
    (toO j (allO h j) x k).2.length + 1 ≤ h.flatten.length ∧ (toO j (allO h j) x k).1.length + 1 ≤ h.flatten.length := by
  have hj : j < h.length := by rw [Int.toNat_natCast] at hx; exact (List.getElem?_eq_some_iff.1 hx).1
  have h1 := allO_len h j (by omega)
  have h2 := toO_len j (allO h j) x k (by omega)
  have h3 := flat_len hx
  omega
def factV (h : HistL) : List ByteArray := (allO h h.length).1
def factI (h : HistL) : List ItemL := (allO h h.length).2
theorem factI_len (h : HistL) : (factI h).length = h.flatten.length := by
  have := (allO_len h h.length (Nat.le_refl _)).1
  rwa [List.take_length] at this
def ofV (h : HistL) : List ByteArray := if rightH h then factV h else []
def ofI (h : HistL) : List ItemL := if rightH h then factI h else []
def ofE (h : HistL) : Int := if rightH h then 0 else 1
theorem of_ok {h : HistL} (hr : rightH h = true) : ofV h = factV h ∧ ofI h = factI h ∧ ofE h = 0 := by unfold ofV ofI ofE; simp [hr]
theorem of_bad {h : HistL} (hr : rightH h = false) : ofV h = [] ∧ ofI h = [] ∧ ofE h = 1 := by unfold ofV ofI ofE; simp [hr]
theorem ofI_len (h : HistL) : (ofI h).length ≤ h.flatten.length := by
  unfold ofI; split
  · rw [factI_len]; exact Nat.le_refl _
  · simp
theorem step_new {i k : Nat} {st : StO} {ops : List OpL} {x : OpL} (hx : ops[((k : Nat) : Int).toNat]? = some x) (hf : findS (toO i st ops k).1 x.2.1 < 0) :
    (toO i st ops k).1 ++ [x.2.1] = (toO i st ops (k + 1)).1 ∧ (toO i st ops k).2 ++ [(((i : Nat) : Int), ((k : Nat) : Int), x.1, ((toO i st ops k).1.length : Int), x.2.2)] = (toO i st ops (k + 1)).2 := by
  rw [toO_step hx]; unfold stepO addV numV; rw [if_pos hf, if_pos hf]; exact ⟨rfl, rfl⟩
theorem step_old {i k : Nat} {st : StO} {ops : List OpL} {x : OpL} (hx : ops[((k : Nat) : Int).toNat]? = some x) (hf : ¬ findS (toO i st ops k).1 x.2.1 < 0) :
    (toO i st ops k).1 = (toO i st ops (k + 1)).1 ∧ (toO i st ops k).2 ++ [(((i : Nat) : Int), ((k : Nat) : Int), x.1, findS (toO i st ops k).1 x.2.1, x.2.2)] = (toO i st ops (k + 1)).2 := by
  rw [toO_step hx]; unfold stepO addV numV; rw [if_neg hf, if_neg hf]; exact ⟨rfl, rfl⟩

/-! ### the first write of a value; differentiated ones -/
def isW (v val : Int) (x : ItemL) : Bool := x.2.2.1 && decide (x.2.2.2.1 = v) && decide (x.2.2.2.2 = val)
def wrI (its : List ItemL) (v val : Int) : Int := idxF (isW v val) its
def bad1 (its : List ItemL) (j : Nat) (x : ItemL) : Bool := x.2.2.1 && (decide (x.2.2.2.2 = 0) || decide (max (wrI its x.2.2.2.1 x.2.2.2.2) 0 < ((j : Nat) : Int)))
def badI (its : List ItemL) (j : Nat) : Bool := (its[j]?).any (bad1 its j)
def fbI (its : List ItemL) : Option Nat := (List.range its.length).find? (badI its)
def chkA (its : List ItemL) : Int × Int × Int := match fbI its with
  | none => (0, 0, 0)
  | some j => match its[j]? with
    | none => (0, 0, 0)
    | some x => if x.2.2.2.2 = 0 then (((j : Nat) : Int), ((j : Nat) : Int), 5) else (max (wrI its x.2.2.2.1 x.2.2.2.2) 0, ((j : Nat) : Int), 4)
theorem fb_none {its : List ItemL} {j : Nat} (h : ∀ k, k < j → badI its k = false) (hj : its.length ≤ j) : fbI its = none := by
  unfold fbI; rw [List.find?_eq_none]
  intro k hk
  rw [List.mem_range] at hk
  rw [h k (by omega)]; simp
theorem fb_some {its : List ItemL} {j : Nat} (h : ∀ k, k < j → badI its k = false) (hj : j < its.length) (hb : badI its j = true) : fbI its = some j := by
  unfold fbI
  rw [List.find?_eq_some_iff_append]
  refine ⟨hb, List.range j, (List.range (its.length - j - 1)).map (fun i => j + 1 + i), ?_, fun a ha => by rw [h a (List.mem_range.1 ha)]; rfl⟩
  have : its.length = j + (1 + (its.length - j - 1)) := by omega
  rw [this, range_add_map, range_add_map]
  simp [Nat.add_assoc]
theorem bad_at {its : List ItemL} {j : Nat} {x : ItemL} (hx : its[((j : Nat) : Int).toNat]? = some x) : badI its j = bad1 its j x := by
  rw [Int.toNat_natCast] at hx; unfold badI; rw [hx]; rfl
theorem bad_next {its : List ItemL} {j : Nat} {x : ItemL} (h : ∀ k, k < j → badI its k = false) (hx : its[((j : Nat) : Int).toNat]? = some x) (hb : bad1 its j x = false) : ∀ k, k < j + 1 → badI its k = false := by
  intro k hk
  rcases Nat.lt_succ_iff_lt_or_eq.1 hk with h1 | rfl
  · exact h k h1
  · rw [bad_at hx]; exact hb
theorem chk_end {its : List ItemL} {j : Nat} (h : ∀ k, k < j → badI its k = false) (hj : its.length ≤ j) : chkA its = (0, 0, 0) := by
  unfold chkA; rw [fb_none h hj]
theorem chk_zero {its : List ItemL} {j : Nat} {x : ItemL} (h : ∀ k, k < j → badI its k = false) (hx : its[((j : Nat) : Int).toNat]? = some x) (hw : x.2.2.1 = true) (h0 : x.2.2.2.2 = 0) : chkA its = (((j : Nat) : Int), ((j : Nat) : Int), 5) := by
  have hj : j < its.length := by rw [Int.toNat_natCast] at hx; exact (List.getElem?_eq_some_iff.1 hx).1
  have hb : badI its j = true := by rw [bad_at hx]; unfold bad1; simp [hw, h0]
  unfold chkA; rw [fb_some h hj hb]
  rw [Int.toNat_natCast] at hx
  simp only [hx, h0, if_true]
theorem chk_twice {its : List ItemL} {j : Nat} {x : ItemL} (h : ∀ k, k < j → badI its k = false) (hx : its[((j : Nat) : Int).toNat]? = some x) (hw : x.2.2.1 = true) (h0 : ¬ x.2.2.2.2 = 0)
    (h1 : max (wrI its x.2.2.2.1 x.2.2.2.2) 0 < ((j : Nat) : Int)) : chkA its = (max (wrI its x.2.2.2.1 x.2.2.2.2) 0, ((j : Nat) : Int), 4) := by
  have hj : j < its.length := by rw [Int.toNat_natCast] at hx; exact (List.getElem?_eq_some_iff.1 hx).1
  have hb : badI its j = true := by rw [bad_at hx]; unfold bad1; simp [hw, h1]
  unfold chkA; rw [fb_some h hj hb]
  rw [Int.toNat_natCast] at hx
  simp only [hx, h0, if_false]
theorem bad_read {its : List ItemL} {j : Nat} {x : ItemL} (hw : x.2.2.1 = false) : bad1 its j x = false := by unfold bad1; rw [hw]; rfl
theorem bad_good {its : List ItemL} {j : Nat} {x : ItemL} (h0 : ¬ x.2.2.2.2 = 0) (h1 : ¬ max (wrI its x.2.2.2.1 x.2.2.2.2) 0 < ((j : Nat) : Int)) : bad1 its j x = false := by
  unfold bad1; rw [decide_eq_false h0, decide_eq_false h1]; simp

theorem wr_hit {its : List ItemL} {j : Nat} {x : ItemL} {v val : Int} (hx : its[((j : Nat) : Int).toNat]? = some x) (h1 : x.2.2.1 = true) (h2 : decide (x.2.2.2.1 = v) = true) (h3 : decide (x.2.2.2.2 = val) = true) (hs : (its.take j).any (isW v val) = false) : ((j : Nat) : Int) = wrI its v val :=
  idxF_hit hx hs (by unfold isW; rw [h1, h2, h3]; rfl)
theorem wr_miss {its : List ItemL} {j : Nat} {v val : Int} (hs : (its.take j).any (isW v val) = false) (h : its.length ≤ j) : (-1 : Int) = wrI its v val := idxF_miss hs h
theorem isW_no1 {x : ItemL} {v val : Int} (h : x.2.2.1 = false) : isW v val x = false := by unfold isW; rw [h]; rfl
theorem isW_no2 {x : ItemL} {v val : Int} (h : decide (x.2.2.2.1 = v) = false) : isW v val x = false := by unfold isW; rw [h]; simp
theorem isW_no3 {x : ItemL} {v val : Int} (h : decide (x.2.2.2.2 = val) = false) : isW v val x = false := by unfold isW; rw [h]; simp
/-- What a map of first writes says of the first j. -/
def FirstM (its : List ItemL) (j : Nat) (m : KV) : Prop := ∀ p : Int × Int, getM m p = ((its.take j).findIdx? (isW p.1 p.2)).map fun i => ((i : Nat) : Int)
theorem firstM_nil (its : List ItemL) : FirstM its 0 [] := by intro p; simp [getM]
theorem idxF_take {its : List ItemL} {p : ItemL → Bool} {j i : Nat} (h : (its.take j).findIdx? p = some i) : idxF p its = ((i : Nat) : Int) := by
  unfold idxF
  have : its.findIdx? p = some i := by
    conv => lhs; rw [← List.take_append_drop j its]
    rw [List.findIdx?_append, h]; rfl
  rw [this]
theorem idxF_here {its : List ItemL} {p : ItemL → Bool} {j : Nat} {x : ItemL} (hx : its[((j : Nat) : Int).toNat]? = some x) (hp : p x = true) (h : (its.take j).findIdx? p = none) : idxF p its = ((j : Nat) : Int) := by
  refine (idxF_hit hx ?_ hp).symm
  rw [List.findIdx?_eq_none_iff] at h
  rw [List.any_eq_false]
  intro y hy; rw [h y hy]; simp
theorem find_next {its : List ItemL} {p : ItemL → Bool} {j : Nat} {x : ItemL} (hx : its[((j : Nat) : Int).toNat]? = some x) :
    (its.take (j + 1)).findIdx? p = ((its.take j).findIdx? p).or (if p x then some j else none) := by
  have hj : j < its.length := by rw [Int.toNat_natCast] at hx; exact (List.getElem?_eq_some_iff.1 hx).1
  rw [take_at hx, List.findIdx?_append, List.length_take, Nat.min_eq_left (by omega)]
  congr 1
  cases hp : p x <;> simp [List.findIdx?_cons, hp]
theorem firstM_read {its : List ItemL} {j : Nat} {m : KV} {x : ItemL} (h : FirstM its j m) (hx : its[((j : Nat) : Int).toNat]? = some x) (hw : x.2.2.1 = false) : FirstM its (j + 1) m := by
  intro p
  rw [h p, find_next hx, show isW p.1 p.2 x = false from by unfold isW; rw [hw]; rfl]
  simp
theorem firstM_put {its : List ItemL} {j : Nat} {m : KV} {x : ItemL} (h : FirstM its j m) (hx : its[((j : Nat) : Int).toNat]? = some x) (hw : x.2.2.1 = true) (hn : getM m (x.2.2.2.1, x.2.2.2.2) = none) : FirstM its (j + 1) (putM m (x.2.2.2.1, x.2.2.2.2) ((j : Nat) : Int)) := by
  intro p
  rw [getM_put, find_next hx]
  by_cases e : p = (x.2.2.2.1, x.2.2.2.2)
  · subst e
    rw [h] at hn
    have hn' : (its.take j).findIdx? (isW x.2.2.2.1 x.2.2.2.2) = none := by simpa using hn
    rw [if_pos rfl]
    simp only [hn', show isW x.2.2.2.1 x.2.2.2.2 x = true from by unfold isW; simp [hw]]
    simp
  · rw [if_neg e, h p, show isW p.1 p.2 x = false from by
      unfold isW; rw [hw]
      simp only [Bool.true_and, Bool.and_eq_false_iff, decide_eq_false_iff_not]
      by_cases e1 : x.2.2.2.1 = p.1
      · exact .inr fun e2 => e (by rw [Prod.ext_iff]; exact ⟨e1.symm, e2.symm⟩)
      · exact .inl e1]
    simp
/-- A value that was there before. -/
theorem seen_yes {its : List ItemL} {j : Nat} {m : KV} {x : ItemL} (h : FirstM its j m) (hx : its[((j : Nat) : Int).toNat]? = some x) (hs : (getM m (x.2.2.2.1, x.2.2.2.2)).isSome = true) :
    (getM m (x.2.2.2.1, x.2.2.2.2)).getD 0 = max (wrI its x.2.2.2.1 x.2.2.2.2) 0 ∧ max (wrI its x.2.2.2.1 x.2.2.2.2) 0 < ((j : Nat) : Int) := by
  rw [h] at hs ⊢
  cases hf : (its.take j).findIdx? (isW x.2.2.2.1 x.2.2.2.2) with
  | none => simp [hf] at hs
  | some i =>
    have hi : i < j := by
      have := (List.findIdx?_eq_some_iff_getElem.1 hf).1
      rw [List.length_take] at this; omega
    have := idxF_take hf
    unfold wrI
    rw [this]
    simp only [hf, Option.map_some, Option.getD_some]
    omega
theorem seen_no {its : List ItemL} {j : Nat} {m : KV} {x : ItemL} (h : FirstM its j m) (hx : its[((j : Nat) : Int).toNat]? = some x) (hw : x.2.2.1 = true) (hs : (getM m (x.2.2.2.1, x.2.2.2.2)).isSome = false) :
    getM m (x.2.2.2.1, x.2.2.2.2) = none ∧ wrI its x.2.2.2.1 x.2.2.2.2 = ((j : Nat) : Int) := by
  have h0 : getM m (x.2.2.2.1, x.2.2.2.2) = none := by simpa using hs
  refine ⟨h0, ?_⟩
  rw [h] at h0
  have h1 : (its.take j).findIdx? (isW x.2.2.2.1 x.2.2.2.2) = none := by simpa using h0
  exact idxF_here hx (by unfold isW; simp [hw]) h1
end Go.Ew
