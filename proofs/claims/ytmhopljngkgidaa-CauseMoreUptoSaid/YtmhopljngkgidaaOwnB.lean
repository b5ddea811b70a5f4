/- Plain words: histories, interned ones, differentiated ones (layers 6, 9, 10). -/
import Derived.Test.YtmhopljngkgidaaOwnA
import Derived.Laws.BytesArg
import Derived.JoinedCond
namespace Go.Ew
set_option linter.unusedVariables false
set_option linter.unusedSimpArgs false
abbrev OpL := Bool × ByteArray × Int
abbrev ItemL := Int × Int × Bool × Int × Int
abbrev HistL := List (List OpL)
def okC (c : UInt8) : Bool := !(decide (((c.toNat : Nat) : Int) < 97)) && !(decide ((122 : Int) < ((c.toNat : Nat) : Int)))
def nameS (s : ByteArray) : Bool := s.data.toList.all okC && decide (1 ≤ s.size) && decide (s.size ≤ 8)
theorem byte_at {s : ByteArray} {j : Nat} {c : UInt8} (h : s[((j : Nat) : Int).toNat]? = some c) : s.data.toList[((j : Nat) : Int).toNat]? = some c := by
  rw [Int.toNat_natCast] at h ⊢
  rw [Array.getElem?_toList]
  have hj : j < s.size := by
    refine Classical.byContradiction fun hn => ?_
    rw [getElem?_neg s j hn] at h; cases h
  rw [getElem?_pos s j hj] at h
  rw [Array.getElem?_eq_getElem hj]
  exact h
theorem name_no {s : ByteArray} {j : Nat} {c : UInt8} (h : s[((j : Nat) : Int).toNat]? = some c) (h1 : okC c = false) : false = nameS s := by
  unfold nameS; rw [all_no (byte_at h) h1]; rfl
theorem name_end {s : ByteArray} {j : Nat} (h : (s.data.toList.take j).all okC = true) (hj : s.size ≤ j) : s.data.toList.all okC = true := by
  rwa [List.take_of_length_le (by rw [Array.length_toList]; exact hj)] at h
theorem okC_lo {c : UInt8} (h : decide (((c.toNat : Nat) : Int) < 97) = true) : okC c = false := by unfold okC; rw [h]; rfl
theorem okC_hi {c : UInt8} (h : decide ((122 : Int) < ((c.toNat : Nat) : Int)) = true) : okC c = false := by unfold okC; rw [h]; simp
theorem okC_yes {c : UInt8} (h : decide (((c.toNat : Nat) : Int) < 97) = false) (h1 : decide ((122 : Int) < ((c.toNat : Nat) : Int)) = false) : okC c = true := by unfold okC; rw [h, h1]; rfl
theorem flat_step {α : Type} {h : List (List α)} {j : Nat} {x : List α} (hx : h[((j : Nat) : Int).toNat]? = some x) : (h.take (j + 1)).flatten = (h.take j).flatten ++ x := by
  rw [take_at hx]; simp
theorem flat_len {α : Type} {h : List (List α)} {j : Nat} {x : List α} (hx : h[((j : Nat) : Int).toNat]? = some x) : ((h.take j).flatten).length + x.length ≤ h.flatten.length := by
  have h1 : h.flatten = (h.take (j + 1)).flatten ++ (h.drop (j + 1)).flatten := by rw [← List.flatten_append, List.take_append_drop]
  rw [h1, flat_step hx]; simp
def opName (o : OpL) : Bool := nameS o.2.1
def rightH (h : HistL) : Bool := h.flatten.all opName && decide (h.flatten.length ≤ 4096)
theorem right_no {h : HistL} {i : Nat} {x : OpL} (hx : h.flatten[i]? = some x) (h1 : nameS x.2.1 = false) : false = rightH h := by
  unfold rightH; rw [all_no hx h1]; rfl
theorem right_end {h : HistL} {j : Nat} (hs : (h.flatten.take j).all opName = true) (hj : h.flatten.length ≤ j) : decide ((h.flatten.length : Int) ≤ 4096) = rightH h := by
  unfold rightH; rw [take_end hj] at hs; rw [hs, Bool.true_and, decide_eq_decide]; omega
def opShort (o : OpL) : Bool := decide (o.2.1.size ≤ 20)
def smallH (h : HistL) (m : Int) : Bool := decide ((h.length : Int) ≤ m) && decide ((h.flatten.length : Int) ≤ m) && h.flatten.all opShort
theorem small_iff {h : HistL} {m : Int} : smallH h m = true ↔ (h.length : Int) ≤ m ∧ (h.flatten.length : Int) ≤ m ∧ ∀ o ∈ h.flatten, o.2.1.size ≤ 20 := by
  unfold smallH
  rw [Bool.and_eq_true, Bool.and_eq_true, decide_eq_true_eq, decide_eq_true_eq, List.all_eq_true, and_assoc]
  unfold opShort
  simp only [decide_eq_true_eq]
theorem small_no1 {h : HistL} {m : Int} (hm : m < (h.length : Int)) : false = smallH h m := by unfold smallH; rw [decide_eq_false (by omega)]; rfl
theorem small_no2 {h : HistL} {m : Int} (hm : m < (h.flatten.length : Int)) : false = smallH h m := by unfold smallH; rw [show decide ((h.flatten.length : Int) ≤ m) = false from decide_eq_false (by omega)]; simp
theorem small_no3 {h : HistL} {m : Int} {i : Nat} {x : OpL} (hx : h.flatten[i]? = some x) (h1 : 20 < (x.2.1.size : Int)) : false = smallH h m := by
  unfold smallH; rw [all_no hx (show opShort x = false from decide_eq_false (by omega))]; simp
theorem small_end {h : HistL} {m : Int} {j : Nat} (h1 : ¬ m < (h.length : Int)) (h2 : ¬ m < (h.flatten.length : Int)) (hs : (h.flatten.take j).all opShort = true) (hj : h.flatten.length ≤ j) : true = smallH h m := by
  unfold smallH; rw [take_end hj] at hs; rw [hs, decide_eq_true (by omega), decide_eq_true (by omega)]; rfl
def isS (s : ByteArray) (t : ByteArray) : Bool := decide (t = s)
def findS (l : List ByteArray) (s : ByteArray) : Int := idxF (isS s) l
def addV (vs : List ByteArray) (s : ByteArray) : List ByteArray := if findS vs s < 0 then vs ++ [s] else vs
def numV (vs : List ByteArray) (s : ByteArray) : Int := if findS vs s < 0 then (vs.length : Int) else findS vs s
abbrev StO := List ByteArray × List ItemL
def stepO (i : Nat) (st : StO) (x : OpL × Nat) : StO := (addV st.1 x.1.2.1, st.2 ++ [(((i : Nat) : Int), ((x.2 : Nat) : Int), x.1.1, numV st.1 x.1.2.1, x.1.2.2)])
def toO (i : Nat) (st : StO) (ops : List OpL) (k : Nat) : StO := ((ops.take k).zipIdx).foldl (stepO i) st
def sesO (i : Nat) (st : StO) (ops : List OpL) : StO := toO i st ops ops.length
def allO (h : HistL) (j : Nat) : StO := ((h.take j).zipIdx).foldl (fun st x => sesO x.2 st x.1) ([], [])
theorem zip_step {α : Type} {l : List α} {k : Nat} {x : α} (hx : l[((k : Nat) : Int).toNat]? = some x) : (l.take (k + 1)).zipIdx = (l.take k).zipIdx ++ [(x, k)] := by
  have hk : k < l.length := by rw [Int.toNat_natCast] at hx; exact (List.getElem?_eq_some_iff.1 hx).1
  rw [take_at hx, List.zipIdx_append]
  simp; omega
theorem toO_zero (i : Nat) (st : StO) (ops : List OpL) : toO i st ops 0 = st := rfl
theorem toO_step {i k : Nat} {st : StO} {ops : List OpL} {x : OpL} (hx : ops[((k : Nat) : Int).toNat]? = some x) : toO i st ops (k + 1) = stepO i (toO i st ops k) (x, k) := by
  unfold toO; rw [zip_step hx, List.foldl_append]; rfl
theorem allO_step {h : HistL} {j : Nat} {x : List OpL} (hx : h[((j : Nat) : Int).toNat]? = some x) : allO h (j + 1) = sesO j (allO h j) x := by
  unfold allO; rw [zip_step hx, List.foldl_append]; rfl
theorem getD_row {α : Type} {h : List (List α)} {j : Nat} {x : List α} (hx : h[((j : Nat) : Int).toNat]? = some x) : h.getD j [] = x := by
  rw [Int.toNat_natCast] at hx; rw [List.getD_eq_getElem?_getD, hx]; rfl
theorem allO_end {h : HistL} {j k : Nat} (hj : j < h.length) (hk : (h.getD j []).length ≤ k) : toO j (allO h j) (h.getD j []) k = allO h (j + 1) := by
  have hx : h[((j : Nat) : Int).toNat]? = some h[j] := by rw [Int.toNat_natCast]; exact List.getElem?_eq_getElem hj
  rw [allO_step hx, getD_row hx] at *
  unfold sesO toO
  rw [List.take_of_length_le hk, List.take_length]
theorem toO_len (i : Nat) (st : StO) (ops : List OpL) : ∀ k, k ≤ ops.length → (toO i st ops k).2.length = st.2.length + k ∧ (toO i st ops k).1.length ≤ st.1.length + k
  | 0, _ => by rw [toO_zero]; omega
  | k + 1, h => by
    have ih := toO_len i st ops k (by omega)
    have hx : ops[((k : Nat) : Int).toNat]? = some ops[k] := by rw [Int.toNat_natCast]; exact List.getElem?_eq_getElem (by omega)
    rw [toO_step hx]
    have e1 : (stepO i (toO i st ops k) (ops[k], k)).2.length = (toO i st ops k).2.length + 1 := by unfold stepO; simp
    have e2 : (stepO i (toO i st ops k) (ops[k], k)).1.length ≤ (toO i st ops k).1.length + 1 := by unfold stepO addV; simp only; split <;> simp
    omega
theorem allO_len (h : HistL) : ∀ j, j ≤ h.length → (allO h j).2.length = ((h.take j).flatten).length ∧ (allO h j).1.length ≤ ((h.take j).flatten).length
  | 0, _ => by simp [allO]
  | j + 1, hj => by
    have ih := allO_len h j (by omega)
    have hx : h[((j : Nat) : Int).toNat]? = some h[j] := by rw [Int.toNat_natCast]; exact List.getElem?_eq_getElem (by omega)
    rw [allO_step hx, flat_step hx, List.length_append]
    have := toO_len j (allO h j) h[j] h[j].length (Nat.le_refl _)
    unfold sesO
    omega
theorem of_room {h : HistL} {j k : Nat} {x : List OpL} (hx : h[((j : Nat) : Int).toNat]? = some x) (hk : k < x.length) :
    (toO j (allO h j) x k).2.length + 1 ≤ h.flatten.length ∧ (toO j (allO h j) x k).1.length + 1 ≤ h.flatten.length := by
  have hj : j < h.length := by rw [Int.toNat_natCast] at hx; exact (List.getElem?_eq_some_iff.1 hx).1
  have h1 := allO_len h j (by omega)
  have h2 := toO_len j (allO h j) x k (by omega)
  have h3 := flat_len hx
  omega
def factV (h : HistL) : List ByteArray := (allO h h.length).1
def factI (h : HistL) : List ItemL := (allO h h.length).2
theorem factI_len (h : HistL) : (factI h).length = h.flatten.length := by
  have := (allO_len h h.length (Nat.le_refl _)).1
  rwa [List.take_length] at this
def ofV (h : HistL) : List ByteArray := if rightH h then factV h else []
def ofI (h : HistL) : List ItemL := if rightH h then factI h else []
def ofE (h : HistL) : Int := if rightH h then 0 else 1
theorem of_ok {h : HistL} (hr : rightH h = true) : ofV h = factV h ∧ ofI h = factI h ∧ ofE h = 0 := by unfold ofV ofI ofE; simp [hr]
theorem of_bad {h : HistL} (hr : rightH h = false) : ofV h = [] ∧ ofI h = [] ∧ ofE h = 1 := by unfold ofV ofI ofE; simp [hr]
theorem ofI_len (h : HistL) : (ofI h).length ≤ h.flatten.length := by
  unfold ofI; split
  · rw [factI_len]; exact Nat.le_refl _
  · simp
theorem step_new {i k : Nat} {st : StO} {ops : List OpL} {x : OpL} (hx : ops[((k : Nat) : Int).toNat]? = some x) (hf : findS (toO i st ops k).1 x.2.1 < 0) :
    (toO i st ops k).1 ++ [x.2.1] = (toO i st ops (k + 1)).1 ∧ (toO i st ops k).2 ++ [(((i : Nat) : Int), ((k : Nat) : Int), x.1, ((toO i st ops k).1.length : Int), x.2.2)] = (toO i st ops (k + 1)).2 := by
  rw [toO_step hx]; unfold stepO addV numV; rw [if_pos hf, if_pos hf]; exact ⟨rfl, rfl⟩
theorem step_old {i k : Nat} {st : StO} {ops : List OpL} {x : OpL} (hx : ops[((k : Nat) : Int).toNat]? = some x) (hf : ¬ findS (toO i st ops k).1 x.2.1 < 0) :
    (toO i st ops k).1 = (toO i st ops (k + 1)).1 ∧ (toO i st ops k).2 ++ [(((i : Nat) : Int), ((k : Nat) : Int), x.1, findS (toO i st ops k).1 x.2.1, x.2.2)] = (toO i st ops (k + 1)).2 := by
  rw [toO_step hx]; unfold stepO addV numV; rw [if_neg hf, if_neg hf]; exact ⟨rfl, rfl⟩
def isW (v val : Int) (x : ItemL) : Bool := x.2.2.1 && decide (x.2.2.2.1 = v) && decide (x.2.2.2.2 = val)
def wrI (its : List ItemL) (v val : Int) : Int := idxF (isW v val) its
def bad1 (its : List ItemL) (j : Nat) (x : ItemL) : Bool := x.2.2.1 && (decide (x.2.2.2.2 = 0) || decide (max (wrI its x.2.2.2.1 x.2.2.2.2) 0 < ((j : Nat) : Int)))
def badI (its : List ItemL) (j : Nat) : Bool := (its[j]?).any (bad1 its j)
def fbI (its : List ItemL) : Option Nat := (List.range its.length).find? (badI its)
def chkA (its : List ItemL) : Int × Int × Int := match fbI its with
  | none => (0, 0, 0)
  | some j => match its[j]? with
    | none => (0, 0, 0)
    | some x => if x.2.2.2.2 = 0 then (((j : Nat) : Int), ((j : Nat) : Int), 5) else (max (wrI its x.2.2.2.1 x.2.2.2.2) 0, ((j : Nat) : Int), 4)
theorem fb_none {its : List ItemL} {j : Nat} (h : ∀ k, k < j → badI its k = false) (hj : its.length ≤ j) : fbI its = none := by
  unfold fbI; rw [List.find?_eq_none]
  intro k hk
  rw [List.mem_range] at hk
  rw [h k (by omega)]; simp
theorem fb_some {its : List ItemL} {j : Nat} (h : ∀ k, k < j → badI its k = false) (hj : j < its.length) (hb : badI its j = true) : fbI its = some j := by
  unfold fbI
  rw [List.find?_eq_some_iff_append]
  refine ⟨hb, List.range j, (List.range (its.length - j - 1)).map (fun i => j + 1 + i), ?_, fun a ha => by rw [h a (List.mem_range.1 ha)]; rfl⟩
  have : its.length = j + (1 + (its.length - j - 1)) := by omega
  rw [this, range_add_map, range_add_map]
  simp [Nat.add_assoc]
theorem bad_at {its : List ItemL} {j : Nat} {x : ItemL} (hx : its[((j : Nat) : Int).toNat]? = some x) : badI its j = bad1 its j x := by
  rw [Int.toNat_natCast] at hx; unfold badI; rw [hx]; rfl
theorem bad_next {its : List ItemL} {j : Nat} {x : ItemL} (h : ∀ k, k < j → badI its k = false) (hx : its[((j : Nat) : Int).toNat]? = some x) (hb : bad1 its j x = false) : ∀ k, k < j + 1 → badI its k = false := by
  intro k hk
  rcases Nat.lt_succ_iff_lt_or_eq.1 hk with h1 | rfl
  · exact h k h1
  · rw [bad_at hx]; exact hb
theorem chk_end {its : List ItemL} {j : Nat} (h : ∀ k, k < j → badI its k = false) (hj : its.length ≤ j) : chkA its = (0, 0, 0) := by
  unfold chkA; rw [fb_none h hj]
theorem chk_zero {its : List ItemL} {j : Nat} {x : ItemL} (h : ∀ k, k < j → badI its k = false) (hx : its[((j : Nat) : Int).toNat]? = some x) (hw : x.2.2.1 = true) (h0 : x.2.2.2.2 = 0) : chkA its = (((j : Nat) : Int), ((j : Nat) : Int), 5) := by
  have hj : j < its.length := by rw [Int.toNat_natCast] at hx; exact (List.getElem?_eq_some_iff.1 hx).1
  have hb : badI its j = true := by rw [bad_at hx]; unfold bad1; simp [hw, h0]
  unfold chkA; rw [fb_some h hj hb]
  rw [Int.toNat_natCast] at hx
  simp only [hx, h0, if_true]
theorem chk_twice {its : List ItemL} {j : Nat} {x : ItemL} (h : ∀ k, k < j → badI its k = false) (hx : its[((j : Nat) : Int).toNat]? = some x) (hw : x.2.2.1 = true) (h0 : ¬ x.2.2.2.2 = 0)
    (h1 : max (wrI its x.2.2.2.1 x.2.2.2.2) 0 < ((j : Nat) : Int)) : chkA its = (max (wrI its x.2.2.2.1 x.2.2.2.2) 0, ((j : Nat) : Int), 4) := by
  have hj : j < its.length := by rw [Int.toNat_natCast] at hx; exact (List.getElem?_eq_some_iff.1 hx).1
  have hb : badI its j = true := by rw [bad_at hx]; unfold bad1; simp [hw, h1]
  unfold chkA; rw [fb_some h hj hb]
  rw [Int.toNat_natCast] at hx
  simp only [hx, h0, if_false]
theorem bad_read {its : List ItemL} {j : Nat} {x : ItemL} (hw : x.2.2.1 = false) : bad1 its j x = false := by unfold bad1; rw [hw]; rfl
theorem bad_good {its : List ItemL} {j : Nat} {x : ItemL} (h0 : ¬ x.2.2.2.2 = 0) (h1 : ¬ max (wrI its x.2.2.2.1 x.2.2.2.2) 0 < ((j : Nat) : Int)) : bad1 its j x = false := by
  unfold bad1; rw [decide_eq_false h0, decide_eq_false h1]; simp
theorem wr_hit {its : List ItemL} {j : Nat} {x : ItemL} {v val : Int} (hx : its[((j : Nat) : Int).toNat]? = some x) (h1 : x.2.2.1 = true) (h2 : decide (x.2.2.2.1 = v) = true) (h3 : decide (x.2.2.2.2 = val) = true) (hs : (its.take j).any (isW v val) = false) : ((j : Nat) : Int) = wrI its v val :=
  idxF_hit hx hs (by unfold isW; rw [h1, h2, h3]; rfl)
theorem wr_miss {its : List ItemL} {j : Nat} {v val : Int} (hs : (its.take j).any (isW v val) = false) (h : its.length ≤ j) : (-1 : Int) = wrI its v val := idxF_miss hs h
theorem isW_no1 {x : ItemL} {v val : Int} (h : x.2.2.1 = false) : isW v val x = false := by unfold isW; rw [h]; rfl
theorem isW_no2 {x : ItemL} {v val : Int} (h : decide (x.2.2.2.1 = v) = false) : isW v val x = false := by unfold isW; rw [h]; simp
theorem isW_no3 {x : ItemL} {v val : Int} (h : decide (x.2.2.2.2 = val) = false) : isW v val x = false := by unfold isW; rw [h]; simp
end Go.Ew
namespace Go.Ew
open Go.RowKit
set_option linter.unusedVariables false
set_option linter.unusedSimpArgs false
def chS (b : BitVec 8) : ByteArray := strOfNums [((b.toNat : Nat) : Int)]
section
variable {P : Program} {n : Nat} {ops : Array Oper} {f : Slots} {w : World} {K : Slots → World → Prop} {x y : Operand} {d : Nat} {ty T T2 e : TypeId} {ps : String} {af : Array Edge} {M : Nat → Prop} {B : Nat} {a : Option Addr} {k c : Nat} {s t : Int}
theorem w8 {i : Int} (h0 : 0 ≤ i) (h1 : i ≤ 255) : IntKind.u8.wrap i = i ∧ (((BitVec.ofInt 8 i).toNat : Nat) : Int) = i := by
  constructor
  · unfold IntKind.wrap
    simp [IntKind.bits, IntKind.signed]
    omega
  · rw [BitVec.toNat_ofInt]
    show ((i % 256).toNat : Int) = i
    omega
theorem add8 (ox : okT n x = true) (oy : okT n y = true) (hx : ev f x = .int .u8 s) (hy : ev f y = .int .u8 t) (hi : 0 ≤ s + t ∧ s + t ≤ 255) (h : K (upd f d (U8 (BitVec.ofInt 8 (s + t)))) w) : SO P n ops ⟨some d, .binOp .add T x y T2, ty, ps, af, none⟩ f w K :=
  bin ox oy hx hy (by simp [binOp, Op.intArith, (w8 hi.1 hi.2).1, (w8 hi.1 hi.2).2]; omega) h
theorem cvBS {b : BitVec 8} (hO : (own B e (.slice a k c) [b]).holds M w) (ox : okT n x = true) (hx : ev f x = .slice a k c) (hs : P.underlying T = some (.slice e)) (he : P.underlying e = some (.int .u8)) (hd : P.underlying T2 = some .string)
    (h : K (upd f d (.string (chS b))) w) : SO P n ops ⟨some d, .convert T T2 x, ty, ps, af, none⟩ f w K := by
  obtain ⟨cs, h1, h2⟩ := hO
  obtain ⟨c1, c2, rfl, h3, h4⟩ := h2
  have h3 : c1 = [U8 b] := h3
  have h4 : c2 = [] := h4
  subst h3; subst h4
  rcases h1.2 with ⟨h5, h6⟩ | ⟨g, cap, cur, h5, h6, h7, h8, h9, h10, h11⟩
  · cases h6
  · cases h5
    have hrun := run_convert_bytes_arg (P := P) w T e hs he g 0 1 c [((b.toNat : Nat) : Int)] rfl (by
      intro i hi
      have : i = 0 := by omega
      subst this
      rw [cell_of_row w g _ cur e (0, 0) h7]
      have hz : (cur.toList.take (1 * 1))[0]? = some (U8 b) := by
        have : cur.toList.take (1 * 1) = [U8 b] := h11
        rw [this]; rfl
      rw [List.getElem?_take_of_lt (by omega), Array.getElem?_toList] at hz
      exact hz) T2 hd
    have hx' : ev f x = .slice (some ⟨g, 0, none⟩) 1 c := hx
    refine SO.value (v := .string (strOfNums [((b.toNat : Nat) : Int)])) (w' := w) ?_ h
    simp only [execOp, eval_acts ox, hx']
    simp [hrun]
end
theorem nameS_ch {s : Int} (h : 0 ≤ s ∧ s < 3) : nameS (chS (BitVec.ofInt 8 (120 + s))) = true := by
  have : s = 0 ∨ s = 1 ∨ s = 2 := by omega
  rcases this with rfl | rfl | rfl <;> decide +kernel
theorem chS_size (b : BitVec 8) : (chS b).size ≤ maxLen := by
  have : (chS b).size = 1 := by unfold chS strOfNums; rfl
  rw [this]; unfold maxLen; omega
end Go.Ew
namespace Go.Ew
set_option linter.unusedVariables false
set_option linter.unusedSimpArgs false
theorem wr_at {its : List ItemL} {v val : Int} (h : 0 ≤ wrI its v val) : ∃ x, its[(wrI its v val).toNat]? = some x ∧ isW v val x = true := by
  unfold wrI idxF at h ⊢
  cases hf : its.findIdx? (isW v val) with
  | none => rw [hf] at h; simp at h
  | some i =>
    obtain ⟨hi, hp, -⟩ := List.findIdx?_eq_some_iff_getElem.1 hf
    exact ⟨its[i], by simp [hi], hp⟩
theorem isW_iff {v val : Int} {x : ItemL} : isW v val x = true ↔ x.2.2.1 = true ∧ x.2.2.2.1 = v ∧ x.2.2.2.2 = val := by unfold isW; simp [and_assoc]
end Go.Ew
namespace Go.Ew
set_option linter.unusedVariables false
set_option linter.unusedSimpArgs false
def frI (its : List ItemL) (x : ItemL) : Int := if x.2.2.1 then -3 else if x.2.2.2.2 = 0 then -1 else if 0 ≤ wrI its x.2.2.2.1 x.2.2.2.2 then max (wrI its x.2.2.2.1 x.2.2.2.2) 0 else -2
def fromR (its : List ItemL) : List Int := its.map (frI its)
theorem frI_w {its : List ItemL} {x : ItemL} (hw : x.2.2.1 = true) : (-3 : Int) = frI its x := by unfold frI; simp [hw]
theorem frI_0 {its : List ItemL} {x : ItemL} (hw : x.2.2.1 = false) (h0 : x.2.2.2.2 = 0) : (-1 : Int) = frI its x := by unfold frI; simp [hw, h0]
theorem frI_s {its : List ItemL} {x : ItemL} (hw : x.2.2.1 = false) (h0 : ¬ x.2.2.2.2 = 0) (hs : decide (0 ≤ wrI its x.2.2.2.1 x.2.2.2.2) = true) : max (wrI its x.2.2.2.1 x.2.2.2.2) 0 = frI its x := by unfold frI; simp only [hw, h0, of_decide_eq_true hs]; rfl
theorem frI_n {its : List ItemL} {x : ItemL} (hw : x.2.2.1 = false) (h0 : ¬ x.2.2.2.2 = 0) (hs : decide (0 ≤ wrI its x.2.2.2.1 x.2.2.2.2) = false) : (-2 : Int) = frI its x := by unfold frI; simp only [hw, h0, of_decide_eq_false hs]; rfl
theorem fromR_step {its : List ItemL} {j : Nat} {x : ItemL} {v : Int} (hx : its[((j : Nat) : Int).toNat]? = some x) (hv : v = frI its x) : (its.take j).map (frI its) ++ [v] = (its.take (j + 1)).map (frI its) := by
  rw [take_at hx, List.map_append, hv]; rfl
end Go.Ew
namespace Go.Ew
set_option linter.unusedVariables false
set_option linter.unusedSimpArgs false
theorem fromR_len (its : List ItemL) : (fromR its).length = its.length := by unfold fromR; simp
theorem reads_facts {its : List ItemL} {x : ItemL} {t : Int} (ht : t = frI its x) : (x.2.2.1 == decide (t = -3)) = true ∧ (t = -1 → x.2.2.2.2 = 0) ∧ -3 ≤ t ∧ t < (its.length : Int) ∧
    (0 ≤ t → ∃ y, its[t.toNat]? = some y ∧ y.2.2.1 = true ∧ y.2.2.2.1 = x.2.2.2.1 ∧ y.2.2.2.2 = x.2.2.2.2 ∧ x.2.2.2.2 ≠ 0) ∧
    (t = -2 → ∀ y ∈ its, y.2.2.1 = true → y.2.2.2.1 = x.2.2.2.1 → y.2.2.2.2 ≠ x.2.2.2.2) := by
  have hr := idxF_range (p := isW x.2.2.2.1 x.2.2.2.2) (r := its)
  have hlt : 0 ≤ wrI its x.2.2.2.1 x.2.2.2.2 → wrI its x.2.2.2.1 x.2.2.2.2 < (its.length : Int) := by
    intro h0
    obtain ⟨y, hy, -⟩ := wr_at h0
    have := (List.getElem?_eq_some_iff.1 hy).1
    omega
  subst ht
  unfold frI
  by_cases hw : x.2.2.1 = true
  · simp only [hw, if_true]
    refine ⟨by simp, fun h => (by omega), by omega, by omega, fun h => (by omega), fun h => (by omega)⟩
  · have hw' : x.2.2.1 = false := by simpa using hw
    simp only [hw', Bool.false_eq_true, if_false]
    by_cases h0 : x.2.2.2.2 = 0
    · simp only [h0, if_true]
      refine ⟨by simp, fun _ => (by first | trivial | rfl), by omega, by omega, fun h => (by omega), fun h => (by omega)⟩
    · simp only [h0, if_false]
      by_cases hp : 0 ≤ wrI its x.2.2.2.1 x.2.2.2.2
      · simp only [hp, if_true]
        have hl := hlt hp
        obtain ⟨y, hy, hyp⟩ := wr_at hp
        obtain ⟨y1, y2, y3⟩ := isW_iff.1 hyp
        have e : max (wrI its x.2.2.2.1 x.2.2.2.2) 0 = wrI its x.2.2.2.1 x.2.2.2.2 := by omega
        rw [e]
        refine ⟨?_, fun h => (by omega), by omega, hl, fun _ => ⟨y, hy, y1, y2, y3, h0⟩, fun h => (by omega)⟩
        rw [decide_eq_false (by omega)]; rfl
      · simp only [hp, if_false]
        refine ⟨rfl, fun h => (by omega), by omega, by omega, fun h => (by omega), fun _ y hy hyw hyv hyn => ?_⟩
        apply hp
        unfold wrI idxF
        cases hf : its.findIdx? (isW x.2.2.2.1 x.2.2.2.2) with
        | none =>
          rw [List.findIdx?_eq_none_iff] at hf
          have := hf y hy
          rw [isW_iff.2 ⟨hyw, hyv, hyn⟩] at this
          cases this
        | some i => simp
end Go.Ew
namespace Go.Ew
set_option linter.unusedVariables false
set_option linter.unusedSimpArgs false
def rowP (n : Nat) (p : Nat → Bool) : Row := (((List.range n).filter p).map fun k => ((k : Nat) : Int)).foldl setR (newR ((n : Nat) : Int))
theorem words_nat (n : Nat) : words ((n : Nat) : Int) = (n + 63) / 64 := by unfold words; omega
theorem rowP_len (n : Nat) (p : Nat → Bool) : (rowP n p).length = words ((n : Nat) : Int) := by unfold rowP; rw [foldl_setR_length, newR_length]
theorem inR_newR {n : Nat} {i : Int} (h0 : 0 ≤ i) (h : i < ((n : Nat) : Int)) : inR (newR ((n : Nat) : Int)) i = true := inR_of h0 (by rw [newR_length, words_nat]; omega)
theorem rowP_has (n : Nat) (p : Nat → Bool) (i : Int) : hasR (rowP n p) i = (decide (0 ≤ i) && decide (i < ((n : Nat) : Int)) && p i.toNat) := by
  unfold rowP
  rw [foldl_setR_has, newR_has, Bool.false_or, Bool.eq_iff_iff]
  simp only [List.any_eq_true, List.mem_map, List.mem_filter, List.mem_range, Bool.and_eq_true, decide_eq_true_eq]
  constructor
  · rintro ⟨z, ⟨k, ⟨hk, hp⟩, rfl⟩, rfl, -⟩
    exact ⟨⟨by omega, by omega⟩, by simpa using hp⟩
  · rintro ⟨⟨h0, h1⟩, hp⟩
    exact ⟨i, ⟨i.toNat, ⟨by omega, hp⟩, by omega⟩, rfl, inR_newR h0 h1⟩
theorem row_is {r : Row} {n : Nat} {p : Nat → Bool} (hl : r.length = words ((n : Nat) : Int)) (h : ∀ k : Nat, hasR r ((k : Nat) : Int) = (decide (k < n) && p k)) : r = rowP n p := by
  refine row_ext (by rw [hl, rowP_len]) fun k => ?_
  rw [h, rowP_has]
  simp
theorem rowP_congr {n : Nat} {p q : Nat → Bool} (h : ∀ k, k < n → p k = q k) : rowP n p = rowP n q :=
  row_is (rowP_len n p) fun k => by
    rw [rowP_has]
    by_cases hk : k < n
    · simp [hk, h k hk]
    · simp [hk]
theorem newR_rowP (n : Nat) : newR ((n : Nat) : Int) = rowP n fun _ => false := row_is (newR_length _) fun k => by rw [newR_has]; simp
theorem setR_rowP {n : Nat} {p : Nat → Bool} {j : Int} (h0 : 0 ≤ j) (h1 : j < ((n : Nat) : Int)) : setR (rowP n p) j = rowP n fun k => p k || decide (k = j.toNat) := by
  refine row_is (by rw [setR_length, rowP_len]) fun k => ?_
  rw [hasR_setR, rowP_has]
  have hin : inR (rowP n p) j = true := inR_of h0 (by rw [rowP_len, words_nat]; omega)
  rw [hin, Bool.and_true, Bool.eq_iff_iff]
  simp only [Bool.or_eq_true, Bool.and_eq_true, decide_eq_true_eq, Int.toNat_natCast]
  constructor
  · rintro (⟨⟨h2, h3⟩, h4⟩ | h2)
    · exact ⟨by omega, .inl h4⟩
    · exact ⟨by omega, .inr (by omega)⟩
  · rintro ⟨h2, h3 | h3⟩
    · exact .inl ⟨⟨by omega, by omega⟩, h3⟩
    · exact .inr (by omega)
def matP (n : Nat) (p : Nat → Nat → Bool) : Rows := (List.range n).map fun i => rowP n (p i)
theorem matP_len (n : Nat) (p : Nat → Nat → Bool) : (matP n p).length = n := by unfold matP; simp
theorem matP_at {n : Nat} {p : Nat → Nat → Bool} {i : Nat} {x : Row} (h : (matP n p)[i]? = some x) : i < n ∧ x = rowP n (p i) := by
  unfold matP at h
  rw [List.getElem?_map] at h
  cases hr : (List.range n)[i]? with
  | none => rw [hr] at h; cases h
  | some k =>
    rw [hr] at h
    obtain ⟨h1, h2⟩ := List.getElem?_eq_some_iff.1 hr
    simp at h1 h2
    subst h2
    exact ⟨h1, (Option.some.inj h).symm⟩
theorem matP_get {n : Nat} {p : Nat → Nat → Bool} {i : Nat} (h : i < n) : (matP n p)[i]? = some (rowP n (p i)) := by
  unfold matP; rw [List.getElem?_map, List.getElem?_range h]; rfl
theorem mat_is {rs : Rows} {n : Nat} {p : Nat → Nat → Bool} (hl : rs.length = n) (h : ∀ i, i < n → rs[i]? = some (rowP n (p i))) : rs = matP n p := by
  apply List.ext_getElem?
  intro i
  by_cases hi : i < n
  · rw [h i hi, matP_get hi]
  · rw [List.getElem?_eq_none (by omega), List.getElem?_eq_none (by rw [matP_len]; omega)]
theorem matP_congr {n : Nat} {p q : Nat → Nat → Bool} (h : ∀ i j, i < n → j < n → p i j = q i j) : matP n p = matP n q :=
  mat_is (matP_len n p) fun i hi => by rw [matP_get hi, rowP_congr fun j hj => h i j hi hj]
theorem newM_matP (n : Nat) : newM ((n : Nat) : Int) = matP n fun _ _ => false := by
  refine mat_is (by rw [newM_length]; simp) fun i hi => ?_
  unfold newM
  rw [List.getElem?_replicate, if_pos (by simpa using hi), newR_rowP]
theorem matP_set {n : Nat} {p : Nat → Nat → Bool} {i : Nat} {q : Nat → Bool} : (matP n p).set i (rowP n q) = matP n fun a b => if a = i then q b else p a b := by
  refine mat_is (by rw [List.length_set, matP_len]) fun k hk => ?_
  rw [List.getElem?_set]
  by_cases e : i = k
  · subst e
    rw [if_pos rfl, if_pos (by rw [matP_len]; exact hk)]
    congr 1
    exact rowP_congr fun j _ => by simp
  · rw [if_neg e, matP_get hk]
    congr 1
    exact rowP_congr fun j _ => by rw [if_neg fun e2 => e e2.symm]
theorem rowAt_matP {n : Nat} {p : Nat → Nat → Bool} {i : Int} (h0 : 0 ≤ i) (h : i < ((n : Nat) : Int)) : rowAt (matP n p) i = rowP n (p i.toNat) := rowAt_of (matP_get (by omega))
theorem setM_matP {n : Nat} {p : Nat → Nat → Bool} {i j : Int} (hi : inM ((n : Nat) : Int) [i, j] = true) : setM (matP n p) (i, j) = matP n fun a b => p a b || (decide (a = i.toNat) && decide (b = j.toNat)) := by
  obtain ⟨⟨h1, h2⟩, h3, h4⟩ := inM_two.1 hi
  unfold setM
  dsimp only
  rw [rowAt_matP h1 h2, setR_rowP h3 h4, matP_set]
  refine matP_congr fun a b ha hb => ?_
  by_cases e : a = i.toNat
  · subst e; simp
  · simp [e]
theorem hasM_matP {n : Nat} {p : Nat → Nat → Bool} {i j : Int} : hasM ((n : Nat) : Int) (matP n p) i j = (inM ((n : Nat) : Int) [i, j] && p i.toNat j.toNat) := by
  unfold hasM
  cases h : inM ((n : Nat) : Int) [i, j] with
  | false => rfl
  | true =>
    obtain ⟨⟨h1, h2⟩, h3, h4⟩ := inM_two.1 h
    rw [rowAt_matP h1 h2, rowP_has, decide_eq_true h3, decide_eq_true h4]; rfl
theorem inM_nat {n i j : Nat} : inM ((n : Nat) : Int) [((i : Nat) : Int), ((j : Nat) : Int)] = (decide (i < n) && decide (j < n)) := by
  rw [inM_eq, Bool.eq_iff_iff]
  simp only [Bool.and_eq_true, decide_eq_true_eq]
  omega
theorem hasM_nat {n : Nat} {p : Nat → Nat → Bool} {i j : Nat} (hi : i < n) (hj : j < n) : hasM ((n : Nat) : Int) (matP n p) ((i : Nat) : Int) ((j : Nat) : Int) = p i j := by
  rw [hasM_matP, inM_nat]; simp [hi, hj]
theorem matP_rows {n : Nat} {p : Nat → Nat → Bool} : ∀ x ∈ matP n p, x.length = words ((n : Nat) : Int) := by
  intro x hx
  obtain ⟨i, hi⟩ := List.mem_iff_getElem?.1 hx
  rw [(matP_at hi).2, rowP_len]
theorem matP_small {n : Nat} {p : Nat → Nat → Bool} (h : n ≤ 4096) : ∀ x ∈ matP n p, x.length ≤ 1000000000 := by
  intro x hx
  rw [matP_rows x hx, words_nat]; omega
end Go.Ew
namespace Go.Ew
set_option linter.unusedVariables false
set_option linter.unusedSimpArgs false
abbrev item0 : ItemL := (0, 0, false, 0, 0)
def sesN (its : List ItemL) (i : Nat) : Int := (its.getD i item0).1
def plcN (its : List ItemL) (i : Nat) : Int := (its.getD i item0).2.1
theorem item_getI {its : List ItemL} {i : Int} {x : ItemL} (h : its[i.toNat]? = some x) : its.getD i.toNat item0 = x := by rw [List.getD_eq_getElem?_getD, h]; rfl
theorem ses_atI {its : List ItemL} {i : Int} {x : ItemL} (h : its[i.toNat]? = some x) : sesN its i.toNat = x.1 := by unfold sesN; rw [item_getI h]
structure OrdI (its : List ItemL) : Prop where
  first : 0 < its.length → plcN its 0 = 0
  next : ∀ i, i + 1 < its.length → (sesN its (i + 1) = sesN its i ∧ plcN its (i + 1) = plcN its i + 1) ∨ (sesN its i < sesN its (i + 1) ∧ plcN its (i + 1) = 0)
section
variable {its : List ItemL} (o : OrdI its)
include o
theorem OrdI.le : ∀ (d i : Nat), i + d < its.length → sesN its i ≤ sesN its (i + d)
  | 0, i, h => Int.le_refl _
  | d + 1, i, h => by
    have h1 := OrdI.le d i (by omega)
    have h2 := o.next (i + d) (by omega)
    rw [show i + (d + 1) = i + d + 1 from rfl]; omega
theorem OrdI.mono {i j : Nat} (hij : i ≤ j) (h : j < its.length) : sesN its i ≤ sesN its j := by
  have := o.le (j - i) i (by omega)
  rwa [show i + (j - i) = j from by omega] at this
end
theorem ord_snoc {its : List ItemL} (o : OrdI its) {x : ItemL} (h0 : its.length = 0 → x.2.1 = 0) (h : ∀ n, its.length = n + 1 → (x.1 = sesN its n ∧ x.2.1 = plcN its n + 1) ∨ (sesN its n < x.1 ∧ x.2.1 = 0)) : OrdI (its ++ [x]) := by
  have hold : ∀ i, i < its.length → (its ++ [x]).getD i item0 = its.getD i item0 := by
    intro i hi
    rw [List.getD_eq_getElem?_getD, List.getD_eq_getElem?_getD, List.getElem?_append_left hi]
  have hnew : (its ++ [x]).getD its.length item0 = x := by
    rw [List.getD_eq_getElem?_getD, List.getElem?_append_right (Nat.le_refl _)]; simp
  refine ⟨fun hl => ?_, fun i hi => ?_⟩
  · by_cases e : its.length = 0
    · have := hnew
      rw [e] at this
      unfold plcN; rw [this]; exact h0 e
    · have := o.first (by omega)
      unfold plcN at this ⊢
      rw [hold 0 (by omega)]; exact this
  · rw [List.length_append, List.length_singleton] at hi
    by_cases e : i + 1 < its.length
    · have := o.next i e
      unfold sesN plcN at this ⊢
      rw [hold i (by omega), hold (i + 1) e]; exact this
    · have e2 : its.length = i + 1 := by omega
      have := h i e2
      unfold sesN plcN at this ⊢
      rw [hold i (by omega), ← e2, hnew]
      rcases this with ⟨a, b⟩ | ⟨a, b⟩
      · exact .inl ⟨a, b⟩
      · exact .inr ⟨a, b⟩
def Below_ (its : List ItemL) (j : Nat) : Prop := ∀ x ∈ its, x.1 < ((j : Nat) : Int)
theorem last_get {its : List ItemL} {n : Nat} (h : its.length = n + 1) : its.getD n item0 ∈ its := by
  rw [List.getD_eq_getElem?_getD, List.getElem?_eq_getElem (by omega)]
  exact List.getElem_mem _
theorem toO_ord {j : Nat} {st : StO} {ops : List OpL} (o : OrdI st.2) (hb : Below_ st.2 j) : ∀ k, k ≤ ops.length →
    OrdI (toO j st ops k).2 ∧ Below_ (toO j st ops k).2 (j + 1) ∧ (0 < k → ∃ n, (toO j st ops k).2.length = n + 1 ∧ sesN (toO j st ops k).2 n = ((j : Nat) : Int) ∧ plcN (toO j st ops k).2 n = ((k : Nat) : Int) - 1)
  | 0, _ => by
    rw [toO_zero]
    exact ⟨o, fun x hx => by have := hb x hx; omega, fun h => (by omega)⟩
  | k + 1, hk => by
    obtain ⟨ho, hbl, hlast⟩ := toO_ord (ops := ops) o hb k (by omega)
    have hx : ops[((k : Nat) : Int).toNat]? = some ops[k] := by rw [Int.toNat_natCast]; exact List.getElem?_eq_getElem (by omega)
    rw [toO_step hx]
    unfold stepO
    dsimp only
    refine ⟨ord_snoc ho (fun h0 => ?_) (fun n hn => ?_), ?_, fun _ => ⟨(toO j st ops k).2.length, by simp, ?_, ?_⟩⟩
    · show ((k : Nat) : Int) = 0
      by_cases hk0 : 0 < k
      · obtain ⟨n, h1, -⟩ := hlast hk0
        omega
      · omega
    · show (((j : Nat) : Int) = _ ∧ ((k : Nat) : Int) = _) ∨ (_ < ((j : Nat) : Int) ∧ ((k : Nat) : Int) = 0)
      by_cases hk0 : 0 < k
      · obtain ⟨n', h1, h2, h3⟩ := hlast hk0
        obtain rfl : n = n' := by omega
        exact .inl ⟨h2.symm, by rw [h3]; omega⟩
      · right
        have hk0 : k = 0 := by omega
        subst hk0
        rw [toO_zero] at hn ⊢
        exact ⟨hb _ (last_get hn), rfl⟩
    · intro x hxm
      rcases List.mem_append.1 hxm with h | h
      · exact hbl x h
      · rw [List.mem_singleton] at h
        subst h
        show ((j : Nat) : Int) < _
        omega
    · unfold sesN
      rw [List.getD_eq_getElem?_getD, List.getElem?_append_right (Nat.le_refl _)]; simp
    · unfold plcN
      rw [List.getD_eq_getElem?_getD, List.getElem?_append_right (Nat.le_refl _)]
      simp
theorem allO_ord (h : HistL) : ∀ j, j ≤ h.length → OrdI (allO h j).2 ∧ Below_ (allO h j).2 j
  | 0, _ => ⟨⟨fun h => (by simp [allO] at h), fun i hi => (by simp [allO] at hi)⟩, fun x hx => (by simp [allO] at hx)⟩
  | j + 1, hj => by
    obtain ⟨ho, hb⟩ := allO_ord h j (by omega)
    have hx : h[((j : Nat) : Int).toNat]? = some h[j] := by rw [Int.toNat_natCast]; exact List.getElem?_eq_getElem (by omega)
    rw [allO_step hx]
    have := toO_ord (ops := h[j]) ho hb _ (Nat.le_refl _)
    exact ⟨this.1, this.2.1⟩
theorem factI_ord (h : HistL) : OrdI (factI h) := (allO_ord h h.length (Nat.le_refl _)).1
theorem ofI_ord (h : HistL) : OrdI (ofI h) := by
  unfold ofI; split
  · exact factI_ord h
  · exact ⟨fun h => (by simp at h), fun i hi => (by simp at hi)⟩
def ahN (its : List ItemL) (i j : Nat) : Bool := decide (i < j) && decide (j < its.length) && decide (sesN its i = sesN its j)
def poR (its : List ItemL) : Rows := matP its.length (ahN its)
def poTo (its : List ItemL) (t : Int) : Rows := matP its.length fun a b => decide (t < ((a : Nat) : Int)) && ahN its a b
theorem poTo_start (its : List ItemL) (t : Int) (h : (its.length : Int) - 2 = t) : newM (its.length : Int) = poTo its t := by
  rw [newM_matP]
  refine matP_congr fun a b ha hb => ?_
  unfold ahN
  rw [Bool.eq_iff_iff]
  simp only [Bool.and_eq_true, decide_eq_true_eq, Bool.false_eq_true, false_iff]
  omega
theorem poTo_end {its : List ItemL} {t : Int} (h : t < 0) : poTo its t = poR its := by
  refine matP_congr fun a b ha hb => ?_
  rw [decide_eq_true (by omega)]; rfl
theorem poTo_same {its : List ItemL} {t : Int} (h0 : 0 ≤ t) (h1 : t + 1 < (its.length : Int)) (hs : sesN its t.toNat = sesN its (t + 1).toNat) {x : Row} (hx : (poTo its t)[(t + 1).toNat]? = some x) :
    (poTo its t).set t.toNat (setR x (t + 1)) = poTo its (t - 1) := by
  unfold poTo at *
  obtain ⟨h2, rfl⟩ := matP_at hx
  rw [setR_rowP (by omega) h1, matP_set]
  refine matP_congr fun a b ha hb => ?_
  have e : (t + 1).toNat = t.toNat + 1 := by omega
  rw [e] at hs ⊢
  by_cases ea : a = t.toNat
  · subst ea
    rw [if_pos rfl]
    unfold ahN
    rw [Bool.eq_iff_iff]
    simp only [Bool.and_eq_true, Bool.or_eq_true, decide_eq_true_eq]
    constructor
    · rintro (⟨_, ⟨h3, h4⟩, h5⟩ | h3)
      · exact ⟨by omega, ⟨by omega, h4⟩, by rw [hs, h5]⟩
      · subst h3; exact ⟨by omega, ⟨by omega, by omega⟩, hs⟩
    · rintro ⟨_, ⟨h3, h4⟩, h5⟩
      by_cases e2 : b = t.toNat + 1
      · exact .inr e2
      · exact .inl ⟨by omega, ⟨by omega, h4⟩, by rw [← hs, h5]⟩
  · rw [if_neg ea, show decide (t < ((a : Nat) : Int)) = decide (t - 1 < ((a : Nat) : Int)) from by rw [decide_eq_decide]; omega]
theorem poTo_other {its : List ItemL} (o : OrdI its) {t : Int} (h0 : 0 ≤ t) (h1 : t + 1 < (its.length : Int)) (hs : ¬ sesN its t.toNat = sesN its (t + 1).toNat) : poTo its t = poTo its (t - 1) := by
  refine matP_congr fun a b ha hb => ?_
  have e : (t + 1).toNat = t.toNat + 1 := by omega
  rw [e] at hs
  by_cases ea : a = t.toNat
  · subst ea
    rw [decide_eq_false (by omega), Bool.false_and]
    symm
    unfold ahN
    rw [Bool.and_eq_false_iff]
    right
    rw [Bool.and_eq_false_iff]
    by_cases hb2 : t.toNat < b
    · right
      rw [decide_eq_false_iff_not]
      intro he
      have g1 := o.mono (i := t.toNat) (j := t.toNat + 1) (by omega) (by omega)
      have g2 := o.mono (i := t.toNat + 1) (j := b) (by omega) (by omega)
      omega
    · left
      rw [decide_eq_false (by omega)]; rfl
  · rw [show decide (t < ((a : Nat) : Int)) = decide (t - 1 < ((a : Nat) : Int)) from by rw [decide_eq_decide]; omega]
theorem poR_len (its : List ItemL) : (poR its).length = its.length := matP_len _ _
theorem poTo_row {its : List ItemL} {t : Int} {i : Nat} {x : Row} (h : (poTo its t)[i]? = some x) : x.length = words ((its.length : Nat) : Int) := by rw [(matP_at h).2, rowP_len]
theorem words_small {n : Nat} (h : n ≤ 4096) : words ((n : Nat) : Int) ≤ 64 := by rw [words_nat]; omega
end Go.Ew
namespace Go.Ew
set_option linter.unusedVariables false
set_option linter.unusedSimpArgs false
def rowOk (n : Int) (r : Row) : Bool := decide (((r.length : Nat) : Int) = ((words n : Nat) : Int)) && (List.range (64 * r.length)).all fun k => decide (((k : Nat) : Int) < n) || !hasR r ((k : Nat) : Int)
def rightS (n : Int) (rs : Rows) : Bool := okN n && decide (((rs.length : Nat) : Int) = n) && rs.all (rowOk n)
theorem rowOk_yes {n : Int} {r : Row} {j : Int} (hl : ((r.length : Nat) : Int) = ((words n : Nat) : Int)) (h : ∀ k : Int, n ≤ k → k < j → hasR r k = false) (hj : 64 * ((r.length : Nat) : Int) ≤ j) : rowOk n r = true := by
  unfold rowOk
  rw [decide_eq_true hl, Bool.true_and, List.all_eq_true]
  intro k hk
  have := List.mem_range.1 hk
  by_cases hn : ((k : Nat) : Int) < n
  · rw [decide_eq_true hn]; rfl
  · rw [h _ (by omega) (by omega)]; simp
theorem right_end_ {n : Int} {rs : Rows} {j : Nat} (h0 : 0 ≤ n) (h1 : n ≤ 4096) (h2 : ((rs.length : Nat) : Int) = n) (hs : (rs.take j).all (rowOk n) = true) (hj : rs.length ≤ j) : true = rightS n rs := by
  unfold rightS; rw [take_end hj] at hs; rw [okN_iff.2 ⟨h0, h1⟩, decide_eq_true h2, hs]; rfl
theorem right_matP {n : Nat} {p : Nat → Nat → Bool} (h : n ≤ 4096) : rightS ((n : Nat) : Int) (matP n p) = true := by
  refine (right_end_ (j := (matP n p).length) (by omega) (by omega) (by rw [matP_len]) ?_ (Nat.le_refl _)).symm
  rw [List.take_length, List.all_eq_true]
  intro x hx
  obtain ⟨i, hi⟩ := List.mem_iff_getElem?.1 hx
  obtain ⟨h1, rfl⟩ := matP_at hi
  refine rowOk_yes (j := 64 * (((rowP n (p i)).length : Nat) : Int)) (by rw [rowP_len]) (fun k hk hk2 => ?_) (Int.le_refl _)
  rw [rowP_has, decide_eq_false (show ¬ k < ((n : Nat) : Int) from by omega)]; simp
theorem matP_64 {n : Nat} {p : Nat → Nat → Bool} (h : n ≤ 4096) : ∀ x ∈ matP n p, x.length ≤ 64 := by
  intro x hx
  obtain ⟨i, hi⟩ := List.getElem?_of_mem hx
  obtain ⟨-, rfl⟩ := matP_at hi
  have h1 := rowP_len n (p i)
  have := words_le (n := ((n : Nat) : Int)) (by omega)
  omega
end Go.Ew
namespace Go.Ew
set_option linter.unusedVariables false
set_option linter.unusedSimpArgs false
theorem rowOk_is {n : Nat} {r : Row} (h : rowOk ((n : Nat) : Int) r = true) : r = rowP n fun k => hasR r ((k : Nat) : Int) := by
  unfold rowOk at h
  rw [Bool.and_eq_true, decide_eq_true_eq, List.all_eq_true] at h
  refine row_is (by omega) fun k => ?_
  by_cases hk : k < n
  · simp [hk]
  · rw [decide_eq_false hk, Bool.false_and]
    by_cases h2 : k < 64 * r.length
    · have := h.2 k (List.mem_range.2 h2)
      rw [decide_eq_false (show ¬ ((k : Nat) : Int) < ((n : Nat) : Int) from by omega), Bool.false_or] at this
      simpa using this
    · exact (hasR_out (by unfold inR; exact decide_eq_false (by omega))).symm
theorem right_is {n : Int} {rs : Rows} (h : rightS n rs = true) : ∃ (m : Nat) (p : Nat → Nat → Bool), n = ((m : Nat) : Int) ∧ m ≤ 4096 ∧ rs = matP m p := by
  unfold rightS at h
  rw [Bool.and_eq_true, Bool.and_eq_true, decide_eq_true_eq, List.all_eq_true] at h
  obtain ⟨⟨h1, h2⟩, h3⟩ := h
  have h1 := okN_iff.1 h1
  refine ⟨n.toNat, fun i j => hasR (rs.getD i []) ((j : Nat) : Int), by omega, by omega, mat_is (by omega) fun i hi => ?_⟩
  have hx : rs[i]? = some rs[i] := List.getElem?_eq_getElem (by omega)
  have e : rs.getD i [] = rs[i] := by rw [List.getD_eq_getElem?_getD, hx]; rfl
  rw [hx, e]
  have := rowOk_is (n := n.toNat) (r := rs[i]) (by rw [show ((n.toNat : Nat) : Int) = n from by omega]; exact h3 _ (List.getElem_mem _))
  rw [← this]
theorem right_sq {n : Int} {rs : Rows} (h : rightS n rs = true) : ((rs.length : Nat) : Int) = n ∧ (∀ x ∈ rs, x.length ≤ 1000000000) ∧ n ≤ 4096 ∧ 0 ≤ n ∧ ∀ x ∈ rs, x.length ≤ 64 := by
  obtain ⟨m, p, rfl, hm, rfl⟩ := right_is h
  exact ⟨by rw [matP_len], matP_small hm, by omega, by omega, matP_64 hm⟩
def orRs (a b : Rows) (n : Nat) : Rows := (List.range n).map fun i => orR (rowAt a ((i : Nat) : Int)) (rowAt b ((i : Nat) : Int))
theorem orRs_len (a b : Rows) (n : Nat) : (orRs a b n).length = n := by unfold orRs; simp
theorem orRs_step (a b : Rows) (n : Nat) : orRs a b (n + 1) = orRs a b n ++ [orR (rowAt a ((n : Nat) : Int)) (rowAt b ((n : Nat) : Int))] := by unfold orRs; rw [List.range_succ, List.map_append]; rfl
def orMN (an bn : Int) : Int := if an = bn then an else 0
def orMR (an : Int) (ar : Rows) (bn : Int) (br : Rows) : Rows := if an = bn then orRs ar br an.toNat else []
def orME (an bn : Int) : Int := if an = bn then 0 else 1
theorem orM_no {an bn : Int} {ar br : Rows} (h : ¬ an = bn) : orMN an bn = 0 ∧ orMR an ar bn br = [] ∧ orME an bn = 1 := by unfold orMN orMR orME; simp [h]
theorem orM_yes {an bn : Int} {ar br : Rows} (h : an = bn) : orMN an bn = an ∧ orMR an ar bn br = orRs ar br an.toNat ∧ orME an bn = 0 := by unfold orMN orMR orME; simp [h]
def orFill (a b : Rows) (n j : Nat) : Rows := orRs a b j ++ List.replicate (n - j) []
theorem orFill_zero (a b : Rows) (n : Nat) : List.replicate n [] = orFill a b n 0 := by unfold orFill orRs; simp
theorem orFill_set {a b : Rows} {n j : Nat} {x y : Row} (hj : j < n) (hx : a[((j : Nat) : Int).toNat]? = some x) (hy : b[((j : Nat) : Int).toNat]? = some y) : (orFill a b n j).set j (orR x y) = orFill a b n (j + 1) := by
  unfold orFill
  rw [orRs_step, rowAt_of hx, rowAt_of hy]
  have hl := orRs_len a b j
  rw [List.set_append_right _ _ (by omega), hl, Nat.sub_self, show n - j = n - (j + 1) + 1 from by omega, List.replicate_succ, List.set_cons_zero]
  simp
theorem orFill_end {a b : Rows} {n j : Nat} (hj : n ≤ j) (h : j ≤ n) : orFill a b n j = orRs a b n := by
  obtain rfl : n = j := by omega
  unfold orFill; simp
theorem or_rowP {n : Nat} (p q : Nat → Bool) : orR (rowP n p) (rowP n q) = rowP n fun k => p k || q k := by
  refine row_is (by rw [orR_length, rowP_len, rowP_len]; omega) fun k => ?_
  rw [hasR_or, rowP_has, rowP_has]
  by_cases hk : k < n <;> simp [hk]
theorem orRs_matP {n : Nat} (p q : Nat → Nat → Bool) : orRs (matP n p) (matP n q) n = matP n fun a b => p a b || q a b := by
  refine mat_is (orRs_len _ _ _) fun i hi => ?_
  unfold orRs
  rw [List.getElem?_map, List.getElem?_range hi]
  simp only [Option.map_some]
  rw [rowAt_matP (by omega) (by omega), rowAt_matP (by omega) (by omega), Int.toNat_natCast, or_rowP]
end Go.Ew
namespace Go.Ew
set_option linter.unusedVariables false
set_option linter.unusedSimpArgs false
set_option linter.unusedSectionVars false
theorem right_pos {n : Int} {rs : Rows} (h : rightS n rs = true) : 0 ≤ n := (right_sq h).2.2.2.1
section
variable {n : Int} {rs : Rows} {i j : Int} (h : rightS n rs = true) (hi : inM n [i, j] = true)
include h hi
end
end Go.Ew
namespace Go.Ew
set_option linter.unusedVariables false
set_option linter.unusedSimpArgs false
set_option linter.unusedSectionVars false
theorem join_from {l : List Item} {i j : Nat} {B e : Nat} {iv fv : Value} {a b xs : Row} {q : Nat} (hj : l[j]? = some (own B e fv b)) (hi : i < l.length) (hne : i ≠ j ∨ (iv = fv ∧ b = a)) (hxl : xs.length = a.length) (hxs : xs = orTo a.length a b a q) (hq : q ≤ b.length) (hlen : b.length ≤ a.length) :
    ∃ ys : Row, (l.set i (own B e iv xs))[j]? = some (own B e fv ys) ∧ ys.length = b.length ∧ ∀ x, ys[((q : Nat) : Int).toNat]? = some x → b.getD q 0#64 = x := by
  by_cases h : i = j
  · subst h
    rcases hne with h | ⟨rfl, rfl⟩
    · exact absurd rfl h
    · refine ⟨xs, by rw [List.getElem?_set_self hi], hxl, fun x hx => ?_⟩
      rw [hxs] at hx
      exact (orTo_get hx).symm
  · exact ⟨b, by rw [List.getElem?_set_ne h, hj], rfl, fun x hx => getD_at hx⟩
theorem join_step {a b xs : Row} {q : Nat} {x y : BitVec 64} (hs : xs = orTo a.length a b a q) (hx : b.getD q 0#64 = x) (hy : xs[((q : Nat) : Int).toNat]? = some y) : xs.set ((q : Nat) : Int).toNat (y ||| x) = orTo a.length a b a (q + 1) := by
  subst hs
  have e1 := orTo_get hy
  rw [Int.toNat_natCast]
  exact orTo_set (by rw [e1]; unfold orAt; rw [hx])
theorem join_end {a b xs : Row} {q : Nat} (hs : xs = orTo a.length a b a q) (hlen : b.length ≤ a.length) (hq : b.length ≤ q) : xs = orR a b := by
  rw [hs]
  refine orTo_all (by omega) (fun i h1 h2 => ?_)
  unfold orAt
  rw [getD_out (show b.length ≤ i by omega)]; simp
theorem set_at {l : List Item} {i : Nat} {it : Item} (hi : i < l.length) : (l.set i it)[i]? = some it := List.getElem?_set_self hi
theorem set_set {l : List Item} {i : Nat} {x y : Item} : (l.set i x).set i y = l.set i y := List.set_set ..
theorem set_own {l : List Item} {i : Nat} {x : Item} (h : l[i]? = some x) : l.set i x = l := by
  apply List.ext_getElem?
  intro m
  rw [List.getElem?_set]
  split
  · rename_i e
    subst e
    split
    · exact h.symm
    · rename_i hl
      rw [List.getElem?_eq_none (by omega)]
  · rfl
end Go.Ew
namespace Go.Ew
set_option linter.unusedVariables false
set_option linter.unusedSimpArgs false
section
variable {n : Int} {rs : Rows} (h : rightS n rs = true)
include h
end
end Go.Ew
namespace Go.Ew
set_option linter.unusedVariables false
set_option linter.unusedSimpArgs false
theorem right_row_len {n : Int} {mr : Rows} (h : rightS n mr = true) {i : Nat} {x : Row} (hx : mr[i]? = some x) : x.length = words n := by
  obtain ⟨m, p, rfl, hm, rfl⟩ := right_is h
  rw [(matP_at hx).2, rowP_len]
theorem own_new {n : Int} {mr xs : Rows} (h : rightS n mr = true) {j : Nat} {x : Row} (hs : xs = mr.take j ++ List.replicate (n.toNat - j) (newR n)) (hj : j < mr.length) (hx : xs[((j : Nat) : Int).toNat]? = some x) : x = newR n := by
  rw [Int.toNat_natCast, hs, List.getElem?_append_right (by rw [List.length_take]; omega), List.length_take, Nat.min_eq_left (by omega), Nat.sub_self] at hx
  have := List.mem_of_getElem? hx
  exact (List.mem_replicate.1 this).2
theorem own_len {n : Int} {mr xs : Rows} (h : rightS n mr = true) {j : Nat} {x y : Row} (hs : xs = mr.take j ++ List.replicate (n.toNat - j) (newR n)) (hy : mr[((j : Nat) : Int).toNat]? = some y) (hx : xs[((j : Nat) : Int).toNat]? = some x) : y.length = x.length := by
  have hj := (List.getElem?_eq_some_iff.1 hy).1
  rw [own_new h hs (by simpa using hj) hx, newR_length, right_row_len h hy]
theorem own_pos {n : Int} {mr xs : Rows} (h : rightS n mr = true) {j : Nat} {x y : Row} (hs : xs = mr.take j ++ List.replicate (n.toNat - j) (newR n)) (hy : mr[((j : Nat) : Int).toNat]? = some y) (hx : xs[((j : Nat) : Int).toNat]? = some x) : 0 < x.length := by
  have hj := (List.getElem?_eq_some_iff.1 hy).1
  have hl := (right_sq h).1
  rw [own_new h hs (by simpa using hj) hx, newR_length]
  have h0 : 1 ≤ n := by rw [Int.toNat_natCast] at hj; omega
  unfold words; omega
theorem own_step {n : Int} {mr xs : Rows} (h : rightS n mr = true) {j : Nat} {y : Row} (hs : xs = mr.take j ++ List.replicate (n.toNat - j) (newR n)) (hy : mr[((j : Nat) : Int).toNat]? = some y) : xs.set ((j : Nat) : Int).toNat y = mr.take (j + 1) ++ List.replicate (n.toNat - (j + 1)) (newR n) := by
  have hj := (List.getElem?_eq_some_iff.1 hy).1
  have hl := (right_sq h).1
  rw [take_at hy]
  rw [Int.toNat_natCast] at hj ⊢
  have hlt : (mr.take j).length = j := by rw [List.length_take]; omega
  rw [hs, List.set_append_right _ _ (by omega), hlt, Nat.sub_self, show n.toNat - j = n.toNat - (j + 1) + 1 from by omega, List.replicate_succ, List.set_cons_zero]
  simp
theorem own_end {n : Int} {mr xs : Rows} {j : Nat} (h : rightS n mr = true) (hs : xs = mr.take j ++ List.replicate (n.toNat - j) (newR n)) (hj : mr.length ≤ j) : xs = mr := by
  have hl := (right_sq h).1
  rw [hs, take_end hj, show n.toNat - j = 0 from by omega]; simp
def relM (rs : Rows) (i j : Nat) : Bool := hasR (rs.getD i []) ((j : Nat) : Int)
theorem right_rel {n : Int} {rs : Rows} (h : rightS n rs = true) : rs = matP n.toNat (relM rs) := by
  obtain ⟨m, p, rfl, hm, rfl⟩ := right_is h
  rw [Int.toNat_natCast]
  refine matP_congr fun i j hi hj => ?_
  unfold relM
  rw [List.getD_eq_getElem?_getD, matP_get hi]
  show p i j = hasR (rowP m (p i)) _
  rw [rowP_has]; simp [hj]
def wM (p : Nat → Nat → Bool) : Nat → Nat → Nat → Bool
  | 0, a, b => p a b
  | k + 1, a, b => wM p k a b || (wM p k a k && wM p k k b)
def wR (p : Nat → Nat → Bool) (k i a b : Nat) : Bool := if a < i then wM p (k + 1) a b else wM p k a b
theorem wM_self (p : Nat → Nat → Bool) (k b : Nat) : wM p (k + 1) k b = wM p k k b := by
  show (wM p k k b || (wM p k k k && wM p k k b)) = wM p k k b
  cases wM p k k b <;> simp
theorem wR_zero (p : Nat → Nat → Bool) (n k : Nat) : matP n (wM p k) = matP n (wR p k 0) := matP_congr fun a b _ _ => by unfold wR; simp
theorem wR_end (p : Nat → Nat → Bool) {n k i : Nat} (h : n ≤ i) : matP n (wR p k i) = matP n (wM p (k + 1)) := matP_congr fun a b ha _ => by unfold wR; rw [if_pos (by omega)]
theorem wR_row {p : Nat → Nat → Bool} {n k i : Nat} {x : Row} (hx : (matP n (wR p k i))[i]? = some x) : x = rowP n (wM p k i) := by
  rw [(matP_at hx).2]
  exact rowP_congr fun b _ => by unfold wR; rw [if_neg (by omega)]
theorem wR_rowk {p : Nat → Nat → Bool} {n k i : Nat} {y : Row} (hy : (matP n (wR p k i))[k]? = some y) : y = rowP n (wM p k k) := by
  rw [(matP_at hy).2]
  exact rowP_congr fun b _ => by
    unfold wR; split
    · exact wM_self p k b
    · rfl
theorem wR_yes {p : Nat → Nat → Bool} {n k i : Nat} {xs : Rows} {x y : Row} (hs : xs = matP n (wR p k i)) (hx : xs[i]? = some x) (hy : xs[k]? = some y) (hk : k < n) (h : hasR x ((k : Nat) : Int) = true) : xs.set i (orR x y) = matP n (wR p k (i + 1)) := by
  subst hs
  rw [wR_row hx] at h ⊢
  rw [wR_rowk hy, or_rowP, matP_set]
  rw [rowP_has] at h
  have hik : wM p k i k = true := by simpa [hk] using h
  refine matP_congr fun a b _ _ => ?_
  by_cases e : a = i
  · subst e
    rw [if_pos rfl]
    unfold wR
    rw [if_pos (by omega)]
    show _ = (wM p k a b || (wM p k a k && wM p k k b))
    rw [hik, Bool.true_and]
  · rw [if_neg e]
    unfold wR
    by_cases h2 : a < i
    · rw [if_pos h2, if_pos (by omega)]
    · rw [if_neg h2, if_neg (by omega)]
theorem wR_no {p : Nat → Nat → Bool} {n k i : Nat} {xs : Rows} {x : Row} (hs : xs = matP n (wR p k i)) (hx : xs[i]? = some x) (hk : k < n) (h : hasR x ((k : Nat) : Int) = false) : xs = matP n (wR p k (i + 1)) := by
  subst hs
  rw [wR_row hx, rowP_has] at h
  have hik : wM p k i k = false := by simpa [hk] using h
  refine matP_congr fun a b _ _ => ?_
  unfold wR
  by_cases h2 : a < i
  · rw [if_pos h2, if_pos (by omega)]
  · by_cases e : a = i
    · subst e
      rw [if_neg h2, if_pos (by omega)]
      show _ = (wM p k a b || (wM p k a k && wM p k k b))
      rw [hik]; simp
    · rw [if_neg h2, if_neg (by omega)]
def closeM (n : Int) (rs : Rows) : Rows := matP n.toNat (wM (relM rs) n.toNat)
theorem closeM_len (n : Int) (rs : Rows) : (closeM n rs).length = n.toNat := matP_len _ _
theorem wR_len {p : Nat → Nat → Bool} {n k i q : Nat} {x : Row} (hx : (matP n (wR p k i))[q]? = some x) : x.length = words ((n : Nat) : Int) := by rw [(matP_at hx).2, rowP_len]
end Go.Ew
namespace Go.Ew
set_option linter.unusedVariables false
set_option linter.unusedSimpArgs false
set_option linter.unusedSectionVars false
inductive TC (n : Nat) (p : Nat → Nat → Bool) : Nat → Nat → Prop
  | one {a b : Nat} : a < n → b < n → p a b = true → TC n p a b
  | cons {a b c : Nat} : a < n → b < n → p a b = true → TC n p b c → TC n p a c
section
variable {n : Nat} {p q : Nat → Nat → Bool} {a b c : Nat}
theorem TC.lt (h : TC n p a b) : a < n ∧ b < n := by
  induction h with
  | one h1 h2 _ => exact ⟨h1, h2⟩
  | cons h1 _ _ _ ih => exact ⟨h1, ih.2⟩
theorem TC.trans (h : TC n p a b) (k : TC n p b c) : TC n p a c := by
  induction h with
  | one h1 h2 h3 => exact .cons h1 h2 h3 k
  | cons h1 h2 h3 _ ih => exact .cons h1 h2 h3 (ih k)
theorem TC.mono (h : TC n p a b) (hpq : ∀ x y, x < n → y < n → p x y = true → q x y = true) : TC n q a b := by
  induction h with
  | one h1 h2 h3 => exact .one h1 h2 (hpq _ _ h1 h2 h3)
  | cons h1 h2 h3 _ ih => exact .cons h1 h2 (hpq _ _ h1 h2 h3) ih
theorem TC.least {R : Nat → Nat → Prop} (h : TC n p a b) (h1 : ∀ x y, x < n → y < n → p x y = true → R x y) (h2 : ∀ x y z, x < n → y < n → z < n → R x y → R y z → R x z) : R a b := by
  induction h with
  | one k1 k2 k3 => exact h1 _ _ k1 k2 k3
  | cons k1 k2 k3 k4 ih => exact h2 _ _ _ k1 k2 k4.lt.2 (h1 _ _ k1 k2 k3) ih
theorem TC.last (h : TC n p a c) : p a c = true ∨ ∃ b, TC n p a b ∧ p b c = true := by
  induction h with
  | one _ _ h3 => exact .inl h3
  | cons h1 h2 h3 _ ih =>
    rcases ih with h | ⟨b, h4, h5⟩
    · exact .inr ⟨_, .one h1 h2 h3, h⟩
    · exact .inr ⟨b, .cons h1 h2 h3 h4, h5⟩
end
theorem wM_sound {n : Nat} {p : Nat → Nat → Bool} : ∀ k, k ≤ n → ∀ a b, a < n → b < n → wM p k a b = true → TC n p a b
  | 0, _, a, b, ha, hb, h => .one ha hb h
  | k + 1, hk, a, b, ha, hb, h => by
    have h : (wM p k a b || (wM p k a k && wM p k k b)) = true := h
    rw [Bool.or_eq_true, Bool.and_eq_true] at h
    rcases h with h | ⟨h1, h2⟩
    · exact wM_sound k (by omega) a b ha hb h
    · exact (wM_sound k (by omega) a k ha (by omega) h1).trans (wM_sound k (by omega) k b (by omega) hb h2)
theorem wM_succ {p : Nat → Nat → Bool} {k a b : Nat} : wM p (k + 1) a b = true ↔ wM p k a b = true ∨ (wM p k a k = true ∧ wM p k k b = true) := by
  show (wM p k a b || (wM p k a k && wM p k k b)) = true ↔ _
  rw [Bool.or_eq_true, Bool.and_eq_true]
theorem wM_up {p : Nat → Nat → Bool} {a b : Nat} : ∀ k, p a b = true → wM p k a b = true
  | 0, h => h
  | k + 1, h => wM_succ.2 (.inl (wM_up k h))
theorem wM_closed {p : Nat → Nat → Bool} : ∀ k a b c, c < k → wM p k a c = true → wM p k c b = true → wM p k a b = true
  | 0, _, _, _, h, _, _ => absurd h (Nat.not_lt_zero _)
  | k + 1, a, b, c, h, h1, h2 => by
    have ih := fun a b c => wM_closed (p := p) k a b c
    rw [wM_succ] at h1 h2 ⊢
    by_cases hc : c < k
    · rcases h1 with h1 | ⟨h1, h3⟩
      · rcases h2 with h2 | ⟨h2, h4⟩
        · exact .inl (ih _ _ _ hc h1 h2)
        · exact .inr ⟨ih _ _ _ hc h1 h2, h4⟩
      · rcases h2 with h2 | ⟨h2, h4⟩
        · exact .inr ⟨h1, ih _ _ _ hc h3 h2⟩
        · exact .inr ⟨h1, h4⟩
    · have : c = k := by omega
      subst this
      have e1 : wM p c a c = true := by
        rcases h1 with h1 | ⟨h1, _⟩ <;> exact h1
      have e2 : wM p c c b = true := by
        rcases h2 with h2 | ⟨_, h2⟩ <;> exact h2
      exact .inr ⟨e1, e2⟩
def cl (n : Nat) (p : Nat → Nat → Bool) (a b : Nat) : Bool := wM p n a b
theorem cl_iff {n : Nat} {p : Nat → Nat → Bool} {a b : Nat} (ha : a < n) (hb : b < n) : cl n p a b = true ↔ TC n p a b :=
  ⟨wM_sound n (Nat.le_refl _) a b ha hb, fun h => h.least (R := fun x y => cl n p x y = true) (fun x y _ _ hp => wM_up n hp) fun x y z _ hy _ h1 h2 => wM_closed n x z y hy h1 h2⟩
theorem cl_congr {n : Nat} {p q : Nat → Nat → Bool} (h : ∀ a b, a < n → b < n → p a b = q a b) {a b : Nat} (ha : a < n) (hb : b < n) : cl n p a b = cl n q a b := by
  rw [Bool.eq_iff_iff, cl_iff ha hb, cl_iff ha hb]
  exact ⟨fun k => k.mono fun x y hx hy hp => by rw [← h x y hx hy]; exact hp, fun k => k.mono fun x y hx hy hp => by rw [h x y hx hy]; exact hp⟩
theorem relM_matP {n : Nat} {p : Nat → Nat → Bool} {a b : Nat} (ha : a < n) (hb : b < n) : relM (matP n p) a b = p a b := by
  unfold relM
  rw [List.getD_eq_getElem?_getD, matP_get ha]
  show hasR (rowP n (p a)) _ = _
  rw [rowP_has]; simp [hb]
theorem closeM_matP {n : Nat} {p : Nat → Nat → Bool} : closeM ((n : Nat) : Int) (matP n p) = matP n (cl n p) := by
  unfold closeM
  rw [Int.toNat_natCast]
  exact matP_congr fun a b ha hb => cl_congr (fun x y hx hy => relM_matP hx hy) ha hb
end Go.Ew
namespace Go.Ew
set_option linter.unusedVariables false
set_option linter.unusedSimpArgs false
set_option linter.unusedSectionVars false
theorem close_end {n : Int} {rs xs : Rows} {q : Nat} (hs : xs = matP n.toNat (wM (relM rs) q)) (hq : q ≤ n.toNat) (hq2 : n.toNat ≤ q) : xs = closeM n rs := by
  obtain rfl : q = n.toNat := by omega
  exact hs
section
variable {n : Int} {rs : Rows} (h : rightS n rs = true)
include h
theorem close_start : rs = matP n.toNat (wM (relM rs) 0) := right_rel h
theorem has_rel {a b : Nat} (ha : ((a : Nat) : Int) < n) (hb : ((b : Nat) : Int) < n) : hasM n rs ((a : Nat) : Int) ((b : Nat) : Int) = relM rs a b := by
  obtain ⟨m, p, rfl, hm, rfl⟩ := right_is h
  rw [hasM_nat (by omega) (by omega), relM_matP (by omega) (by omega)]
theorem has_relI {a b : Int} (ha : 0 ≤ a ∧ a < n) (hb : 0 ≤ b ∧ b < n) : hasM n rs a b = relM rs a.toNat b.toNat := by
  have := has_rel h (a := a.toNat) (b := b.toNat) (by omega) (by omega)
  rwa [Int.toNat_of_nonneg ha.1, Int.toNat_of_nonneg hb.1] at this
end
section
variable {n : Int} {rs xs : Rows} {i j : Int} (h : rightS n rs = true)
include h
end
section
variable {n : Int} {rs xs : Rows} {l : List Int} {mk : Row} {k : Nat} (h : rightS n rs = true)
include h
end
end Go.Ew
namespace Go.Ew
set_option linter.unusedVariables false
set_option linter.unusedSimpArgs false
set_option linter.unusedSectionVars false
structure Rch (n : Nat) (p : Nat → Nat → Bool) (i : Nat) (sn : List Bool) (td : List Int) (at_ : Int) (j : Nat) : Prop where
  len : sn.length = n
  snd : ∀ k, sn.getD k false = true → TC n p i k
  tdo : ∀ t ∈ td, ∃ k, t = ((k : Nat) : Int) ∧ k < n ∧ (k = i ∨ sn.getD k false = true)
  don : ∀ x, x < n → (x = i ∨ sn.getD x false = true) → ((x : Nat) : Int) ∈ td ∨ (((x : Nat) : Int) = at_ ∧ ∀ y, y < j → p x y = true → sn.getD y false = true) ∨ ∀ y, y < n → p x y = true → sn.getD y false = true
section
variable {n : Nat} {p : Nat → Nat → Bool} {i j : Nat} {sn : List Bool} {td : List Int} {at_ : Int}
end
section
variable {n : Int} {rs : Rows} {i a j : Nat} {sn : List Bool} {td : List Int} {x : Int} (rt : rightS n rs = true) (e : x = ((a : Nat) : Int)) (h : Rch n.toNat (relM rs) i sn td x j) (han : a < n.toNat) (hj : j < n.toNat)
include rt e h han hj
end
section
variable {k : Int} {l : List (BitVec 8 × BitVec 8)} {z : BitVec 8 × BitVec 8} (hk : 0 < k) (h4 : k ≤ 4096)
include hk h4
end
end Go.Ew
namespace Go.Ew
set_option linter.unusedVariables false
set_option linter.unusedSimpArgs false
set_option linter.unusedSectionVars false
section
variable {n : Int} {rs : Rows} (h : rightS n rs = true)
include h
end
end Go.Ew
namespace Go.Ew
set_option linter.unusedVariables false
set_option linter.unusedSimpArgs false
set_option linter.unusedSectionVars false
def o11 (h : HistL) : Bool := rightH h && decide ((chkA (ofI h)).2.2 = 0)
def o11V (h : HistL) : List ByteArray := if o11 h then ofV h else []
def o11I (h : HistL) : List ItemL := if o11 h then ofI h else []
def o11F (h : HistL) : List Int := if o11 h then fromR (ofI h) else []
theorem o11_no {h : HistL} (hq : o11 h = false) : o11V h = [] ∧ o11I h = [] ∧ o11F h = [] := by unfold o11V o11I o11F; simp [hq]
theorem o11_yes {h : HistL} (hq : o11 h = true) : o11V h = ofV h ∧ o11I h = ofI h ∧ o11F h = fromR (ofI h) := by unfold o11V o11I o11F; simp [hq]
theorem o11_no1 {h : HistL} (he : ¬ ofE h = 0) : o11 h = false := by
  unfold o11
  cases hr : rightH h with
  | false => rfl
  | true => exact absurd (of_ok hr).2.2 he
theorem o11_r {h : HistL} (he : ofE h = 0) : rightH h = true := by
  cases hr : rightH h with
  | true => rfl
  | false => rw [(of_bad hr).2.2] at he; cases he
theorem o11_no2 {h : HistL} (he : ¬ (chkA (ofI h)).2.2 = 0) : o11 h = false := by unfold o11; rw [decide_eq_false he]; simp
theorem o11_is {h : HistL} (he : ofE h = 0) (hc : (chkA (ofI h)).2.2 = 0) : o11 h = true := by unfold o11; rw [o11_r he, decide_eq_true hc]; rfl
theorem o11I_len (h : HistL) : (o11I h).length ≤ h.flatten.length := by
  unfold o11I; split
  · exact ofI_len h
  · simp
theorem ord_nil : OrdI ([] : List ItemL) := ⟨fun h => absurd h (Nat.lt_irrefl 0), fun i h => absurd h (Nat.not_lt_zero _)⟩
theorem o11_ord (h : HistL) : OrdI (o11I h) := by
  unfold o11I; split
  · exact ofI_ord h
  · exact ord_nil
theorem o11F_len (h : HistL) : (o11F h).length = (o11I h).length := by
  unfold o11F o11I; split
  · exact fromR_len _
  · rfl
theorem fromR_lt {its : List ItemL} : ∀ x ∈ fromR its, x < ((its.length : Nat) : Int) := by
  intro x hx
  unfold fromR at hx
  obtain ⟨y, hy, rfl⟩ := List.mem_map.1 hx
  have := (reads_facts (its := its) (x := y) rfl).2.2.2.1
  exact this
theorem o11F_lt (h : HistL) : ∀ x ∈ o11F h, x < (((o11I h).length : Nat) : Int) := by
  unfold o11F o11I; split
  · exact fromR_lt
  · intro x hx; cases hx
def rfP (fo : List Int) (a b : Nat) : Bool := decide (fo.getD b (-1) = ((a : Nat) : Int))
def rfR (fi : List ItemL) (fo : List Int) : Rows := matP fi.length (rfP fo)
def rfTo (n : Nat) (fo : List Int) (j : Nat) : Rows := matP n fun a b => decide (b < j) && rfP fo a b
theorem rf_zero (n : Nat) (fo : List Int) : newM ((n : Nat) : Int) = rfTo n fo 0 := by
  rw [newM_matP]; exact matP_congr fun a b _ _ => by simp
theorem rf_end {fi : List ItemL} {fo : List Int} {j : Nat} (hl : fo.length = fi.length) (hj : fo.length ≤ j) : rfTo fi.length fo j = rfR fi fo :=
  matP_congr fun a b _ hb => by rw [decide_eq_true (show b < j by omega)]; rfl
theorem rf_no {n : Nat} {fo : List Int} {j : Nat} {w : Int} (hw : fo[((j : Nat) : Int).toNat]? = some w) (h : w < 0) : rfTo n fo j = rfTo n fo (j + 1) := by
  refine matP_congr fun a b ha hb => ?_
  by_cases e : b = j
  · subst e
    rw [Int.toNat_natCast] at hw
    unfold rfP
    rw [List.getD_eq_getElem?_getD, hw, decide_eq_false (show ¬ (some w).getD (-1) = ((a : Nat) : Int) by simp; omega)]; simp
  · have : decide (b < j) = decide (b < j + 1) := by rw [decide_eq_decide]; omega
    rw [this]
theorem rf_in {n j : Nat} {w : Int} (h0 : 0 ≤ w) (hw : w < ((n : Nat) : Int)) (hj : j < n) : inM ((n : Nat) : Int) [w, ((j : Nat) : Int)] = true := inM_two.2 (by omega)
theorem rf_set {n : Nat} {fo : List Int} {j : Nat} {w : Int} (hw : fo[((j : Nat) : Int).toNat]? = some w) (h0 : 0 ≤ w) (h1 : w < ((n : Nat) : Int)) (hj : j < n) : setM (rfTo n fo j) (w, ((j : Nat) : Int)) = rfTo n fo (j + 1) := by
  unfold rfTo
  rw [setM_matP (rf_in h0 h1 hj)]
  refine matP_congr fun a b ha hb => ?_
  rw [Int.toNat_natCast] at hw ⊢
  by_cases e : b = j
  · subst e
    rw [decide_eq_false (Nat.lt_irrefl b), decide_eq_true (Nat.lt_succ_self b), decide_eq_true rfl]
    unfold rfP
    rw [List.getD_eq_getElem?_getD, hw]
    show (false && _ || decide (a = w.toNat) && true) = (true && decide (w = ((a : Nat) : Int)))
    rw [Bool.false_and, Bool.false_or, Bool.and_true, Bool.true_and, decide_eq_decide]
    omega
  · rw [decide_eq_false e, Bool.and_false, Bool.or_false]
    have : decide (b < j) = decide (b < j + 1) := by rw [decide_eq_decide]; omega
    rw [this]
theorem rf_put {n : Nat} {fo : List Int} {j : Nat} {w : Int} {xs : Rows} {x : Row} (hs : xs = rfTo n fo j) (hw : fo[((j : Nat) : Int).toNat]? = some w) (h0 : 0 ≤ w) (h1 : w < ((n : Nat) : Int)) (hj : j < n) (hx : xs[w.toNat]? = some x) : xs.set w.toNat (setR x ((j : Nat) : Int)) = rfTo n fo (j + 1) := by
  rw [setM_of hx, hs]; exact rf_set hw h0 h1 hj
theorem rfTo_len (n : Nat) (fo : List Int) (j : Nat) : (rfTo n fo j).length = n := matP_len _ _
theorem rfR_len (fi : List ItemL) (fo : List Int) : (rfR fi fo).length = fi.length := matP_len _ _
theorem rfTo_sq {n : Nat} (h : n ≤ 4096) (fo : List Int) (j : Nat) : (((rfTo n fo j).length : Nat) : Int) = ((n : Nat) : Int) ∧ ∀ x ∈ rfTo n fo j, x.length ≤ 1000000000 := ⟨by rw [rfTo_len], matP_small h⟩
theorem mat_sq {n : Nat} (h : n ≤ 4096) (P : Nat → Nat → Bool) : (((matP n P).length : Nat) : Int) = ((n : Nat) : Int) ∧ ∀ x ∈ matP n P, x.length ≤ 1000000000 := ⟨by rw [matP_len], matP_small h⟩
def edP (fi : List ItemL) (fo : List Int) (a b : Nat) : Bool := ahN fi a b || rfP fo a b
def edR (fi : List ItemL) (fo : List Int) : Rows := matP fi.length (edP fi fo)
theorem ed_or (fi : List ItemL) (fo : List Int) : orMN ((fi.length : Nat) : Int) ((fi.length : Nat) : Int) = ((fi.length : Nat) : Int) ∧ orMR ((fi.length : Nat) : Int) (poR fi) ((fi.length : Nat) : Int) (rfR fi fo) = edR fi fo := by
  refine ⟨(orM_yes (ar := poR fi) (br := rfR fi fo) rfl).1, ?_⟩
  rw [(orM_yes rfl).2.1, Int.toNat_natCast]
  exact orRs_matP _ _
def coP (fi : List ItemL) (fo : List Int) : Nat → Nat → Bool := cl fi.length (edP fi fo)
def coR (fi : List ItemL) (fo : List Int) : Rows := matP fi.length (coP fi fo)
theorem co_close (fi : List ItemL) (fo : List Int) : closeM ((fi.length : Nat) : Int) (edR fi fo) = coR fi fo := closeM_matP
theorem ed_right {fi : List ItemL} (fo : List Int) (h : fi.length ≤ 4096) : rightS ((fi.length : Nat) : Int) (edR fi fo) = true := right_matP h
theorem co_right {fi : List ItemL} (fo : List Int) (h : fi.length ≤ 4096) : rightS ((fi.length : Nat) : Int) (coR fi fo) = true := right_matP h
end Go.Ew
namespace Go.Ew
set_option linter.unusedVariables false
set_option linter.unusedSimpArgs false
set_option linter.unusedSectionVars false
def moreH (h : HistL) (last : Nat) (x : List OpL) (o : OpL) : HistL := h.take last ++ [x ++ [o]]
section
variable {h : HistL} {last : Nat} {x : List OpL} {o : OpL}
theorem more_flat (hl : last + 1 = h.length) (hx : h[last]? = some x) : (moreH h last x o).flatten = h.flatten ++ [o] := by
  have h1 : h = h.take last ++ [x] := by
    have := List.take_add_one (l := h) (i := last)
    rw [hx, List.take_of_length_le (by omega)] at this
    exact this
  unfold moreH
  rw [List.flatten_append]
  conv => rhs; rw [h1, List.flatten_append]
  simp
theorem more_fact (hl : last + 1 = h.length) (hx : h[last]? = some x) : ∃ y : ItemL, factI (moreH h last x o) = factI h ++ [y] ∧ y.2.2.1 = o.1 := by
  have hgl : (moreH h last x o).length = last + 1 := by unfold moreH; simp; omega
  have ht : (moreH h last x o).take last = h.take last := by unfold moreH; exact List.take_left' (by simp; omega)
  have hg : (moreH h last x o)[((last : Nat) : Int).toNat]? = some (x ++ [o]) := by
    rw [Int.toNat_natCast]; unfold moreH
    rw [List.getElem?_append_right (by simp; omega)]
    simp [List.length_take, Nat.min_eq_left (by omega : last ≤ h.length)]
  have hxx : h[((last : Nat) : Int).toNat]? = some x := by rw [Int.toNat_natCast]; exact hx
  have hpre : allO (moreH h last x o) last = allO h last := by unfold allO; rw [ht]
  have hoo : (x ++ [o])[((x.length : Nat) : Int).toNat]? = some o := by rw [Int.toNat_natCast, List.getElem?_append_right (Nat.le_refl _)]; simp
  have hto : toO last (allO h last) (x ++ [o]) x.length = sesO last (allO h last) x := by
    unfold sesO toO
    rw [List.take_left' rfl, List.take_of_length_le (Nat.le_refl _)]
  have key : allO (moreH h last x o) (last + 1) = stepO last (allO h (last + 1)) (o, x.length) := by
    rw [allO_step hg, allO_step hxx, hpre]
    have : sesO last (allO h last) (x ++ [o]) = toO last (allO h last) (x ++ [o]) (x.length + 1) := by unfold sesO; rw [List.length_append, List.length_singleton]
    rw [this, toO_step hoo, hto]
  unfold factI
  rw [hgl, ← hl, key]
  exact ⟨_, rfl, rfl⟩
end
section
variable {its : List ItemL} {y : ItemL}
theorem wrI_more (hy : y.2.2.1 = false) (v val : Int) : wrI (its ++ [y]) v val = wrI its v val := by
  unfold wrI idxF
  have hyn : isW v val y = false := by unfold isW; rw [hy]; rfl
  rw [List.findIdx?_append]
  cases h : its.findIdx? (isW v val) with
  | some i => rfl
  | none => simp [hyn]
theorem wrI_lt (v val : Int) : wrI its v val < ((its.length : Nat) : Int) := by
  unfold wrI idxF
  cases h : its.findIdx? (isW v val) with
  | none => show (-1 : Int) < _; omega
  | some i =>
    have := (List.findIdx?_eq_some_iff_getElem.1 h).1
    show ((i : Nat) : Int) < _; omega
theorem badI_more (hy : y.2.2.1 = false) {j : Nat} (hj : j < its.length) : badI (its ++ [y]) j = badI its j := by
  unfold badI
  rw [List.getElem?_append_left hj]
  cases its[j]? with
  | none => rfl
  | some x => simp only [Option.any_some]; unfold bad1; rw [wrI_more hy]
theorem badI_last (hy : y.2.2.1 = false) : badI (its ++ [y]) its.length = false := by
  unfold badI bad1
  simp [hy]
theorem chk_more (hy : y.2.2.1 = false) : chkA (its ++ [y]) = chkA its := by
  have hfb : fbI (its ++ [y]) = fbI its := by
    unfold fbI
    rw [List.length_append, List.length_singleton, List.range_succ, List.find?_append]
    have e1 : (List.range its.length).find? (badI (its ++ [y])) = (List.range its.length).find? (badI its) := by
      have : ∀ l : List Nat, (∀ k ∈ l, k < its.length) → l.find? (badI (its ++ [y])) = l.find? (badI its) := by
        intro l
        induction l with
        | nil => intro _; rfl
        | cons a l ih =>
          intro hl
          rw [List.find?_cons, List.find?_cons, badI_more hy (hl a List.mem_cons_self), ih fun k hk => hl k (List.mem_cons_of_mem _ hk)]
      exact this _ fun k hk => List.mem_range.1 hk
    rw [e1]
    have e2 : [its.length].find? (badI (its ++ [y])) = none := by rw [List.find?_cons, badI_last hy]; rfl
    rw [e2]
    cases (List.range its.length).find? (badI its) <;> rfl
  unfold chkA
  rw [hfb]
  cases hf : fbI its with
  | none => rfl
  | some j =>
    have hj : j < its.length := by
      have := List.mem_of_find?_eq_some hf
      exact List.mem_range.1 this
    simp only []
    rw [List.getElem?_append_left hj]
    cases its[j]? with
    | none => rfl
    | some x => simp only []; rw [wrI_more hy]
theorem from_more (hy : y.2.2.1 = false) : ∃ z, fromR (its ++ [y]) = fromR its ++ [z] ∧ z < ((its.length : Nat) : Int) := by
  have hfr : ∀ x, frI (its ++ [y]) x = frI its x := fun x => by unfold frI; rw [wrI_more hy]
  refine ⟨frI its y, ?_, ?_⟩
  · unfold fromR
    rw [List.map_append, List.map_singleton, hfr y]
    congr 1
    exact List.map_congr_left fun x _ => hfr x
  · unfold frI
    have := wrI_lt (its := its) y.2.2.2.1 y.2.2.2.2
    split
    · omega
    · split
      · omega
      · split <;> omega
end
section
variable {its : List ItemL} {fo : List Int} {y : ItemL} {z : Int} (hl : fo.length = its.length) (hz : z < ((its.length : Nat) : Int)) (hfo : ∀ x ∈ fo, x < ((its.length : Nat) : Int))
include hl hz hfo
theorem ed_more {a b : Nat} (ha : a < its.length) (hb : b < its.length) : edP (its ++ [y]) (fo ++ [z]) a b = edP its fo a b := by
  unfold edP
  have e1 : ahN (its ++ [y]) a b = ahN its a b := by
    unfold ahN sesN
    rw [List.length_append, List.length_singleton, decide_eq_true (show b < its.length + 1 by omega), decide_eq_true hb, List.getD_eq_getElem?_getD, List.getD_eq_getElem?_getD, List.getElem?_append_left ha, List.getElem?_append_left hb, List.getD_eq_getElem?_getD, List.getD_eq_getElem?_getD]
  have e2 : rfP (fo ++ [z]) a b = rfP fo a b := by
    unfold rfP
    rw [List.getD_eq_getElem?_getD, List.getD_eq_getElem?_getD, List.getElem?_append_left (by omega)]
  rw [e1, e2]
theorem ed_out {b : Nat} (hb : b < its.length + 1) : edP (its ++ [y]) (fo ++ [z]) its.length b = false := by
  unfold edP
  have e1 : ahN (its ++ [y]) its.length b = false := by unfold ahN; rw [decide_eq_false (show ¬ its.length < b by omega)]; rfl
  have e2 : rfP (fo ++ [z]) its.length b = false := by
    unfold rfP
    rw [decide_eq_false_iff_not, List.getD_eq_getElem?_getD]
    by_cases hbl : b < fo.length
    · rw [List.getElem?_append_left hbl, List.getElem?_eq_getElem hbl]
      have := hfo _ (List.getElem_mem hbl)
      simp only [Option.getD_some]; omega
    · have : b = fo.length := by omega
      subst this
      rw [List.getElem?_append_right (Nat.le_refl _)]
      simp; omega
  rw [e1, e2]; rfl
theorem co_in {a b : Nat} (ha : a < its.length) (hb : b < its.length) : coP (its ++ [y]) (fo ++ [z]) a b = coP its fo a b := by
  unfold coP
  rw [List.length_append, List.length_singleton, Bool.eq_iff_iff, cl_iff (by omega) (by omega), cl_iff ha hb]
  constructor
  · intro h
    have : ∀ {u w : Nat}, TC (its.length + 1) (edP (its ++ [y]) (fo ++ [z])) u w → u < its.length → w < its.length → TC its.length (edP its fo) u w := by
      intro u w h
      induction h with
      | one h1 h2 h3 => intro hu hw; exact .one hu hw (by rw [← ed_more hl hz hfo hu hw]; exact h3)
      | cons h1 h2 h3 h4 ih =>
        rename_i a' b' c'
        intro hu hw
        have hbl : b' < its.length := by
          refine Classical.byContradiction fun hn => ?_
          have : b' = its.length := by omega
          subst this
          cases h4 with
          | one k1 k2 k3 => rw [ed_out hl hz hfo k2] at k3; cases k3
          | cons k1 k2 k3 k4 => rw [ed_out hl hz hfo k2] at k3; cases k3
        exact .cons hu hbl (by rw [← ed_more hl hz hfo hu hbl]; exact h3) (ih hbl hw)
    exact this h ha hb
  · intro h
    have : ∀ {u w : Nat}, TC its.length (edP its fo) u w → TC (its.length + 1) (edP (its ++ [y]) (fo ++ [z])) u w := by
      intro u w h
      induction h with
      | one h1 h2 h3 => exact .one (by omega) (by omega) (by rw [ed_more hl hz hfo h1 h2]; exact h3)
      | cons h1 h2 h3 _ ih => exact .cons (by omega) (by omega) (by rw [ed_more hl hz hfo h1 h2]; exact h3) ih
    exact this h
theorem co_out {b : Nat} (hb : b < its.length + 1) : coP (its ++ [y]) (fo ++ [z]) its.length b = false := by
  cases hc : coP (its ++ [y]) (fo ++ [z]) its.length b with
  | false => rfl
  | true =>
    unfold coP at hc
    rw [List.length_append, List.length_singleton, cl_iff (by omega) (by omega)] at hc
    cases hc with
    | one k1 k2 k3 => rw [ed_out hl hz hfo k2] at k3; cases k3
    | cons k1 k2 k3 k4 => rw [ed_out hl hz hfo k2] at k3; cases k3
end
section
variable {h : HistL} {last : Nat} {x : List OpL} {o : OpL} (hl : last + 1 = h.length) (hx : h[last]? = some x) (ho : o.1 = false) (hn : nameS o.2.1 = true) (hf : h.flatten.length ≤ 30)
include hl hx ho hn hf
theorem more_right : rightH (moreH h last x o) = rightH h := by
  unfold rightH
  rw [more_flat hl hx, List.all_append, List.length_append, List.length_singleton, decide_eq_true (show h.flatten.length + 1 ≤ 4096 by omega), decide_eq_true (show h.flatten.length ≤ 4096 by omega)]
  have : [o].all opName = true := by simp [opName, hn]
  rw [this, Bool.and_true]
theorem more_o11 : o11 (moreH h last x o) = o11 h := by
  unfold o11 ofI
  rw [more_right hl hx ho hn hf]
  cases hr : rightH h with
  | false => rfl
  | true =>
    obtain ⟨y, e, hy⟩ := more_fact (o := o) hl hx
    rw [if_pos rfl, if_pos rfl, e, chk_more (by rw [hy, ho])]
theorem more_all (hq : o11 h = true) : ∃ y z, o11I (moreH h last x o) = o11I h ++ [y] ∧ o11F (moreH h last x o) = o11F h ++ [z] ∧ z < (((o11I h).length : Nat) : Int) := by
  have hq2 : o11 (moreH h last x o) = true := by rw [more_o11 hl hx ho hn hf]; exact hq
  have hr : rightH h = true := by
    unfold o11 at hq
    rw [Bool.and_eq_true] at hq; exact hq.1
  obtain ⟨y, e, hy⟩ := more_fact (o := o) hl hx
  obtain ⟨z, hz, hz2⟩ := from_more (its := factI h) (y := y) (by rw [hy, ho])
  refine ⟨y, z, ?_, ?_, ?_⟩
  · rw [(o11_yes hq2).2.1, (o11_yes hq).2.1]
    unfold ofI
    rw [more_right hl hx ho hn hf, hr, if_pos rfl, if_pos rfl, e]
  · rw [(o11_yes hq2).2.2, (o11_yes hq).2.2]
    unfold ofI
    rw [more_right hl hx ho hn hf, hr, if_pos rfl, if_pos rfl, e, hz]
  · rw [(o11_yes hq).2.1]
    unfold ofI
    rw [hr, if_pos rfl]; exact hz2
theorem mo_len (hq : o11 h = true) : (((o11I (moreH h last x o)).length : Nat) : Int) = (((o11I h).length : Nat) : Int) + 1 := by
  obtain ⟨y, z, e1, _, _⟩ := more_all hl hx ho hn hf hq
  rw [e1]; simp
theorem mo_has (hq : o11 h = true) {i j : Nat} (hi : i < (o11I h).length) (hj : j < (o11I h).length) :
    hasM (((o11I (moreH h last x o)).length : Nat) : Int) (coR (o11I (moreH h last x o)) (o11F (moreH h last x o))) ((i : Nat) : Int) ((j : Nat) : Int) = hasM (((o11I h).length : Nat) : Int) (coR (o11I h) (o11F h)) ((i : Nat) : Int) ((j : Nat) : Int) := by
  obtain ⟨y, z, e1, e2, e3⟩ := more_all hl hx ho hn hf hq
  have hil := o11I_len h
  have hl2 : (o11I (moreH h last x o)).length = (o11I h).length + 1 := by rw [e1]; simp
  rw [has_relI (co_right _ (by omega)) ⟨by omega, by omega⟩ ⟨by omega, by omega⟩, has_relI (co_right _ (by omega)) ⟨by omega, by omega⟩ ⟨by omega, by omega⟩, Int.toNat_natCast, Int.toNat_natCast]
  unfold coR
  rw [relM_matP (by omega) (by omega), relM_matP hi hj, e1, e2]
  exact co_in (o11F_len h) e3 (o11F_lt h) hi hj
theorem mo_out (hq : o11 h = true) {j : Nat} (hj : j < (o11I h).length) :
    hasM (((o11I (moreH h last x o)).length : Nat) : Int) (coR (o11I (moreH h last x o)) (o11F (moreH h last x o))) (((o11I h).length : Nat) : Int) ((j : Nat) : Int) = false := by
  obtain ⟨y, z, e1, e2, e3⟩ := more_all hl hx ho hn hf hq
  have hil := o11I_len h
  have hl2 : (o11I (moreH h last x o)).length = (o11I h).length + 1 := by rw [e1]; simp
  rw [has_relI (co_right _ (by omega)) ⟨by omega, by omega⟩ ⟨by omega, by omega⟩, Int.toNat_natCast, Int.toNat_natCast]
  unfold coR
  rw [relM_matP (by omega) (by omega), e1, e2]
  exact co_out (o11F_len h) e3 (o11F_lt h) (by omega)
theorem more_small : (moreH h last x o).flatten.length ≤ 4096 := by
  rw [more_flat hl hx, List.length_append, List.length_singleton]; omega
theorem more_items : (o11I (moreH h last x o)).length ≤ 4096 := by
  have h1 := o11I_len (moreH h last x o)
  have h2 := more_small hl hx ho hn hf
  omega
end
end Go.Ew
namespace Go.Ew
open Go.RowKit Go.WideShapes Go.ChangeShapes
set_option linter.unusedVariables false
set_option linter.unusedSimpArgs false
structure Bulk (B : (H : Type) → DataW H → Nat) : Prop where
  lit : ∀ (H : Type) l, 1 ≤ B H (.lit l)
  str : ∀ (H : Type) bs, bs.length + 1 ≤ B H (.lit (.string bs))
  nil : ∀ (H : Type), 1 ≤ B H .nil
  slice : ∀ (H : Type) (es sp : List (DataW H)), (es.map (B H)).sum + 1 ≤ B H (.slice es sp)
  agg : ∀ (H : Type) (ps : List (DataW H)), (ps.map (B H)).sum ≤ B H (.agg ps)
class Wt (α : Type) where
  wt : α → Nat
instance wtInt : Wt Int := ⟨fun _ => 1⟩
instance wtBV : Wt (BitVec 64) := ⟨fun _ => 1⟩
instance wtB8 : Wt (BitVec 8) := ⟨fun _ => 1⟩
instance wtBool : Wt Bool := ⟨fun _ => 1⟩
instance wtStr : Wt ByteArray := ⟨fun s => s.size + 1⟩
instance wtList {α : Type} [Wt α] : Wt (List α) := ⟨fun l => (l.map Wt.wt).sum + 1⟩
instance wtProd {α β : Type} [Wt α] [Wt β] : Wt (α × β) := ⟨fun x => Wt.wt x.1 + Wt.wt x.2⟩
theorem wt_len {α : Type} [Wt α] (h1 : ∀ x : α, 1 ≤ Wt.wt x) : ∀ l : List α, l.length ≤ (l.map Wt.wt).sum
  | [] => Nat.le_refl _
  | x :: l => by
    have := wt_len h1 l
    have := h1 x
    simp only [List.length_cons, List.map_cons, List.sum_cons]; omega
theorem wt_flat {α : Type} [Wt α] (h1 : ∀ x : α, 1 ≤ Wt.wt x) : ∀ h : List (List α), h.flatten.length ≤ Wt.wt h := by
  intro h
  show _ ≤ (h.map Wt.wt).sum + 1
  induction h with
  | nil => simp
  | cons l h ih =>
    have := wt_len h1 l
    simp only [List.flatten_cons, List.length_append, List.map_cons, List.sum_cons]
    show _ ≤ ((l.map Wt.wt).sum + 1) + (h.map Wt.wt).sum + 1
    omega
theorem wt_prod {α β : Type} [Wt α] [Wt β] (h : ∀ x : β, 1 ≤ Wt.wt x) : ∀ x : α × β, 1 ≤ Wt.wt x := fun x => by
  have := h x.2
  show 1 ≤ Wt.wt x.1 + Wt.wt x.2
  omega
theorem wt_int : ∀ x : Int, 1 ≤ Wt.wt x := fun _ => Nat.le_refl _
def OpensB (B : (H : Type) → DataW H → Nat) (P : Program) (t : TypeId) (α : Type) [GT α] [Wt α] : Prop :=
  P.cellsOf t = GT.size α ∧ ∀ {H : Type} (enc : TypeId × Value → H) (W : World) (n : Nat) (cs : List Value) (x : DataW H × List MemPlace),
    DataW.trod enc P W 0 (fun _ => true) true n t cs = some x → ∃ y : α, GT.rep NoM W cs y ∧ Wt.wt y ≤ B H x.1
section
variable {P : Program} {t e : TypeId} {B : (H : Type) → DataW H → Nat}
theorem opensB_int (hB : Bulk B) (hc : P.cellsOf t = 1) (ht : P.underlying t = some (.int .i64)) : OpensB B P t Int := by
  refine ⟨hc, fun {H} enc W n cs x h => ?_⟩
  obtain ⟨k, rfl, rfl, hw⟩ := DataW.trod_int ht h
  exact ⟨k, ⟨rfl, bounds_i64 hw⟩, hB.lit H _⟩
theorem opensB_bool (hB : Bulk B) (hc : P.cellsOf t = 1) (ht : P.underlying t = some .bool) : OpensB B P t Bool := by
  refine ⟨hc, fun {H} enc W n cs x h => ?_⟩
  obtain ⟨k, rfl, rfl⟩ := DataW.trod_bool ht h
  exact ⟨k, rfl, hB.lit H _⟩
theorem opensB_string (hB : Bulk B) (hc : P.cellsOf t = 1) (ht : P.underlying t = some .string) : OpensB B P t ByteArray := by
  refine ⟨hc, fun {H} enc W n cs x h => ?_⟩
  obtain ⟨k, rfl, rfl, hk⟩ := DataW.trod_string ht h
  refine ⟨k, ⟨rfl, hk⟩, ?_⟩
  have := hB.str H k.data.toList
  rw [Array.length_toList] at this
  exact this
theorem wt_sum {α : Type} [Wt α] {D : Type} (g : D → Nat) : ∀ (l : List α) (es : List D), l.length = es.length → (∀ (i : Nat) (y : α) (x : D), l[i]? = some y → es[i]? = some x → Wt.wt y ≤ g x) → (l.map Wt.wt).sum ≤ (es.map g).sum
  | [], [], _, _ => Nat.le_refl _
  | [], _ :: _, h, _ => by simp at h
  | _ :: _, [], h, _ => by simp at h
  | y :: l, x :: es, h, k => by
    have h1 := wt_sum g l es (by simpa using h) fun i y x hy hx => k (i + 1) y x (by simpa using hy) (by simpa using hx)
    have h2 := k 0 y x rfl rfl
    simp only [List.map_cons, List.sum_cons]; omega
theorem opensB_slice {α : Type} [GT α] [Wt α] (hB : Bulk B) (hc : P.cellsOf t = 1) (ht : P.underlying t = some (.slice e)) (O : OpensB B P e α) : OpensB B P t (List α) := by
  refine ⟨hc, fun {H} enc W n cs x h => ?_⟩
  rcases DataW.trod_slice ht h with ⟨rfl, rfl⟩ | ⟨a, len, cap, elems, rest, m, rfl, rfl, rfl, -, hl, hm, hlen, hel, -, -⟩
  · exact ⟨[], ⟨_, rfl, rs_nil _ _⟩, hB.nil H⟩
  · have one : ∀ i, i < len → ∃ y : α, At NoM W (a.add (i * GT.size α)) y ∧ ∀ z, elems[i]? = some z → Wt.wt y ≤ B H z.1 := by
      intro i hi
      have h1 := hel i hi
      rw [List.getElem?_eq_getElem (by omega : i < elems.length)] at h1
      simp only [Option.bind_eq_some_iff] at h1
      obtain ⟨ds, hd, hx⟩ := h1
      obtain ⟨y, hy, hw⟩ := O.2 enc W m ds _ hx
      rw [O.1] at hd
      refine ⟨y, ⟨ds, hy, fun h => h, cells_get hd⟩, fun z hz => ?_⟩
      rw [List.getElem?_eq_getElem (by omega : i < elems.length)] at hz
      cases hz
      exact hw
    obtain ⟨l, hl1, hl2⟩ := choose_list (Q := fun i (y : α) => At NoM W (a.add (i * GT.size α)) y ∧ ∀ z, elems[i]? = some z → Wt.wt y ≤ B H z.1) len one
    refine ⟨l, ⟨_, rfl, some a, len, cap, rfl, hl1, hl, hm, ?_⟩, ?_⟩
    · by_cases h0 : len = 0
      · exact .inl h0
      · exact .inr ⟨a, rfl, fun i y hy => (hl2 i y hy).1⟩
    · have h1 := wt_sum (fun z : DataW H × List MemPlace => B H z.1) l elems (by omega) fun i y x hy hx => (hl2 i y hy).2 x hx
      have h2 := hB.slice H (elems.map (·.1)) (rest.map (·.1))
      rw [List.map_map] at h2
      show (l.map Wt.wt).sum + 1 ≤ _
      exact Nat.le_trans (Nat.add_le_add_right h1 1) h2
def OpensRB (B : (H : Type) → DataW H → Nat) (P : Program) (off total : Nat) (fs : List Field) (α : Type) [GT α] [Wt α] : Prop :=
  off + GT.size α = total ∧ ∀ {H : Type} (enc : TypeId × Value → H) (W : World) (n : Nat) (cs : List Value) (xs : List (DataW H × List MemPlace)), cs.length = total → xs.length = fs.length →
    (∀ (i : Nat) f, fs[i]? = some f → DataW.trod enc P W 0 (fun _ => true) true n f.type ((cs.drop f.offset).take (P.cellsOf f.type)) = xs[i]?) → ∃ y : α, GT.rep NoM W (cs.drop off) y ∧ Wt.wt y ≤ ((xs.map (·.1)).map (B H)).sum
theorem opensRB_one {α : Type} [GT α] [Wt α] {f : Field} {off total : Nat} (ho : f.offset = off) (O : OpensB B P f.type α) (hs : off + GT.size α = total) : OpensRB B P off total [f] α := by
  refine ⟨hs, fun {H} enc W n cs xs hl hx h => ?_⟩
  match xs, hx, h with
  | [x], _, h =>
    have h1 := h 0 f rfl
    obtain ⟨y, hy, hw⟩ := O.2 enc W n _ _ h1
    rw [O.1, ho, List.take_of_length_le (by simp; omega)] at hy
    exact ⟨y, hy, by simpa using hw⟩
theorem opensRB_cons {α β : Type} [GT α] [GT β] [Wt α] [Wt β] {f : Field} {fs : List Field} {off off' total : Nat} (ho : f.offset = off) (O : OpensB B P f.type α) (hs : off + GT.size α = off') (R : OpensRB B P off' total fs β) : OpensRB B P off total (f :: fs) (α × β) := by
  refine ⟨by rw [← R.1, ← hs]; show off + (GT.size α + GT.size β) = _; omega, fun {H} enc W n cs xs hl hx h => ?_⟩
  match xs, hx, h with
  | x :: xs, hx, h =>
    have h1 := h 0 f rfl
    obtain ⟨y, hy, hw⟩ := O.2 enc W n _ _ h1
    obtain ⟨z, hz, hv⟩ := R.2 enc W n cs xs hl (by simpa using hx) fun i g hg => h (i + 1) g (by simpa using hg)
    rw [O.1, ho] at hy
    refine ⟨(y, z), ⟨(cs.drop off).take (GT.size α), cs.drop off', ?_, hy, hz⟩, ?_⟩
    · rw [← hs, ← List.drop_drop]
      exact (List.take_append_drop _ _).symm
    · simp only [List.map_cons, List.sum_cons]
      exact Nat.add_le_add hw hv
theorem opensB_struct {α : Type} [GT α] [Wt α] {fs : Array Field} (hB : Bulk B) (ht : P.underlying t = some (.struct fs)) (hc : P.cellsOf t = GT.size α) (R : OpensRB B P 0 (P.cellsOf t) fs.toList α) : OpensB B P t α := by
  refine ⟨hc, fun {H} enc W n cs x h => ?_⟩
  obtain ⟨xs, m, rfl, rfl, hl, hx, hf⟩ := DataW.trod_struct ht h
  obtain ⟨y, hy, hw⟩ := R.2 enc W m cs xs hl (by simpa using hx) fun i f hf' => hf i f (by rw [← Array.getElem?_toList]; exact hf')
  exact ⟨y, by simpa using hy, Nat.le_trans hw (hB.agg H _)⟩
section
variable {H : Type} {enc : TypeId × Value → H} {W : World} {base : Nat} {v : Value} {d : DataW H} {ps : List MemPlace}
theorem topB_slice {α : Type} [GT α] [Wt α] (ht : P.underlying t = some (.slice e)) (O : OpensB B P t (List α)) (hv : Value.okWide P W .any base t v) (h : DataW.Trod enc P W 0 (fun _ => true) true t v d ps) :
    ∃ (y : List α) (a : Option Addr) (c : Nat), v = .slice a y.length c ∧ RV NoM W (.slice a y.length c) y ∧ Wt.wt y ≤ B H d := by
  obtain ⟨a, n, c, rfl⟩ := okWide_slice ht hv
  obtain ⟨m, h⟩ := h
  obtain ⟨y, hy, hw⟩ := O.2 enc W m _ _ h
  obtain ⟨a', c', e, hr⟩ := RS.explicit (RV.list.1 (⟨_, hy, rfl⟩ : RV NoM W (.slice a n c) y))
  injection e with e1 e2 e3
  subst e1 e2 e3
  exact ⟨y, a, c, rfl, hr, hw⟩
end
end
end Go.Ew
