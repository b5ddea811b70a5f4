/- Engine, part H: copying onto a slice of numbers of the call's own, and within it. -/
import Derived.Test.YtefcbihikknlkaaGreatDoorOwnA
import Derived.Laws.CopyRow
import Derived.LaidMore
import Derived.Stop.Joined
import Derived.Laws.StructEq
import Derived.ChangeKeysEq
import Derived.MapKept
import Derived.Laws.BytesArg
import Derived.JoinedCond
set_option linter.unusedVariables false
set_option linter.unusedSimpArgs false
set_option linter.unusedSectionVars false
namespace Go.Ew
open Go.RowKit
def cutA (a : Option Addr) (c lo : Nat) : Option Addr := if c = lo then a else a.map (·.add (lo * 1))
theorem add0 (g j : Nat) : (⟨g, 0, none⟩ : Addr).add j = ⟨g, j, none⟩ := by unfold Addr.add; split <;> simp_all
theorem chunks_cut {M : Nat → Prop} {w : World} : ∀ (k : Nat) {xs : List Int} {cs : List Value}, Chunks M w cs xs → Chunks M w (cs.take k) (xs.take k) ∧ Chunks M w (cs.drop k) (xs.drop k)
 | 0, xs, cs, h => ⟨by rw [List.take_zero, List.take_zero]; rfl, by simpa using h⟩
 | k + 1, [], cs, h => by
  rw [show cs = [] from h]
  exact ⟨rfl, rfl⟩
 | k + 1, x :: xs, cs, h => by
  obtain ⟨c1, c2, rfl, h2, h3⟩ := h
  obtain ⟨i1, i2⟩ := chunks_cut k h3
  obtain ⟨e, hx⟩ := h2
  subst e
  exact ⟨⟨[.int .i64 x], c2.take k, rfl, ⟨rfl, hx⟩, i1⟩, i2⟩
section
variable {P : Program} {n : Nat} {ops : Array Oper} {f : Slots} {w : World} {K : Slots → World → Prop} {x y : Operand} {d : Nat} {ty T e : TypeId} {ps : String} {af : Array Edge} {v u : Value} {M M0 : Nat → Prop} {w0 : World} {l : List Item} {bytes : Nat} {z : Value} {B : Nat} {kk : IntKind} {agg : Bool} {xs ys : List Int} {a : Option Addr} {k c : Nat}
theorem own_shape (hO : (own B e (.slice a k c) xs).holds M w) : k = xs.length ∧ xs.length ≤ c := by
 obtain ⟨cs, h1, h2⟩ := hO
 rcases h1.2 with ⟨h3, h4⟩ | ⟨g, cap, cur, h3, h4, h5, h6, h7⟩
 ·cases h3; omega
 ·cases h3; exact ⟨rfl, h6⟩
theorem slOl {lo : Int} {ylo : Operand} (hO : (own B e (.slice a k c) xs).holds M w) (ox : okT n x = true) (ol : okT n ylo = true) (hx : ev f x = .slice a k c) (hl : ev f ylo = .int kk lo) (hb : 0 ≤ lo ∧ lo ≤ xs.length) (hu : P.underlying T = some (.slice e)) (F : TyF P e 1 agg bytes z)
  (h : K (upd f d (.slice (cutA a c lo.toNat) (k - lo.toNat) (c - lo.toNat))) w) :
  SO P n ops ⟨some d, .slice T x (some ylo) none none, ty, ps, af, none⟩ f w K := by
 obtain ⟨hk, hc⟩ := own_shape hO
 refine SO.value (v := .slice (cutA a c lo.toNat) (k - lo.toNat) (c - lo.toNat)) (w' := w) ?_ h
 have hel : P.underlying T = some (.slice (P.elem T)) := by rw [hu]; simp [Program.elem, hu]
 have hel2 : P.elem T = e := by simp [Program.elem, hu]
 simp [execOp, eval_acts ox, eval_acts ol, hx, hl, Instr.sliceAt, run_und hu]
 have := run_slice_l (P := P) (w := w) T a k c hel kk lo hb.1 (by omega)
 rw [hel2, F.run_size] at this
 simp [this, sliced, cutA]
theorem slOh {hi : Int} {yhi : Operand} (hO : (own B e (.slice a k c) xs).holds M w) (ox : okT n x = true) (oh : okT n yhi = true) (hx : ev f x = .slice a k c) (hh : ev f yhi = .int kk hi) (hb : 0 ≤ hi ∧ hi ≤ xs.length) (hu : P.underlying T = some (.slice e)) (F : TyF P e 1 agg bytes z)
  (h : K (upd f d (.slice (cutA a c 0) hi.toNat c)) w) :
  SO P n ops ⟨some d, .slice T x none (some yhi) none, ty, ps, af, none⟩ f w K := by
 obtain ⟨hk, hc⟩ := own_shape hO
 refine SO.value (v := .slice (cutA a c 0) hi.toNat c) (w' := w) ?_ h
 have hel : P.underlying T = some (.slice (P.elem T)) := by rw [hu]; simp [Program.elem, hu]
 have hel2 : P.elem T = e := by simp [Program.elem, hu]
 simp [execOp, eval_acts ox, eval_acts oh, hx, hh, Instr.sliceAt, run_und hu]
 have := run_slice_h (P := P) (w := w) T a k c hel kk hi hb.1 (by omega)
 rw [hel2, F.run_size] at this
 simp [this, sliced, cutA]
theorem HI.putSeg (H : HI M0 w0 w l) (i : Nat) {g cap : Nat} {cur : Array Value} {cs ds : List Value} {o : Nat} (hi : l[i]? = some (own w0.heap.size e (.slice (some ⟨g, 0, none⟩) xs.length cap) xs))
  (h3 : w0.heap.size ≤ g) (h4 : w.heap[g]? = some (.cells cur e (0, 0))) (h5 : xs.length ≤ cap) (h6 : cap ≤ maxLen) (h7 : cur.size = cap) (h8 : cur.toList.take xs.length = cs)
  (hc : Chunks (MS M0 l) w cs xs) (hd : Chunks (MS M0 l) w ds ys) (ho : o + ys.length ≤ xs.length) :
  HI M0 w0 (w.setRow g (cur.toList.take o ++ ds ++ cur.toList.drop (o + ds.length)).toArray) (l.set i (own w0.heap.size e (.slice (some ⟨g, 0, none⟩) xs.length cap) (xs.take o ++ (ys ++ xs.drop (o + ys.length))))) := by
 have hdl : ds.length = ys.length := by have := Chunks.length hd; simpa [GT.size] using this
 have hcl : cs.length = xs.length := by have := Chunks.length hc; simpa [GT.size] using this
 have hnl : (xs.take o ++ (ys ++ xs.drop (o + ys.length))).length = xs.length := by simp; omega
 have hcur : cur.toList.length = cap := by simpa using h7
 have hother : ∀ q, q < w.heap.size → (own w0.heap.size e (Value.slice (some ⟨g, 0, none⟩) xs.length cap) xs).blk ≠ some q → (w.setRow g (cur.toList.take o ++ ds ++ cur.toList.drop (o + ds.length)).toArray).heap[q]? = w.heap[q]? :=
  fun q hq hne => setRow_other w g q _ (fun e => hne (by rw [e]; rfl))
 refine H.turn i hi rfl rfl rfl (by simp) hother ?_ ?_
 ·intro b hb
  refine ⟨?_, .inl hb⟩
  rw [size_setRow]
  exact (H.blks _ (mG_ hi) b hb).2
 ·have hup : Up (MS M0 l) w (MS M0 (l.set i (own w0.heap.size e (Value.slice (some ⟨g, 0, none⟩) xs.length cap) (xs.take o ++ (ys ++ xs.drop (o + ys.length)))))) (w.setRow g (cur.toList.take o ++ ds ++ cur.toList.drop (o + ds.length)).toArray) := by
   refine ⟨by simp, fun b hb hM => ⟨setRow_other w g b _ (fun e => hM (.inr ⟨_, mG_ hi, by rw [e]; rfl⟩)), ?_⟩⟩
   rintro (hM' | ⟨it, hit, hitb⟩)
   ·exact hM (.inl hM')
   ·rcases List.mem_or_eq_of_mem_set hit with hit | rfl
    ·exact hM (.inr ⟨it, hit, hitb⟩)
    ·exact hM (.inr ⟨_, mG_ hi, hitb⟩)
  refine ⟨cs.take o ++ (ds ++ cs.drop (o + ds.length)), ⟨by simp [GT.size]; omega, .inr ⟨g, cap, _, by rw [hnl], h3, setRow_heap w g cur _ e _ h4, by omega, h6, ?_, ?_⟩⟩, ?_⟩
  ·simp only [List.size_toArray, lA_, lT_, List.length_drop, GT.size]
   omega
  ·rw [hnl]
   show (cur.toList.take o ++ ds ++ cur.toList.drop (o + ds.length)).take (xs.length * 1) = _
   rw [← h8, Nat.mul_one, List.append_assoc, List.take_append, List.take_append, lT_, Nat.min_eq_left (by omega), List.take_take, List.take_take, List.drop_take, List.take_of_length_le (by omega : ds.length ≤ xs.length - o), Nat.min_comm o xs.length,
    show xs.length - o - ds.length = xs.length - (o + ds.length) from by omega]
  ·have e9 : xs.drop (o + ys.length) = xs.drop (o + ds.length) := by rw [hdl]
   have q := Chunks.lift hup (chunks_cut (o + ds.length) hc).2
   exact Chunks.append (Chunks.lift hup (chunks_cut o hc).1) (Chunks.append (Chunks.lift hup hd) ((congrArg (fun r => Chunks _ _ _ r) e9).mpr q))
end
end Go.Ew
namespace Go.Ew
open Go.RowKit
def FPH (P : Program) (g : FuncId) (C : List Value) (M : Nat → Prop) (w : World) (it : List Int → Item) (r : List Item) (xs : List Int) (p : Int → Bool) : Prop :=
 GoF P g ∧ ∀ w1 ys, HI M w w1 ([it ys] ++ r) → ∀ x, x ∈ xs → I64 x → Calls P g ([Value.int .i64 x] ++ C).toArray w1 (Ret fun u w2 => u = .bool (p x) ∧ Ext w1 w2)
theorem FPH.fp {P : Program} {g : FuncId} {C : List Value} {M M' : Nat → Prop} {w w1 : World} {it : List Int → Item} {r : List Item} {xs ys : List Int} {p : Int → Bool} (h : FPH P g C M w it r xs p) (H : HI M w w1 ([it ys] ++ r)) : FP P g C M' w1 xs p :=
 ⟨h.1, fun w2 v x hx e hv => by
  obtain ⟨cs, ⟨e1, hi⟩, e2⟩ := hv
  rw [e1] at e2
  cases e2
  exact h.2 w2 ys (H.ext e) x hx hi⟩
theorem zeroCells_one (v : Value) : ∀ n, (Builtin.zeroCells #[v] n).toList = List.replicate n v := by
 intro n
 unfold Builtin.zeroCells
 apply List.ext_getElem?
 intro i
 simp only [Array.toList_map, List.getElem?_map, Array.toList_range, List.getElem?_replicate]
 by_cases h : i < n
 ·rw [List.getElem?_range (by simpa using h), if_pos h]
  simp [Nat.mod_one]
 ·rw [List.getElem?_eq_none (by simpa using h), if_neg h]; rfl
section
variable {P : Program} {n : Nat} {ops : Array Oper} {f : Slots} {w : World} {K : Slots → World → Prop} {x y : Operand} {d : Nat} {ty T e : TypeId} {ps : String} {af : Array Edge} {v u : Value} {M M0 : Nat → Prop} {w0 : World} {l : List Item} {bytes : Nat} {B : Nat} {kk : IntKind} {agg : Bool} {xs ys : List Int} {a : Option Addr} {k c : Nat}
theorem slCut {hi : Int} {yhi : Operand} (H : HI M0 w0 w l) (i : Nat) (hi' : l[i]? = some (own B e (.slice a k c) xs)) (ox : okT n x = true) (oh : okT n yhi = true) (hx : ev f x = .slice a k c) (hh : ev f yhi = .int kk hi) (hb : 0 ≤ hi ∧ hi ≤ xs.length) (hu : P.underlying T = some (.slice e)) (F : TyF P e 1 agg bytes (.int .i64 0))
  (h : HI M0 w0 w (l.set i (own B e (.slice a (xs.take hi.toNat).length c) (xs.take hi.toNat))) → K (upd f d (.slice a (xs.take hi.toNat).length c)) w) :
  SO P n ops ⟨some d, .slice T x none (some yhi) none, ty, ps, af, none⟩ f w K := by
 have hO := H.at_ i hi'
 have hil := (gS_.1 hi').1
 have hlen : (xs.take hi.toNat).length = hi.toNat := by simp; omega
 have hcut : cutA a c 0 = a := by
  unfold cutA
  split
  ·rfl
  ·obtain ⟨cs, h1, h2⟩ := hO
   rcases h1.2 with ⟨h3, h4⟩ | ⟨g, cap, cur, h3, h4⟩
   ·cases h3; rfl
   ·cases h3
    show some (Addr.add _ (0 * 1)) = _
    rw [add0]
 refine slOh hO ox oh hx hh hb hu F ?_
 rw [hcut]
 rw [hlen] at h
 refine h ?_
 refine H.weaken ?_ ?_
 ·apply List.ext_getElem?
  intro j
  rw [List.getElem?_map, List.getElem?_map]
  by_cases hj : i = j
  ·subst hj; rw [List.getElem?_set_self hil, hi']; cases a <;> rfl
  ·rw [List.getElem?_set_ne hj]
 ·intro j it it' hj hj' M hh'
  by_cases hj2 : i = j
  ·subst hj2
   rw [List.getElem?_set_self hil] at hj'
   rw [hi'] at hj
   cases hj; cases hj'
   obtain ⟨cs, h1, h2⟩ := hh'
   have hcl := Chunks.length h2
   refine ⟨cs.take hi.toNat, ⟨by rw [hlen]; simp only [GT.size] at hcl ⊢; rw [lT_]; omega, ?_⟩, (chunks_cut _ h2).1⟩
   rcases h1.2 with ⟨h3, h4⟩ | ⟨g, cap, cur, h3, h4, h5, h6, h7, h8, h9⟩
   ·cases h3
    refine .inl ⟨by rw [show hi.toNat = 0 from by omega], by rw [hlen]; omega⟩
   ·cases h3
    refine .inr ⟨g, c, cur, by rw [hlen], h4, h5, by omega, h7, h8, ?_⟩
    rw [← h9, hlen, List.take_take]
    congr 1
    simp only [GT.size]; omega
  ·rw [List.getElem?_set_ne hj2, hj] at hj'; cases hj'; exact hh'
theorem clO (H : HI M0 w0 w l) (i : Nat) (hi : l[i]? = some (own B e (.slice a k c) xs)) (hB : B = w0.heap.size) (ox : okT n x = true) {q : Nat} (hx : ev f x = .slice (cutA a c q) (k - q) (c - q))
  (hu : P.underlying T = some (.slice e)) (F : TyF P e 1 agg bytes (.int .i64 0)) (hq : q ≤ xs.length)
  (h : ∀ w', HI M0 w0 w' (l.set i (own B e (.slice a k c) (xs.take q ++ (List.replicate (xs.length - q) 0 ++ [])))) → K f w') :
  SO P n ops ⟨none, .call { callee := .builtin .clear, args := #[x], argTypes := #[T] }, ty, ps, af, none⟩ f w K := by
 subst hB
 have hO := H.at_ i hi
 have hil := (gS_.1 hi).1
 obtain ⟨hk, hc⟩ := own_shape hO
 obtain ⟨cs, h1, h2⟩ := hO
 by_cases hq2 : q = xs.length
 ·have hz : k - q = 0 := by omega
  refine SO.value (d := none) (v := .tuple #[]) (w' := w) ?_ (h w ?_)
  ·have hr2 : (Builtin.clear_ #[T] ty #[.slice (cutA a c q) 0 (c - q)]).run P w = .ok (.tuple #[]) w := by
    cases hca : cutA a c q <;> simp [Builtin.clear_, run_underlying hu]
   rw [hz] at hx
   simp [execOp, resolve, invoke, builtin, eval_acts ox, hx, hr2]
  ·have e9 : xs.take q ++ (List.replicate (xs.length - q) 0 ++ []) = xs := by rw [hq2]; simp
   rw [e9]
   have : l.set i (own w0.heap.size e (.slice a k c) xs) = l := by
    apply List.ext_getElem?
    intro j
    by_cases hj : i = j
    ·subst hj; rw [List.getElem?_set_self hil, hi]
    ·rw [List.getElem?_set_ne hj]
   rw [this]; exact H
 ·rcases h1.2 with ⟨h0, h3⟩ | ⟨g', c1, cur, h0, h3, h4, h5, h6, h7, h8⟩
  ·omega
  ·cases h0
   have hsz : cur.size = c := by rw [h7]; simp [GT.size]
   have hcA : cutA (some ⟨g', 0, none⟩) c q = some ⟨g', q, none⟩ := by unfold cutA; rw [if_neg (by omega), Nat.mul_one]; show some (Addr.add _ q) = _; rw [add0]
   rw [hcA] at hx
   have hz : Chunks (MS M0 l) w (List.replicate (xs.length - q) (Value.int .i64 0)) (List.replicate (xs.length - q) (0 : Int)) := by
    have : ∀ m, Chunks (MS M0 l) w (List.replicate m (Value.int .i64 0)) (List.replicate m (0 : Int)) := by
     intro m
     induction m with
     | zero => rfl
     | succ m ih => exact ⟨[.int .i64 0], List.replicate m (.int .i64 0), by rw [List.replicate_succ]; rfl, ⟨rfl, by unfold I64; omega⟩, ih⟩
    exact this _
   have hst := run_storeCells_at P g' q e (List.replicate (xs.length - q) (Value.int .i64 0)) 0 cur w h4 (by rw [lR_]; omega) (Chunks.oneC hz)
   refine SO.value (d := none) (v := .tuple #[]) (w' := w.setRow g' (cur.toList.take q ++ List.replicate (xs.length - q) (Value.int .i64 0) ++ cur.toList.drop (q + (List.replicate (xs.length - q) (Value.int .i64 0)).length)).toArray) ?_ (h _ ?_)
   ·obtain ⟨m, hm⟩ : ∃ m, xs.length - q = m + 1 := ⟨xs.length - q - 1, by omega⟩
    have hr2 : (Builtin.clear_ #[T] ty #[.slice (some ⟨g', q, none⟩) (xs.length - q) (c - q)]).run P w = .ok (.tuple #[]) (w.setRow g' (cur.toList.take q ++ List.replicate (xs.length - q) (Value.int .i64 0) ++ cur.toList.drop (q + (List.replicate (xs.length - q) (Value.int .i64 0)).length)).toArray) := by
     have hcells : (Builtin.zeroCells (Value.int .i64 0).cells (xs.length - q)).toList = List.replicate (xs.length - q) (Value.int .i64 0) := zeroCells_one _ _
     rw [Nat.add_zero] at hst
     rw [hm] at hst hcells ⊢
     simp [Builtin.clear_, run_underlying hu, F.run_zero, hcells, hst]
    simp [execOp, resolve, invoke, builtin, eval_acts ox, hx, hr2]
   ·have := HI.putSeg (ys := List.replicate (xs.length - q) 0) (ds := List.replicate (xs.length - q) (Value.int .i64 0)) (o := q) H i hi h3 h4 h5 h6 hsz (by simpa [GT.size] using h8) h2 hz (by rw [lR_]; omega)
    have e8 : xs.drop (q + (List.replicate (xs.length - q) (0 : Int)).length) = [] := by rw [lR_]; exact List.drop_eq_nil_of_le (by omega)
    rw [e8] at this
    exact this
end
end Go.Ew
namespace Go.Ew
def bitB (i : Int) : BitVec 64 := if 0 ≤ i ∧ i ≤ 63 then 1#64 <<< i.toNat else 0#64
theorem ofInt_i64 {i : Int} (h : I64 i) : ((BitVec.ofInt 64 i).toNat : Int) = if 0 ≤ i then i else i + 18446744073709551616 := by
 rw [← wrap_u64_bv, IntKind.wrap_u64]; unfold I64 at h; split <;> omega
theorem bitB_hi {i : Int} (h : I64 i) (h1 : 63 < (BitVec.ofInt 64 i).toNat) : 0#64 = bitB i := by
 unfold bitB; rw [if_neg]; have := ofInt_i64 h; unfold I64 at h; split at this <;> omega
theorem bitB_lo {i : Int} (h : I64 i) (h1 : ¬ 63 < (BitVec.ofInt 64 i).toNat) : 1#64 <<< ((BitVec.ofInt 64 i).toNat : Int).toNat = bitB i := by
 have h2 := ofInt_i64 h
 unfold bitB; unfold I64 at h
 split at h2
 ·rw [if_pos (by omega)]; congr 1; omega
 ·omega
def hasW (w : BitVec 64) (i : Int) : Bool := decide (0 ≤ i) && w.getLsbD i.toNat
theorem and_bit (w : BitVec 64) (k : Nat) (hk : k < 64) : (w &&& 1#64 <<< k = 0#64) ↔ w.getLsbD k = false := by
 constructor
 ·intro h
  have := congrArg (·.getLsbD k) h
  simpa [hk] using this
 ·intro h
  apply BitVec.eq_of_getLsbD_eq
  intro j hj
  simp only [BitVec.getLsbD_and, BitVec.getLsbD_shiftLeft, BitVec.getLsbD_zero]
  by_cases hjk : j = k
  ·subst hjk; simp [h]
  ·by_cases hlt : j < k
   ·simp [hlt]
   ·have : j - k ≠ 0 := by omega
    simp [this]
theorem hasW_eq (w : BitVec 64) (i : Int) : (!decide (w &&& bitB i = 0#64)) = hasW w i := by
 unfold bitB hasW
 by_cases h : 0 ≤ i ∧ i ≤ 63
 ·rw [if_pos h, Bool.eq_iff_iff]
  have := and_bit w i.toNat (by omega)
  simp [this, h.1]
 ·rw [if_neg h]
  by_cases h0 : 0 ≤ i
  ·have : w.getLsbD i.toNat = false := BitVec.getLsbD_of_ge w _ (by omega)
   simp [this]
  ·simp [h0]
abbrev Row := List (BitVec 64)
def hasR (r : Row) (i : Int) : Bool := decide (0 ≤ i) && (r.getD (i.toNat / 64) 0#64).getLsbD (i.toNat % 64)
def inR (r : Row) (i : Int) : Bool := decide (0 ≤ i ∧ i < 64 * (r.length : Int))
theorem inR_yes {r : Row} {i : Int} (h : 0 ≤ i) : decide (i / 64 < (r.length : Int)) = inR r i := by
 unfold inR; congr 1; apply propext; omega
theorem inR_no {r : Row} {i : Int} (h : i < 0) : false = inR r i := by
 unfold inR; simp; omega
theorem hasR_in {r : Row} {i : Int} (h : inR r i = true) {x : BitVec 64} (hx : r[(i / 64).toNat]? = some x) : hasW x (i % 64) = hasR r i := by
 unfold inR at h; simp only [decide_eq_true_eq] at h
 unfold hasW hasR
 have e1 : (i / 64).toNat = i.toNat / 64 := by omega
 have e2 : (i % 64).toNat = i.toNat % 64 := by omega
 rw [e1] at hx
 rw [e2, gD_, hx]
 simp [h.1, Int.emod_nonneg]
theorem hasR_out {r : Row} {i : Int} (h : inR r i = false) : false = hasR r i := by
 unfold inR at h; simp only [decide_eq_false_iff_not] at h
 unfold hasR
 by_cases h0 : 0 ≤ i
 ·rw [gD_, List.getElem?_eq_none (by omega)]; simp
 ·simp [h0]
def setR (r : Row) (i : Int) : Row := if inR r i then r.set (i.toNat / 64) (r.getD (i.toNat / 64) 0#64 ||| bitB (i % 64)) else r
theorem setR_in {r : Row} {i : Int} (h : inR r i = true) {x : BitVec 64} (hx : r[(i / 64).toNat]? = some x) : r.set (i / 64).toNat (x ||| bitB (i % 64)) = setR r i := by
 unfold setR; rw [if_pos h]
 unfold inR at h; simp only [decide_eq_true_eq] at h
 have e1 : (i / 64).toNat = i.toNat / 64 := by omega
 rw [e1] at hx
 rw [e1, gD_, hx]; rfl
theorem setR_out {r : Row} {i : Int} (h : inR r i = false) : r = setR r i := by
 unfold setR; rw [if_neg (by simp [h])]
end Go.Ew
namespace Go.Ew
def cntN (x : Nat) : Nat → Nat
 | 0 => 0
 | k + 1 => cntN x k + (x.testBit k).toNat
def countW (x : BitVec 64) : Nat := cntN x.toNat 64
def rep (m : Nat) : Nat → Nat
 | 0 => 0
 | n + 1 => m + 256 * rep m n
def s1 (n x : Nat) : Nat := (x / 2 &&& rep 0x55 n) + (x &&& rep 0x55 n)
def s2 (n x : Nat) : Nat := (x / 4 &&& rep 0x33 n) + (x &&& rep 0x33 n)
def s3 (n x : Nat) : Nat := (x / 16 + x) &&& rep 0x0f n
def byte1 (a : Nat) : Nat := (a / 2 &&& 0x55) + (a &&& 0x55)
def byte2 (a : Nat) : Nat := (a / 4 &&& 0x33) + (a &&& 0x33)
theorem b3 : ∀ a < 256, byte2 (byte1 a) < 69 ∧ byte2 (byte1 a) % 16 < 5 ∧ byte2 (byte1 a) % 16 + byte2 (byte1 a) / 16 = cntN a 8 := by decide +kernel
theorem d1 {a b : Nat} (h : a < 256) : (a + 256 * b) / 256 = b := by omega
theorem d2 {a b c : Nat} (h : a < 256) (h' : b < 256) : (a + 256 * (b + 256 * c)) / 65536 = c := by omega
end Go.Ew
namespace Go.Ew
def countR (r : Row) : Nat := (r.map countW).sum
def partW (x y : BitVec 64) : Bool := decide (x &&& ~~~y = 0#64)
def subAt (a b : Row) (i : Nat) : Bool := partW (a.getD i 0#64) (b.getD i 0#64)
def subTo (a b : Row) (k : Nat) : Bool := (List.range k).all (subAt a b)
def subR (a b : Row) : Bool := subTo a b a.length
theorem getD_at {r : Row} {k : Nat} {x : BitVec 64} (h : r[((k : Nat) : Int).toNat]? = some x) : r.getD k 0#64 = x := by
 rw [tN_] at h; rw [gD_, h]; rfl
theorem getD_out {r : Row} {k : Nat} (h : r.length ≤ k) : r.getD k 0#64 = 0#64 := by
 rw [gD_, List.getElem?_eq_none h]; rfl
def words (n : Int) : Nat := ((max n 0 + 63) / 64).toNat
def newR (n : Int) : Row := List.replicate (words n) 0#64
theorem or_bit_get (x : BitVec 64) (i j : Nat) (hi : i < 64) (hj : j < 64) : (x ||| bitB (i : Int)).getLsbD j = (x.getLsbD j || decide (j = i)) := by
 unfold bitB
 rw [if_pos (by omega), BitVec.getLsbD_or, BitVec.getLsbD_shiftLeft, tN_]
 congr 1
 by_cases h : j = i
 ·subst h; simp [hi]
 ·by_cases h2 : j < i
  ·simp [h, h2]
  ·have : j - i ≠ 0 := by omega
   simp [h, h2, this, hj]
theorem or_bit_had {x : BitVec 64} {i : Nat} (hi : i < 64) (h : x.getLsbD i = true) : x ||| bitB (i : Int) = x := by
 apply BitVec.eq_of_getLsbD_eq
 intro j hj
 rw [or_bit_get _ _ _ hi hj]
 by_cases e : j = i
 ·subst e; simp [h]
 ·simp [e]
theorem setR_length (r : Row) (i : Int) : (setR r i).length = r.length := by unfold setR; split <;> simp
theorem inR_set (r : Row) (i j : Int) : inR (setR r i) j = inR r j := by unfold inR; rw [setR_length]
theorem setR_get {r : Row} {i : Int} (h : inR r i = true) (k : Nat) (hk : k < r.length) : (setR r i).getD k 0#64 = if k = i.toNat / 64 then r.getD k 0#64 ||| bitB ((i.toNat % 64 : Nat) : Int) else r.getD k 0#64 := by
 unfold setR; rw [if_pos h]
 unfold inR at h; simp only [decide_eq_true_eq] at h
 have e : i % 64 = ((i.toNat % 64 : Nat) : Int) := by omega
 simp only [gD_]
 by_cases hk2 : k = i.toNat / 64
 ·subst hk2
  rw [List.getElem?_set_self hk, if_pos rfl, e]; rfl
 ·rw [List.getElem?_set_ne (fun e => hk2 e.symm), if_neg hk2]
theorem hasR_set_self {r : Row} {i : Int} : hasR (setR r i) i = inR r i := by
 by_cases h : inR r i = true
 ·have h' := h
  unfold inR at h'; simp only [decide_eq_true_eq] at h'
  have hm : i.toNat % 64 < 64 := Nat.mod_lt _ (by decide)
  rw [h]; unfold hasR
  rw [setR_get h _ (by omega), if_pos rfl, or_bit_get _ _ _ hm hm]
  simp [h'.1]
 ·have h2 : inR (setR r i) i = false := by rw [inR_set]; simpa using h
  rw [← hasR_out h2]; simpa using h
theorem hasR_in_of {r : Row} {i : Int} (h : hasR r i = true) : inR r i = true := by
 cases h1 : inR r i with
 | true => rfl
 | false => rw [← hasR_out h1] at h; cases h
theorem setR_had {r : Row} {i : Int} (h : hasR r i = true) : setR r i = r := by
 have hi := hasR_in_of h
 have h' := hi
 unfold inR at h'; simp only [decide_eq_true_eq] at h'
 have hm : i.toNat % 64 < 64 := Nat.mod_lt _ (by decide)
 apply List.ext_getElem (setR_length _ _)
 intro k h1 h2
 have := setR_get hi k h2
 rw [gD_, gD_, gE_ h1, gE_ h2] at this
 simp only [Option.getD_some] at this
 rw [this]
 split
 ·rename_i e
  refine or_bit_had hm ?_
  unfold hasR at h
  simp only [bA_, decide_eq_true_eq] at h
  have h3 := h.2
  rw [← e, gD_, gE_ h2] at h3
  exact h3
 ·rfl
end Go.Ew
namespace Go.Ew
abbrev Rows := List (List (BitVec 64))
def outN (n k : Int) : Bool := decide (k < 0) || decide (n ≤ k)
def inM (n : Int) (l : List Int) : Bool := !l.any (outN n)
theorem inM_two {n a b : Int} : inM n [a, b] = true ↔ (0 ≤ a ∧ a < n) ∧ (0 ≤ b ∧ b < n) := by
 unfold inM outN
 simp
def rowAt (rs : Rows) (i : Int) : Row := rs.getD i.toNat []
theorem rowAt_of {rs : Rows} {i : Int} {x : Row} (h : rs[i.toNat]? = some x) : rowAt rs i = x := by unfold rowAt; rw [gD_, h]; rfl
def setM (rs : Rows) (p : Int × Int) : Rows := rs.set p.1.toNat (setR (rowAt rs p.1) p.2)
theorem setM_length (rs : Rows) (p : Int × Int) : (setM rs p).length = rs.length := by unfold setM; simp
theorem setM_of {rs : Rows} {i j : Int} {x : Row} (h : rs[i.toNat]? = some x) : rs.set i.toNat (setR x j) = setM rs (i, j) := by unfold setM; rw [rowAt_of h]
def okN (n : Int) : Bool := decide (0 ≤ n) && decide (n ≤ 4096)
theorem okN_iff {n : Int} : okN n = true ↔ 0 ≤ n ∧ n ≤ 4096 := by unfold okN; simp
theorem okN_no {n : Int} : okN n = false ↔ ¬ (0 ≤ n ∧ n ≤ 4096) := by rw [← okN_iff]; simp
def newM (n : Int) : Rows := List.replicate n.toNat (newR n)
def newMN (n : Int) : Int := if okN n then n else 0
def newMR (n : Int) : Rows := if okN n then newM n else []
def newME (n : Int) : Int := if okN n then 0 else 1
theorem newM_yes {n : Int} (h : okN n = true) : newMN n = n ∧ newMR n = newM n ∧ newME n = 0 := by simp [newMN, newMR, newME, h]
theorem newM_no {n : Int} (h : okN n = false) : newMN n = 0 ∧ newMR n = [] ∧ newME n = 1 := by simp [newMN, newMR, newME, h]
theorem newM_length (n : Int) : (newM n).length = n.toNat := by unfold newM; simp
def fillTo {α : Type} (m k : Nat) (a b : α) : List α := List.replicate k a ++ List.replicate (m - k) b
theorem fillTo_zero {α : Type} (m : Nat) (a b : α) : List.replicate m b = fillTo m 0 a b := by simp [fillTo]
theorem fillTo_set {α : Type} {m k : Nat} {a b : α} (h : k < m) : (fillTo m k a b).set k a = fillTo m (k + 1) a b := by
 unfold fillTo
 obtain ⟨q, hq⟩ : ∃ q, m - k = q + 1 := ⟨m - k - 1, by omega⟩
 rw [hq, List.set_append_right _ _ (by simp), show m - (k + 1) = q from by omega, lR_, Nat.sub_self, List.replicate_succ, List.set_cons_zero, List.replicate_succ', List.append_assoc]
 rfl
theorem fillTo_end {α : Type} {m k : Nat} {a b : α} (h : k = m) : fillTo m k a b = List.replicate m a := by subst h; simp [fillTo]
def foldM (n : Int) (ps : List (Int × Int)) : Rows := ps.foldl setM (newM n)
theorem foldl_setM_length : ∀ (ps : List (Int × Int)) (rs : Rows), (ps.foldl setM rs).length = rs.length
 | [], _ => rfl
 | p :: ps, rs => by rw [List.foldl_cons, foldl_setM_length ps, setM_length]
theorem foldM_length (n : Int) (ps : List (Int × Int)) : (foldM n ps).length = n.toNat := by unfold foldM; rw [foldl_setM_length, newM_length]
theorem foldM_step {n : Int} {ps : List (Int × Int)} {j : Nat} {p : Int × Int} (h : ps[((j : Nat) : Int).toNat]? = some p) : foldM n (ps.take (j + 1)) = setM (foldM n (ps.take j)) p := by
 unfold foldM; rw [take_at h, List.foldl_append]; rfl
theorem all_take {α : Type} {l : List α} {q : α → Bool} {j : Nat} {x : α} (h : l[((j : Nat) : Int).toNat]? = some x) (h1 : (l.take j).all q = true) (h2 : q x = true) : (l.take (j + 1)).all q = true := by
 rw [take_at h, List.all_append, h1]; simp [h2]
theorem all_no {α : Type} {l : List α} {q : α → Bool} {i : Nat} {x : α} (h : l[i]? = some x) (h2 : q x = false) : l.all q = false := by
 rw [List.all_eq_false]; exact ⟨x, mG_ h, by simp [h2]⟩
theorem setM_rows {m : Nat} {rs : Rows} {p : Int × Int} (h : ∀ x ∈ rs, x.length = m) : ∀ x ∈ setM rs p, x.length = m := by
 intro x hx
 unfold setM at hx
 by_cases hi : p.1.toNat < rs.length
 ·rcases List.mem_or_eq_of_mem_set hx with hx | rfl
  ·exact h x hx
  ·rw [setR_length]
   unfold rowAt
   rw [gD_, gE_ hi]
   exact h _ (List.getElem_mem hi)
 ·rw [List.set_eq_of_length_le (by omega)] at hx
  exact h x hx
theorem foldl_setM_rows {m : Nat} : ∀ (ps : List (Int × Int)) (rs : Rows), (∀ x ∈ rs, x.length = m) → ∀ x ∈ ps.foldl setM rs, x.length = m
 | [], _, h => h
 | p :: ps, rs, h => by rw [List.foldl_cons]; exact foldl_setM_rows ps _ (setM_rows h)
theorem newR_length (n : Int) : (newR n).length = words n := by unfold newR; simp
theorem foldM_row {n : Int} {ps : List (Int × Int)} {i : Nat} {x : Row} (h : (foldM n ps)[i]? = some x) : x.length = words n :=
 foldl_setM_rows ps (newM n) (by
  intro x hx
  unfold newM at hx
  rw [List.eq_of_mem_replicate hx, newR_length]) x (mG_ h)
theorem words_le {n : Int} (h : n ≤ 4096) : words n ≤ 64 := by unfold words; omega
def setMN (n : Int) (i j : Int) : Int := if inM n [i, j] then n else 0
def setMR (n : Int) (rs : Rows) (i j : Int) : Rows := if inM n [i, j] then setM rs (i, j) else []
def setME (n : Int) (i j : Int) : Int := if inM n [i, j] then 0 else 1
def hasM (n : Int) (rs : Rows) (i j : Int) : Bool := inM n [i, j] && hasR (rowAt rs i) j
theorem set_yes {n i j : Int} {rs : Rows} (h : inM n [i, j] = true) : setMN n i j = n ∧ setMR n rs i j = setM rs (i, j) ∧ setME n i j = 0 := by simp [setMN, setMR, setME, h]
theorem set_no {n i j : Int} {rs : Rows} (h : inM n [i, j] = false) : setMN n i j = 0 ∧ setMR n rs i j = [] ∧ setME n i j = 1 := by simp [setMN, setMR, setME, h]
theorem at_is {α : Type} {l : List α} {i : Nat} {x y : α} (h : l[i]? = some x) (e : l[i]? = some y) : x = y := Option.some.inj (h.symm.trans e)
theorem inM_eq {n i j : Int} : inM n [i, j] = (decide (0 ≤ i) && decide (i < n) && decide (0 ≤ j) && decide (j < n)) := by
 rw [Bool.eq_iff_iff, inM_two]; simp [and_assoc]
end Go.Ew
namespace Go.Ew
theorem shl_step (j : Nat) : (1#64 <<< j) * 2#64 = 1#64 <<< (j + 1) := by
 rw [show (2#64) = BitVec.twoPow 64 1 from rfl, BitVec.mul_twoPow_eq_shiftLeft, ← BitVec.shiftLeft_add]
theorem bitB_pow {i : Int} (h0 : 0 ≤ i) (h : i ≤ 63) : bitB i = 1#64 <<< i.toNat := by unfold bitB; rw [if_pos ⟨h0, h⟩]
theorem bitB_out {i : Int} (h : ¬ (0 ≤ i ∧ i ≤ 63)) : bitB i = 0#64 := by unfold bitB; rw [if_neg h]
theorem bitB_toNat {i : Int} (h0 : 0 ≤ i) (h : i ≤ 63) : (bitB i).toNat = 2 ^ i.toNat := by
 rw [bitB_pow h0 h, BitVec.toNat_shiftLeft, BitVec.toNat_ofNat, Nat.shiftLeft_eq]
 have h1 : i.toNat < 64 := by omega
 have : 2 ^ i.toNat < 2 ^ 64 := Nat.pow_lt_pow_right (by decide) h1
 rw [Nat.mod_eq_of_lt (a := 1) (by decide), Nat.one_mul, Nat.mod_eq_of_lt this]
theorem bitB_ne {i : Int} (h : ¬ bitB i = 0#64) : 0 ≤ i ∧ i ≤ 63 := by
 by_cases h1 : 0 ≤ i ∧ i ≤ 63
 ·exact h1
 ·exact absurd (bitB_out h1) h
theorem hasW_quo {w : BitVec 64} {i : Int} (h : ¬ bitB i = 0#64) : decide (w / bitB i % 2#64 = 1#64) = hasW w i := by
 obtain ⟨h0, h1⟩ := bitB_ne h
 unfold hasW
 rw [Bool.eq_iff_iff, decide_eq_true_eq, bA_, decide_eq_true_eq]
 have e : w.getLsbD i.toNat = true ↔ w.toNat / 2 ^ i.toNat % 2 = 1 := by
  rw [BitVec.getLsbD, Nat.testBit_eq_decide_div_mod_eq, decide_eq_true_eq]
 rw [e]
 have e2 : (w / bitB i % 2#64).toNat = w.toNat / 2 ^ i.toNat % 2 := by
  rw [BitVec.toNat_umod, BitVec.toNat_udiv, bitB_toNat h0 h1]; rfl
 constructor
 ·intro h2
  rw [h2] at e2
  exact ⟨h0, e2.symm⟩
 ·rintro ⟨-, h2⟩
  apply BitVec.eq_of_toNat_eq
  rw [e2, h2]; rfl
theorem hasW_zero {w : BitVec 64} {i : Int} (h : bitB i = 0#64) : false = hasW w i := by
 unfold hasW
 by_cases h1 : 0 ≤ i ∧ i ≤ 63
 ·have h2 := bitB_toNat h1.1 h1.2
  rw [h] at h2
  have : 0 < 2 ^ i.toNat := Nat.pow_pos (by decide)
  simp only [BitVec.toNat_ofNat, Nat.zero_mod] at h2; omega
 ·by_cases h0 : 0 ≤ i
  ·have : w.getLsbD i.toNat = false := BitVec.getLsbD_of_ge w _ (by omega)
   simp [this]
  ·simp [h0]
theorem add_bit {x : BitVec 64} {i : Int} (h : hasW x i = false) : x + bitB i = x ||| bitB i := by
 have e : x &&& bitB i = 0#64 := by
  have := hasW_eq x i
  rw [h] at this
  simpa using this
 exact BitVec.add_eq_or_of_and_eq_zero x (bitB i) e
theorem inR_of {r : Row} {i : Int} (h0 : 0 ≤ i) (h : i < 64 * (r.length : Int)) : inR r i = true := by unfold inR; simp [h0, h]
theorem inR_not {r : Row} {i : Int} (h : ¬ (0 ≤ i ∧ i < 64 * (r.length : Int))) : inR r i = false := by unfold inR; simp; omega
theorem hasR_of {r : Row} {i : Int} (h0 : 0 ≤ i) (h : i < 64 * (r.length : Int)) {x : BitVec 64} (hx : r[(i / 64).toNat]? = some x) : hasW x (i % 64) = hasR r i := hasR_in (inR_of h0 h) hx
theorem hasR_no {r : Row} {i : Int} (h : ¬ (0 ≤ i ∧ i < 64 * (r.length : Int))) : false = hasR r i := hasR_out (inR_not h)
theorem setR_no {r : Row} {i : Int} (h : ¬ (0 ≤ i ∧ i < 64 * (r.length : Int))) : r = setR r i := setR_out (inR_not h)
theorem setR_add {r : Row} {i : Int} (h0 : 0 ≤ i) (h : i < 64 * (r.length : Int)) (hn : hasR r i = false) {x : BitVec 64} (hx : r[(i / 64).toNat]? = some x) : r.set (i / 64).toNat (x + bitB (i % 64)) = setR r i := by
 rw [add_bit (by rw [hasR_of h0 h hx]; exact hn), setR_in (inR_of h0 h) hx]
theorem words_pos {n : Int} (h : 0 ≤ n) : ((words n : Nat) : Int) = (n + 63) / 64 := by unfold words; omega
theorem words_neg {n : Int} (h : n < 0) : ((words n : Nat) : Int) = 0 := by unfold words; omega
end Go.Ew
namespace Go.Ew
open Go.RowKit Go.WideShapes Go.ChangeShapes
def tabN : List Nat := [0, 1, 56, 2, 57, 49, 28, 3, 61, 58, 42, 50, 38, 29, 17, 4, 62, 47, 59, 36, 45, 43, 51, 22, 53, 39, 33, 30, 24, 18, 12, 5, 63, 55, 48, 27, 60, 41, 37, 16, 46, 35, 44, 21, 52, 32, 23, 11, 54, 26, 40, 15, 34, 20, 31, 10, 25, 14, 19, 9, 13, 8, 7, 6]
def TabAt (g : Nat) (w : World) : Prop := ∀ i, i < 64 → w.cell? ⟨g, i, none⟩ = some (.int .u8 ((tabN.getD i 0 : Nat) : Int))
theorem TabAt.ext {g : Nat} {w w' : World} (h : TabAt g w) (e : Ext w w') : TabAt g w' := by
 intro i hi
 have h1 := h i hi
 rw [Below.cell e (p := ⟨g, i, none⟩) (block_lt_cell h1)]
 exact h1
def tab8 (i : Nat) : BitVec 8 := BitVec.ofNat 8 (tabN.getD i 0)
theorem tab_lt : ∀ i < 64, tabN.getD i 0 < 64 := by decide
theorem tab8_nat {i : Nat} (h : i < 64) : ((tab8 i).toNat : Int) = ((tabN.getD i 0 : Nat) : Int) := by
 have := tab_lt i h
 unfold tab8
 rw [BitVec.toNat_ofNat]
 omega
theorem TabAt.at_ {g : Nat} {w : World} {M : Nat → Prop} (h : TabAt g w) {i : Nat} (hi : i < 64) : AtW M w ⟨g, i, none⟩ (tab8 i) := by
 refine ⟨[U8 (tab8 i)], rfl, fun j v hv => ?_⟩
 cases j with
 | zero =>
  simp at hv; subst hv
  rw [show (⟨g, i, none⟩ : Addr).add 0 = ⟨g, i, none⟩ from rfl, h i hi, U8, tab8_nat hi]
 | succ j => simp at hv
theorem tabA {g : Nat} {w0 w : World} {M : Nat → Prop} (h : TabAt g w0) (e : Ext w0 w) {i : Nat} {ad : Addr} (ha : (⟨g, 0, none⟩ : Addr).add (i * 1) = ad) (hi : i < 64) : AtW M w ad (tab8 i) := by
 have : ad = ⟨g, i, none⟩ := by
  rw [← ha, Nat.mul_one]
  unfold Addr.add
  split
  ·rename_i h; rw [h]
  ·simp
 rw [this]
 exact (h.ext e).at_ hi
theorem tab_of_laid {P : Program} {g : Nat} {t e : TypeId} {name : String} {D : DataW Unit} {W : World} (hg : P.globalNamed name = some g) (ht : (P.globals[g]?).map (·.type) = some t)
  (hu : P.underlying t = some (.array 64 e)) (he : P.underlying e = some (.int .u8)) (hc : P.cellsOf e = 1) (hD : D = .agg (tabN.map fun k => .lit (.int .u8 ((k : Nat) : Int)))) (h : laidMetH P [(name, D)] W)
  (hp : laidMetH P [(name, D)] W ↔ laidMet P [(name, D)] W) : TabAt g W := by
 rw [hp] at h
 obtain ⟨ps, ⟨g0, t0, cs0, f0, p0, q0, hg0, ht0, hv0, hd0, _⟩, _⟩ := h
 obtain rfl := Option.some.inj (hg.symm.trans hg0)
 obtain rfl := Option.some.inj (ht.symm.trans ht0)
 obtain ⟨xs, m, rfl, hx, hlen, hn, hel⟩ := DataW.trod_array hu hd0
 intro i hi
 have h1 := hel i hi
 rw [hc, Nat.mul_one, gE_ (by omega : i < xs.length)] at h1
 obtain ⟨k, e1, e2, _⟩ := DataW.trod_int he h1
 simp only [Prod.mk.injEq] at hx
 have h2 : (DataW.agg (tabN.map fun k => DataW.lit (Lit.int .u8 ((k : Nat) : Int))) : DataW Unit) = .agg (xs.map (·.1)) := by rw [← hD]; exact hx.1
 injection h2 with h3
 have h4 := congrArg (fun l => l[i]?) h3
 have hti : i < tabN.length := by simpa [tabN] using hi
 simp only [List.getElem?_map, gE_ hti, gE_ (by omega : i < xs.length), Option.map_some, e2, Option.some.injEq] at h4
 injection h4 with h5
 injection h5 with h6 h7
 have h8 : tabN.getD i 0 = tabN[i] := by rw [gD_, gE_ hti]; rfl
 rw [h8, h7]
 have := World.var?_cell hg0 hv0 i
 have hc2 : cs0[i]? = some (.int .u8 k) := by
  have : (cs0.toList.drop i).head? = some (.int .u8 k) := by
   have h9 : ((cs0.toList.drop i).take 1).head? = some (.int .u8 k) := by rw [e1]; rfl
   cases hq : cs0.toList.drop i with
   | nil => rw [hq] at h9; simp at h9
   | cons a b => rw [hq] at h9; simpa using h9
  rw [List.head?_drop] at this
  simpa using this
 rw [hc2] at this
 simpa using this
end Go.Ew
namespace Go.Ew
def listW (x : BitVec 64) : List Nat := (List.range 64).filter fun k => x.getLsbD k
def firstW (x : BitVec 64) : Nat := (listW x).headD 64
theorem filter_range_least {p : Nat → Bool} : ∀ (n : Nat), (∃ k < n, p k = true) → ∃ k, k < n ∧ p k = true ∧ (∀ j, j < k → p j = false) ∧ ∃ l, (List.range n).filter p = k :: l ∧ l = (List.range n).filter (fun i => p i && !decide (i = k))
 | 0, ⟨k, h, _⟩ => by omega
 | n + 1, h => by
  by_cases h1 : ∃ k < n, p k = true
  ·obtain ⟨k, hk, hp, hl, l, e1, e2⟩ := filter_range_least n h1
   refine ⟨k, by omega, hp, hl, l ++ [n].filter p, ?_, ?_⟩
   ·rw [List.range_succ, List.filter_append, e1]; rfl
   ·rw [List.range_succ, List.filter_append, ← e2]
    congr 1
    have : ¬ n = k := by omega
    simp [List.filter_cons, this]
  ·obtain ⟨k, hk, hp⟩ := h
   have hkn : k = n := by
    apply Classical.byContradiction
    intro hne
    exact h1 ⟨k, by omega, hp⟩
   subst hkn
   have hno : ∀ j, j < k → p j = false := by
    intro j hj
    cases hb : p j with
    | false => rfl
    | true => exact absurd ⟨j, hj, hb⟩ h1
   have hf : (List.range k).filter p = [] := by
    rw [List.filter_eq_nil_iff]
    intro j hj
    rw [List.mem_range] at hj
    simp [hno j hj]
   have hf2 : (List.range k).filter (fun i => p i && !decide (i = k)) = [] := by
    rw [List.filter_eq_nil_iff]
    intro j hj
    rw [List.mem_range] at hj
    simp [hno j hj]
   refine ⟨k, by omega, hp, hno, [], ?_, ?_⟩
   ·rw [List.range_succ, List.filter_append, hf]; simp [hp]
   ·rw [List.range_succ, List.filter_append, hf2]; simp
theorem bit_of_ne {x : BitVec 64} (h : x ≠ 0#64) : ∃ k < 64, x.getLsbD k = true := by
 apply Classical.byContradiction
 intro hn
 apply h
 apply BitVec.eq_of_getLsbD_eq
 intro i hi
 rw [BitVec.getLsbD_zero]
 cases hb : x.getLsbD i with
 | false => rfl
 | true => exact absurd ⟨i, hi, hb⟩ hn
theorem least {x : BitVec 64} (h : x ≠ 0#64) : ∃ l, firstW x < 64 ∧ x.getLsbD (firstW x) = true ∧ (∀ j, j < firstW x → x.getLsbD j = false) ∧ listW x = firstW x :: l ∧ l = (List.range 64).filter (fun i => x.getLsbD i && !decide (i = firstW x)) := by
 obtain ⟨k, hk, hp, hl, l, e1, e2⟩ := filter_range_least 64 (bit_of_ne h)
 have hf : firstW x = k := by unfold firstW listW; rw [e1]; rfl
 rw [hf]
 exact ⟨l, hk, hp, hl, e1, e2⟩
theorem below_iff {x : BitVec 64} {k : Nat} (hp : x.getLsbD k = true) (hl : ∀ j, j < k → x.getLsbD j = false) (i : Nat) : (∃ j, j < i ∧ x.getLsbD j = true) ↔ k < i := by
 constructor
 ·rintro ⟨j, hj, h⟩
  rcases Nat.lt_or_ge k i with h1 | h1
  ·exact h1
  ·rw [hl j (by omega)] at h; cases h
 ·intro h; exact ⟨k, h, hp⟩
theorem lowbit {x : BitVec 64} (h : x ≠ 0#64) : x &&& -x = 1#64 <<< firstW x := by
 obtain ⟨l, hk, hp, hl, -, -⟩ := least h
 apply BitVec.eq_of_getLsbD_eq
 intro i hi
 rw [BitVec.getLsbD_and, BitVec.getLsbD_neg, BitVec.getLsbD_shiftLeft]
 simp only [below_iff hp hl i]
 by_cases h1 : i = firstW x
 ·subst h1; simp [hp, hk]
 ·by_cases h2 : i < firstW x
  ·simp [hl i h2, h2]
  ·have h3 : firstW x < i := by omega
   have h4 : i - firstW x ≠ 0 := by omega
   cases hx : x.getLsbD i <;> simp [h2, h3, h4, hi]
theorem clear {x : BitVec 64} (h : x ≠ 0#64) : listW x = firstW x :: listW (x &&& (x - 1#64)) := by
 obtain ⟨l, hk, hp, hl, e1, e2⟩ := least h
 rw [e1, e2]
 congr 1
 unfold listW
 apply List.filter_congr
 intro i hi
 rw [List.mem_range] at hi
 have e : x - 1#64 = ~~~(-x) := by
  rw [BitVec.not_neg, BitVec.sub_eq_add_neg]
 rw [BitVec.getLsbD_and, e, BitVec.getLsbD_not, BitVec.getLsbD_neg]
 simp only [below_iff hp hl i]
 by_cases h1 : i = firstW x
 ·subst h1; simp [hp, hk]
 ·by_cases h2 : i < firstW x
  ·simp [hl i h2]
  ·have h3 : firstW x < i := by omega
   cases hx : x.getLsbD i <;> simp [h1, h3, hi]
theorem bruijn : ∀ k < 64, ((1#64 <<< k * 285870213051353865#64) >>> 58).toNat < 64 ∧ tabN.getD ((1#64 <<< k * 285870213051353865#64) >>> 58).toNat 0 = k := by decide +kernel
theorem zeros_lt {x : BitVec 64} (h : x ≠ 0#64) : (((x &&& -x) * 285870213051353865#64) >>> 58).toNat < 64 := by
 obtain ⟨l, hk, -⟩ := least h
 rw [lowbit h]; exact (bruijn _ hk).1
theorem zeros_eq {x : BitVec 64} (h : x ≠ 0#64) : ((tab8 (((x &&& -x) * 285870213051353865#64) >>> 58).toNat).toNat : Int) = ((firstW x : Nat) : Int) := by
 obtain ⟨l, hk, -⟩ := least h
 rw [tab8_nat (zeros_lt h), lowbit h, (bruijn _ hk).2]
theorem listW_zero : listW 0#64 = [] := by
 unfold listW
 rw [List.filter_eq_nil_iff]
 intro i _
 simp
theorem firstW_zero : firstW 0#64 = 64 := by unfold firstW; rw [listW_zero]; rfl
theorem firstW_le (x : BitVec 64) : firstW x ≤ 64 := by
 by_cases h : x = 0#64
 ·subst h; rw [firstW_zero]; exact Nat.le_refl _
 ·obtain ⟨l, hk, -⟩ := least h; omega
end Go.Ew
namespace Go.Ew
def intsW (j : Nat) (x : BitVec 64) : List Int := (listW x).map fun k => (j : Int) * 64 + ((k : Nat) : Int)
def listTo (r : Row) (j : Nat) : List Int := (List.range j).flatMap fun i => intsW i (r.getD i 0#64)
def listR (r : Row) : List Int := listTo r r.length
theorem intsW_zero (j : Nat) : intsW j 0#64 = [] := by unfold intsW; rw [listW_zero]; rfl
theorem intsW_step {j : Nat} {x : BitVec 64} (h : x ≠ 0#64) : intsW j x = ((j : Int) * 64 + ((firstW x : Nat) : Int)) :: intsW j (x &&& (x - 1#64)) := by
 unfold intsW; rw [clear h]; rfl
theorem listW_length (x : BitVec 64) : (listW x).length ≤ 64 := by
 unfold listW
 exact Nat.le_trans (List.length_filter_le _ _) (by simp)
theorem intsW_length (j : Nat) (x : BitVec 64) : (intsW j x).length ≤ 64 := by unfold intsW; rw [List.length_map]; exact listW_length x
theorem listTo_succ (r : Row) (j : Nat) : listTo r (j + 1) = listTo r j ++ intsW j (r.getD j 0#64) := by
 unfold listTo; rw [List.range_succ, List.flatMap_append]; simp
theorem listTo_length (r : Row) : ∀ j, (listTo r j).length ≤ 64 * j
 | 0 => by simp [listTo]
 | j + 1 => by
  have := listTo_length r j
  have := intsW_length j (r.getD j 0#64)
  rw [listTo_succ, lA_]; omega
theorem clear_less {x : BitVec 64} (h : x ≠ 0#64) : (listW (x &&& (x - 1#64))).length < (listW x).length := by
 rw [clear h]; simp
theorem listR_length (r : Row) : (listR r).length ≤ 64 * r.length := listTo_length r _
end Go.Ew
namespace Go.Ew
def orAt (a b : Row) (i : Nat) : BitVec 64 := a.getD i 0#64 ||| b.getD i 0#64
def orR (a b : Row) : Row := (List.range (max a.length b.length)).map (orAt a b)
theorem orAt_comm (a b : Row) (i : Nat) : orAt a b i = orAt b a i := BitVec.or_comm _ _
theorem orR_comm (a b : Row) : orR a b = orR b a := by
 unfold orR
 rw [Nat.max_comm]
 exact List.map_congr_left fun i _ => orAt_comm a b i
theorem orR_length (a b : Row) : (orR a b).length = max a.length b.length := by unfold orR; simp
def orTo (m : Nat) (a b z : Row) (j : Nat) : Row := (List.range m).map fun i => if i < j then orAt a b i else z.getD i 0#64
theorem orTo_length (m : Nat) (a b z : Row) (j : Nat) : (orTo m a b z j).length = m := by unfold orTo; simp
theorem orTo_zero (a b z : Row) : z = orTo z.length a b z 0 := by
 apply List.ext_getElem
 ·rw [orTo_length]
 ·intro i h1 h2
  unfold orTo
  simp [gD_, h1]
theorem orTo_get {m : Nat} {a b z : Row} {j : Nat} {x : BitVec 64} (h : (orTo m a b z j)[((j : Nat) : Int).toNat]? = some x) : x = z.getD j 0#64 := by
 rw [tN_] at h
 obtain ⟨h1, h2⟩ := gS_.1 h
 rw [← h2]
 unfold orTo
 simp
theorem orTo_set {m : Nat} {a b z : Row} {j : Nat} {v : BitVec 64} (hv : v = orAt a b j) : (orTo m a b z j).set j v = orTo m a b z (j + 1) := by
 apply List.ext_getElem
 ·simp [orTo_length]
 ·intro i h1 h2
  have hm : i < m := by rw [orTo_length] at h2; exact h2
  rw [List.getElem_set]
  unfold orTo
  simp only [List.getElem_map, List.getElem_range]
  by_cases hij : j = i
  ·subst hij; simp [hv]
  ·have : (i < j + 1) ↔ (i < j) := by omega
   simp [hij, this]
theorem orTo_next {m : Nat} {a b z : Row} {j : Nat} (hz : z.getD j 0#64 = orAt a b j) : orTo m a b z j = orTo m a b z (j + 1) := by
 unfold orTo
 apply List.map_congr_left
 intro i _
 by_cases hij : i = j
 ·subst hij; rw [if_neg (Nat.lt_irrefl _), if_pos (Nat.lt_succ_self _), hz]
 ·have : (i < j + 1) ↔ (i < j) := by omega
  simp [this]
theorem orTo_all {a b z : Row} {j m : Nat} (hm : m = max a.length b.length) (h : ∀ i, j ≤ i → i < m → z.getD i 0#64 = orAt a b i) : orTo m a b z j = orR a b := by
 unfold orTo orR
 subst hm
 apply List.map_congr_left
 intro i hi
 rw [List.mem_range] at hi
 split
 ·rfl
 ·exact h i (by omega) hi
theorem orAt_left {a b : Row} {i : Nat} (h : b.length ≤ i) : a.getD i 0#64 = orAt a b i := by
 unfold orAt; rw [getD_out h, BitVec.or_zero]
theorem orAt_none {a b : Row} {i : Nat} (h1 : a.length ≤ i) (h : b.length ≤ i) : 0#64 = orAt a b i := by
 unfold orAt; rw [getD_out h, getD_out h1, BitVec.or_zero]
theorem orTo_rep (m : Nat) (a b : Row) : List.replicate m 0#64 = orTo m a b [] 0 := by
 apply List.ext_getElem
 ·simp [orTo_length]
 ·intro i h1 h2
  unfold orTo
  simp
def listN (r : Row) (n : Nat) : List Int := ((List.range n).filter fun k => hasR r ((k : Nat) : Int)).map fun k => ((k : Nat) : Int)
theorem range_add_map (m k : Nat) : List.range (m + k) = List.range m ++ (List.range k).map (fun i => m + i) := by
 apply List.ext_getElem
 ·simp
 ·intro i h1 h2
  simp only [List.getElem_range]
  by_cases h : i < m
  ·rw [List.getElem_append_left (by simpa using h)]; simp
  ·rw [List.getElem_append_right (by simpa using h)]; simp; omega
theorem hasR_word (r : Row) (j k : Nat) (hk : k < 64) : hasR r (((64 * j + k : Nat) : Nat) : Int) = (r.getD j 0#64).getLsbD k := by
 unfold hasR
 rw [tN_, show (64 * j + k) / 64 = j from by omega, show (64 * j + k) % 64 = k from by omega]
 simp only [Bool.and_eq_right_iff_imp, decide_eq_true_eq]
 intro _; omega
theorem listN_list (r : Row) : ∀ j, listN r (64 * j) = listTo r j
 | 0 => rfl
 | j + 1 => by
  rw [listTo_succ, ← listN_list r j, show 64 * (j + 1) = 64 * j + 64 from by omega]
  unfold listN intsW listW
  rw [range_add_map, List.filter_append, List.map_append]
  congr 1
  rw [List.filter_map, List.map_map]
  have e : (List.range 64).filter ((fun k => hasR r ((k : Nat) : Int)) ∘ fun i => 64 * j + i) = (List.range 64).filter fun k => (r.getD j 0#64).getLsbD k := by
   apply List.filter_congr
   intro k hk
   rw [List.mem_range] at hk
   exact hasR_word r j k hk
  rw [e]
  apply List.map_congr_left
  intro k _
  show ((64 * j + k : Nat) : Int) = (j : Int) * 64 + ((k : Nat) : Int)
  omega
theorem listN_all (r : Row) : listN r (64 * r.length) = listR r := listN_list r r.length
end Go.Ew
namespace Go.Ew
theorem hasR_neg (r : Row) {i : Int} (h : i < 0) : hasR r i = false := (hasR_no (by omega)).symm
theorem hasR_nat (r : Row) (n : Nat) : hasR r ((n : Nat) : Int) = (r.getD (n / 64) 0#64).getLsbD (n % 64) := by
 unfold hasR; rw [tN_]; simp
theorem hasR_setR {r : Row} {i k : Int} : hasR (setR r i) k = (hasR r k || (decide (k = i) && inR r i)) := by
 cases h : inR r i with
 | false => rw [← setR_out h]; simp
 | true =>
  by_cases hk : k = i
  ·subst hk; rw [hasR_set_self, h]; simp
  ·simp only [hk, decide_false, Bool.false_and, Bool.or_false]
   by_cases hk0 : k < 0
   ·rw [hasR_neg _ hk0, hasR_neg _ hk0]
   ·obtain ⟨n, rfl⟩ : ∃ n : Nat, k = ((n : Nat) : Int) := ⟨k.toNat, by omega⟩
    have h' := h
    unfold inR at h'; simp only [decide_eq_true_eq] at h'
    rw [hasR_nat, hasR_nat]
    by_cases hw : n / 64 < r.length
    ·rw [setR_get h _ hw]
     split
     ·rename_i e
      rw [or_bit_get _ _ _ (by omega) (by omega)]
      have : ¬ n % 64 = i.toNat % 64 := by omega
      simp [this]
     ·rfl
    ·rw [getD_out (by rw [setR_length]; omega), getD_out (by omega)]
theorem row_ext {a b : Row} (hl : a.length = b.length) (h : ∀ n : Nat, hasR a ((n : Nat) : Int) = hasR b ((n : Nat) : Int)) : a = b := by
 apply List.ext_getElem hl
 intro j h1 h2
 apply BitVec.eq_of_getLsbD_eq
 intro k hk
 have e1 := hasR_word a j k hk
 have e2 := hasR_word b j k hk
 rw [h, e2, gD_, gD_, gE_ h1, gE_ h2] at e1
 simpa using e1.symm
theorem foldl_setR_length : ∀ (l : List Int) (r : Row), (l.foldl setR r).length = r.length
 | [], _ => rfl
 | i :: l, r => by rw [List.foldl_cons, foldl_setR_length l, setR_length]
theorem foldl_setR_has : ∀ (l : List Int) (r : Row) (k : Int), hasR (l.foldl setR r) k = (hasR r k || (l.any fun i => decide (k = i) && inR r i))
 | [], r, k => by simp
 | i :: l, r, k => by
  rw [List.foldl_cons, foldl_setR_has l, hasR_setR]
  simp only [inR_set, List.any_cons, Bool.or_assoc]
theorem newR_has (n k : Int) : hasR (newR n) k = false := by
 by_cases hk : k < 0
 ·exact hasR_neg _ hk
 ·obtain ⟨m, rfl⟩ : ∃ m : Nat, k = ((m : Nat) : Int) := ⟨k.toNat, by omega⟩
  rw [hasR_nat]
  unfold newR
  rw [gD_]
  by_cases h : m / 64 < words n
  ·simp [List.getElem?_replicate, h]
  ·simp [List.getElem?_replicate, h]
theorem hasR_or (a b : Row) (i : Int) : hasR (orR a b) i = (hasR a i || hasR b i) := by
 by_cases hk : i < 0
 ·rw [hasR_neg _ hk, hasR_neg _ hk, hasR_neg _ hk]; rfl
 ·obtain ⟨n, rfl⟩ : ∃ n : Nat, i = ((n : Nat) : Int) := ⟨i.toNat, by omega⟩
  rw [hasR_nat, hasR_nat, hasR_nat]
  by_cases h : n / 64 < max a.length b.length
  ·have : (orR a b).getD (n / 64) 0#64 = orAt a b (n / 64) := by
    rw [gD_, gE_ (by rw [orR_length]; exact h)]
    unfold orR
    simp
   rw [this, orAt, BitVec.getLsbD_or]
  ·rw [getD_out (by rw [orR_length]; omega), getD_out (by omega), getD_out (by omega)]; simp
theorem or_both {m j : Nat} {a b xs : Row} {x0 x2 x3 : BitVec 64} (hs : xs = orTo m a b [] j) (ha : a[((j : Nat) : Int).toNat]? = some x0) (h2 : (xs.set ((j : Nat) : Int).toNat x0)[((j : Nat) : Int).toNat]? = some x2) (hb : b[((j : Nat) : Int).toNat]? = some x3) :
  (xs.set ((j : Nat) : Int).toNat x0).set ((j : Nat) : Int).toNat (x2 ||| x3) = orTo m a b [] (j + 1) := by
 have e2 : x2 = x0 := by
  have hl : ((j : Nat) : Int).toNat < xs.length := by
   have := (gS_.1 h2).1
   simpa using this
  rw [List.getElem?_set_self hl] at h2
  exact (Option.some.inj h2).symm
 rw [List.set_set, e2, hs, tN_]
 exact orTo_set (by unfold orAt; rw [getD_at ha, getD_at hb])
theorem or_left {m j : Nat} {a b xs : Row} {x0 : BitVec 64} (hs : xs = orTo m a b [] j) (ha : a[((j : Nat) : Int).toNat]? = some x0) (hb : b.length ≤ j) : xs.set ((j : Nat) : Int).toNat x0 = orTo m a b [] (j + 1) := by
 rw [hs, tN_]
 exact orTo_set (by rw [← getD_at ha]; exact orAt_left hb)
theorem or_right {m j : Nat} {a b xs : Row} {x1 x2 : BitVec 64} (hs : xs = orTo m a b [] j) (ha : a.length ≤ j) (h1 : xs[((j : Nat) : Int).toNat]? = some x1) (hb : b[((j : Nat) : Int).toNat]? = some x2) : xs.set ((j : Nat) : Int).toNat (x1 ||| x2) = orTo m a b [] (j + 1) := by
 have e1 := orTo_get (hs ▸ h1)
 rw [hs, tN_]
 refine orTo_set ?_
 unfold orAt
 rw [e1, getD_at hb, getD_out ha]
 simp
theorem or_none {m j : Nat} {a b xs : Row} (hs : xs = orTo m a b [] j) (ha : a.length ≤ j) (hb : b.length ≤ j) : xs = orTo m a b [] (j + 1) := by
 rw [hs]
 refine orTo_next ?_
 rw [← orAt_none ha hb]
 simp
end Go.Ew
namespace Go.Ew
open Go.RowKit
theorem At.s1 {α β : Type} [GT α] [GT β] {M : Nat → Prop} {w : World} {ad : Addr} {x : α × β} (h : At M w ad x) : At M w (ad.add (GT.size α)) x.2 := h.snd
theorem At.s2 {α β γ : Type} [GT α] [GT β] [GT γ] {M : Nat → Prop} {w : World} {ad : Addr} {x : α × β × γ} (h : At M w ad x) : At M w (ad.add (GT.size α + GT.size β)) x.2.2 := by have h_ := h.s1.snd; rwa [add_add] at h_
theorem At.s3 {α β γ δ : Type} [GT α] [GT β] [GT γ] [GT δ] {M : Nat → Prop} {w : World} {ad : Addr} {x : α × β × γ × δ} (h : At M w ad x) : At M w (ad.add (GT.size α + GT.size β + GT.size γ)) x.2.2.2 := by have h_ := h.s2.snd; rwa [add_add] at h_
theorem At.s4 {α β γ δ ε : Type} [GT α] [GT β] [GT γ] [GT δ] [GT ε] {M : Nat → Prop} {w : World} {ad : Addr} {x : α × β × γ × δ × ε} (h : At M w ad x) : At M w (ad.add (GT.size α + GT.size β + GT.size γ + GT.size δ)) x.2.2.2.2 := by have h_ := h.s3.snd; rwa [add_add] at h_
theorem At.s5 {α β γ δ ε ζ : Type} [GT α] [GT β] [GT γ] [GT δ] [GT ε] [GT ζ] {M : Nat → Prop} {w : World} {ad : Addr} {x : α × β × γ × δ × ε × ζ} (h : At M w ad x) : At M w (ad.add (GT.size α + GT.size β + GT.size γ + GT.size δ + GT.size ε)) x.2.2.2.2.2 := by have h_ := h.s4.snd; rwa [add_add] at h_
theorem At.s6 {α β γ δ ε ζ η : Type} [GT α] [GT β] [GT γ] [GT δ] [GT ε] [GT ζ] [GT η] {M : Nat → Prop} {w : World} {ad : Addr} {x : α × β × γ × δ × ε × ζ × η} (h : At M w ad x) : At M w (ad.add (GT.size α + GT.size β + GT.size γ + GT.size δ + GT.size ε + GT.size ζ)) x.2.2.2.2.2.2 := by have h_ := h.s5.snd; rwa [add_add] at h_
theorem AtW.s1 {α β : Type} [GT α] [GT β] {M : Nat → Prop} {w : World} {ad : Addr} {x : α × β} (h : AtW M w ad x) : AtW M w (ad.add (GT.size α)) x.2 := h.snd
theorem AtW.s2 {α β γ : Type} [GT α] [GT β] [GT γ] {M : Nat → Prop} {w : World} {ad : Addr} {x : α × β × γ} (h : AtW M w ad x) : AtW M w (ad.add (GT.size α + GT.size β)) x.2.2 := by have h_ := h.s1.snd; rwa [add_add] at h_
theorem AtW.s3 {α β γ δ : Type} [GT α] [GT β] [GT γ] [GT δ] {M : Nat → Prop} {w : World} {ad : Addr} {x : α × β × γ × δ} (h : AtW M w ad x) : AtW M w (ad.add (GT.size α + GT.size β + GT.size γ)) x.2.2.2 := by have h_ := h.s2.snd; rwa [add_add] at h_
theorem AtW.s4 {α β γ δ ε : Type} [GT α] [GT β] [GT γ] [GT δ] [GT ε] {M : Nat → Prop} {w : World} {ad : Addr} {x : α × β × γ × δ × ε} (h : AtW M w ad x) : AtW M w (ad.add (GT.size α + GT.size β + GT.size γ + GT.size δ)) x.2.2.2.2 := by have h_ := h.s3.snd; rwa [add_add] at h_
theorem AtW.s5 {α β γ δ ε ζ : Type} [GT α] [GT β] [GT γ] [GT δ] [GT ε] [GT ζ] {M : Nat → Prop} {w : World} {ad : Addr} {x : α × β × γ × δ × ε × ζ} (h : AtW M w ad x) : AtW M w (ad.add (GT.size α + GT.size β + GT.size γ + GT.size δ + GT.size ε)) x.2.2.2.2.2 := by have h_ := h.s4.snd; rwa [add_add] at h_
theorem AtW.s6 {α β γ δ ε ζ η : Type} [GT α] [GT β] [GT γ] [GT δ] [GT ε] [GT ζ] [GT η] {M : Nat → Prop} {w : World} {ad : Addr} {x : α × β × γ × δ × ε × ζ × η} (h : AtW M w ad x) : AtW M w (ad.add (GT.size α + GT.size β + GT.size γ + GT.size δ + GT.size ε + GT.size ζ)) x.2.2.2.2.2.2 := by have h_ := h.s5.snd; rwa [add_add] at h_
section
variable {P : Program}
def Leaf (P : Program) (t : TypeId) (v u : Value) (r : Bool) : Prop := (∀ w, (isAgg t).run P w = .ok false w) ∧ ∀ d w, (Op.equalIn (d + 1) t v u).run P w = .ok r w
theorem noAgg {t : TypeId} {d : TypeDesc} (h : P.underlying t = some d) (hd : (match d with | .struct _ | .array _ _ => false | _ => true) = true) (w : World) : (isAgg t).run P w = .ok false w := by
 cases d <;> first | (cases hd; done) | simp [isAgg, underlying, h]
theorem leafI {t : TypeId} {k kk : IntKind} {a b : Int} (h : P.underlying t = some (.int k)) : Leaf P t (.int kk a) (.int kk b) (decide (a = b)) :=
 ⟨noAgg h rfl, fun d w => by rw [run_equalIn_int w d t kk k a b h]; congr 1⟩
theorem leafB {t : TypeId} {a b : Bool} (h : P.underlying t = some .bool) : Leaf P t (.bool a) (.bool b) (decide (a = b)) :=
 ⟨noAgg h rfl, fun d w => by rw [run_equalIn_bool' w d t a b h]; congr 1⟩
theorem leafS {t : TypeId} {a b : ByteArray} (h : P.underlying t = some .string) : Leaf P t (.string a) (.string b) (decide (a = b)) :=
 ⟨noAgg h rfl, fun d w => by
  have e : (a.toList == b.toList) = decide (a = b) := by
   rw [← beq_toListBytes, Bool.eq_iff_iff]
   rcases a with ⟨x⟩
   rcases b with ⟨y⟩
   show (x == y) = true ↔ _
   simp
  rw [run_equalIn_string w d t a b h, e]⟩
theorem part_leaf {t : TypeId} {cs : Array Value} {off : Nat} {v : Value} (h : ∀ w, (isAgg t).run P w = .ok false w) (hc : cs[off]? = some v) (w : World) : (part t cs off).run P w = .ok v w := by
 simp [part, h w, hc]
def leafKind (P : Program) (t : TypeId) : Option Nat := match P.underlying t with | some (.int _) => some 0 | some .bool => some 1 | some .string => some 2 | _ => none
def fldsK (P : Program) (T : TypeId) : List (Option (Nat × Nat)) := (P.fieldsOf T).toList.map fun f => if f.name = "_" then none else (leafKind P f.type).map fun k => (f.offset, k)
def KEq (xs ys : Array Value) : List (Option (Nat × Nat)) → List Bool → Prop
 | [], [] => True
 | some (o, 0) :: ks, r :: rs => (∃ kk a b, xs[o]? = some (.int kk a) ∧ ys[o]? = some (.int kk b) ∧ r = decide (a = b)) ∧ KEq xs ys ks rs
 | some (o, 1) :: ks, r :: rs => (∃ a b, xs[o]? = some (.bool a) ∧ ys[o]? = some (.bool b) ∧ r = decide (a = b)) ∧ KEq xs ys ks rs
 | some (o, 2) :: ks, r :: rs => (∃ a b, xs[o]? = some (.string a) ∧ ys[o]? = some (.string b) ∧ r = decide (a = b)) ∧ KEq xs ys ks rs
 | _, _ => False
theorem leafKind_0 {t : TypeId} (h : leafKind P t = some 0) : ∃ k, P.underlying t = some (.int k) := by
 unfold leafKind at h; split at h <;> simp_all
theorem leafKind_1 {t : TypeId} (h : leafKind P t = some 1) : P.underlying t = some .bool := by
 unfold leafKind at h; split at h <;> simp_all
theorem leafKind_2 {t : TypeId} (h : leafKind P t = some 2) : P.underlying t = some .string := by
 unfold leafKind at h; split at h <;> simp_all
theorem eqFlds {xs ys : Array Value} : ∀ {fs : List Field} {rs : List Bool} (d : Nat) (w : World), KEq xs ys (fs.map fun f => if f.name = "_" then none else (leafKind P f.type).map fun k => (f.offset, k)) rs → (Op.eqFields (d + 1) xs ys fs).run P w = .ok (rs.all id) w
 | [], [], d, w, _ => by simp [Op.eqFields]
 | [], _ :: _, d, w, h => by simp [KEq] at h
 | f :: fs, rs, d, w, h => by
  rw [List.map_cons] at h
  by_cases hn : f.name = "_"
  ·rw [if_pos hn] at h; cases rs <;> simp [KEq] at h
  ·rw [if_neg hn] at h
   have key : ∀ (a b : Value) (r : Bool) (rs' : List Bool), Leaf P f.type a b r → xs[f.offset]? = some a → ys[f.offset]? = some b →
     KEq xs ys (fs.map fun f => if f.name = "_" then none else (leafKind P f.type).map fun k => (f.offset, k)) rs' → (Op.eqFields (d + 1) xs ys (f :: fs)).run P w = .ok ((r :: rs').all id) w := by
    intro a b r rs' hl ha hb ht
    have ih := eqFlds d w ht
    simp only [Op.eqFields, ne_eq, hn, not_false_eq_true, if_true, Sem.run_bind, part_leaf hl.1 ha w, part_leaf hl.1 hb w, hl.2 d w, Result.andThen_ok]
    cases r
    ·simp
    ·simp [ih]
   cases hk : leafKind P f.type with
   | none => rw [hk] at h; cases rs <;> simp [KEq] at h
   | some k =>
    rw [hk, Option.map_some] at h
    cases rs with
    | nil => simp [KEq] at h
    | cons r rs' =>
     match k, hk, h with
     | 0, hk, ⟨⟨kk, a, b, ha, hb, hr⟩, ht⟩ =>
      obtain ⟨q, hq⟩ := leafKind_0 hk
      rw [hr]; exact key _ _ _ _ (leafI hq) ha hb ht
     | 1, hk, ⟨⟨a, b, ha, hb, hr⟩, ht⟩ => rw [hr]; exact key _ _ _ _ (leafB (leafKind_1 hk)) ha hb ht
     | 2, hk, ⟨⟨a, b, ha, hb, hr⟩, ht⟩ => rw [hr]; exact key _ _ _ _ (leafS (leafKind_2 hk)) ha hb ht
     | (n + 3), hk, h => simp [KEq] at h
structure StF (P : Program) (T : TypeId) (ks : List (Option (Nat × Nat))) : Prop where
 u : P.underlying T = some (.struct (P.fieldsOf T))
 s : P.stoodInHeld T = false
 g : P.eqGuardType P.depth T = false
 k : fldsK P T = ks
theorem StF.eq {T : TypeId} {ks : List (Option (Nat × Nat))} (F : StF P T ks) {xs ys : Array Value} {rs : List Bool} (h : KEq xs ys ks rs) (d : Nat) (w : World) : (Op.equalIn (d + 2) T (.agg xs) (.agg ys)).run P w = .ok (rs.all id) w := by
 rw [run_equalIn_agg w (d + 1) T xs ys F.u F.s]
 exact eqFlds d w (by rw [← F.k] at h; exact h)
structure ArF (P : Program) (T : TypeId) : Prop where
 h : ∃ e k i, P.underlying T = some (.array 2 e) ∧ P.underlying e = some (.int k) ∧ P.info? e = some i ∧ P.cellsOf e = 1
 g : P.eqGuardType P.depth T = false
theorem ArF.eq {T : TypeId} (F : ArF P T) {k1 k2 : IntKind} {a b c d : Int} (m : Nat) (w : World) : (Op.equalIn (m + 2) T (.agg #[.int k1 a, .int k2 b]) (.agg #[.int k1 c, .int k2 d])).run P w = .ok (decide (a = c) && decide (b = d)) w := by
 obtain ⟨e, k, i, h1, h2, h3, h4⟩ := F.h
 have l1 : Leaf P e (.int k1 a) (.int k1 c) (decide (a = c)) := leafI h2
 have l2 : Leaf P e (.int k2 b) (.int k2 d) (decide (b = d)) := leafI h2
 have p1 : (part e #[.int k1 a, .int k2 b] 0).run P w = .ok (.int k1 a) w := part_leaf l1.1 rfl w
 have p2 : (part e #[.int k1 c, .int k2 d] 0).run P w = .ok (.int k1 c) w := part_leaf l1.1 rfl w
 have p3 : (part e #[.int k1 a, .int k2 b] 1).run P w = .ok (.int k2 b) w := part_leaf l1.1 rfl w
 have p4 : (part e #[.int k1 c, .int k2 d] 1).run P w = .ok (.int k2 d) w := part_leaf l1.1 rfl w
 rw [run_equalIn_array w (m + 1) _ _ h1 h3, h4, show List.range 2 = [0, 1] from rfl]
 simp only [Op.eqItems, Sem.run_bind, Sem.run_ite, Sem.run_pure, Nat.mul_one, p1, p2, p3, p4, l1.2 m w, l2.2 m w, Result.andThen_ok]
 by_cases e1 : a = c <;> by_cases e2 : b = d <;> simp [e1, e2]
section
variable {n : Nat} {ops : Array Oper} {f : Slots} {w : World} {K : Slots → World → Prop} {x y c : Operand} {d : Nat} {ty T T2 : TypeId} {ps : String} {af : Array Edge}
end
abbrev K2 (p : Int × Int) : Value := .agg #[.int .i64 p.1, .int .i64 p.2]
abbrev KV := List ((Int × Int) × Int)
structure Key2 (P : Program) (kt : TypeId) : Prop where
 u : ∃ d, P.underlying kt = some d
 eq : ∀ a b w, (Op.equal kt (K2 a) (K2 b)).run P w = .ok (decide (a = b)) w
 chk : ∀ e a w, (Instr.checkKey e 10000 kt (K2 a)).run P w = .ok () w
structure MapF (P : Program) (T : TypeId) : Prop where
 h : ∃ kt et, P.underlying T = some (.map kt et) ∧ Key2 P kt ∧ ∀ w, (zeroValue et).run P w = .ok (.int .i64 0) w
section
variable {n : Nat} {ops : Array Oper} {f : Slots} {w : World} {K : Slots → World → Prop} {x y c : Operand} {d : Nat} {ty T T2 : TypeId} {ps : String} {af : Array Edge} {M0 : Nat → Prop} {w0 : World} {l : List Item} {m : KV} {b : Nat}
end
end
end Go.Ew
namespace Go.Ew
end Go.Ew
namespace Go.Ew
abbrev OpL := Bool × ByteArray × Int
abbrev ItemL := Int × Int × Bool × Int × Int
abbrev HistL := List (List OpL)
def okC (c : UInt8) : Bool := !(decide (((c.toNat : Nat) : Int) < 97)) && !(decide ((122 : Int) < ((c.toNat : Nat) : Int)))
def nameS (s : ByteArray) : Bool := s.data.toList.all okC && decide (1 ≤ s.size) && decide (s.size ≤ 8)
theorem byte_at {s : ByteArray} {j : Nat} {c : UInt8} (h : s[((j : Nat) : Int).toNat]? = some c) : s.data.toList[((j : Nat) : Int).toNat]? = some c := by
 rw [tN_] at h ⊢
 rw [Array.getElem?_toList]
 have hj : j < s.size := by
  refine Classical.byContradiction fun hn => ?_
  rw [getElem?_neg s j hn] at h; cases h
 rw [getElem?_pos s j hj] at h
 rw [Array.getElem?_eq_getElem hj]
 exact h
theorem name_no {s : ByteArray} {j : Nat} {c : UInt8} (h : s[((j : Nat) : Int).toNat]? = some c) (h1 : okC c = false) : false = nameS s := by
 unfold nameS; rw [all_no (byte_at h) h1]; rfl
theorem name_end {s : ByteArray} {j : Nat} (h : (s.data.toList.take j).all okC = true) (hj : s.size ≤ j) : s.data.toList.all okC = true := by
 rwa [List.take_of_length_le (by rw [Array.length_toList]; exact hj)] at h
theorem okC_lo {c : UInt8} (h : decide (((c.toNat : Nat) : Int) < 97) = true) : okC c = false := by unfold okC; rw [h]; rfl
theorem okC_hi {c : UInt8} (h : decide ((122 : Int) < ((c.toNat : Nat) : Int)) = true) : okC c = false := by unfold okC; rw [h]; simp
theorem okC_yes {c : UInt8} (h : decide (((c.toNat : Nat) : Int) < 97) = false) (h1 : decide ((122 : Int) < ((c.toNat : Nat) : Int)) = false) : okC c = true := by unfold okC; rw [h, h1]; rfl
theorem flat_step {α : Type} {h : List (List α)} {j : Nat} {x : List α} (hx : h[((j : Nat) : Int).toNat]? = some x) : (h.take (j + 1)).flatten = (h.take j).flatten ++ x := by
 rw [take_at hx]; simp
theorem flat_len {α : Type} {h : List (List α)} {j : Nat} {x : List α} (hx : h[((j : Nat) : Int).toNat]? = some x) : ((h.take j).flatten).length + x.length ≤ h.flatten.length := by
 have h1 : h.flatten = (h.take (j + 1)).flatten ++ (h.drop (j + 1)).flatten := by rw [← List.flatten_append, List.take_append_drop]
 rw [h1, flat_step hx]; simp
def opName (o : OpL) : Bool := nameS o.2.1
def rightH (h : HistL) : Bool := h.flatten.all opName && decide (h.flatten.length ≤ 4096)
theorem right_no {h : HistL} {i : Nat} {x : OpL} (hx : h.flatten[i]? = some x) (h1 : nameS x.2.1 = false) : false = rightH h := by
 unfold rightH; rw [all_no hx h1]; rfl
theorem right_end {h : HistL} {j : Nat} (hs : (h.flatten.take j).all opName = true) (hj : h.flatten.length ≤ j) : decide ((h.flatten.length : Int) ≤ 4096) = rightH h := by
 unfold rightH; rw [take_end hj] at hs; rw [hs, Bool.true_and, decide_eq_decide]; omega
def opShort (o : OpL) : Bool := decide (o.2.1.size ≤ 20)
def smallH (h : HistL) (m : Int) : Bool := decide ((h.length : Int) ≤ m) && decide ((h.flatten.length : Int) ≤ m) && h.flatten.all opShort
theorem small_iff {h : HistL} {m : Int} : smallH h m = true ↔ (h.length : Int) ≤ m ∧ (h.flatten.length : Int) ≤ m ∧ ∀ o ∈ h.flatten, o.2.1.size ≤ 20 := by
 unfold smallH
 rw [bA_, bA_, decide_eq_true_eq, decide_eq_true_eq, List.all_eq_true, and_assoc]
 unfold opShort
 simp only [decide_eq_true_eq]
theorem small_no1 {h : HistL} {m : Int} (hm : m < (h.length : Int)) : false = smallH h m := by unfold smallH; rw [decide_eq_false (by omega)]; rfl
theorem small_no2 {h : HistL} {m : Int} (hm : m < (h.flatten.length : Int)) : false = smallH h m := by unfold smallH; rw [show decide ((h.flatten.length : Int) ≤ m) = false from decide_eq_false (by omega)]; simp
theorem small_no3 {h : HistL} {m : Int} {i : Nat} {x : OpL} (hx : h.flatten[i]? = some x) (h1 : 20 < (x.2.1.size : Int)) : false = smallH h m := by
 unfold smallH; rw [all_no hx (show opShort x = false from decide_eq_false (by omega))]; simp
theorem small_end {h : HistL} {m : Int} {j : Nat} (h1 : ¬ m < (h.length : Int)) (h2 : ¬ m < (h.flatten.length : Int)) (hs : (h.flatten.take j).all opShort = true) (hj : h.flatten.length ≤ j) : true = smallH h m := by
 unfold smallH; rw [take_end hj] at hs; rw [hs, decide_eq_true (by omega), decide_eq_true (by omega)]; rfl
def isS (s : ByteArray) (t : ByteArray) : Bool := decide (t = s)
def findS (l : List ByteArray) (s : ByteArray) : Int := idxF (isS s) l
def addV (vs : List ByteArray) (s : ByteArray) : List ByteArray := if findS vs s < 0 then vs ++ [s] else vs
def numV (vs : List ByteArray) (s : ByteArray) : Int := if findS vs s < 0 then (vs.length : Int) else findS vs s
abbrev StO := List ByteArray × List ItemL
def stepO (i : Nat) (st : StO) (x : OpL × Nat) : StO := (addV st.1 x.1.2.1, st.2 ++ [(((i : Nat) : Int), ((x.2 : Nat) : Int), x.1.1, numV st.1 x.1.2.1, x.1.2.2)])
def toO (i : Nat) (st : StO) (ops : List OpL) (k : Nat) : StO := ((ops.take k).zipIdx).foldl (stepO i) st
def sesO (i : Nat) (st : StO) (ops : List OpL) : StO := toO i st ops ops.length
def allO (h : HistL) (j : Nat) : StO := ((h.take j).zipIdx).foldl (fun st x => sesO x.2 st x.1) ([], [])
theorem zip_step {α : Type} {l : List α} {k : Nat} {x : α} (hx : l[((k : Nat) : Int).toNat]? = some x) : (l.take (k + 1)).zipIdx = (l.take k).zipIdx ++ [(x, k)] := by
 have hk : k < l.length := by rw [tN_] at hx; exact (gS_.1 hx).1
 rw [take_at hx, List.zipIdx_append]
 simp; omega
theorem toO_zero (i : Nat) (st : StO) (ops : List OpL) : toO i st ops 0 = st := rfl
theorem toO_step {i k : Nat} {st : StO} {ops : List OpL} {x : OpL} (hx : ops[((k : Nat) : Int).toNat]? = some x) : toO i st ops (k + 1) = stepO i (toO i st ops k) (x, k) := by
 unfold toO; rw [zip_step hx, List.foldl_append]; rfl
theorem allO_step {h : HistL} {j : Nat} {x : List OpL} (hx : h[((j : Nat) : Int).toNat]? = some x) : allO h (j + 1) = sesO j (allO h j) x := by
 unfold allO; rw [zip_step hx, List.foldl_append]; rfl
theorem getD_row {α : Type} {h : List (List α)} {j : Nat} {x : List α} (hx : h[((j : Nat) : Int).toNat]? = some x) : h.getD j [] = x := by
 rw [tN_] at hx; rw [gD_, hx]; rfl
theorem allO_end {h : HistL} {j k : Nat} (hj : j < h.length) (hk : (h.getD j []).length ≤ k) : toO j (allO h j) (h.getD j []) k = allO h (j + 1) := by
 have hx : h[((j : Nat) : Int).toNat]? = some h[j] := by rw [tN_]; exact gE_ hj
 rw [allO_step hx, getD_row hx] at *
 unfold sesO toO
 rw [List.take_of_length_le hk, List.take_length]
theorem toO_len (i : Nat) (st : StO) (ops : List OpL) : ∀ k, k ≤ ops.length → (toO i st ops k).2.length = st.2.length + k ∧ (toO i st ops k).1.length ≤ st.1.length + k
 | 0, _ => by rw [toO_zero]; omega
 | k + 1, h => by
  have ih := toO_len i st ops k (by omega)
  have hx : ops[((k : Nat) : Int).toNat]? = some ops[k] := by rw [tN_]; exact gE_ (by omega)
  rw [toO_step hx]
  have e1 : (stepO i (toO i st ops k) (ops[k], k)).2.length = (toO i st ops k).2.length + 1 := by unfold stepO; simp
  have e2 : (stepO i (toO i st ops k) (ops[k], k)).1.length ≤ (toO i st ops k).1.length + 1 := by unfold stepO addV; simp only; split <;> simp
  omega
theorem allO_len (h : HistL) : ∀ j, j ≤ h.length → (allO h j).2.length = ((h.take j).flatten).length ∧ (allO h j).1.length ≤ ((h.take j).flatten).length
 | 0, _ => by simp [allO]
 | j + 1, hj => by
  have ih := allO_len h j (by omega)
  have hx : h[((j : Nat) : Int).toNat]? = some h[j] := by rw [tN_]; exact gE_ (by omega)
  rw [allO_step hx, flat_step hx, lA_]
  have := toO_len j (allO h j) h[j] h[j].length (Nat.le_refl _)
  unfold sesO
  omega
theorem of_room {h : HistL} {j k : Nat} {x : List OpL} (hx : h[((j : Nat) : Int).toNat]? = some x) (hk : k < x.length) :
  (toO j (allO h j) x k).2.length + 1 ≤ h.flatten.length ∧ (toO j (allO h j) x k).1.length + 1 ≤ h.flatten.length := by
 have hj : j < h.length := by rw [tN_] at hx; exact (gS_.1 hx).1
 have h1 := allO_len h j (by omega)
 have h2 := toO_len j (allO h j) x k (by omega)
 have h3 := flat_len hx
 omega
def factV (h : HistL) : List ByteArray := (allO h h.length).1
def factI (h : HistL) : List ItemL := (allO h h.length).2
theorem factI_len (h : HistL) : (factI h).length = h.flatten.length := by
 have := (allO_len h h.length (Nat.le_refl _)).1
 rwa [List.take_length] at this
def ofV (h : HistL) : List ByteArray := if rightH h then factV h else []
def ofI (h : HistL) : List ItemL := if rightH h then factI h else []
def ofE (h : HistL) : Int := if rightH h then 0 else 1
theorem of_ok {h : HistL} (hr : rightH h = true) : ofV h = factV h ∧ ofI h = factI h ∧ ofE h = 0 := by unfold ofV ofI ofE; simp [hr]
theorem of_bad {h : HistL} (hr : rightH h = false) : ofV h = [] ∧ ofI h = [] ∧ ofE h = 1 := by unfold ofV ofI ofE; simp [hr]
theorem ofI_len (h : HistL) : (ofI h).length ≤ h.flatten.length := by
 unfold ofI; split
 ·rw [factI_len]; exact Nat.le_refl _
 ·simp
theorem step_new {i k : Nat} {st : StO} {ops : List OpL} {x : OpL} (hx : ops[((k : Nat) : Int).toNat]? = some x) (hf : findS (toO i st ops k).1 x.2.1 < 0) :
  (toO i st ops k).1 ++ [x.2.1] = (toO i st ops (k + 1)).1 ∧ (toO i st ops k).2 ++ [(((i : Nat) : Int), ((k : Nat) : Int), x.1, ((toO i st ops k).1.length : Int), x.2.2)] = (toO i st ops (k + 1)).2 := by
 rw [toO_step hx]; unfold stepO addV numV; rw [if_pos hf, if_pos hf]; exact ⟨rfl, rfl⟩
theorem step_old {i k : Nat} {st : StO} {ops : List OpL} {x : OpL} (hx : ops[((k : Nat) : Int).toNat]? = some x) (hf : ¬ findS (toO i st ops k).1 x.2.1 < 0) :
  (toO i st ops k).1 = (toO i st ops (k + 1)).1 ∧ (toO i st ops k).2 ++ [(((i : Nat) : Int), ((k : Nat) : Int), x.1, findS (toO i st ops k).1 x.2.1, x.2.2)] = (toO i st ops (k + 1)).2 := by
 rw [toO_step hx]; unfold stepO addV numV; rw [if_neg hf, if_neg hf]; exact ⟨rfl, rfl⟩
def isW (v val : Int) (x : ItemL) : Bool := x.2.2.1 && decide (x.2.2.2.1 = v) && decide (x.2.2.2.2 = val)
def wrI (its : List ItemL) (v val : Int) : Int := idxF (isW v val) its
def bad1 (its : List ItemL) (j : Nat) (x : ItemL) : Bool := x.2.2.1 && (decide (x.2.2.2.2 = 0) || decide (max (wrI its x.2.2.2.1 x.2.2.2.2) 0 < ((j : Nat) : Int)))
def badI (its : List ItemL) (j : Nat) : Bool := (its[j]?).any (bad1 its j)
def fbI (its : List ItemL) : Option Nat := (List.range its.length).find? (badI its)
def chkA (its : List ItemL) : Int × Int × Int := match fbI its with
 | none => (0, 0, 0)
 | some j => match its[j]? with
  | none => (0, 0, 0)
  | some x => if x.2.2.2.2 = 0 then (((j : Nat) : Int), ((j : Nat) : Int), 5) else (max (wrI its x.2.2.2.1 x.2.2.2.2) 0, ((j : Nat) : Int), 4)
theorem fb_none {its : List ItemL} {j : Nat} (h : ∀ k, k < j → badI its k = false) (hj : its.length ≤ j) : fbI its = none := by
 unfold fbI; rw [List.find?_eq_none]
 intro k hk
 rw [List.mem_range] at hk
 rw [h k (by omega)]; simp
theorem fb_some {its : List ItemL} {j : Nat} (h : ∀ k, k < j → badI its k = false) (hj : j < its.length) (hb : badI its j = true) : fbI its = some j := by
 unfold fbI
 rw [List.find?_eq_some_iff_append]
 refine ⟨hb, List.range j, (List.range (its.length - j - 1)).map (fun i => j + 1 + i), ?_, fun a ha => by rw [h a (List.mem_range.1 ha)]; rfl⟩
 have : its.length = j + (1 + (its.length - j - 1)) := by omega
 rw [this, range_add_map, range_add_map]
 simp [Nat.add_assoc]
theorem bad_at {its : List ItemL} {j : Nat} {x : ItemL} (hx : its[((j : Nat) : Int).toNat]? = some x) : badI its j = bad1 its j x := by
 rw [tN_] at hx; unfold badI; rw [hx]; rfl
theorem bad_next {its : List ItemL} {j : Nat} {x : ItemL} (h : ∀ k, k < j → badI its k = false) (hx : its[((j : Nat) : Int).toNat]? = some x) (hb : bad1 its j x = false) : ∀ k, k < j + 1 → badI its k = false := by
 intro k hk
 rcases Nat.lt_succ_iff_lt_or_eq.1 hk with h1 | rfl
 ·exact h k h1
 ·rw [bad_at hx]; exact hb
theorem chk_end {its : List ItemL} {j : Nat} (h : ∀ k, k < j → badI its k = false) (hj : its.length ≤ j) : chkA its = (0, 0, 0) := by
 unfold chkA; rw [fb_none h hj]
theorem chk_zero {its : List ItemL} {j : Nat} {x : ItemL} (h : ∀ k, k < j → badI its k = false) (hx : its[((j : Nat) : Int).toNat]? = some x) (hw : x.2.2.1 = true) (h0 : x.2.2.2.2 = 0) : chkA its = (((j : Nat) : Int), ((j : Nat) : Int), 5) := by
 have hj : j < its.length := by rw [tN_] at hx; exact (gS_.1 hx).1
 have hb : badI its j = true := by rw [bad_at hx]; unfold bad1; simp [hw, h0]
 unfold chkA; rw [fb_some h hj hb]
 rw [tN_] at hx
 simp only [hx, h0, if_true]
theorem chk_twice {its : List ItemL} {j : Nat} {x : ItemL} (h : ∀ k, k < j → badI its k = false) (hx : its[((j : Nat) : Int).toNat]? = some x) (hw : x.2.2.1 = true) (h0 : ¬ x.2.2.2.2 = 0)
  (h1 : max (wrI its x.2.2.2.1 x.2.2.2.2) 0 < ((j : Nat) : Int)) : chkA its = (max (wrI its x.2.2.2.1 x.2.2.2.2) 0, ((j : Nat) : Int), 4) := by
 have hj : j < its.length := by rw [tN_] at hx; exact (gS_.1 hx).1
 have hb : badI its j = true := by rw [bad_at hx]; unfold bad1; simp [hw, h1]
 unfold chkA; rw [fb_some h hj hb]
 rw [tN_] at hx
 simp only [hx, h0, if_false]
theorem bad_read {its : List ItemL} {j : Nat} {x : ItemL} (hw : x.2.2.1 = false) : bad1 its j x = false := by unfold bad1; rw [hw]; rfl
theorem bad_good {its : List ItemL} {j : Nat} {x : ItemL} (h0 : ¬ x.2.2.2.2 = 0) (h1 : ¬ max (wrI its x.2.2.2.1 x.2.2.2.2) 0 < ((j : Nat) : Int)) : bad1 its j x = false := by
 unfold bad1; rw [decide_eq_false h0, decide_eq_false h1]; simp
theorem wr_hit {its : List ItemL} {j : Nat} {x : ItemL} {v val : Int} (hx : its[((j : Nat) : Int).toNat]? = some x) (h1 : x.2.2.1 = true) (h2 : decide (x.2.2.2.1 = v) = true) (h3 : decide (x.2.2.2.2 = val) = true) (hs : (its.take j).any (isW v val) = false) : ((j : Nat) : Int) = wrI its v val :=
 idxF_hit hx hs (by unfold isW; rw [h1, h2, h3]; rfl)
theorem wr_miss {its : List ItemL} {j : Nat} {v val : Int} (hs : (its.take j).any (isW v val) = false) (h : its.length ≤ j) : (-1 : Int) = wrI its v val := idxF_miss hs h
theorem isW_no1 {x : ItemL} {v val : Int} (h : x.2.2.1 = false) : isW v val x = false := by unfold isW; rw [h]; rfl
theorem isW_no2 {x : ItemL} {v val : Int} (h : decide (x.2.2.2.1 = v) = false) : isW v val x = false := by unfold isW; rw [h]; simp
theorem isW_no3 {x : ItemL} {v val : Int} (h : decide (x.2.2.2.2 = val) = false) : isW v val x = false := by unfold isW; rw [h]; simp
end Go.Ew
namespace Go.Ew
open Go.RowKit
section
variable {P : Program} {n : Nat} {ops : Array Oper} {f : Slots} {w : World} {K : Slots → World → Prop} {x y : Operand} {d : Nat} {ty T T2 e : TypeId} {ps : String} {af : Array Edge} {M : Nat → Prop} {B : Nat} {a : Option Addr} {k c : Nat} {s t : Int}
theorem w8 {i : Int} (h0 : 0 ≤ i) (h1 : i ≤ 255) : IntKind.u8.wrap i = i ∧ (((BitVec.ofInt 8 i).toNat : Nat) : Int) = i := by
 constructor
 ·unfold IntKind.wrap
  simp [IntKind.bits, IntKind.signed]
  omega
 ·rw [BitVec.toNat_ofInt]
  show ((i % 256).toNat : Int) = i
  omega
end
end Go.Ew
namespace Go.Ew
open Go.RowKit
section
variable {P : Program} {n : Nat} {ops : Array Oper} {f : Slots} {w : World} {K : Slots → World → Prop} {x : Operand} {d : Nat} {ty : TypeId} {ps : String} {af : Array Edge} {a : Addr}
theorem nc (ox : okT n x = true) (hx : ev f x = .pointer (some a)) (h : K (upd f d (.pointer (some a))) w) : SO P n ops ⟨some d, .nilCheck x, ty, ps, af, none⟩ f w K :=
 SO.value (v := .pointer (some a)) (w' := w) (by simp [execOp, eval_acts ox, hx]) h
theorem mf0 {f : Slots} : ([] : List Operand).map (ev f) = [] := rfl
theorem mfc {f : Slots} {x : Operand} {v : Value} {L : List Operand} {V : List Value} (h : ev f x = v) (t : L.map (ev f) = V) : (x :: L).map (ev f) = v :: V := by rw [List.map_cons, h, t]
theorem mf2 {fn : Fn} {C : List Operand} {V : List Value} (oc : okL n C = true) (hC : C.map (ev f) = V) (h : K (upd f d (.func fn #[] V.toArray)) w) : SO P n ops ⟨some d, .makeFunc fn #[] C.toArray, ty, ps, af, none⟩ f w K := by
 refine mf oc ?_
 rw [hC]; exact h
end
end Go.Ew
namespace Go.Ew
open Go.RowKit
section
variable {P : Program} {n : Nat} {l : List Oper}
theorem wpAny_J {Q : Exit → Act → World → Prop} (J : (Nat → Bool) → Slots → World → Prop) (hE : okEdges 0 l = true)
  (hstep : ∀ (L : Nat → Bool) (f : Slots) (w : World) (i : Nat) (o : Oper), l[i]? = some o → L i = false → (∀ j, L j = true → j < l.length) → (∀ j, onB o j = true → L j = true) → J L f w → SO P n l.toArray o f w (J (fun k => L k || decide (k = i))))
  (hend : ∀ (f : Slots) (w : World), J (fun k => decide (k < l.length)) f w → Q .normal (acts n f) w) :
  ∀ (d : Nat) (listed : Array Bool) (f : Slots) (w : World), listed.size = l.length → (listed.toList.filter (fun b => !b)).length = d → J (fun k => listed.getD k false) f w → wpAny P .any l.toArray Q d listed (acts n f) w := by
 intro d
 induction d with
 | zero =>
  intro listed f w hsz hd hJ
  have hall : ∀ i, i < l.length → listed.getD i false = true := by
   intro i hi
   have h0 := List.eq_nil_of_length_eq_zero hd
   rw [List.filter_eq_nil_iff] at h0
   have hi' : i < listed.size := by omega
   have := h0 listed[i] (by simp)
   simp at this
   simp [Array.getD, hi', this]
  refine ⟨?_, ?_⟩
  ·apply List.eq_nil_iff_forall_not_mem.2
   intro i hi
   obtain ⟨h0, o, ho, -⟩ := mem_ready.1 hi
   have hol : l[i]? = some o := by simpa using ho
   have hil : i < l.length := (gS_.1 hol).1
   rw [show listed.getD i true = listed.getD i false from getD_any (by omega) _ _, hall i hil] at h0
   cases h0
  ·refine hend f w ?_
   have : (fun k => decide (k < l.length)) = fun k => listed.getD k false := by
    funext k
    by_cases hk : k < l.length
    ·rw [hall k hk]; exact decide_eq_true hk
    ·rw [decide_eq_false hk]; simp [Array.getD]; omega
   rw [this]; exact hJ
 | succ d ih =>
  intro listed f w hsz hd hJ
  obtain ⟨i0, hi0⟩ : ∃ i, i < l.length ∧ listed.getD i false = false := by
   apply Classical.byContradiction
   intro hno
   have : listed.toList.filter (fun b => !b) = [] := by
    rw [List.filter_eq_nil_iff]
    intro b hb
    obtain ⟨i, hi, rfl⟩ := List.mem_iff_getElem.1 hb
    simp only [Array.length_toList] at hi
    cases hb2 : listed.toList[i] with
    | true => simp
    | false =>
     exfalso
     refine hno ⟨i, by omega, ?_⟩
     simp only [Array.getElem_toList] at hb2
     simp [Array.getD, hi, hb2]
   rw [this] at hd; cases hd
  obtain ⟨m, hm1, hm2⟩ := exists_least (p := fun i => i < l.length ∧ listed.getD i false = false) ⟨i0, hi0⟩
  have hml : m < l.length := by omega
  have hom : l[m]? = some l[m] := gE_ hml
  have hmr : m ∈ Region.ready .any l.toArray listed := by
   rw [mem_ready]
   refine ⟨?_, l[m], by simp, fun e he hb => ?_⟩
   ·rw [show listed.getD m true = listed.getD m false from getD_any (by omega) _ _]; exact hm1.2
   ·have hlt := okEdges_at l 0 hE m l[m] hom e he hb
    cases hb2 : listed.getD e.on false with
    | true => rfl
    | false =>
     have := hm2 e.on ⟨by omega, hb2⟩
     omega
  refine ⟨fun h0 => (by rw [h0] at hmr; cases hmr), fun i hi => ?_⟩
  obtain ⟨h0, o, ho, hedges⟩ := mem_ready.1 hi
  have hol : l[i]? = some o := by simpa using ho
  have hil : i < l.length := (gS_.1 hol).1
  have h0' : listed.getD i false = false := by
   rw [show listed.getD i false = listed.getD i true from getD_any (by omega) _ _]; exact h0
  have hdone : ∀ j, onB o j = true → listed.getD j false = true := by
   intro j hj
   obtain ⟨e, he, hb, hon⟩ := onB_iff.1 hj
   subst hon
   exact hedges e he hb
  have hlt : ∀ j, listed.getD j false = true → j < l.length := by
   intro j hj
   refine Classical.byContradiction fun hn => ?_
   rw [show listed.getD j false = false from by simp [Array.getD]; omega] at hj
   cases hj
  have hcount : ((listed.setIfInBounds i true).toList.filter (fun b => !b)).length = d := by
   have hii : i < listed.size := by omega
   have hget : listed.toList[i]? = some false := by
    rw [gE_ (by simpa using hii)]
    simp only [Array.getD, hii, dif_pos] at h0'
    simpa [Array.getInternal_eq_getElem] using h0'
   have key : ∀ (L : List Bool) (i : Nat), L[i]? = some false → ((L.set i true).filter (fun b => !b)).length + 1 = (L.filter (fun b => !b)).length := by
    intro L
    induction L with
    | nil => intro i h; simp at h
    | cons b L ihL =>
     intro i h
     cases i with
     | zero => simp at h; subst h; simp
     | succ i =>
      simp at h
      have := ihL i h
      cases b <;> simp at this ⊢ <;> omega
   have := key listed.toList i hget
   rw [Array.toList_setIfInBounds]
   omega
  refine wpOp_of_SO ho (hstep (fun k => listed.getD k false) f w i o hol h0' hlt hdone hJ) fun f' w' hK => ?_
  refine ih _ _ _ (by simp [hsz]) hcount ?_
  have : (fun k => (listed.setIfInBounds i true).getD k false) = fun k => listed.getD k false || decide (k = i) := by
   funext k
   by_cases hk : k = i
   ·subst hk
    have hii : k < listed.size := by omega
    simp [Array.getD, hii]
   ·rw [decide_eq_false hk, Bool.or_false]
    exact getD_set_ne false fun e => hk e.symm
  rw [this]; exact hK
theorem drj {id : Nat} {Q : Exit → Act → World → Prop} {f : Slots} {w : World} (J : (Nat → Bool) → Slots → World → Prop) (hm : P.follows .mixedOrders = true) (hE : okEdges 0 l = true)
  (h0 : J (fun _ => false) f w.drew)
  (hstep : ∀ (L : Nat → Bool) (f : Slots) (w : World) (i : Nat) (o : Oper), l[i]? = some o → L i = false → (∀ j, L j = true → j < l.length) → (∀ j, onB o j = true → L j = true) → J L f w → SO P n l.toArray o f w (J (fun k => L k || decide (k = i))))
  (hend : ∀ (f : Slots) (w : World), J (fun k => decide (k < l.length)) f w → Q .normal (acts n f) w) :
  WC P n (.region id l.toArray true) Q f w := by
 refine wp_region_any hm ?_
 have h3 : (fun k => (Array.replicate l.length false).getD k false) = fun _ : Nat => false := by
  funext i
  simp only [Array.getD]; split <;> simp
 have h := wpAny_J (P := P) (Q := Q) J hE hstep hend l.length (Array.replicate l.length false) f w.drew (by simp) (by simp) (by rw [h3]; exact h0)
 simpa using h
end
theorem nodup_fil {α : Type} {p : α → Bool} {l : List α} (h : l.Nodup) : (l.filter p).Nodup := List.Nodup.sublist List.filter_sublist h
def liveB (l : List Oper) (cn : Nat → Option Nat) (L : Nat → Bool) (j : Nat) : Bool := (Nat.ble l.length j || L j) && (match cn j with | none => true | some i => !L i)
def waits (T : List Nat) (i j : Nat) : Bool := Nat.testBit (T.getD i 0) j
def rowT (T : List Nat) (o : Oper) : Nat → Nat
 | 0 => 0
 | j + 1 => bif onB o j then rowT T o j ||| (2 ^ j ||| T.getD j 0) else rowT T o j
def okTab (l : List Oper) (T : List Nat) : Bool := (List.range l.length).all fun i => match l[i]? with | some o => Nat.beq (T.getD i 0) (rowT T o i) | none => true
theorem rowT_bit {T : List Nat} {o : Oper} {m : Nat} : ∀ i, Nat.testBit (rowT T o i) m = true → ∃ j, j < i ∧ onB o j = true ∧ (m = j ∨ waits T j m = true)
 | 0, h => by simp [rowT] at h
 | i + 1, h => by
  unfold rowT at h
  cases ho : onB o i with
  | false =>
   rw [ho] at h
   obtain ⟨j, h1, h2⟩ := rowT_bit i h
   exact ⟨j, by omega, h2⟩
  | true =>
   rw [ho] at h
   have h : Nat.testBit (rowT T o i ||| (2 ^ i ||| T.getD i 0)) m = true := h
   rw [Nat.testBit_or, Nat.testBit_or, Bool.or_eq_true, Bool.or_eq_true, Nat.testBit_two_pow] at h
   rcases h with h | h | h
   ·obtain ⟨j, h1, h2⟩ := rowT_bit i h
    exact ⟨j, by omega, h2⟩
   ·exact ⟨i, by omega, ho, .inl (of_decide_eq_true h).symm⟩
   ·exact ⟨i, by omega, ho, .inr h⟩
theorem waits_done {l : List Oper} {T : List Nat} (hT : okTab l T = true) {L : Nat → Bool} (hC : ∀ j o, L j = true → l[j]? = some o → ∀ q, onB o q = true → L q = true) (hL : ∀ j, L j = true → j < l.length) :
  ∀ (n i : Nat) (o : Oper), i ≤ n → l[i]? = some o → (∀ j, onB o j = true → L j = true) → ∀ m, waits T i m = true → L m = true
 | n, i, o, hin, ho, hd, m, hm => by
  have hil := (gS_.1 ho).1
  have h1 := List.all_eq_true.1 hT i (List.mem_range.2 hil)
  rw [ho] at h1
  have h1 := Nat.eq_of_beq_eq_true h1
  unfold waits at hm
  rw [h1] at hm
  obtain ⟨j, hj, hob, hjm⟩ := rowT_bit i hm
  have hLj := hd j hob
  rcases hjm with rfl | hjm
  ·exact hLj
  ·have hjl := hL j hLj
   have hoj : l[j]? = some l[j] := gE_ hjl
   cases n with
   | zero => omega
   | succ n => exact waits_done hT hC hL n j l[j] (by omega) hoj (hC j l[j] hLj hoj) m hjm
def okUse (l : List Oper) (cn : Nat → Option Nat) (T : List Nat) (m i : Nat) (o : Oper) (D : List Nat) : Bool :=
 nodupB D && D.all (fun j => Nat.blt j m && (Nat.ble l.length j || waits T i j) && (match cn j with | none => true | some c => Nat.beq c i || (Nat.blt c l.length && waits T c i))) && (List.range m).all (fun j => match cn j with | none => true | some c => !Nat.beq c i || D.contains j)
def keepD (cn : Nat → Option Nat) (i : Nat) (D : List Nat) : List Nat := D.filter fun j => match cn j with | none => true | some c => !Nat.beq c i
def okG (n : Nat) (l : List Oper) (cn : Nat → Option Nat) (T : List Nat) (m : Nat) (Ds : List (List Nat)) : Bool :=
 okTab l T && okEdges 0 l && nodupB (dstsK l.length l) && (dstsK l.length l).all (fun d => Nat.blt d n) && Nat.ble l.length m && (List.range l.length).all fun i => match l[i]? with | some o => okUse l cn T m i o (Ds.getD i []) | none => true
section
variable {P : Program} {n : Nat} {l : List Oper} {cn : Nat → Option Nat} {its : Nat → Value → List Item} {m : Nat} {T : List Nat} {Ds : List (List Nat)} {Φ : Nat → Value → Prop} {f0 : Slots} {M0 : Nat → Prop} {w0 : World} {base : List Item}
def GStep (P : Program) (n : Nat) (l : List Oper) (cn : Nat → Option Nat) (T : List Nat) (its : Nat → Value → List Item) (Φ : Nat → Value → Prop) (f0 : Slots) (M0 : Nat → Prop) (w0 : World) (base : List Item) (i : Nat) (o : Oper) (D : List Nat) : Prop :=
 ∀ (f : Slots) (w : World) (V : Nat → Value) (r : List Item), (∀ t, (dstsK l.length l).contains t = false → f t = f0 t) → (∀ j x, l[j]? = some x → x.dst.isSome = true → waits T i j = true → f (dstD l j) = V j ∧ Φ j (V j)) → (∀ j x, l[j]? = some x → x.dst.isSome = true → (j = i ∨ waits T j i = true) → f (dstD l j) = f0 (dstD l j)) →
  HI M0 w0 w (base ++ (D.flatMap (fun j => its j (V j)) ++ r)) → SO P n l.toArray o f w (fun f' w' => ∃ v, f' = updO f o.dst v ∧ Φ i v ∧ HI M0 w0 w' (base ++ (((keepD cn i D).flatMap fun j => its j (V j)) ++ (its i v ++ r))))
def GSteps (P : Program) (n : Nat) (l : List Oper) (cn : Nat → Option Nat) (T : List Nat) (its : Nat → Value → List Item) (Φ : Nat → Value → Prop) (f0 : Slots) (M0 : Nat → Prop) (w0 : World) (base : List Item) (Ds : List (List Nat)) : Nat → List Oper → Prop
 | _, [] => True
 | i, o :: r => GStep P n l cn T its Φ f0 M0 w0 base i o (Ds.getD i []) ∧ GSteps P n l cn T its Φ f0 M0 w0 base Ds (i + 1) r
theorem GSteps.at_ : ∀ (r : List Oper) (i : Nat), GSteps P n l cn T its Φ f0 M0 w0 base Ds i r → ∀ j o, r[j]? = some o → GStep P n l cn T its Φ f0 M0 w0 base (i + j) o (Ds.getD (i + j) [])
 | [], _, _, j, o, h => by simp at h
 | x :: r, i, h, 0, o, hj => by
  simp only [List.getElem?_cons_zero, Option.some.injEq] at hj
  subst hj
  exact h.1
 | x :: r, i, h, j + 1, o, hj => by
  simp only [List.getElem?_cons_succ] at hj
  have := GSteps.at_ r (i + 1) h.2 j o hj
  rwa [show i + 1 + j = i + (j + 1) from by omega] at this
end
def vA : Value → Option Addr
 | .slice a _ _ => a
 | _ => none
def vC : Value → Nat
 | .slice _ _ c => c
 | _ => 0
theorem hc_of {cnL : List (Option Nat)} {N : Nat} (h : cnL.all (fun c => match c with | none => true | some i => Nat.blt i N) = true) : ∀ j i, cnL.getD j none = some i → i < N := by
 intro j i hj
 rw [gD_] at hj
 cases hc : cnL[j]? with
 | none => rw [hc] at hj; cases hj
 | some c =>
  rw [hc] at hj
  have hj : c = some i := hj
  subst hj
  have := List.all_eq_true.1 h _ (mG_ hc)
  simpa using this
theorem own_len_ {α : Type} [GT α] {B : Nat} {e : TypeId} {v : Value} {xs : List α} {M : Nat → Prop} {w : World} (h : (own B e v xs).holds M w) : xs.length ≤ 9223372036854775807 := by
 obtain ⟨cs, h1, h2⟩ := h
 rcases h1.2 with ⟨rfl, h3⟩ | ⟨g', cap, cur, rfl, h3, h4, h5, h6, h7, h8⟩
 ·omega
 ·have : maxLen = 9223372036854775807 := rfl
  omega
end Go.Ew
namespace Go.Ew
open Go.RowKit
def bitOn (m k : Nat) : Bool := Nat.beq (Nat.land 1 (Nat.shiftRight m k)) 1
theorem bitOn_eq (m k : Nat) : bitOn m k = Nat.testBit m k := by
 unfold bitOn Nat.testBit
 have h : Nat.land 1 (Nat.shiftRight m k) = 1 &&& (m >>> k) := rfl
 rw [h, Nat.and_comm, Nat.and_one_is_mod]
 rcases Nat.mod_two_eq_zero_or_one (m >>> k) with h | h <;> rw [h] <;> rfl
def mask (T : List Nat) (j : Nat) (V : Nat → Value) (k : Nat) : Value := bif (Nat.beq k j || bitOn (T.getD j 0) k) then V k else undef
theorem mask_eq (T : List Nat) (j : Nat) (V : Nat → Value) (k : Nat) : mask T j V k = if (k == j || waits T j k) = true then V k else undef := by
 unfold mask waits
 rw [bitOn_eq, show Nat.beq k j = (k == j) from by rw [Bool.eq_iff_iff, Nat.beq_eq_true_eq]; simp]
 cases (k == j || Nat.testBit (T.getD j 0) k) <;> rfl
def segsM (l : List Oper) (cn : Nat → Option Nat) (T : List Nat) (its : Nat → (Nat → Value) → List Item) (m : Nat) (L : Nat → Bool) (V : Nat → Value) : List Item := ((List.range m).filter (liveB l cn L)).flatMap fun j => its j (mask T j V)
theorem mask_up {T : List Nat} {i j : Nat} {v : Value} {V : Nat → Value} (h1 : j ≠ i) (h2 : waits T j i = false) : mask T j (fun k => if k = i then v else V k) = mask T j V := by
 funext k
 rw [mask_eq, mask_eq]
 by_cases hk : (k == j || waits T j k) = true
 ·rw [if_pos hk, if_pos hk]
  have : k ≠ i := by
   rintro rfl
   rw [h2, Bool.or_false, beq_iff_eq] at hk
   exact h1 hk.symm
  exact if_neg this
 ·rw [if_neg hk, if_neg hk]
theorem mem_keepD {cn : Nat → Option Nat} {i j : Nat} {D : List Nat} : j ∈ keepD cn i D ↔ j ∈ D ∧ ∀ c, cn j = some c → c ≠ i := by
 unfold keepD
 rw [List.mem_filter]
 refine and_congr_right fun _ => ?_
 cases hcj : cn j with
 | none => simp
 | some c =>
  simp only [Bool.not_eq_true', Option.some.injEq]
  constructor
  ·rintro h d rfl rfl
   rw [Nat.beq_refl] at h; cases h
  ·intro h
   cases hb : Nat.beq c i with
   | false => rfl
   | true => exact absurd (Nat.eq_of_beq_eq_true hb) (h c rfl)
section
variable {P : Program} {n : Nat} {l : List Oper} {cn : Nat → Option Nat} {its : Nat → (Nat → Value) → List Item} {m : Nat} {T : List Nat} {Ds : List (List Nat)} {Φ : Nat → Value → Prop} {f0 : Slots} {M0 : Nat → Prop} {w0 : World} {base : List Item}
def GStepM (P : Program) (n : Nat) (l : List Oper) (cn : Nat → Option Nat) (T : List Nat) (its : Nat → (Nat → Value) → List Item) (Φ : Nat → Value → Prop) (f0 : Slots) (M0 : Nat → Prop) (w0 : World) (base : List Item) (i : Nat) (o : Oper) (D : List Nat) : Prop :=
 ∀ (f : Slots) (w : World) (V : Nat → Value) (r : List Item), (∀ t, (dstsK l.length l).contains t = false → f t = f0 t) → (∀ j x, l[j]? = some x → x.dst.isSome = true → waits T i j = true → f (dstD l j) = V j ∧ Φ j (V j)) → (∀ j x, l[j]? = some x → x.dst.isSome = true → (j = i ∨ waits T j i = true) → f (dstD l j) = f0 (dstD l j)) →
  HI M0 w0 w (base ++ (D.flatMap (fun j => its j (mask T j V)) ++ r)) → SO P n l.toArray o f w (fun f' w' => ∃ v, f' = updO f o.dst v ∧ Φ i v ∧ HI M0 w0 w' (base ++ (((keepD cn i D).flatMap fun j => its j (mask T j V)) ++ (its i (mask T i (fun k => if k = i then v else V k)) ++ r))))
def GStepsM (P : Program) (n : Nat) (l : List Oper) (cn : Nat → Option Nat) (T : List Nat) (its : Nat → (Nat → Value) → List Item) (Φ : Nat → Value → Prop) (f0 : Slots) (M0 : Nat → Prop) (w0 : World) (base : List Item) (Ds : List (List Nat)) : Nat → List Oper → Prop
 | _, [] => True
 | i, o :: r => GStepM P n l cn T its Φ f0 M0 w0 base i o (Ds.getD i []) ∧ GStepsM P n l cn T its Φ f0 M0 w0 base Ds (i + 1) r
theorem GStepsM.at_ : ∀ (r : List Oper) (i : Nat), GStepsM P n l cn T its Φ f0 M0 w0 base Ds i r → ∀ j o, r[j]? = some o → GStepM P n l cn T its Φ f0 M0 w0 base (i + j) o (Ds.getD (i + j) [])
 | [], _, _, j, o, h => by simp at h
 | x :: r, i, h, 0, o, hj => by
  simp only [List.getElem?_cons_zero, Option.some.injEq] at hj
  subst hj
  exact h.1
 | x :: r, i, h, j + 1, o, hj => by
  simp only [List.getElem?_cons_succ] at hj
  have := GStepsM.at_ r (i + 1) h.2 j o hj
  rwa [show i + 1 + j = i + (j + 1) from by omega] at this
def JGM (l : List Oper) (cn : Nat → Option Nat) (T : List Nat) (its : Nat → (Nat → Value) → List Item) (m : Nat) (Φ : Nat → Value → Prop) (f0 : Slots) (M0 : Nat → Prop) (w0 : World) (base : List Item) (L : Nat → Bool) (f : Slots) (w : World) : Prop :=
 ∃ V : Nat → Value, (∀ t, (dstsK l.length l).contains t = false → f t = f0 t) ∧ (∀ j x, l[j]? = some x → x.dst.isSome = true → f (dstD l j) = if L j = true then V j else f0 (dstD l j)) ∧ (∀ j, j < l.length → L j = true → Φ j (V j)) ∧ (∀ j o, L j = true → l[j]? = some o → ∀ q, onB o q = true → L q = true) ∧ HI M0 w0 w (base ++ segsM l cn T its m L V)
theorem drgM {id : Nat} {Q : Exit → Act → World → Prop} {f : Slots} {w : World} (cn : Nat → Option Nat) (T : List Nat) (its : Nat → (Nat → Value) → List Item) (m : Nat) (Ds : List (List Nat)) (Φ : Nat → Value → Prop) (base : List Item) (V0 : Nat → Value) (hm : P.follows .mixedOrders = true) (hok : okG n l cn T m Ds = true) (hTl : T.length ≤ l.length)
  (hH : HI M0 w0 w (base ++ ((List.range m).filter (fun j => Nat.ble l.length j)).flatMap fun j => its j (mask T j V0))) (hc0 : ∀ j i, cn j = some i → i < l.length)
  (hS : GStepsM P n l cn T its Φ f M0 w0 base Ds 0 l)
  (hend : ∀ (f' : Slots) (w' : World) (V : Nat → Value), (∀ t, (dstsK l.length l).contains t = false → f' t = f t) → (∀ j x, l[j]? = some x → x.dst.isSome = true → f' (dstD l j) = V j ∧ Φ j (V j)) → HI M0 w0 w' (base ++ ((List.range m).filter (fun j => (cn j).isNone)).flatMap fun j => its j (mask T j V)) → Q .normal (acts n f') w') :
  WC P n (.region id l.toArray true) Q f w := by
 simp only [okG, bA_] at hok
 obtain ⟨⟨⟨⟨⟨hTab, hE⟩, hN⟩, hn⟩, hlm⟩, hU⟩ := hok
 have hlm : l.length ≤ m := Nat.le_of_ble_eq_true hlm
 have hsegs0 : ∀ V, segsM l cn T its m (fun _ => false) V = ((List.range m).filter (fun j => Nat.ble l.length j)).flatMap fun j => its j (mask T j V) := by
  intro V
  unfold segsM
  congr 1
  refine List.filter_congr fun j hj => ?_
  unfold liveB
  cases cn j <;> simp
 refine drj (JGM l cn T its m Φ f M0 w0 base) hm hE ⟨V0, fun _ _ => rfl, fun j x _ _ => (by simp), fun j _ h => (by cases h), fun j o h => (by cases h), ?_⟩ ?_ ?_
 ·rw [hsegs0]
  exact hH.ext (Ext.drew w)
 ·rintro L f' w' i o hol hLi hLlt hdeps ⟨V, hs, hv, hφ, hC, hH⟩
  have hil := (gS_.1 hol).1
  have hwd : ∀ j, waits T i j = true → L j = true := fun j hj => waits_done hTab hC hLlt i i o (Nat.le_refl _) hol hdeps j hj
  have hwd2 : ∀ c oc, L c = true → l[c]? = some oc → ∀ j, waits T c j = true → L j = true := fun c oc hLc hoc j hj => waits_done hTab hC hLlt c c oc (Nat.le_refl _) hoc (hC c oc hLc hoc) j hj
  have hst := GStepsM.at_ l 0 hS i o hol
  simp only [Nat.zero_add] at hst
  have hu := List.all_eq_true.1 hU i (List.mem_range.2 hil)
  rw [hol] at hu
  simp only [okUse, bA_] at hu
  obtain ⟨⟨hDn, hDu⟩, hDc⟩ := hu
  have hDn := nodupB_nodup _ hDn
  generalize hD : Ds.getD i [] = D at hst hDn hDu hDc
  have hDl : ∀ j ∈ D, j < m ∧ liveB l cn L j = true := by
   intro j hj
   have := List.all_eq_true.1 hDu j hj
   simp only [bA_, Bool.or_eq_true, Nat.blt_eq] at this
   obtain ⟨⟨h1, h2⟩, h3⟩ := this
   refine ⟨h1, ?_⟩
   unfold liveB
   rw [bA_, Bool.or_eq_true]
   refine ⟨h2.imp (fun h => h) (hwd j), ?_⟩
   revert h3
   cases hcj : cn j with
   | none => intro _; rfl
   | some c =>
    intro h3
    simp only [Bool.or_eq_true] at h3
    show (!L c) = true
    rcases h3 with h3 | h3
    ·rw [Nat.eq_of_beq_eq_true h3, hLi]; rfl
    ·cases hLc : L c with
     | false => rfl
     | true =>
      exfalso
      simp only [bA_, Nat.blt_eq] at h3
      have := hwd2 c l[c] hLc (gE_ h3.1) i h3.2
      rw [hLi] at this; cases this
  have hiD : i ∉ D := by
   intro hi
   have := (hDl i hi).2
   unfold liveB at this
   rw [hLi, show Nat.ble l.length i = false from by
    cases hb : Nat.ble l.length i with
    | false => rfl
    | true => have := Nat.le_of_ble_eq_true hb; omega] at this
   simp at this
  -- the live ones: D, and others
  have hperm : ((List.range m).filter (liveB l cn L)).Perm (D ++ ((List.range m).filter fun j => liveB l cn L j && !D.contains j)) := by
   refine (List.perm_ext_iff_of_nodup (nodup_fil List.nodup_range) ?_).2 fun j => ?_
   ·rw [List.nodup_append]
    refine ⟨hDn, nodup_fil List.nodup_range, fun a ha b hb hab => ?_⟩
    subst hab
    have := (List.mem_filter.1 hb).2
    simp [ha] at this
   ·simp only [List.mem_filter, List.mem_range, List.mem_append, bA_, Bool.not_eq_true', List.contains_eq_mem, decide_eq_false_iff_not]
    constructor
    ·rintro ⟨h1, h2⟩
     by_cases hj : j ∈ D
     ·exact .inl hj
     ·exact .inr ⟨h1, h2, hj⟩
    ·rintro (h | ⟨h1, h2, -⟩)
     ·exact hDl j h
     ·exact ⟨h1, h2⟩
  have hH2 : HI M0 w0 w' (base ++ (D.flatMap (fun j => its j (mask T j V)) ++ ((List.range m).filter fun j => liveB l cn L j && !D.contains j).flatMap fun j => its j (mask T j V))) := by
   refine hH.perm ?_
   unfold segsM
   rw [← List.flatMap_append]
   exact List.Perm.append_left _ (hperm.symm.flatMap_right _)
  refine (hst f' w' V _ hs (fun j x hjx hdx hob => ?_) (fun j x hjx hdx hji => ?_) hH2).mono fun f2 w2 hK => ?_
  ·have := hv j x hjx hdx
   rw [if_pos (hwd j hob)] at this
   exact ⟨this, hφ j (gS_.1 hjx).1 (hwd j hob)⟩
  ·have := hv j x hjx hdx
   have hLj : L j = false := by
    rcases hji with rfl | hji
    ·exact hLi
    ·cases hLj : L j with
     | false => rfl
     | true => have := hwd2 j x hLj hjx i hji; rw [hLi] at this; cases this
   rw [hLj] at this
   simpa using this
  ·obtain ⟨v, rfl, hφv, hH3⟩ := hK
   refine ⟨fun j => if j = i then v else V j, fun t ht => ?_, fun j x hjx hdx => ?_, fun j hj hLj => ?_, fun j oj hLj hoj q hq => ?_, ?_⟩
   ·cases hdi : o.dst with
    | none => exact hs t ht
    | some di =>
     have hne : t ≠ di := by
      rintro rfl
      have := mem_dstsK (k := l.length) hol hil hdi
      rw [← List.contains_iff_mem, ht] at this
      cases this
     rw [show updO f' (some di) v = upd f' di v from rfl, upd_ne f' v hne]
     exact hs t ht
   ·dsimp only
    by_cases hji : j = i
    ·subst hji
     rw [hol] at hjx; cases hjx
     obtain ⟨di, hdi⟩ := Option.isSome_iff_exists.1 hdx
     rw [if_pos (by simp), if_pos rfl, dstD_of hol hdi, hdi]
     exact upd_same f' di v
    ·have h1 := hv j x hjx hdx
     obtain ⟨dj, hdj⟩ := Option.isSome_iff_exists.1 hdx
     have h2 : updO f' o.dst v (dstD l j) = f' (dstD l j) := by
      cases hdi : o.dst with
      | none => rfl
      | some di =>
       rw [dstD_of hjx hdj]
       exact upd_ne f' v (dst_ne hN hol hjx hdi hdj (fun e => hji e.symm))
     rw [h2, h1]; simp [hji]
   ·dsimp only at hLj ⊢
    by_cases hji : j = i
    ·subst hji; rw [if_pos rfl]; exact hφv
    ·rw [if_neg hji]
     rw [decide_eq_false hji, Bool.or_false] at hLj
     exact hφ j hj hLj
   ·dsimp only at hLj ⊢
    by_cases hji : j = i
    ·subst hji
     rw [hol] at hoj; cases hoj
     rw [hdeps q hq]; rfl
    ·rw [decide_eq_false hji, Bool.or_false] at hLj
     rw [hC j oj hLj hoj q hq]; rfl
   ·refine hH3.perm ?_
    have hL' : ∀ j, liveB l cn (fun k => L k || decide (k = i)) j = true ↔ (j = i ∨ (liveB l cn L j = true ∧ ∀ c, cn j = some c → c ≠ i)) := by
     intro j
     unfold liveB
     simp only [bA_, Bool.or_eq_true, decide_eq_true_eq]
     constructor
     ·rintro ⟨h1, h2⟩
      by_cases hji : j = i
      ·exact .inl hji
      ·refine .inr ⟨⟨h1.imp (fun h => h) fun h => h.resolve_right hji, ?_⟩, ?_⟩
       ·revert h2
        cases cn j with
        | none => intro _; rfl
        | some c => intro h2; simp at h2 ⊢; exact h2.1
       ·intro c hc
        rw [hc] at h2
        simp at h2
        exact h2.2
     ·rintro (rfl | ⟨⟨h1, h2⟩, h3⟩)
      ·refine ⟨.inr (.inr rfl), ?_⟩
       cases hcj : cn j with
       | none => rfl
       | some c =>
        have hcl := hc0 j c hcj
        have hoc : l[c]? = some l[c] := gE_ hcl
        have huc := List.all_eq_true.1 hU c (List.mem_range.2 hcl)
        rw [hoc] at huc
        simp only [okUse, bA_] at huc
        have hin := List.all_eq_true.1 huc.2 j (List.mem_range.2 (by omega))
        rw [hcj] at hin
        have hin : j ∈ Ds.getD c [] := by
         have hb : Nat.beq c c = true := Nat.beq_refl c
         simp only [hb, Bool.not_true, Bool.false_or, List.contains_eq_mem, decide_eq_true_eq] at hin
         exact hin
        have hdj := List.all_eq_true.1 huc.1.2 j hin
        simp only [bA_, Bool.or_eq_true] at hdj
        have hon : waits T c j = true := by
         rcases hdj.1.2 with h | h
         ·have := Nat.le_of_ble_eq_true h; omega
         ·exact h
        have hcj' : c ≠ j := by
         rintro rfl
         have := hwd c hon
         rw [hLi] at this; cases this
        show (!(L c || decide (c = j))) = true
        rw [decide_eq_false hcj', Bool.or_false]
        cases hLc : L c with
        | false => rfl
        | true => have := hwd2 c l[c] hLc hoc j hon; rw [hLi] at this; cases this
      ·refine ⟨h1.imp (fun h => h) .inl, ?_⟩
       revert h2 h3
       cases cn j with
       | none => intro _ _; rfl
       | some c =>
        intro h3 h2
        simp at h2 ⊢
        exact ⟨h2, h3 c rfl⟩
    have hp2 : ((List.range m).filter (liveB l cn fun k => L k || decide (k = i))).Perm (keepD cn i D ++ ([i] ++ ((List.range m).filter fun j => liveB l cn L j && !D.contains j))) := by
     refine (List.perm_ext_iff_of_nodup (nodup_fil List.nodup_range) ?_).2 fun j => ?_
     ·rw [List.nodup_append]
      refine ⟨nodup_fil hDn, ?_, fun a ha b hb hab => ?_⟩
      ·rw [List.singleton_append, List.nodup_cons]
       refine ⟨fun hi => ?_, nodup_fil List.nodup_range⟩
       have := (List.mem_filter.1 hi).2
       simp only [bA_] at this
       have h1 := this.1
       unfold liveB at h1
       rw [hLi, show Nat.ble l.length i = false from by
        cases hb : Nat.ble l.length i with
        | false => rfl
        | true => have := Nat.le_of_ble_eq_true hb; omega] at h1
       simp at h1
      ·subst hab
       have haD := (List.mem_filter.1 ha).1
       rcases List.mem_cons.1 hb with rfl | hb
       ·exact hiD haD
       ·have := (List.mem_filter.1 hb).2
        simp [haD] at this
     ·rw [List.mem_filter, hL', List.mem_range, List.mem_append, List.mem_append, List.mem_singleton, List.mem_filter]
      rw [mem_keepD, List.mem_range]
      simp only [bA_, Bool.not_eq_true', List.contains_eq_mem, decide_eq_false_iff_not]
      constructor
      ·rintro ⟨h1, h2 | ⟨h2, h3⟩⟩
       ·exact .inr (.inl h2)
       ·by_cases hjD : j ∈ D
        ·exact .inl ⟨hjD, h3⟩
        ·exact .inr (.inr ⟨h1, h2, hjD⟩)
      ·rintro (⟨h1, h2⟩ | rfl | ⟨h1, h2, h3⟩)
       ·exact ⟨(hDl j h1).1, .inr ⟨(hDl j h1).2, h2⟩⟩
       ·exact ⟨by omega, .inl rfl⟩
       ·refine ⟨h1, .inr ⟨h2, fun c hc hci => ?_⟩⟩
        subst hci
        have hin := List.all_eq_true.1 hDc j (List.mem_range.2 h1)
        rw [hc] at hin
        have hb : Nat.beq c c = true := Nat.beq_refl c
        simp only [hb, Bool.not_true, Bool.false_or, List.contains_eq_mem, decide_eq_true_eq] at hin
        exact h3 hin
    refine List.Perm.append_left _ ?_
    unfold segsM
    refine (hp2.flatMap_right _).trans ?_
    rw [List.flatMap_append, List.flatMap_append, List.flatMap_singleton]
    have hcongr : ∀ A : List Nat, i ∉ A → (∀ a ∈ A, waits T a i = false) → A.flatMap (fun j => its j (mask T j (fun k => if k = i then v else V k))) = A.flatMap fun j => its j (mask T j V) := by
     intro A hA hW
     induction A with
     | nil => rfl
     | cons a A ihA =>
      rw [List.flatMap_cons, List.flatMap_cons, ihA (fun h => hA (List.mem_cons_of_mem _ h)) (fun b hb => hW b (List.mem_cons_of_mem _ hb)), mask_up (fun (e : a = i) => hA (e ▸ List.mem_cons_self)) (hW a List.mem_cons_self)]
    have hlive : ∀ a, liveB l cn L a = true → waits T a i = false := by
     intro a ha
     cases hw9 : waits T a i with
     | false => rfl
     | true =>
      exfalso
      unfold liveB at ha
      rw [bA_, Bool.or_eq_true] at ha
      rcases ha.1 with h | h
      ·have h := Nat.le_of_ble_eq_true h
       unfold waits at hw9
       rw [gD_, List.getElem?_eq_none (by omega)] at hw9
       simp at hw9
      ·have hal := hLlt a h
       have := hwd2 a l[a] h (gE_ hal) i hw9
       rw [hLi] at this; cases this
    rw [hcongr (keepD cn i D) (fun h => hiD (List.mem_filter.1 h).1) (fun a ha => hlive a (hDl a (List.mem_filter.1 ha).1).2), hcongr _ ?_ (fun a ha => hlive a (by have := (List.mem_filter.1 ha).2; rw [bA_] at this; exact this.1))]
    intro hi
    have := (List.mem_filter.1 hi).2
    simp only [bA_] at this
    have h1 := this.1
    unfold liveB at h1
    rw [hLi, show Nat.ble l.length i = false from by
     cases hb : Nat.ble l.length i with
     | false => rfl
     | true => have := Nat.le_of_ble_eq_true hb; omega] at h1
    simp at h1
 ·rintro f' w' ⟨V, hs, hv, hφ, -, hH⟩
  refine hend f' w' V hs (fun j x hjx hdx => ?_) ?_
  ·have hjl := (gS_.1 hjx).1
   have := hv j x hjx hdx
   rw [if_pos (decide_eq_true hjl)] at this
   exact ⟨this, hφ j hjl (decide_eq_true hjl)⟩
  ·have : segsM l cn T its m (fun k => decide (k < l.length)) V = ((List.range m).filter (fun j => (cn j).isNone)).flatMap fun j => its j (mask T j V) := by
    unfold segsM
    congr 1
    refine List.filter_congr fun j hj => ?_
    unfold liveB
    have h1 : (Nat.ble l.length j || decide (j < l.length)) = true := by
     rw [Bool.or_eq_true, decide_eq_true_eq]
     by_cases h : j < l.length
     ·exact .inr h
     ·exact .inl (Nat.ble_eq_true_of_le (by omega))
    rw [h1, Bool.true_and]
    cases hcj : cn j with
    | none => rfl
    | some c =>
     have := hc0 j c hcj
     simp [this]
   rw [← this]; exact hH
end
theorem mask_undef (T : List Nat) (j : Nat) : mask T j (fun _ => undef) = fun _ => undef := by
 funext k; rw [mask_eq]; split <;> rfl
theorem drgML {P : Program} {n : Nat} {l : List Oper} {id : Nat} {Q : Exit → Act → World → Prop} {f : Slots} {w : World} {M0 : Nat → Prop} {w0 : World} (cnL : List (Option Nat)) (T : List Nat) (itsL : List ((Nat → Value) → List Item)) (Ds : List (List Nat)) (ΦL : List (Value → Prop)) (base : List Item)
  (hm : P.follows .mixedOrders = true) (hok : okG n l (fun j => cnL.getD j none) T itsL.length Ds = true) (hTl : Nat.ble T.length l.length = true) (hc : cnL.all (fun c => match c with | none => true | some i => Nat.blt i l.length) = true)
  (hH : HI M0 w0 w (base ++ ((itsL.drop l.length).flatMap fun g => g (fun _ => undef))))
  (hS : GStepsM P n l (fun j => cnL.getD j none) T (fun j => itsL.getD j (fun _ => [])) (fun j => ΦL.getD j (fun _ => True)) f M0 w0 base Ds 0 l)
  (hend : ∀ (f' : Slots) (w' : World) (V : Nat → Value), (∀ t, (dstsK l.length l).contains t = false → f' t = f t) → (∀ j x, l[j]? = some x → x.dst.isSome = true → f' (dstD l j) = V j ∧ (ΦL.getD j (fun _ => True)) (V j)) → HI M0 w0 w' (base ++ ((List.range itsL.length).filter (fun j => (cnL.getD j none).isNone)).flatMap fun j => (itsL.getD j (fun _ => [])) (mask T j V)) → Q .normal (acts n f') w') :
  WC P n (.region id l.toArray true) Q f w := by
 have hlm : l.length ≤ itsL.length := by
  simp only [okG, bA_] at hok
  exact Nat.le_of_ble_eq_true hok.1.2
 refine drgM (fun j => cnL.getD j none) T (fun j => itsL.getD j (fun _ => [])) itsL.length Ds (fun j => ΦL.getD j (fun _ => True)) base (fun _ => undef) hm hok (Nat.le_of_ble_eq_true hTl) ?_ (hc_of hc) hS hend
 simp only [mask_undef]
 have key : ∀ (L : List ((Nat → Value) → List Item)) (k s : Nat), ((List.range' s L.length).filter (fun j => Nat.ble k j)).flatMap (fun j => ((List.replicate s (fun _ => [])) ++ L).getD j (fun _ => []) (fun _ => undef)) = (L.drop (k - s)).flatMap fun g => g (fun _ => undef) := by
  intro L
  induction L with
  | nil => intro k s; simp
  | cons g L ih =>
   intro k s
   have hrep : List.replicate s (fun _ : Nat → Value => ([] : List Item)) ++ g :: L = (List.replicate s (fun _ : Nat → Value => ([] : List Item)) ++ [g]) ++ L := by simp
   have hget : ∀ j ∈ List.range' (s + 1) L.length, (List.replicate s (fun _ : Nat → Value => ([] : List Item)) ++ g :: L).getD j (fun _ => []) (fun _ => undef) = (List.replicate (s + 1) (fun _ : Nat → Value => ([] : List Item)) ++ L).getD j (fun _ => []) (fun _ => undef) := by
    intro j hj
    have hj := (List.mem_range'_1.1 hj).1
    rw [gD_, gD_, hrep, aR_ (by simp; omega), aR_ (by simp; omega)]
    simp
   have hfm : ∀ A : List Nat, (∀ j ∈ A, j ∈ List.range' (s + 1) L.length) → A.flatMap (fun j => (List.replicate s (fun _ : Nat → Value => ([] : List Item)) ++ g :: L).getD j (fun _ => []) (fun _ => undef)) = A.flatMap fun j => (List.replicate (s + 1) (fun _ : Nat → Value => ([] : List Item)) ++ L).getD j (fun _ => []) (fun _ => undef) := by
    intro A hA
    induction A with
    | nil => rfl
    | cons a A ihA => rw [List.flatMap_cons, List.flatMap_cons, ihA fun j hj => hA j (List.mem_cons_of_mem _ hj), hget a (hA a List.mem_cons_self)]
   rw [lC_, List.range'_succ, List.filter_cons]
   by_cases hk : Nat.ble k s = true
   ·have hks := Nat.le_of_ble_eq_true hk
    rw [if_pos hk, List.flatMap_cons, hfm _ fun j hj => (List.mem_filter.1 hj).1, ih k (s + 1), show k - s = 0 from by omega, show k - (s + 1) = 0 from by omega, List.drop_zero, List.drop_zero, List.flatMap_cons]
    congr 1
    rw [gD_, aR_ (by simp)]
    simp
   ·have hks : ¬ k ≤ s := fun h => hk (Nat.ble_eq_true_of_le h)
    rw [if_neg hk, hfm _ fun j hj => (List.mem_filter.1 hj).1, ih k (s + 1), show k - s = (k - (s + 1)) + 1 from by omega, List.drop_succ_cons]
 have := key itsL l.length 0
 rw [List.replicate_zero, List.nil_append, Nat.sub_zero, ← List.range_eq_range'] at this
 rw [this]
 exact hH
end Go.Ew
namespace Go.Ew
theorem wr_at {its : List ItemL} {v val : Int} (h : 0 ≤ wrI its v val) : ∃ x, its[(wrI its v val).toNat]? = some x ∧ isW v val x = true := by
 unfold wrI idxF at h ⊢
 cases hf : its.findIdx? (isW v val) with
 | none => rw [hf] at h; simp at h
 | some i =>
  obtain ⟨hi, hp, -⟩ := List.findIdx?_eq_some_iff_getElem.1 hf
  exact ⟨its[i], by simp [hi], hp⟩
theorem isW_iff {v val : Int} {x : ItemL} : isW v val x = true ↔ x.2.2.1 = true ∧ x.2.2.2.1 = v ∧ x.2.2.2.2 = val := by unfold isW; simp [and_assoc]
end Go.Ew
namespace Go.Ew
def frI (its : List ItemL) (x : ItemL) : Int := if x.2.2.1 then -3 else if x.2.2.2.2 = 0 then -1 else if 0 ≤ wrI its x.2.2.2.1 x.2.2.2.2 then max (wrI its x.2.2.2.1 x.2.2.2.2) 0 else -2
def fromR (its : List ItemL) : List Int := its.map (frI its)
theorem frI_w {its : List ItemL} {x : ItemL} (hw : x.2.2.1 = true) : (-3 : Int) = frI its x := by unfold frI; simp [hw]
theorem frI_0 {its : List ItemL} {x : ItemL} (hw : x.2.2.1 = false) (h0 : x.2.2.2.2 = 0) : (-1 : Int) = frI its x := by unfold frI; simp [hw, h0]
theorem frI_s {its : List ItemL} {x : ItemL} (hw : x.2.2.1 = false) (h0 : ¬ x.2.2.2.2 = 0) (hs : decide (0 ≤ wrI its x.2.2.2.1 x.2.2.2.2) = true) : max (wrI its x.2.2.2.1 x.2.2.2.2) 0 = frI its x := by unfold frI; simp only [hw, h0, of_decide_eq_true hs]; rfl
theorem frI_n {its : List ItemL} {x : ItemL} (hw : x.2.2.1 = false) (h0 : ¬ x.2.2.2.2 = 0) (hs : decide (0 ≤ wrI its x.2.2.2.1 x.2.2.2.2) = false) : (-2 : Int) = frI its x := by unfold frI; simp only [hw, h0, of_decide_eq_false hs]; rfl
theorem fromR_step {its : List ItemL} {j : Nat} {x : ItemL} {v : Int} (hx : its[((j : Nat) : Int).toNat]? = some x) (hv : v = frI its x) : (its.take j).map (frI its) ++ [v] = (its.take (j + 1)).map (frI its) := by
 rw [take_at hx, List.map_append, hv]; rfl
end Go.Ew
namespace Go.Ew
theorem fromR_len (its : List ItemL) : (fromR its).length = its.length := by unfold fromR; simp
theorem reads_facts {its : List ItemL} {x : ItemL} {t : Int} (ht : t = frI its x) : (x.2.2.1 == decide (t = -3)) = true ∧ (t = -1 → x.2.2.2.2 = 0) ∧ -3 ≤ t ∧ t < (its.length : Int) ∧
  (0 ≤ t → ∃ y, its[t.toNat]? = some y ∧ y.2.2.1 = true ∧ y.2.2.2.1 = x.2.2.2.1 ∧ y.2.2.2.2 = x.2.2.2.2 ∧ x.2.2.2.2 ≠ 0) ∧
  (t = -2 → ∀ y ∈ its, y.2.2.1 = true → y.2.2.2.1 = x.2.2.2.1 → y.2.2.2.2 ≠ x.2.2.2.2) := by
 have hr := idxF_range (p := isW x.2.2.2.1 x.2.2.2.2) (r := its)
 have hlt : 0 ≤ wrI its x.2.2.2.1 x.2.2.2.2 → wrI its x.2.2.2.1 x.2.2.2.2 < (its.length : Int) := by
  intro h0
  obtain ⟨y, hy, -⟩ := wr_at h0
  have := (gS_.1 hy).1
  omega
 subst ht
 unfold frI
 by_cases hw : x.2.2.1 = true
 ·simp only [hw, if_true]
  refine ⟨by simp, fun h => (by omega), by omega, by omega, fun h => (by omega), fun h => (by omega)⟩
 ·have hw' : x.2.2.1 = false := by simpa using hw
  simp only [hw', Bool.false_eq_true, if_false]
  by_cases h0 : x.2.2.2.2 = 0
  ·simp only [h0, if_true]
   refine ⟨by simp, fun _ => (by first | trivial | rfl), by omega, by omega, fun h => (by omega), fun h => (by omega)⟩
  ·simp only [h0, if_false]
   by_cases hp : 0 ≤ wrI its x.2.2.2.1 x.2.2.2.2
   ·simp only [hp, if_true]
    have hl := hlt hp
    obtain ⟨y, hy, hyp⟩ := wr_at hp
    obtain ⟨y1, y2, y3⟩ := isW_iff.1 hyp
    have e : max (wrI its x.2.2.2.1 x.2.2.2.2) 0 = wrI its x.2.2.2.1 x.2.2.2.2 := by omega
    rw [e]
    refine ⟨?_, fun h => (by omega), by omega, hl, fun _ => ⟨y, hy, y1, y2, y3, h0⟩, fun h => (by omega)⟩
    rw [decide_eq_false (by omega)]; rfl
   ·simp only [hp, if_false]
    refine ⟨rfl, fun h => (by omega), by omega, by omega, fun h => (by omega), fun _ y hy hyw hyv hyn => ?_⟩
    apply hp
    unfold wrI idxF
    cases hf : its.findIdx? (isW x.2.2.2.1 x.2.2.2.2) with
    | none =>
     rw [List.findIdx?_eq_none_iff] at hf
     have := hf y hy
     rw [isW_iff.2 ⟨hyw, hyv, hyn⟩] at this
     cases this
    | some i => simp
end Go.Ew
namespace Go.Ew
def rowP (n : Nat) (p : Nat → Bool) : Row := (((List.range n).filter p).map fun k => ((k : Nat) : Int)).foldl setR (newR ((n : Nat) : Int))
theorem words_nat (n : Nat) : words ((n : Nat) : Int) = (n + 63) / 64 := by unfold words; omega
theorem rowP_len (n : Nat) (p : Nat → Bool) : (rowP n p).length = words ((n : Nat) : Int) := by unfold rowP; rw [foldl_setR_length, newR_length]
theorem inR_newR {n : Nat} {i : Int} (h0 : 0 ≤ i) (h : i < ((n : Nat) : Int)) : inR (newR ((n : Nat) : Int)) i = true := inR_of h0 (by rw [newR_length, words_nat]; omega)
theorem rowP_has (n : Nat) (p : Nat → Bool) (i : Int) : hasR (rowP n p) i = (decide (0 ≤ i) && decide (i < ((n : Nat) : Int)) && p i.toNat) := by
 unfold rowP
 rw [foldl_setR_has, newR_has, Bool.false_or, Bool.eq_iff_iff]
 simp only [List.any_eq_true, List.mem_map, List.mem_filter, List.mem_range, bA_, decide_eq_true_eq]
 constructor
 ·rintro ⟨z, ⟨k, ⟨hk, hp⟩, rfl⟩, rfl, -⟩
  exact ⟨⟨by omega, by omega⟩, by simpa using hp⟩
 ·rintro ⟨⟨h0, h1⟩, hp⟩
  exact ⟨i, ⟨i.toNat, ⟨by omega, hp⟩, by omega⟩, rfl, inR_newR h0 h1⟩
theorem row_is {r : Row} {n : Nat} {p : Nat → Bool} (hl : r.length = words ((n : Nat) : Int)) (h : ∀ k : Nat, hasR r ((k : Nat) : Int) = (decide (k < n) && p k)) : r = rowP n p := by
 refine row_ext (by rw [hl, rowP_len]) fun k => ?_
 rw [h, rowP_has]
 simp
theorem rowP_congr {n : Nat} {p q : Nat → Bool} (h : ∀ k, k < n → p k = q k) : rowP n p = rowP n q :=
 row_is (rowP_len n p) fun k => by
  rw [rowP_has]
  by_cases hk : k < n
  ·simp [hk, h k hk]
  ·simp [hk]
theorem newR_rowP (n : Nat) : newR ((n : Nat) : Int) = rowP n fun _ => false := row_is (newR_length _) fun k => by rw [newR_has]; simp
theorem setR_rowP {n : Nat} {p : Nat → Bool} {j : Int} (h0 : 0 ≤ j) (h1 : j < ((n : Nat) : Int)) : setR (rowP n p) j = rowP n fun k => p k || decide (k = j.toNat) := by
 refine row_is (by rw [setR_length, rowP_len]) fun k => ?_
 rw [hasR_setR, rowP_has]
 have hin : inR (rowP n p) j = true := inR_of h0 (by rw [rowP_len, words_nat]; omega)
 rw [hin, Bool.and_true, Bool.eq_iff_iff]
 simp only [Bool.or_eq_true, bA_, decide_eq_true_eq, tN_]
 constructor
 ·rintro (⟨⟨h2, h3⟩, h4⟩ | h2)
  ·exact ⟨by omega, .inl h4⟩
  ·exact ⟨by omega, .inr (by omega)⟩
 ·rintro ⟨h2, h3 | h3⟩
  ·exact .inl ⟨⟨by omega, by omega⟩, h3⟩
  ·exact .inr (by omega)
def matP (n : Nat) (p : Nat → Nat → Bool) : Rows := (List.range n).map fun i => rowP n (p i)
theorem matP_len (n : Nat) (p : Nat → Nat → Bool) : (matP n p).length = n := by unfold matP; simp
theorem matP_at {n : Nat} {p : Nat → Nat → Bool} {i : Nat} {x : Row} (h : (matP n p)[i]? = some x) : i < n ∧ x = rowP n (p i) := by
 unfold matP at h
 rw [List.getElem?_map] at h
 cases hr : (List.range n)[i]? with
 | none => rw [hr] at h; cases h
 | some k =>
  rw [hr] at h
  obtain ⟨h1, h2⟩ := gS_.1 hr
  simp at h1 h2
  subst h2
  exact ⟨h1, (Option.some.inj h).symm⟩
theorem matP_get {n : Nat} {p : Nat → Nat → Bool} {i : Nat} (h : i < n) : (matP n p)[i]? = some (rowP n (p i)) := by
 unfold matP; rw [List.getElem?_map, List.getElem?_range h]; rfl
theorem mat_is {rs : Rows} {n : Nat} {p : Nat → Nat → Bool} (hl : rs.length = n) (h : ∀ i, i < n → rs[i]? = some (rowP n (p i))) : rs = matP n p := by
 apply List.ext_getElem?
 intro i
 by_cases hi : i < n
 ·rw [h i hi, matP_get hi]
 ·rw [List.getElem?_eq_none (by omega), List.getElem?_eq_none (by rw [matP_len]; omega)]
theorem matP_congr {n : Nat} {p q : Nat → Nat → Bool} (h : ∀ i j, i < n → j < n → p i j = q i j) : matP n p = matP n q :=
 mat_is (matP_len n p) fun i hi => by rw [matP_get hi, rowP_congr fun j hj => h i j hi hj]
theorem newM_matP (n : Nat) : newM ((n : Nat) : Int) = matP n fun _ _ => false := by
 refine mat_is (by rw [newM_length]; simp) fun i hi => ?_
 unfold newM
 rw [List.getElem?_replicate, if_pos (by simpa using hi), newR_rowP]
theorem matP_set {n : Nat} {p : Nat → Nat → Bool} {i : Nat} {q : Nat → Bool} : (matP n p).set i (rowP n q) = matP n fun a b => if a = i then q b else p a b := by
 refine mat_is (by rw [List.length_set, matP_len]) fun k hk => ?_
 rw [List.getElem?_set]
 by_cases e : i = k
 ·subst e
  rw [if_pos rfl, if_pos (by rw [matP_len]; exact hk)]
  congr 1
  exact rowP_congr fun j _ => by simp
 ·rw [if_neg e, matP_get hk]
  congr 1
  exact rowP_congr fun j _ => by rw [if_neg fun e2 => e e2.symm]
theorem rowAt_matP {n : Nat} {p : Nat → Nat → Bool} {i : Int} (h0 : 0 ≤ i) (h : i < ((n : Nat) : Int)) : rowAt (matP n p) i = rowP n (p i.toNat) := rowAt_of (matP_get (by omega))
theorem setM_matP {n : Nat} {p : Nat → Nat → Bool} {i j : Int} (hi : inM ((n : Nat) : Int) [i, j] = true) : setM (matP n p) (i, j) = matP n fun a b => p a b || (decide (a = i.toNat) && decide (b = j.toNat)) := by
 obtain ⟨⟨h1, h2⟩, h3, h4⟩ := inM_two.1 hi
 unfold setM
 dsimp only
 rw [rowAt_matP h1 h2, setR_rowP h3 h4, matP_set]
 refine matP_congr fun a b ha hb => ?_
 by_cases e : a = i.toNat
 ·subst e; simp
 ·simp [e]
theorem hasM_matP {n : Nat} {p : Nat → Nat → Bool} {i j : Int} : hasM ((n : Nat) : Int) (matP n p) i j = (inM ((n : Nat) : Int) [i, j] && p i.toNat j.toNat) := by
 unfold hasM
 cases h : inM ((n : Nat) : Int) [i, j] with
 | false => rfl
 | true =>
  obtain ⟨⟨h1, h2⟩, h3, h4⟩ := inM_two.1 h
  rw [rowAt_matP h1 h2, rowP_has, decide_eq_true h3, decide_eq_true h4]; rfl
theorem setMR_matP {n : Nat} {p : Nat → Nat → Bool} {i j : Int} (hi : inM ((n : Nat) : Int) [i, j] = true) : setMR ((n : Nat) : Int) (matP n p) i j = matP n fun a b => p a b || (decide (a = i.toNat) && decide (b = j.toNat)) := by
 rw [(set_yes hi).2.1, setM_matP hi]
theorem inM_nat {n i j : Nat} : inM ((n : Nat) : Int) [((i : Nat) : Int), ((j : Nat) : Int)] = (decide (i < n) && decide (j < n)) := by
 rw [inM_eq, Bool.eq_iff_iff]
 simp only [bA_, decide_eq_true_eq]
 omega
theorem hasM_nat {n : Nat} {p : Nat → Nat → Bool} {i j : Nat} (hi : i < n) (hj : j < n) : hasM ((n : Nat) : Int) (matP n p) ((i : Nat) : Int) ((j : Nat) : Int) = p i j := by
 rw [hasM_matP, inM_nat]; simp [hi, hj]
theorem matP_rows {n : Nat} {p : Nat → Nat → Bool} : ∀ x ∈ matP n p, x.length = words ((n : Nat) : Int) := by
 intro x hx
 obtain ⟨i, hi⟩ := List.mem_iff_getElem?.1 hx
 rw [(matP_at hi).2, rowP_len]
theorem matP_small {n : Nat} {p : Nat → Nat → Bool} (h : n ≤ 4096) : ∀ x ∈ matP n p, x.length ≤ 1000000000 := by
 intro x hx
 rw [matP_rows x hx, words_nat]; omega
end Go.Ew
namespace Go.Ew
abbrev item0 : ItemL := (0, 0, false, 0, 0)
def sesN (its : List ItemL) (i : Nat) : Int := (its.getD i item0).1
def plcN (its : List ItemL) (i : Nat) : Int := (its.getD i item0).2.1
theorem item_getI {its : List ItemL} {i : Int} {x : ItemL} (h : its[i.toNat]? = some x) : its.getD i.toNat item0 = x := by rw [gD_, h]; rfl
theorem ses_atI {its : List ItemL} {i : Int} {x : ItemL} (h : its[i.toNat]? = some x) : sesN its i.toNat = x.1 := by unfold sesN; rw [item_getI h]
theorem plc_atI {its : List ItemL} {i : Int} {x : ItemL} (h : its[i.toNat]? = some x) : plcN its i.toNat = x.2.1 := by unfold plcN; rw [item_getI h]
structure OrdI (its : List ItemL) : Prop where
 first : 0 < its.length → plcN its 0 = 0
 next : ∀ i, i + 1 < its.length → (sesN its (i + 1) = sesN its i ∧ plcN its (i + 1) = plcN its i + 1) ∨ (sesN its i < sesN its (i + 1) ∧ plcN its (i + 1) = 0)
section
variable {its : List ItemL} (o : OrdI its)
include o
theorem OrdI.le : ∀ (d i : Nat), i + d < its.length → sesN its i ≤ sesN its (i + d)
 | 0, i, h => Int.le_refl _
 | d + 1, i, h => by
  have h1 := OrdI.le d i (by omega)
  have h2 := o.next (i + d) (by omega)
  rw [show i + (d + 1) = i + d + 1 from rfl]; omega
theorem OrdI.mono {i j : Nat} (hij : i ≤ j) (h : j < its.length) : sesN its i ≤ sesN its j := by
 have := o.le (j - i) i (by omega)
 rwa [show i + (j - i) = j from by omega] at this
theorem OrdI.place : ∀ (d i : Nat), i + d < its.length → sesN its i = sesN its (i + d) → plcN its (i + d) = plcN its i + ((d : Nat) : Int)
 | 0, i, h, _ => by simp
 | d + 1, i, h, hs => by
  have h1 := o.mono (i := i) (j := i + d) (by omega) (by omega)
  have h2 := o.mono (i := i + d) (j := i + (d + 1)) (by omega) h
  have h3 := o.next (i + d) (by omega)
  have e : i + (d + 1) = i + d + 1 := rfl
  rw [e] at hs h2 ⊢
  have ih := OrdI.place d i (by omega) (by omega)
  omega
theorem OrdI.nonneg : ∀ i, i < its.length → 0 ≤ plcN its i
 | 0, h => by rw [o.first h]; exact Int.le_refl _
 | i + 1, h => by
  have := OrdI.nonneg i (by omega)
  have := o.next i h
  omega
theorem OrdI.back : ∀ i, i < its.length → plcN its i ≤ ((i : Nat) : Int) ∧ ∀ k, ((i : Nat) : Int) - plcN its i ≤ ((k : Nat) : Int) → k ≤ i → sesN its k = sesN its i
 | 0, h => by
  rw [o.first h]
  exact ⟨by omega, fun k _ hk => by rw [show k = 0 from by omega]⟩
 | i + 1, h => by
  obtain ⟨h1, h2⟩ := OrdI.back i (by omega)
  have h0 := o.nonneg (i + 1) h
  rcases o.next i h with ⟨hs, hp⟩ | ⟨hs, hp⟩
  ·refine ⟨by omega, fun k hk hki => ?_⟩
   by_cases e : k = i + 1
   ·rw [e]
   ·rw [hs]; exact h2 k (by omega) (by omega)
  ·refine ⟨by omega, fun k hk hki => ?_⟩
   rw [show k = i + 1 from by omega]
theorem OrdI.ahead {i j : Nat} (hi : i < its.length) (hj : j < its.length) (hs : sesN its i = sesN its j) : (plcN its i < plcN its j ↔ i < j) := by
 rcases Nat.le_total i j with h | h
 ·have := o.place (j - i) i (by omega) (by rw [show i + (j - i) = j from by omega]; exact hs)
  rw [show i + (j - i) = j from by omega] at this
  omega
 ·have := o.place (i - j) j (by omega) (by rw [show j + (i - j) = i from by omega]; exact hs.symm)
  rw [show j + (i - j) = i from by omega] at this
  omega
end
theorem ord_snoc {its : List ItemL} (o : OrdI its) {x : ItemL} (h0 : its.length = 0 → x.2.1 = 0) (h : ∀ n, its.length = n + 1 → (x.1 = sesN its n ∧ x.2.1 = plcN its n + 1) ∨ (sesN its n < x.1 ∧ x.2.1 = 0)) : OrdI (its ++ [x]) := by
 have hold : ∀ i, i < its.length → (its ++ [x]).getD i item0 = its.getD i item0 := by
  intro i hi
  rw [gD_, gD_, aL_ hi]
 have hnew : (its ++ [x]).getD its.length item0 = x := by
  rw [gD_, aR_ (Nat.le_refl _)]; simp
 refine ⟨fun hl => ?_, fun i hi => ?_⟩
 ·by_cases e : its.length = 0
  ·have := hnew
   rw [e] at this
   unfold plcN; rw [this]; exact h0 e
  ·have := o.first (by omega)
   unfold plcN at this ⊢
   rw [hold 0 (by omega)]; exact this
 ·rw [lA_, List.length_singleton] at hi
  by_cases e : i + 1 < its.length
  ·have := o.next i e
   unfold sesN plcN at this ⊢
   rw [hold i (by omega), hold (i + 1) e]; exact this
  ·have e2 : its.length = i + 1 := by omega
   have := h i e2
   unfold sesN plcN at this ⊢
   rw [hold i (by omega), ← e2, hnew]
   rcases this with ⟨a, b⟩ | ⟨a, b⟩
   ·exact .inl ⟨a, b⟩
   ·exact .inr ⟨a, b⟩
def Below_ (its : List ItemL) (j : Nat) : Prop := ∀ x ∈ its, x.1 < ((j : Nat) : Int)
theorem last_get {its : List ItemL} {n : Nat} (h : its.length = n + 1) : its.getD n item0 ∈ its := by
 rw [gD_, gE_ (by omega)]
 exact List.getElem_mem _
theorem toO_ord {j : Nat} {st : StO} {ops : List OpL} (o : OrdI st.2) (hb : Below_ st.2 j) : ∀ k, k ≤ ops.length →
  OrdI (toO j st ops k).2 ∧ Below_ (toO j st ops k).2 (j + 1) ∧ (0 < k → ∃ n, (toO j st ops k).2.length = n + 1 ∧ sesN (toO j st ops k).2 n = ((j : Nat) : Int) ∧ plcN (toO j st ops k).2 n = ((k : Nat) : Int) - 1)
 | 0, _ => by
  rw [toO_zero]
  exact ⟨o, fun x hx => by have := hb x hx; omega, fun h => (by omega)⟩
 | k + 1, hk => by
  obtain ⟨ho, hbl, hlast⟩ := toO_ord (ops := ops) o hb k (by omega)
  have hx : ops[((k : Nat) : Int).toNat]? = some ops[k] := by rw [tN_]; exact gE_ (by omega)
  rw [toO_step hx]
  unfold stepO
  dsimp only
  refine ⟨ord_snoc ho (fun h0 => ?_) (fun n hn => ?_), ?_, fun _ => ⟨(toO j st ops k).2.length, by simp, ?_, ?_⟩⟩
  ·show ((k : Nat) : Int) = 0
   by_cases hk0 : 0 < k
   ·obtain ⟨n, h1, -⟩ := hlast hk0
    omega
   ·omega
  ·show (((j : Nat) : Int) = _ ∧ ((k : Nat) : Int) = _) ∨ (_ < ((j : Nat) : Int) ∧ ((k : Nat) : Int) = 0)
   by_cases hk0 : 0 < k
   ·obtain ⟨n', h1, h2, h3⟩ := hlast hk0
    obtain rfl : n = n' := by omega
    exact .inl ⟨h2.symm, by rw [h3]; omega⟩
   ·right
    have hk0 : k = 0 := by omega
    subst hk0
    rw [toO_zero] at hn ⊢
    exact ⟨hb _ (last_get hn), rfl⟩
  ·intro x hxm
   rcases List.mem_append.1 hxm with h | h
   ·exact hbl x h
   ·rw [List.mem_singleton] at h
    subst h
    show ((j : Nat) : Int) < _
    omega
  ·unfold sesN
   rw [gD_, aR_ (Nat.le_refl _)]; simp
  ·unfold plcN
   rw [gD_, aR_ (Nat.le_refl _)]
   simp
theorem allO_ord (h : HistL) : ∀ j, j ≤ h.length → OrdI (allO h j).2 ∧ Below_ (allO h j).2 j
 | 0, _ => ⟨⟨fun h => (by simp [allO] at h), fun i hi => (by simp [allO] at hi)⟩, fun x hx => (by simp [allO] at hx)⟩
 | j + 1, hj => by
  obtain ⟨ho, hb⟩ := allO_ord h j (by omega)
  have hx : h[((j : Nat) : Int).toNat]? = some h[j] := by rw [tN_]; exact gE_ (by omega)
  rw [allO_step hx]
  have := toO_ord (ops := h[j]) ho hb _ (Nat.le_refl _)
  exact ⟨this.1, this.2.1⟩
theorem factI_ord (h : HistL) : OrdI (factI h) := (allO_ord h h.length (Nat.le_refl _)).1
theorem ofI_ord (h : HistL) : OrdI (ofI h) := by
 unfold ofI; split
 ·exact factI_ord h
 ·exact ⟨fun h => (by simp at h), fun i hi => (by simp at hi)⟩
def ahN (its : List ItemL) (i j : Nat) : Bool := decide (i < j) && decide (j < its.length) && decide (sesN its i = sesN its j)
def ahA (its : List ItemL) (i j : Int) : Bool := decide (0 ≤ i) && decide (j < (its.length : Int)) && decide (i < j) && decide (sesN its i.toNat = sesN its j.toNat)
def ahB (its : List ItemL) (i j : Int) : Bool := decide (0 ≤ i) && decide (0 ≤ j) && decide (i < (its.length : Int)) && decide (j < (its.length : Int)) && decide (sesN its i.toNat = sesN its j.toNat) && decide (plcN its i.toNat < plcN its j.toNat)
theorem ahA_N (its : List ItemL) (i j : Nat) : ahA its ((i : Nat) : Int) ((j : Nat) : Int) = ahN its i j := by
 unfold ahA ahN
 rw [Bool.eq_iff_iff]
 simp only [bA_, decide_eq_true_eq, tN_]
 omega
theorem ahB_A {its : List ItemL} (o : OrdI its) (i j : Int) : ahB its i j = ahA its i j := by
 unfold ahA ahB
 rw [Bool.eq_iff_iff]
 simp only [bA_, decide_eq_true_eq]
 constructor
 ·rintro ⟨⟨⟨⟨⟨h1, h2⟩, h3⟩, h4⟩, h5⟩, h6⟩
  have := (o.ahead (i := i.toNat) (j := j.toNat) (by omega) (by omega) h5).1 h6
  exact ⟨⟨⟨h1, h4⟩, by omega⟩, h5⟩
 ·rintro ⟨⟨⟨h1, h2⟩, h3⟩, h4⟩
  have := (o.ahead (i := i.toNat) (j := j.toNat) (by omega) (by omega) h4).2 (by omega)
  exact ⟨⟨⟨⟨⟨h1, by omega⟩, by omega⟩, h2⟩, h4⟩, this⟩
def poR (its : List ItemL) : Rows := matP its.length (ahN its)
def poTo (its : List ItemL) (t : Int) : Rows := matP its.length fun a b => decide (t < ((a : Nat) : Int)) && ahN its a b
theorem poTo_start (its : List ItemL) (t : Int) (h : (its.length : Int) - 2 = t) : newM (its.length : Int) = poTo its t := by
 rw [newM_matP]
 refine matP_congr fun a b ha hb => ?_
 unfold ahN
 rw [Bool.eq_iff_iff]
 simp only [bA_, decide_eq_true_eq, Bool.false_eq_true, false_iff]
 omega
theorem poTo_end {its : List ItemL} {t : Int} (h : t < 0) : poTo its t = poR its := by
 refine matP_congr fun a b ha hb => ?_
 rw [decide_eq_true (by omega)]; rfl
theorem poTo_same {its : List ItemL} {t : Int} (h0 : 0 ≤ t) (h1 : t + 1 < (its.length : Int)) (hs : sesN its t.toNat = sesN its (t + 1).toNat) {x : Row} (hx : (poTo its t)[(t + 1).toNat]? = some x) :
  (poTo its t).set t.toNat (setR x (t + 1)) = poTo its (t - 1) := by
 unfold poTo at *
 obtain ⟨h2, rfl⟩ := matP_at hx
 rw [setR_rowP (by omega) h1, matP_set]
 refine matP_congr fun a b ha hb => ?_
 have e : (t + 1).toNat = t.toNat + 1 := by omega
 rw [e] at hs ⊢
 by_cases ea : a = t.toNat
 ·subst ea
  rw [if_pos rfl]
  unfold ahN
  rw [Bool.eq_iff_iff]
  simp only [bA_, Bool.or_eq_true, decide_eq_true_eq]
  constructor
  ·rintro (⟨_, ⟨h3, h4⟩, h5⟩ | h3)
   ·exact ⟨by omega, ⟨by omega, h4⟩, by rw [hs, h5]⟩
   ·subst h3; exact ⟨by omega, ⟨by omega, by omega⟩, hs⟩
  ·rintro ⟨_, ⟨h3, h4⟩, h5⟩
   by_cases e2 : b = t.toNat + 1
   ·exact .inr e2
   ·exact .inl ⟨by omega, ⟨by omega, h4⟩, by rw [← hs, h5]⟩
 ·rw [if_neg ea, show decide (t < ((a : Nat) : Int)) = decide (t - 1 < ((a : Nat) : Int)) from by rw [decide_eq_decide]; omega]
theorem poTo_other {its : List ItemL} (o : OrdI its) {t : Int} (h0 : 0 ≤ t) (h1 : t + 1 < (its.length : Int)) (hs : ¬ sesN its t.toNat = sesN its (t + 1).toNat) : poTo its t = poTo its (t - 1) := by
 refine matP_congr fun a b ha hb => ?_
 have e : (t + 1).toNat = t.toNat + 1 := by omega
 rw [e] at hs
 by_cases ea : a = t.toNat
 ·subst ea
  rw [decide_eq_false (by omega), Bool.false_and]
  symm
  unfold ahN
  rw [Bool.and_eq_false_iff]
  right
  rw [Bool.and_eq_false_iff]
  by_cases hb2 : t.toNat < b
  ·right
   rw [decide_eq_false_iff_not]
   intro he
   have g1 := o.mono (i := t.toNat) (j := t.toNat + 1) (by omega) (by omega)
   have g2 := o.mono (i := t.toNat + 1) (j := b) (by omega) (by omega)
   omega
  ·left
   rw [decide_eq_false (by omega)]; rfl
 ·rw [show decide (t < ((a : Nat) : Int)) = decide (t - 1 < ((a : Nat) : Int)) from by rw [decide_eq_decide]; omega]
def poU (its : List ItemL) (i j : Nat) : Rows := matP its.length fun a b => (decide (a < i) || (decide (a = i) && decide (b < j))) && ahN its a b
theorem poU_start (its : List ItemL) : newM (its.length : Int) = poU its 0 0 := by
 rw [newM_matP]
 exact matP_congr fun a b ha hb => by simp
theorem poU_row {its : List ItemL} {i j : Nat} (h : its.length ≤ j) : poU its i j = poU its (i + 1) 0 := by
 refine matP_congr fun a b ha hb => ?_
 congr 1
 rw [Bool.eq_iff_iff]
 simp only [Bool.or_eq_true, bA_, decide_eq_true_eq]
 omega
theorem poU_end {its : List ItemL} {i : Nat} (h : its.length ≤ i) : poU its i 0 = poR its := by
 refine matP_congr fun a b ha hb => ?_
 rw [decide_eq_true (by omega)]; rfl
theorem poU_yes {its : List ItemL} {i j : Nat} (hi : i < its.length) (hj : j < its.length) (h : ahN its i j = true) : setMR (its.length : Int) (poU its i j) ((i : Nat) : Int) ((j : Nat) : Int) = poU its i (j + 1) := by
 unfold poU
 rw [setMR_matP (by rw [inM_nat]; simp [hi, hj])]
 refine matP_congr fun a b ha hb => ?_
 rw [Bool.eq_iff_iff]
 simp only [Bool.or_eq_true, bA_, decide_eq_true_eq, tN_]
 constructor
 ·rintro (⟨h1, h2⟩ | ⟨rfl, rfl⟩)
  ·exact ⟨by omega, h2⟩
  ·exact ⟨.inr ⟨rfl, by omega⟩, h⟩
 ·rintro ⟨h1, h2⟩
  by_cases e : a = i ∧ b = j
  ·exact .inr e
  ·exact .inl ⟨by omega, h2⟩
theorem poU_no {its : List ItemL} {i j : Nat} (h : ahN its i j = false) : poU its i j = poU its i (j + 1) := by
 refine matP_congr fun a b ha hb => ?_
 rw [Bool.eq_iff_iff]
 simp only [Bool.or_eq_true, bA_, decide_eq_true_eq]
 constructor
 ·rintro ⟨h1, h2⟩; exact ⟨by omega, h2⟩
 ·rintro ⟨h1, h2⟩
  refine ⟨?_, h2⟩
  by_cases e : a = i ∧ b = j
  ·rw [e.1, e.2, h] at h2; cases h2
  ·omega
def pastA (its : List ItemL) (t : Int) : List Int := if 0 ≤ t ∧ t < (its.length : Int) then (List.range ((plcN its t.toNat).toNat + 1)).map fun q => (t - plcN its t.toNat) + ((q : Nat) : Int) else []
def pastTo (f : Int) (q : Nat) : List Int := (List.range q).map fun k => f + ((k : Nat) : Int)
theorem pastTo_step (f : Int) (q : Nat) : pastTo f q ++ [f + ((q : Nat) : Int)] = pastTo f (q + 1) := by unfold pastTo; rw [List.range_succ, List.map_append]; rfl
theorem pastTo_len (f : Int) (q : Nat) : (pastTo f q).length = q := by unfold pastTo; simp
def pastB (its : List ItemL) (t : Int) (j : Nat) : List Int := ((List.range j).filter fun i => decide (((i : Nat) : Int) = t) || ahB its ((i : Nat) : Int) t).map fun i => ((i : Nat) : Int)
theorem pastB_yes {its : List ItemL} {t : Int} {j : Nat} (h : (decide (((j : Nat) : Int) = t) || ahB its ((j : Nat) : Int) t) = true) : pastB its t j ++ [((j : Nat) : Int)] = pastB its t (j + 1) := by
 unfold pastB; rw [List.range_succ, List.filter_append, List.map_append, List.filter_cons, if_pos h]; rfl
theorem pastB_no {its : List ItemL} {t : Int} {j : Nat} (h : (decide (((j : Nat) : Int) = t) || ahB its ((j : Nat) : Int) t) = false) : pastB its t j = pastB its t (j + 1) := by
 unfold pastB; rw [List.range_succ, List.filter_append, List.map_append, List.filter_cons, if_neg (by rw [h]; simp)]; simp
theorem pastB_len (its : List ItemL) (t : Int) (j : Nat) : (pastB its t j).length ≤ j := by
 unfold pastB; rw [List.length_map]
 have := List.length_filter_le (fun i => decide (((i : Nat) : Int) = t) || ahB its ((i : Nat) : Int) t) (List.range j)
 rwa [List.length_range] at this
theorem filter_range_between {lo hi : Nat} : ∀ n, hi ≤ n → lo ≤ hi → (List.range n).filter (fun i => decide (lo ≤ i) && decide (i < hi)) = (List.range (hi - lo)).map fun q => lo + q := by
 intro n hn hl
 have h1 : n = lo + ((hi - lo) + (n - hi)) := by omega
 rw [h1, range_add_map, range_add_map, List.filter_append, List.map_append, List.filter_append]
 have e1 : (List.range lo).filter (fun i => decide (lo ≤ i) && decide (i < hi)) = [] := by
  rw [List.filter_eq_nil_iff]; intro i hi2; have := List.mem_range.1 hi2; simp; omega
 have e2 : ((List.range (hi - lo)).map fun i => lo + i).filter (fun i => decide (lo ≤ i) && decide (i < hi)) = (List.range (hi - lo)).map fun i => lo + i := by
  rw [List.filter_eq_self]; intro i hi2
  obtain ⟨k, hk, rfl⟩ := List.mem_map.1 hi2
  have := List.mem_range.1 hk
  simp; omega
 have e3 : (((List.range (n - hi)).map fun i => hi - lo + i).map fun i => lo + i).filter (fun i => decide (lo ≤ i) && decide (i < hi)) = [] := by
  rw [List.filter_eq_nil_iff]; intro i hi2
  obtain ⟨k, hk, rfl⟩ := List.mem_map.1 hi2
  obtain ⟨k2, hk2, rfl⟩ := List.mem_map.1 hk
  simp; omega
 rw [e1, e2, e3]; simp
theorem past_eq {its : List ItemL} (o : OrdI its) (t : Int) : pastB its t its.length = pastA its t := by
 unfold pastB pastA
 split
 ·rename_i ht
  obtain ⟨b1, b2⟩ := o.back t.toNat (by omega)
  have b0 := o.nonneg t.toNat (by omega)
  have key : ∀ i, i ∈ List.range its.length → (decide (((i : Nat) : Int) = t) || ahB its ((i : Nat) : Int) t) = (decide ((t - plcN its t.toNat).toNat ≤ i) && decide (i < t.toNat + 1)) := by
   intro i hi
   have hi := List.mem_range.1 hi
   rw [ahB_A o]
   unfold ahA
   rw [Bool.eq_iff_iff]
   simp only [Bool.or_eq_true, bA_, decide_eq_true_eq, tN_]
   constructor
   ·rintro (h | ⟨⟨⟨h1, h2⟩, h3⟩, h4⟩)
    ·omega
    ·have := o.place (t.toNat - i) i (by omega) (by rw [show i + (t.toNat - i) = t.toNat from by omega]; exact h4)
     rw [show i + (t.toNat - i) = t.toNat from by omega] at this
     have := o.nonneg i (by omega)
     omega
   ·rintro ⟨h1, h2⟩
    by_cases e : ((i : Nat) : Int) = t
    ·exact .inl e
    ·exact .inr ⟨⟨⟨by omega, ht.2⟩, by omega⟩, b2 i (by omega) (by omega)⟩
  rw [List.filter_congr key, filter_range_between its.length (by omega) (by omega), List.map_map]
  rw [show t.toNat + 1 - (t - plcN its t.toNat).toNat = (plcN its t.toNat).toNat + 1 from by omega]
  apply List.map_congr_left
  intro q _
  show (((t - plcN its t.toNat).toNat + q : Nat) : Int) = _
  omega
 ·rename_i ht
  rw [List.filter_eq_nil_iff.2]
  ·rfl
  ·intro i hi
   have hi := List.mem_range.1 hi
   unfold ahB
   simp only [Bool.or_eq_true, bA_, decide_eq_true_eq]
   omega
theorem ahA_no {its : List ItemL} {i j : Int} (h : ¬ (0 ≤ i ∧ j < (its.length : Int) ∧ i < j)) : false = ahA its i j := by
 unfold ahA; symm; simp only [Bool.and_eq_false_iff, decide_eq_false_iff_not]; omega
theorem ahA_yes {its : List ItemL} {i j : Int} {x y : ItemL} (h0 : 0 ≤ i) (h1 : j < (its.length : Int)) (h2 : i < j) (hx : its[i.toNat]? = some x) (hy : its[j.toNat]? = some y) : decide (x.1 = y.1) = ahA its i j := by
 unfold ahA; rw [decide_eq_true h0, decide_eq_true h1, decide_eq_true h2, ses_atI hx, ses_atI hy]; rfl
theorem ahB_no {its : List ItemL} {i j : Int} (h : ¬ (0 ≤ i ∧ 0 ≤ j ∧ i < (its.length : Int) ∧ j < (its.length : Int))) : false = ahB its i j := by
 unfold ahB; symm; simp only [Bool.and_eq_false_iff, decide_eq_false_iff_not]; omega
theorem ahB_ses {its : List ItemL} {i j : Int} {x y : ItemL} (hx : its[i.toNat]? = some x) (hy : its[j.toNat]? = some y) (hs : ¬ x.1 = y.1) : false = ahB its i j := by
 unfold ahB; rw [ses_atI hx, ses_atI hy, decide_eq_false hs]; simp
theorem ahB_yes {its : List ItemL} {i j : Int} {x y : ItemL} (h0 : 0 ≤ i) (h1 : 0 ≤ j) (h2 : i < (its.length : Int)) (h3 : j < (its.length : Int)) (hx : its[i.toNat]? = some x) (hy : its[j.toNat]? = some y) (hs : x.1 = y.1) : decide (x.2.1 < y.2.1) = ahB its i j := by
 unfold ahB; rw [decide_eq_true h0, decide_eq_true h1, decide_eq_true h2, decide_eq_true h3, ses_atI hx, ses_atI hy, plc_atI hx, plc_atI hy, decide_eq_true hs]; rfl
theorem pastA_no {its : List ItemL} {t : Int} (h : ¬ (0 ≤ t ∧ t < (its.length : Int))) : ([] : List Int) = pastA its t := by unfold pastA; rw [if_neg h]
theorem pastA_yes {its : List ItemL} {t : Int} {x : ItemL} {q : Nat} (h0 : 0 ≤ t) (h : t < (its.length : Int)) (hx : its[t.toNat]? = some x) (hp : 0 ≤ x.2.1) (hq : ((q : Nat) : Int) = x.2.1 + 1) : pastTo (t - x.2.1) q = pastA its t := by
 unfold pastA pastTo
 rw [if_pos ⟨h0, h⟩, plc_atI hx, show x.2.1.toNat + 1 = q from by omega]
theorem poR_len (its : List ItemL) : (poR its).length = its.length := matP_len _ _
theorem poU_len (its : List ItemL) (i j : Nat) : (poU its i j).length = its.length := matP_len _ _
theorem poTo_row {its : List ItemL} {t : Int} {i : Nat} {x : Row} (h : (poTo its t)[i]? = some x) : x.length = words ((its.length : Nat) : Int) := by rw [(matP_at h).2, rowP_len]
theorem words_small {n : Nat} (h : n ≤ 4096) : words ((n : Nat) : Int) ≤ 64 := by rw [words_nat]; omega
end Go.Ew
namespace Go.Ew
def rowOk (n : Int) (r : Row) : Bool := decide (((r.length : Nat) : Int) = ((words n : Nat) : Int)) && (List.range (64 * r.length)).all fun k => decide (((k : Nat) : Int) < n) || !hasR r ((k : Nat) : Int)
def rightS (n : Int) (rs : Rows) : Bool := okN n && decide (((rs.length : Nat) : Int) = n) && rs.all (rowOk n)
theorem rowOk_yes {n : Int} {r : Row} {j : Int} (hl : ((r.length : Nat) : Int) = ((words n : Nat) : Int)) (h : ∀ k : Int, n ≤ k → k < j → hasR r k = false) (hj : 64 * ((r.length : Nat) : Int) ≤ j) : rowOk n r = true := by
 unfold rowOk
 rw [decide_eq_true hl, Bool.true_and, List.all_eq_true]
 intro k hk
 have := List.mem_range.1 hk
 by_cases hn : ((k : Nat) : Int) < n
 ·rw [decide_eq_true hn]; rfl
 ·rw [h _ (by omega) (by omega)]; simp
theorem right_end_ {n : Int} {rs : Rows} {j : Nat} (h0 : 0 ≤ n) (h1 : n ≤ 4096) (h2 : ((rs.length : Nat) : Int) = n) (hs : (rs.take j).all (rowOk n) = true) (hj : rs.length ≤ j) : true = rightS n rs := by
 unfold rightS; rw [take_end hj] at hs; rw [okN_iff.2 ⟨h0, h1⟩, decide_eq_true h2, hs]; rfl
theorem right_matP {n : Nat} {p : Nat → Nat → Bool} (h : n ≤ 4096) : rightS ((n : Nat) : Int) (matP n p) = true := by
 refine (right_end_ (j := (matP n p).length) (by omega) (by omega) (by rw [matP_len]) ?_ (Nat.le_refl _)).symm
 rw [List.take_length, List.all_eq_true]
 intro x hx
 obtain ⟨i, hi⟩ := List.mem_iff_getElem?.1 hx
 obtain ⟨h1, rfl⟩ := matP_at hi
 refine rowOk_yes (j := 64 * (((rowP n (p i)).length : Nat) : Int)) (by rw [rowP_len]) (fun k hk hk2 => ?_) (Int.le_refl _)
 rw [rowP_has, decide_eq_false (show ¬ k < ((n : Nat) : Int) from by omega)]; simp
def rowsP (rs : Rows) (i : Nat) : List (Int × Int) := (listR (rowAt rs ((i : Nat) : Int))).map fun j => (((i : Nat) : Int), j)
def pairsTo (rs : Rows) (i : Nat) : List (Int × Int) := (List.range i).flatMap (rowsP rs)
def pairsM (n : Int) (rs : Rows) : List (Int × Int) := pairsTo rs n.toNat
theorem pairsTo_step (rs : Rows) (i : Nat) : pairsTo rs (i + 1) = pairsTo rs i ++ rowsP rs i := by unfold pairsTo; rw [List.range_succ, List.flatMap_append]; simp
theorem listR_rowP (n : Nat) (q : Nat → Bool) : listR (rowP n q) = ((List.range n).filter q).map fun k => ((k : Nat) : Int) := by
 rw [← listN_all]
 unfold listN
 congr 1
 have hl := rowP_len n q
 rw [words_nat] at hl
 have e : 64 * (rowP n q).length = n + (64 * (rowP n q).length - n) := by omega
 rw [e, range_add_map, List.filter_append]
 have e2 : ((List.range (64 * (rowP n q).length - n)).map fun i => n + i).filter (fun k => hasR (rowP n q) ((k : Nat) : Int)) = [] := by
  rw [List.filter_eq_nil_iff]
  intro k hk
  obtain ⟨i, -, rfl⟩ := List.mem_map.1 hk
  rw [rowP_has, decide_eq_false (show ¬ (((n + i : Nat) : Nat) : Int) < ((n : Nat) : Int) from by omega)]; simp
 rw [e2, List.append_nil]
 apply List.filter_congr
 intro k hk
 have := List.mem_range.1 hk
 rw [rowP_has]
 simp [this]
theorem rowsP_matP {n : Nat} {p : Nat → Nat → Bool} {i : Nat} (h : i < n) : rowsP (matP n p) i = ((List.range n).filter (p i)).map fun j => (((i : Nat) : Int), ((j : Nat) : Int)) := by
 unfold rowsP
 rw [rowAt_matP (by omega) (by omega), tN_, listR_rowP, List.map_map]; rfl
theorem mem_pairs {n : Nat} {p : Nat → Nat → Bool} {z : Int × Int} : z ∈ pairsM ((n : Nat) : Int) (matP n p) ↔ ∃ a b, a < n ∧ b < n ∧ p a b = true ∧ z = (((a : Nat) : Int), ((b : Nat) : Int)) := by
 unfold pairsM pairsTo
 rw [List.mem_flatMap]
 constructor
 ·rintro ⟨a, ha, hz⟩
  have ha := List.mem_range.1 ha
  rw [tN_] at ha
  rw [rowsP_matP ha] at hz
  obtain ⟨b, hb, rfl⟩ := List.mem_map.1 hz
  rw [List.mem_filter, List.mem_range] at hb
  exact ⟨a, b, ha, hb.1, hb.2, rfl⟩
 ·rintro ⟨a, b, ha, hb, hp, rfl⟩
  refine ⟨a, List.mem_range.2 (by simpa using ha), ?_⟩
  rw [rowsP_matP ha]
  exact List.mem_map.2 ⟨b, List.mem_filter.2 ⟨List.mem_range.2 hb, hp⟩, rfl⟩
def rowSum (n : Nat) (p : Nat → Nat → Bool) : Nat := ((List.range n).map fun a => ((List.range n).filter (p a)).length).sum
theorem pairs_len {n : Nat} {p : Nat → Nat → Bool} : (pairsM ((n : Nat) : Int) (matP n p)).length = rowSum n p := by
 unfold pairsM pairsTo rowSum
 rw [List.length_flatMap, tN_]
 congr 1
 apply List.map_congr_left
 intro a ha
 rw [rowsP_matP (List.mem_range.1 ha), List.length_map]
theorem pairs_small {n : Nat} {p : Nat → Nat → Bool} : (pairsM ((n : Nat) : Int) (matP n p)).length ≤ n * n := by
 rw [pairs_len]; unfold rowSum
 have : ∀ l : List Nat, (l.map fun a => ((List.range n).filter (p a)).length).sum ≤ l.length * n := by
  intro l
  induction l with
  | nil => simp
  | cons a l ih =>
   have h1 := List.length_filter_le (p a) (List.range n)
   rw [List.length_range] at h1
   simp only [List.map_cons, List.sum_cons, lC_, Nat.add_mul, Nat.one_mul]; omega
 have h := this (List.range n)
 rwa [List.length_range] at h
theorem rowsP_len {rs : Rows} (hr : ∀ x ∈ rs, x.length ≤ 64) (i : Nat) : (rowsP rs i).length ≤ 4096 := by
 unfold rowsP
 rw [List.length_map]
 have h1 := listR_length (rowAt rs ((i : Nat) : Int))
 have : (rowAt rs ((i : Nat) : Int)).length ≤ 64 := by
  unfold rowAt
  rw [gD_]
  cases h : rs[((i : Nat) : Int).toNat]? with
  | none => simp
  | some x => exact hr x (mG_ h)
 omega
theorem pairsTo_len {rs : Rows} (hr : ∀ x ∈ rs, x.length ≤ 64) : ∀ i, (pairsTo rs i).length ≤ 4096 * i
 | 0 => by simp [pairsTo]
 | i + 1 => by
  have := pairsTo_len hr i
  have := rowsP_len hr i
  rw [pairsTo_step, lA_]; omega
theorem rowsP_of {rs : Rows} {i : Nat} {x : Row} (hx : rs[((i : Nat) : Int).toNat]? = some x) : rowsP rs i = (listR x).map fun j => (((i : Nat) : Int), j) := by unfold rowsP; rw [rowAt_of hx]
theorem pair_step {rs : Rows} {i q : Nat} {x : Row} {y : Int} (hy : (listR x)[((q : Nat) : Int).toNat]? = some y) : (pairsTo rs i ++ ((listR x).take q).map fun j => (((i : Nat) : Int), j)) ++ [(((i : Nat) : Int), y)] = pairsTo rs i ++ ((listR x).take (q + 1)).map fun j => (((i : Nat) : Int), j) := by
 rw [take_at hy, List.map_append, List.append_assoc]; rfl
theorem pair_row {rs : Rows} {i q : Nat} {x : Row} (hx : rs[((i : Nat) : Int).toNat]? = some x) (hq : (listR x).length ≤ q) : (pairsTo rs i ++ ((listR x).take q).map fun j => (((i : Nat) : Int), j)) = pairsTo rs (i + 1) := by
 rw [take_end hq, pairsTo_step, rowsP_of hx]
theorem pairs_end {rs : Rows} {n : Int} {i : Nat} (h : n ≤ ((i : Nat) : Int)) (hi : ((i : Nat) : Int) ≤ n ∨ i = 0) : pairsTo rs i = pairsM n rs := by
 unfold pairsM; rw [show n.toNat = i from by omega]
theorem past_at {its : List ItemL} (o : OrdI its) {t : Int} (h0 : 0 ≤ t) (h : t < (its.length : Int)) {q : Nat} {x : Int} (hx : (pastA its t)[q]? = some x) : 0 ≤ x ∧ x ≤ t ∧ x < (its.length : Int) ∧ sesN its x.toNat = sesN its t.toNat ∧ plcN its x.toNat = ((q : Nat) : Int) ∧ x = t - plcN its t.toNat + ((q : Nat) : Int) := by
 obtain ⟨b1, b2⟩ := o.back t.toNat (by omega)
 have b0 := o.nonneg t.toNat (by omega)
 unfold pastA at hx
 rw [if_pos ⟨h0, h⟩, List.getElem?_map] at hx
 cases hr : (List.range ((plcN its t.toNat).toNat + 1))[q]? with
 | none => rw [hr] at hx; cases hx
 | some k =>
  rw [hr] at hx
  obtain ⟨h1, h2⟩ := gS_.1 hr
  simp only [List.length_range] at h1
  rw [List.getElem_range] at h2
  subst h2
  have hx : (t - plcN its t.toNat) + ((q : Nat) : Int) = x := Option.some.inj hx
  have hs := b2 x.toNat (by omega) (by omega)
  refine ⟨by omega, by omega, by omega, hs, ?_, hx.symm⟩
  have := o.place (t.toNat - x.toNat) x.toNat (by omega) (by rw [show x.toNat + (t.toNat - x.toNat) = t.toNat from by omega]; exact hs)
  rw [show x.toNat + (t.toNat - x.toNat) = t.toNat from by omega] at this
  omega
theorem matP_64 {n : Nat} {p : Nat → Nat → Bool} (h : n ≤ 4096) : ∀ x ∈ matP n p, x.length ≤ 64 := by
 intro x hx
 obtain ⟨i, hi⟩ := List.getElem?_of_mem hx
 obtain ⟨-, rfl⟩ := matP_at hi
 have h1 := rowP_len n (p i)
 have := words_le (n := ((n : Nat) : Int)) (by omega)
 omega
end Go.Ew
namespace Go.Ew
theorem rowOk_is {n : Nat} {r : Row} (h : rowOk ((n : Nat) : Int) r = true) : r = rowP n fun k => hasR r ((k : Nat) : Int) := by
 unfold rowOk at h
 rw [bA_, decide_eq_true_eq, List.all_eq_true] at h
 refine row_is (by omega) fun k => ?_
 by_cases hk : k < n
 ·simp [hk]
 ·rw [decide_eq_false hk, Bool.false_and]
  by_cases h2 : k < 64 * r.length
  ·have := h.2 k (List.mem_range.2 h2)
   rw [decide_eq_false (show ¬ ((k : Nat) : Int) < ((n : Nat) : Int) from by omega), Bool.false_or] at this
   simpa using this
  ·exact (hasR_out (by unfold inR; exact decide_eq_false (by omega))).symm
theorem right_is {n : Int} {rs : Rows} (h : rightS n rs = true) : ∃ (m : Nat) (p : Nat → Nat → Bool), n = ((m : Nat) : Int) ∧ m ≤ 4096 ∧ rs = matP m p := by
 unfold rightS at h
 rw [bA_, bA_, decide_eq_true_eq, List.all_eq_true] at h
 obtain ⟨⟨h1, h2⟩, h3⟩ := h
 have h1 := okN_iff.1 h1
 refine ⟨n.toNat, fun i j => hasR (rs.getD i []) ((j : Nat) : Int), by omega, by omega, mat_is (by omega) fun i hi => ?_⟩
 have hx : rs[i]? = some rs[i] := gE_ (by omega)
 have e : rs.getD i [] = rs[i] := by rw [gD_, hx]; rfl
 rw [hx, e]
 have := rowOk_is (n := n.toNat) (r := rs[i]) (by rw [show ((n.toNat : Nat) : Int) = n from by omega]; exact h3 _ (List.getElem_mem _))
 rw [← this]
theorem right_sq {n : Int} {rs : Rows} (h : rightS n rs = true) : ((rs.length : Nat) : Int) = n ∧ (∀ x ∈ rs, x.length ≤ 1000000000) ∧ n ≤ 4096 ∧ 0 ≤ n ∧ ∀ x ∈ rs, x.length ≤ 64 := by
 obtain ⟨m, p, rfl, hm, rfl⟩ := right_is h
 exact ⟨by rw [matP_len], matP_small hm, by omega, by omega, matP_64 hm⟩
def orRs (a b : Rows) (n : Nat) : Rows := (List.range n).map fun i => orR (rowAt a ((i : Nat) : Int)) (rowAt b ((i : Nat) : Int))
theorem orRs_len (a b : Rows) (n : Nat) : (orRs a b n).length = n := by unfold orRs; simp
theorem orRs_step (a b : Rows) (n : Nat) : orRs a b (n + 1) = orRs a b n ++ [orR (rowAt a ((n : Nat) : Int)) (rowAt b ((n : Nat) : Int))] := by unfold orRs; rw [List.range_succ, List.map_append]; rfl
def orMN (an bn : Int) : Int := if an = bn then an else 0
def orMR (an : Int) (ar : Rows) (bn : Int) (br : Rows) : Rows := if an = bn then orRs ar br an.toNat else []
def orME (an bn : Int) : Int := if an = bn then 0 else 1
theorem orM_no {an bn : Int} {ar br : Rows} (h : ¬ an = bn) : orMN an bn = 0 ∧ orMR an ar bn br = [] ∧ orME an bn = 1 := by unfold orMN orMR orME; simp [h]
theorem orM_yes {an bn : Int} {ar br : Rows} (h : an = bn) : orMN an bn = an ∧ orMR an ar bn br = orRs ar br an.toNat ∧ orME an bn = 0 := by unfold orMN orMR orME; simp [h]
def orFill (a b : Rows) (n j : Nat) : Rows := orRs a b j ++ List.replicate (n - j) []
theorem orFill_zero (a b : Rows) (n : Nat) : List.replicate n [] = orFill a b n 0 := by unfold orFill orRs; simp
theorem orFill_set {a b : Rows} {n j : Nat} {x y : Row} (hj : j < n) (hx : a[((j : Nat) : Int).toNat]? = some x) (hy : b[((j : Nat) : Int).toNat]? = some y) : (orFill a b n j).set j (orR x y) = orFill a b n (j + 1) := by
 unfold orFill
 rw [orRs_step, rowAt_of hx, rowAt_of hy]
 have hl := orRs_len a b j
 rw [List.set_append_right _ _ (by omega), hl, Nat.sub_self, show n - j = n - (j + 1) + 1 from by omega, List.replicate_succ, List.set_cons_zero]
 simp
theorem orFill_end {a b : Rows} {n j : Nat} (hj : n ≤ j) (h : j ≤ n) : orFill a b n j = orRs a b n := by
 obtain rfl : n = j := by omega
 unfold orFill; simp
theorem or_rowP {n : Nat} (p q : Nat → Bool) : orR (rowP n p) (rowP n q) = rowP n fun k => p k || q k := by
 refine row_is (by rw [orR_length, rowP_len, rowP_len]; omega) fun k => ?_
 rw [hasR_or, rowP_has, rowP_has]
 by_cases hk : k < n <;> simp [hk]
theorem orRs_matP {n : Nat} (p q : Nat → Nat → Bool) : orRs (matP n p) (matP n q) n = matP n fun a b => p a b || q a b := by
 refine mat_is (orRs_len _ _ _) fun i hi => ?_
 unfold orRs
 rw [List.getElem?_map, List.getElem?_range hi]
 simp only [Option.map_some]
 rw [rowAt_matP (by omega) (by omega), rowAt_matP (by omega) (by omega), tN_, or_rowP]
theorem pairs_mem {n : Nat} {p : Nat → Nat → Bool} {z : Int × Int} {q : Nat} (h : (pairsM ((n : Nat) : Int) (matP n p))[q]? = some z) : 0 ≤ z.1 ∧ z.1 < ((n : Nat) : Int) ∧ 0 ≤ z.2 ∧ z.2 < ((n : Nat) : Int) ∧ p z.1.toNat z.2.toNat = true := by
 obtain ⟨a, b, ha, hb, hp, rfl⟩ := mem_pairs.1 (mG_ h)
 exact ⟨by omega, by omega, by omega, by omega, by simpa using hp⟩
end Go.Ew
namespace Go.Ew
theorem right_pos {n : Int} {rs : Rows} (h : rightS n rs = true) : 0 ≤ n := (right_sq h).2.2.2.1
section
variable {n : Int} {rs : Rows} {i j : Int} (h : rightS n rs = true) (hi : inM n [i, j] = true)
include h hi
end
theorem right_pairs {n : Int} {rs : Rows} (h : rightS n rs = true) : (pairsM n rs).length ≤ 16777216 := by
 obtain ⟨m, p, rfl, hm, rfl⟩ := right_is h
 have h1 := pairs_small (n := m) (p := p)
 have h2 : m * m ≤ 4096 * 4096 := Nat.mul_le_mul hm hm
 omega
end Go.Ew
namespace Go.Ew
theorem join_from {l : List Item} {i j : Nat} {B e : Nat} {iv fv : Value} {a b xs : Row} {q : Nat} (hj : l[j]? = some (own B e fv b)) (hi : i < l.length) (hne : i ≠ j ∨ (iv = fv ∧ b = a)) (hxl : xs.length = a.length) (hxs : xs = orTo a.length a b a q) (hq : q ≤ b.length) (hlen : b.length ≤ a.length) :
  ∃ ys : Row, (l.set i (own B e iv xs))[j]? = some (own B e fv ys) ∧ ys.length = b.length ∧ ∀ x, ys[((q : Nat) : Int).toNat]? = some x → b.getD q 0#64 = x := by
 by_cases h : i = j
 ·subst h
  rcases hne with h | ⟨rfl, rfl⟩
  ·exact absurd rfl h
  ·refine ⟨xs, by rw [List.getElem?_set_self hi], hxl, fun x hx => ?_⟩
   rw [hxs] at hx
   exact (orTo_get hx).symm
 ·exact ⟨b, by rw [List.getElem?_set_ne h, hj], rfl, fun x hx => getD_at hx⟩
theorem join_step {a b xs : Row} {q : Nat} {x y : BitVec 64} (hs : xs = orTo a.length a b a q) (hx : b.getD q 0#64 = x) (hy : xs[((q : Nat) : Int).toNat]? = some y) : xs.set ((q : Nat) : Int).toNat (y ||| x) = orTo a.length a b a (q + 1) := by
 subst hs
 have e1 := orTo_get hy
 rw [tN_]
 exact orTo_set (by rw [e1]; unfold orAt; rw [hx])
theorem join_end {a b xs : Row} {q : Nat} (hs : xs = orTo a.length a b a q) (hlen : b.length ≤ a.length) (hq : b.length ≤ q) : xs = orR a b := by
 rw [hs]
 refine orTo_all (by omega) (fun i h1 h2 => ?_)
 unfold orAt
 rw [getD_out (show b.length ≤ i by omega)]; simp
theorem set_at {l : List Item} {i : Nat} {it : Item} (hi : i < l.length) : (l.set i it)[i]? = some it := List.getElem?_set_self hi
theorem set_set {l : List Item} {i : Nat} {x y : Item} : (l.set i x).set i y = l.set i y := List.set_set ..
theorem set_own {l : List Item} {i : Nat} {x : Item} (h : l[i]? = some x) : l.set i x = l := by
 apply List.ext_getElem?
 intro m
 rw [List.getElem?_set]
 split
 ·rename_i e
  subst e
  split
  ·exact h.symm
  ·rename_i hl
   rw [List.getElem?_eq_none (by omega)]
 ·rfl
def swapP (z : Int × Int) : Int × Int := (z.2, z.1)
def turnM (n : Int) (rs : Rows) : Rows := foldM n ((pairsM n rs).map swapP)
theorem right_pair {n : Int} {rs : Rows} (h : rightS n rs = true) {q : Nat} {z : Int × Int} (hz : (pairsM n rs)[q]? = some z) : 0 ≤ z.1 ∧ z.1 < n ∧ 0 ≤ z.2 ∧ z.2 < n := by
 obtain ⟨m, p, rfl, hm, rfl⟩ := right_is h
 obtain ⟨h1, h2, h3, h4, -⟩ := pairs_mem hz
 exact ⟨h1, h2, h3, h4⟩
theorem turn_row {n : Int} {ps : List (Int × Int)} {i : Nat} {x : Row} (h : (foldM n ps)[i]? = some x) {k : Int} (h0 : 0 ≤ k) (h1 : k < n) : 0 ≤ k / 64 ∧ k / 64 < ((x.length : Nat) : Int) ∧ (k / 64).toNat < x.length ∧ inR x k = true := by
 have hr := foldM_row h
 have hw : x.length = (n.toNat + 63) / 64 := by rw [hr, ← words_nat, show ((n.toNat : Nat) : Int) = n from by omega]
 refine ⟨by omega, by omega, by omega, inR_of h0 (by omega)⟩
theorem turn_step {n : Int} {l : List (Int × Int)} {j : Nat} {z : Int × Int} {xs : Rows} {x : Row} {u : BitVec 64} (hs : xs = foldM n ((l.map swapP).take j)) (hz : l[((j : Nat) : Int).toNat]? = some z) (hx : xs[z.2.toNat]? = some x) (hu : x[(z.1 / 64).toNat]? = some u) (h0 : 0 ≤ z.1) (h1 : z.1 < n) :
  xs.set z.2.toNat (x.set (z.1 / 64).toNat (u ||| bitB (z.1 % 64))) = foldM n ((l.map swapP).take (j + 1)) := by
 have hr := (turn_row (hs ▸ hx) h0 h1).2.2.2
 rw [foldM_step (p := (z.2, z.1)) (by rw [List.getElem?_map, hz]; rfl), ← hs, setR_in hr hu]
 exact setM_of hx
theorem turn_end {n : Int} {rs xs : Rows} {j : Nat} (hs : xs = foldM n (((pairsM n rs).map swapP).take j)) (hj : (pairsM n rs).length ≤ j) : xs = turnM n rs := by
 rw [hs, take_end (by rw [List.length_map]; exact hj)]; rfl
theorem turn_zero (n : Int) (l : List (Int × Int)) : List.replicate n.toNat (newR n) = foldM n ((l.map swapP).take 0) := rfl
theorem turnM_len (n : Int) (rs : Rows) : (turnM n rs).length = n.toNat := foldM_length _ _
theorem right_ok {n : Int} {rs : Rows} (h : rightS n rs = true) : okN n = true := okN_iff.2 ⟨right_pos h, (right_sq h).2.2.1⟩
end Go.Ew
namespace Go.Ew
theorem foldl_matP {m : Nat} : ∀ (l : List (Int × Int)) (p : Nat → Nat → Bool), (∀ z ∈ l, inM ((m : Nat) : Int) [z.1, z.2] = true) → l.foldl setM (matP m p) = matP m fun a b => p a b || l.any fun z => decide (a = z.1.toNat) && decide (b = z.2.toNat)
 | [], p, _ => by
  show matP m p = _
  exact matP_congr fun a b _ _ => by simp
 | z :: l, p, h => by
  rw [List.foldl_cons, show z = (z.1, z.2) from rfl, setM_matP (h z List.mem_cons_self), foldl_matP l _ fun y hy => h y (List.mem_cons_of_mem _ hy)]
  exact matP_congr fun a b _ _ => by simp [Bool.or_assoc]
theorem foldM_matP {m : Nat} {l : List (Int × Int)} (h : ∀ z ∈ l, inM ((m : Nat) : Int) [z.1, z.2] = true) : foldM ((m : Nat) : Int) l = matP m fun a b => l.any fun z => decide (a = z.1.toNat) && decide (b = z.2.toNat) := by
 unfold foldM
 rw [newM_matP, foldl_matP l _ h]
 exact matP_congr fun a b _ _ => by simp
theorem pairs_in {m : Nat} {p : Nat → Nat → Bool} : ∀ z ∈ pairsM ((m : Nat) : Int) (matP m p), inM ((m : Nat) : Int) [z.1, z.2] = true := by
 intro z hz
 obtain ⟨a, b, ha, hb, -, rfl⟩ := mem_pairs.1 hz
 exact inM_two.2 ⟨⟨by omega, by omega⟩, by omega, by omega⟩
theorem any_pairs {m : Nat} {p : Nat → Nat → Bool} {a b : Nat} (ha : a < m) (hb : b < m) : ((pairsM ((m : Nat) : Int) (matP m p)).any fun z => decide (a = z.1.toNat) && decide (b = z.2.toNat)) = p a b := by
 rw [Bool.eq_iff_iff, List.any_eq_true]
 constructor
 ·rintro ⟨z, hz, h⟩
  obtain ⟨c, d, hc, hd, hp, rfl⟩ := mem_pairs.1 hz
  simp only [tN_, bA_, decide_eq_true_eq] at h
  rw [h.1, h.2]; exact hp
 ·intro hp
  exact ⟨_, mem_pairs.2 ⟨a, b, ha, hb, hp, rfl⟩, by simp⟩
theorem turn_matP {m : Nat} {p : Nat → Nat → Bool} : turnM ((m : Nat) : Int) (matP m p) = matP m fun a b => p b a := by
 unfold turnM
 rw [foldM_matP]
 ·refine matP_congr fun a b ha hb => ?_
  rw [List.any_map, ← any_pairs (p := p) hb ha]
  congr 1
  funext z
  simp only [Function.comp, swapP]
  exact Bool.and_comm _ _
 ·intro z hz
  obtain ⟨y, hy, rfl⟩ := List.mem_map.1 hz
  have := inM_two.1 (pairs_in y hy)
  exact inM_two.2 ⟨this.2, this.1⟩
section
variable {n : Int} {rs : Rows} (h : rightS n rs = true)
include h
theorem turn_right : rightS n (turnM n rs) = true := by
 obtain ⟨m, p, rfl, hm, rfl⟩ := right_is h
 rw [turn_matP]; exact right_matP hm
end
end Go.Ew
namespace Go.Ew
theorem right_row_len {n : Int} {mr : Rows} (h : rightS n mr = true) {i : Nat} {x : Row} (hx : mr[i]? = some x) : x.length = words n := by
 obtain ⟨m, p, rfl, hm, rfl⟩ := right_is h
 rw [(matP_at hx).2, rowP_len]
theorem own_new {n : Int} {mr xs : Rows} (h : rightS n mr = true) {j : Nat} {x : Row} (hs : xs = mr.take j ++ List.replicate (n.toNat - j) (newR n)) (hj : j < mr.length) (hx : xs[((j : Nat) : Int).toNat]? = some x) : x = newR n := by
 rw [tN_, hs, aR_ (by rw [lT_]; omega), lT_, Nat.min_eq_left (by omega), Nat.sub_self] at hx
 have := mG_ hx
 exact (List.mem_replicate.1 this).2
theorem own_len {n : Int} {mr xs : Rows} (h : rightS n mr = true) {j : Nat} {x y : Row} (hs : xs = mr.take j ++ List.replicate (n.toNat - j) (newR n)) (hy : mr[((j : Nat) : Int).toNat]? = some y) (hx : xs[((j : Nat) : Int).toNat]? = some x) : y.length = x.length := by
 have hj := (gS_.1 hy).1
 rw [own_new h hs (by simpa using hj) hx, newR_length, right_row_len h hy]
theorem own_pos {n : Int} {mr xs : Rows} (h : rightS n mr = true) {j : Nat} {x y : Row} (hs : xs = mr.take j ++ List.replicate (n.toNat - j) (newR n)) (hy : mr[((j : Nat) : Int).toNat]? = some y) (hx : xs[((j : Nat) : Int).toNat]? = some x) : 0 < x.length := by
 have hj := (gS_.1 hy).1
 have hl := (right_sq h).1
 rw [own_new h hs (by simpa using hj) hx, newR_length]
 have h0 : 1 ≤ n := by rw [tN_] at hj; omega
 unfold words; omega
theorem own_step {n : Int} {mr xs : Rows} (h : rightS n mr = true) {j : Nat} {y : Row} (hs : xs = mr.take j ++ List.replicate (n.toNat - j) (newR n)) (hy : mr[((j : Nat) : Int).toNat]? = some y) : xs.set ((j : Nat) : Int).toNat y = mr.take (j + 1) ++ List.replicate (n.toNat - (j + 1)) (newR n) := by
 have hj := (gS_.1 hy).1
 have hl := (right_sq h).1
 rw [take_at hy]
 rw [tN_] at hj ⊢
 have hlt : (mr.take j).length = j := by rw [lT_]; omega
 rw [hs, List.set_append_right _ _ (by omega), hlt, Nat.sub_self, show n.toNat - j = n.toNat - (j + 1) + 1 from by omega, List.replicate_succ, List.set_cons_zero]
 simp
theorem own_end {n : Int} {mr xs : Rows} {j : Nat} (h : rightS n mr = true) (hs : xs = mr.take j ++ List.replicate (n.toNat - j) (newR n)) (hj : mr.length ≤ j) : xs = mr := by
 have hl := (right_sq h).1
 rw [hs, take_end hj, show n.toNat - j = 0 from by omega]; simp
def relM (rs : Rows) (i j : Nat) : Bool := hasR (rs.getD i []) ((j : Nat) : Int)
theorem right_rel {n : Int} {rs : Rows} (h : rightS n rs = true) : rs = matP n.toNat (relM rs) := by
 obtain ⟨m, p, rfl, hm, rfl⟩ := right_is h
 rw [tN_]
 refine matP_congr fun i j hi hj => ?_
 unfold relM
 rw [gD_, matP_get hi]
 show p i j = hasR (rowP m (p i)) _
 rw [rowP_has]; simp [hj]
def wM (p : Nat → Nat → Bool) : Nat → Nat → Nat → Bool
 | 0, a, b => p a b
 | k + 1, a, b => wM p k a b || (wM p k a k && wM p k k b)
def wR (p : Nat → Nat → Bool) (k i a b : Nat) : Bool := if a < i then wM p (k + 1) a b else wM p k a b
theorem wM_self (p : Nat → Nat → Bool) (k b : Nat) : wM p (k + 1) k b = wM p k k b := by
 show (wM p k k b || (wM p k k k && wM p k k b)) = wM p k k b
 cases wM p k k b <;> simp
theorem wR_zero (p : Nat → Nat → Bool) (n k : Nat) : matP n (wM p k) = matP n (wR p k 0) := matP_congr fun a b _ _ => by unfold wR; simp
theorem wR_end (p : Nat → Nat → Bool) {n k i : Nat} (h : n ≤ i) : matP n (wR p k i) = matP n (wM p (k + 1)) := matP_congr fun a b ha _ => by unfold wR; rw [if_pos (by omega)]
theorem wR_row {p : Nat → Nat → Bool} {n k i : Nat} {x : Row} (hx : (matP n (wR p k i))[i]? = some x) : x = rowP n (wM p k i) := by
 rw [(matP_at hx).2]
 exact rowP_congr fun b _ => by unfold wR; rw [if_neg (by omega)]
theorem wR_rowk {p : Nat → Nat → Bool} {n k i : Nat} {y : Row} (hy : (matP n (wR p k i))[k]? = some y) : y = rowP n (wM p k k) := by
 rw [(matP_at hy).2]
 exact rowP_congr fun b _ => by
  unfold wR; split
  ·exact wM_self p k b
  ·rfl
theorem wR_yes {p : Nat → Nat → Bool} {n k i : Nat} {xs : Rows} {x y : Row} (hs : xs = matP n (wR p k i)) (hx : xs[i]? = some x) (hy : xs[k]? = some y) (hk : k < n) (h : hasR x ((k : Nat) : Int) = true) : xs.set i (orR x y) = matP n (wR p k (i + 1)) := by
 subst hs
 rw [wR_row hx] at h ⊢
 rw [wR_rowk hy, or_rowP, matP_set]
 rw [rowP_has] at h
 have hik : wM p k i k = true := by simpa [hk] using h
 refine matP_congr fun a b _ _ => ?_
 by_cases e : a = i
 ·subst e
  rw [if_pos rfl]
  unfold wR
  rw [if_pos (by omega)]
  show _ = (wM p k a b || (wM p k a k && wM p k k b))
  rw [hik, Bool.true_and]
 ·rw [if_neg e]
  unfold wR
  by_cases h2 : a < i
  ·rw [if_pos h2, if_pos (by omega)]
  ·rw [if_neg h2, if_neg (by omega)]
theorem wR_no {p : Nat → Nat → Bool} {n k i : Nat} {xs : Rows} {x : Row} (hs : xs = matP n (wR p k i)) (hx : xs[i]? = some x) (hk : k < n) (h : hasR x ((k : Nat) : Int) = false) : xs = matP n (wR p k (i + 1)) := by
 subst hs
 rw [wR_row hx, rowP_has] at h
 have hik : wM p k i k = false := by simpa [hk] using h
 refine matP_congr fun a b _ _ => ?_
 unfold wR
 by_cases h2 : a < i
 ·rw [if_pos h2, if_pos (by omega)]
 ·by_cases e : a = i
  ·subst e
   rw [if_neg h2, if_pos (by omega)]
   show _ = (wM p k a b || (wM p k a k && wM p k k b))
   rw [hik]; simp
  ·rw [if_neg h2, if_neg (by omega)]
def closeM (n : Int) (rs : Rows) : Rows := matP n.toNat (wM (relM rs) n.toNat)
theorem closeM_len (n : Int) (rs : Rows) : (closeM n rs).length = n.toNat := matP_len _ _
theorem wR_len {p : Nat → Nat → Bool} {n k i q : Nat} {x : Row} (hx : (matP n (wR p k i))[q]? = some x) : x.length = words ((n : Nat) : Int) := by rw [(matP_at hx).2, rowP_len]
end Go.Ew
namespace Go.Ew
inductive TC (n : Nat) (p : Nat → Nat → Bool) : Nat → Nat → Prop
 | one {a b : Nat} : a < n → b < n → p a b = true → TC n p a b
 | cons {a b c : Nat} : a < n → b < n → p a b = true → TC n p b c → TC n p a c
section
variable {n : Nat} {p q : Nat → Nat → Bool} {a b c : Nat}
theorem TC.lt (h : TC n p a b) : a < n ∧ b < n := by
 induction h with
 | one h1 h2 _ => exact ⟨h1, h2⟩
 | cons h1 _ _ _ ih => exact ⟨h1, ih.2⟩
theorem TC.trans (h : TC n p a b) (k : TC n p b c) : TC n p a c := by
 induction h with
 | one h1 h2 h3 => exact .cons h1 h2 h3 k
 | cons h1 h2 h3 _ ih => exact .cons h1 h2 h3 (ih k)
theorem TC.snoc (h : TC n p a b) (hc : c < n) (hp : p b c = true) : TC n p a c := h.trans (.one h.lt.2 hc hp)
theorem TC.mono (h : TC n p a b) (hpq : ∀ x y, x < n → y < n → p x y = true → q x y = true) : TC n q a b := by
 induction h with
 | one h1 h2 h3 => exact .one h1 h2 (hpq _ _ h1 h2 h3)
 | cons h1 h2 h3 _ ih => exact .cons h1 h2 (hpq _ _ h1 h2 h3) ih
theorem TC.least {R : Nat → Nat → Prop} (h : TC n p a b) (h1 : ∀ x y, x < n → y < n → p x y = true → R x y) (h2 : ∀ x y z, x < n → y < n → z < n → R x y → R y z → R x z) : R a b := by
 induction h with
 | one k1 k2 k3 => exact h1 _ _ k1 k2 k3
 | cons k1 k2 k3 k4 ih => exact h2 _ _ _ k1 k2 k4.lt.2 (h1 _ _ k1 k2 k3) ih
end
theorem wM_sound {n : Nat} {p : Nat → Nat → Bool} : ∀ k, k ≤ n → ∀ a b, a < n → b < n → wM p k a b = true → TC n p a b
 | 0, _, a, b, ha, hb, h => .one ha hb h
 | k + 1, hk, a, b, ha, hb, h => by
  have h : (wM p k a b || (wM p k a k && wM p k k b)) = true := h
  rw [Bool.or_eq_true, bA_] at h
  rcases h with h | ⟨h1, h2⟩
  ·exact wM_sound k (by omega) a b ha hb h
  ·exact (wM_sound k (by omega) a k ha (by omega) h1).trans (wM_sound k (by omega) k b (by omega) hb h2)
theorem wM_succ {p : Nat → Nat → Bool} {k a b : Nat} : wM p (k + 1) a b = true ↔ wM p k a b = true ∨ (wM p k a k = true ∧ wM p k k b = true) := by
 show (wM p k a b || (wM p k a k && wM p k k b)) = true ↔ _
 rw [Bool.or_eq_true, bA_]
theorem wM_up {p : Nat → Nat → Bool} {a b : Nat} : ∀ k, p a b = true → wM p k a b = true
 | 0, h => h
 | k + 1, h => wM_succ.2 (.inl (wM_up k h))
theorem wM_closed {p : Nat → Nat → Bool} : ∀ k a b c, c < k → wM p k a c = true → wM p k c b = true → wM p k a b = true
 | 0, _, _, _, h, _, _ => absurd h (Nat.not_lt_zero _)
 | k + 1, a, b, c, h, h1, h2 => by
  have ih := fun a b c => wM_closed (p := p) k a b c
  rw [wM_succ] at h1 h2 ⊢
  by_cases hc : c < k
  ·rcases h1 with h1 | ⟨h1, h3⟩
   ·rcases h2 with h2 | ⟨h2, h4⟩
    ·exact .inl (ih _ _ _ hc h1 h2)
    ·exact .inr ⟨ih _ _ _ hc h1 h2, h4⟩
   ·rcases h2 with h2 | ⟨h2, h4⟩
    ·exact .inr ⟨h1, ih _ _ _ hc h3 h2⟩
    ·exact .inr ⟨h1, h4⟩
  ·have : c = k := by omega
   subst this
   have e1 : wM p c a c = true := by
    rcases h1 with h1 | ⟨h1, _⟩ <;> exact h1
   have e2 : wM p c c b = true := by
    rcases h2 with h2 | ⟨_, h2⟩ <;> exact h2
   exact .inr ⟨e1, e2⟩
def cl (n : Nat) (p : Nat → Nat → Bool) (a b : Nat) : Bool := wM p n a b
theorem cl_iff {n : Nat} {p : Nat → Nat → Bool} {a b : Nat} (ha : a < n) (hb : b < n) : cl n p a b = true ↔ TC n p a b :=
 ⟨wM_sound n (Nat.le_refl _) a b ha hb, fun h => h.least (R := fun x y => cl n p x y = true) (fun x y _ _ hp => wM_up n hp) fun x y z _ hy _ h1 h2 => wM_closed n x z y hy h1 h2⟩
theorem cl_congr {n : Nat} {p q : Nat → Nat → Bool} (h : ∀ a b, a < n → b < n → p a b = q a b) {a b : Nat} (ha : a < n) (hb : b < n) : cl n p a b = cl n q a b := by
 rw [Bool.eq_iff_iff, cl_iff ha hb, cl_iff ha hb]
 exact ⟨fun k => k.mono fun x y hx hy hp => by rw [← h x y hx hy]; exact hp, fun k => k.mono fun x y hx hy hp => by rw [h x y hx hy]; exact hp⟩
theorem relM_matP {n : Nat} {p : Nat → Nat → Bool} {a b : Nat} (ha : a < n) (hb : b < n) : relM (matP n p) a b = p a b := by
 unfold relM
 rw [gD_, matP_get ha]
 show hasR (rowP n (p a)) _ = _
 rw [rowP_has]; simp [hb]
theorem closeM_matP {n : Nat} {p : Nat → Nat → Bool} : closeM ((n : Nat) : Int) (matP n p) = matP n (cl n p) := by
 unfold closeM
 rw [tN_]
 exact matP_congr fun a b ha hb => cl_congr (fun x y hx hy => relM_matP hx hy) ha hb
def natL (l : List Nat) : List Int := l.map fun k => ((k : Nat) : Int)
def lst (n : Nat) (f : Nat → Bool) : List Int := natL ((List.range n).filter f)
theorem mem_lst {n : Nat} {f : Nat → Bool} {z : Int} : z ∈ lst n f ↔ ∃ k, k < n ∧ f k = true ∧ z = ((k : Nat) : Int) := by
 unfold lst natL
 simp only [List.mem_map, List.mem_filter, List.mem_range]
 constructor
 ·rintro ⟨k, ⟨h1, h2⟩, rfl⟩; exact ⟨k, h1, h2, rfl⟩
 ·rintro ⟨k, h1, h2, rfl⟩; exact ⟨k, ⟨h1, h2⟩, rfl⟩
theorem lst_nat {n : Nat} {f : Nat → Bool} {b : Nat} (hb : b < n) : ((b : Nat) : Int) ∈ lst n f ↔ f b = true := by
 rw [mem_lst]
 constructor
 ·rintro ⟨k, _, h2, h3⟩
  have : b = k := by omega
  rw [this]; exact h2
 ·intro h; exact ⟨b, hb, h, rfl⟩
theorem lst_len (n : Nat) (f : Nat → Bool) : (lst n f).length ≤ n := by
 unfold lst natL
 rw [List.length_map]
 have := List.length_filter_le f (List.range n)
 simpa using this
theorem lst_congr {n : Nat} {f g : Nat → Bool} (h : ∀ k, k < n → f k = g k) : lst n f = lst n g := by
 unfold lst natL
 congr 1
 exact List.filter_congr fun k hk => h k (List.mem_range.1 hk)
theorem lst_succ (n : Nat) (f : Nat → Bool) : lst (n + 1) f = lst n f ++ (if f n = true then [((n : Nat) : Int)] else []) := by
 unfold lst natL
 rw [List.range_succ, List.filter_append, List.map_append]
 congr 1
 cases h : f n <;> simp [h]
theorem listR_lst (n : Nat) (f : Nat → Bool) : listR (rowP n f) = lst n f := listR_rowP n f
def rcP (n : Nat) (P : Nat → Nat → Bool) (i q a b : Nat) : Bool := (decide (a < i) && P a b) || (decide (a = i) && decide (((b : Nat) : Int) ∈ (lst n (P i)).take q))
theorem rc_zero {n : Nat} {P : Nat → Nat → Bool} : newM ((n : Nat) : Int) = matP n (rcP n P 0 0) := by
 rw [newM_matP]
 exact matP_congr fun a b _ _ => by unfold rcP; simp
theorem rc_row {n : Nat} {P : Nat → Nat → Bool} {i q : Nat} (h : (lst n (P i)).length ≤ q) : matP n (rcP n P i q) = matP n (rcP n P (i + 1) 0) := by
 refine matP_congr fun a b ha hb => ?_
 unfold rcP
 rw [List.take_of_length_le h, List.take_zero, Bool.eq_iff_iff]
 simp only [Bool.or_eq_true, bA_, decide_eq_true_eq, lst_nat hb, List.not_mem_nil, and_false, or_false]
 constructor
 ·rintro (⟨h1, h2⟩ | ⟨rfl, h2⟩)
  ·exact ⟨by omega, h2⟩
  ·exact ⟨by omega, h2⟩
 ·rintro ⟨h1, h2⟩
  by_cases e : a = i
  ·subst e; exact .inr ⟨rfl, h2⟩
  ·exact .inl ⟨by omega, h2⟩
theorem rc_step {n : Nat} {P : Nat → Nat → Bool} {i q : Nat} {x : Int} (hx : (lst n (P i))[q]? = some x) (hi : i < n) :
  inM ((n : Nat) : Int) [((i : Nat) : Int), x] = true ∧ setMR ((n : Nat) : Int) (matP n (rcP n P i q)) ((i : Nat) : Int) x = matP n (rcP n P i (q + 1)) := by
 obtain ⟨k, hk, hp, rfl⟩ := mem_lst.1 (mG_ hx)
 have hin : inM ((n : Nat) : Int) [((i : Nat) : Int), ((k : Nat) : Int)] = true := by rw [inM_nat]; simp [hi, hk]
 refine ⟨hin, ?_⟩
 rw [setMR_matP hin]
 refine matP_congr fun a b ha hb => ?_
 unfold rcP
 have e := take_at (r := lst n (P i)) (k := q) (x := ((k : Nat) : Int)) (by rw [tN_]; exact hx)
 rw [e, Bool.eq_iff_iff]
 simp only [Bool.or_eq_true, bA_, decide_eq_true_eq, List.mem_append, List.mem_cons, List.not_mem_nil, or_false, tN_]
 constructor
 ·rintro ((h | ⟨h1, h2⟩) | ⟨h1, h2⟩)
  ·exact .inl h
  ·exact .inr ⟨h1, .inl h2⟩
  ·exact .inr ⟨h1, .inr (by omega)⟩
 ·rintro (h | ⟨h1, h2 | h2⟩)
  ·exact .inl (.inl h)
  ·exact .inl (.inr ⟨h1, h2⟩)
  ·exact .inr ⟨h1, by omega⟩
end Go.Ew
namespace Go.Ew
theorem close_end {n : Int} {rs xs : Rows} {q : Nat} (hs : xs = matP n.toNat (wM (relM rs) q)) (hq : q ≤ n.toNat) (hq2 : n.toNat ≤ q) : xs = closeM n rs := by
 obtain rfl : q = n.toNat := by omega
 exact hs
section
variable {n : Int} {rs : Rows} (h : rightS n rs = true)
include h
theorem close_start : rs = matP n.toNat (wM (relM rs) 0) := right_rel h
theorem has_rel {a b : Nat} (ha : ((a : Nat) : Int) < n) (hb : ((b : Nat) : Int) < n) : hasM n rs ((a : Nat) : Int) ((b : Nat) : Int) = relM rs a b := by
 obtain ⟨m, p, rfl, hm, rfl⟩ := right_is h
 rw [hasM_nat (by omega) (by omega), relM_matP (by omega) (by omega)]
theorem has_relI {a b : Int} (ha : 0 ≤ a ∧ a < n) (hb : 0 ≤ b ∧ b < n) : hasM n rs a b = relM rs a.toNat b.toNat := by
 have := has_rel h (a := a.toNat) (b := b.toNat) (by omega) (by omega)
 rwa [Int.toNat_of_nonneg ha.1, Int.toNat_of_nonneg hb.1] at this
end
section
variable {n : Int} {rs xs : Rows} {i j : Int} (h : rightS n rs = true)
include h
end
section
variable {n : Int} {rs xs : Rows} {l : List Int} {mk : Row} {k : Nat} (h : rightS n rs = true)
include h
end
end Go.Ew
namespace Go.Ew
structure Rch (n : Nat) (p : Nat → Nat → Bool) (i : Nat) (sn : List Bool) (td : List Int) (at_ : Int) (j : Nat) : Prop where
 len : sn.length = n
 snd : ∀ k, sn.getD k false = true → TC n p i k
 tdo : ∀ t ∈ td, ∃ k, t = ((k : Nat) : Int) ∧ k < n ∧ (k = i ∨ sn.getD k false = true)
 don : ∀ x, x < n → (x = i ∨ sn.getD x false = true) → ((x : Nat) : Int) ∈ td ∨ (((x : Nat) : Int) = at_ ∧ ∀ y, y < j → p x y = true → sn.getD y false = true) ∨ ∀ y, y < n → p x y = true → sn.getD y false = true
section
variable {n : Nat} {p : Nat → Nat → Bool} {i j : Nat} {sn : List Bool} {td : List Int} {at_ : Int}
theorem getD_set {l : List Bool} {k m : Nat} {b : Bool} (hk : k < l.length) : (l.set k b).getD m false = if m = k then b else l.getD m false := by
 rw [gD_, List.getElem?_set]
 by_cases e : k = m
 ·subst e; rw [if_pos rfl, if_pos rfl, if_pos hk]; rfl
 ·rw [if_neg e, if_neg fun e2 => e e2.symm, gD_]
theorem rch_start (hi : i < n) : Rch n p i (List.replicate n false) [((i : Nat) : Int)] (-1) 0 := by
 have hg : ∀ k, (List.replicate n false).getD k false = false := by
  intro k
  rw [gD_, List.getElem?_replicate]; split <;> rfl
 refine ⟨by simp, fun k hk => (by rw [hg] at hk; cases hk), fun t ht => ?_, fun x hx h => ?_⟩
 ·exact ⟨i, by simpa using ht, hi, .inl rfl⟩
 ·rcases h with rfl | h
  ·exact .inl (by simp)
  ·rw [hg] at h; cases h
theorem rch_at {x : Int} (h : Rch n p i sn td (-1) 0) (hx : td[0]? = some x) : ∃ k : Nat, x = ((k : Nat) : Int) ∧ k < n ∧ (k = i ∨ TC n p i k) := by
 obtain ⟨k, h1, h2, h3⟩ := h.tdo x (mG_ hx)
 exact ⟨k, h1, h2, h3.imp id (h.snd k)⟩
theorem rch_pop {x : Int} (h : Rch n p i sn td (-1) 0) (hx : td[0]? = some x) : Rch n p i sn (td.drop 1) x 0 := by
 cases td with
 | nil => simp at hx
 | cons y td =>
  simp at hx
  subst hx
  refine ⟨h.len, h.snd, fun t ht => h.tdo t (List.mem_cons_of_mem _ (by simpa using ht)), fun x hx' hs => ?_⟩
  rcases h.don x hx' hs with h1 | ⟨h1, -⟩ | h1
  ·rcases List.mem_cons.1 h1 with h1 | h1
   ·exact .inr (.inl ⟨h1, fun y hy => absurd hy (Nat.not_lt_zero _)⟩)
   ·exact .inl (by simpa using h1)
  ·omega
  ·exact .inr (.inr h1)
theorem rch_yes {a : Nat} (h : Rch n p i sn td ((a : Nat) : Int) j) (ha : a = i ∨ TC n p i a) (han : a < n) (hj : j < n) (hp : p a j = true) : Rch n p i (sn.set j true) (td ++ [((j : Nat) : Int)]) ((a : Nat) : Int) (j + 1) := by
 have hl : j < sn.length := by rw [h.len]; exact hj
 have up : ∀ y, sn.getD y false = true → (sn.set j true).getD y false = true := fun y hy => by rw [getD_set hl]; split <;> first | rfl | exact hy
 refine ⟨by rw [List.length_set]; exact h.len, fun k hk => ?_, fun t ht => ?_, fun x hx hs => ?_⟩
 ·rw [getD_set hl] at hk
  split at hk
  ·rename_i e
   subst e
   rcases ha with rfl | ha
   ·exact .one han hj hp
   ·exact ha.snoc hj hp
  ·exact h.snd k hk
 ·rcases List.mem_append.1 ht with ht | ht
  ·obtain ⟨k, h1, h2, h3⟩ := h.tdo t ht
   exact ⟨k, h1, h2, h3.imp id (up k)⟩
  ·exact ⟨j, by simpa using ht, hj, .inr (by rw [getD_set hl, if_pos rfl])⟩
 ·by_cases e : x = j
  ·subst e; exact .inl (by simp)
  ·have hs2 : x = i ∨ sn.getD x false = true := hs.imp id fun hs => by rw [getD_set hl, if_neg e] at hs; exact hs
   rcases h.don x hx hs2 with h1 | ⟨h1, h2⟩ | h1
   ·exact .inl (List.mem_append_left _ h1)
   ·refine .inr (.inl ⟨h1, fun y hy hpy => ?_⟩)
    by_cases e2 : y = j
    ·subst e2; rw [getD_set hl, if_pos rfl]
    ·exact up y (h2 y (by omega) hpy)
   ·exact .inr (.inr fun y hy hpy => up y (h1 y hy hpy))
theorem rch_no {a : Nat} (h : Rch n p i sn td ((a : Nat) : Int) j) (hp : p a j = false ∨ sn.getD j false = true) : Rch n p i sn td ((a : Nat) : Int) (j + 1) := by
 refine ⟨h.len, h.snd, h.tdo, fun x hx hs => ?_⟩
 rcases h.don x hx hs with h1 | ⟨h1, h2⟩ | h1
 ·exact .inl h1
 ·refine .inr (.inl ⟨h1, fun y hy hpy => ?_⟩)
  by_cases e2 : y = j
  ·subst e2
   rcases hp with hp | hp
   ·have : x = a := by omega
    subst this; rw [hp] at hpy; cases hpy
   ·exact hp
  ·exact h2 y (by omega) hpy
 ·exact .inr (.inr h1)
theorem rch_next (h : Rch n p i sn td at_ j) (hj : n ≤ j) : Rch n p i sn td (-1) 0 := by
 refine ⟨h.len, h.snd, h.tdo, fun x hx hs => ?_⟩
 rcases h.don x hx hs with h1 | ⟨h1, h2⟩ | h1
 ·exact .inl h1
 ·exact .inr (.inr fun y hy => h2 y (by omega))
 ·exact .inr (.inr h1)
theorem rch_end (h : Rch n p i sn [] (-1) 0) (hi : i < n) {k : Nat} (hk : k < n) : sn.getD k false = cl n p i k := by
 have step : ∀ x y, x < n → y < n → (x = i ∨ sn.getD x false = true) → p x y = true → sn.getD y false = true := by
  intro x y hx hy hs hp
  rcases h.don x hx hs with h1 | ⟨h1, -⟩ | h1
  ·cases h1
  ·omega
  ·exact h1 y hy hp
 have all : ∀ a b, TC n p a b → (a = i ∨ sn.getD a false = true) → sn.getD b false = true := by
  intro a b hab
  induction hab with
  | one h1 h2 h3 => exact fun hs => step _ _ h1 h2 hs h3
  | cons h1 h2 h3 _ ih => exact fun hs => ih (.inr (step _ _ h1 h2 hs h3))
 rw [Bool.eq_iff_iff, cl_iff hi hk]
 exact ⟨h.snd k, fun ht => all i k ht (.inl rfl)⟩
theorem count_set {l : List Bool} {k : Nat} (h : l[k]? = some false) : (l.set k true).count false + 1 = l.count false := by
 induction l generalizing k with
 | nil => simp at h
 | cons b l ih =>
  cases k with
  | zero => simp at h; subst h; simp
  | succ k =>
   simp at h
   have := ih h
   rw [List.set_cons_succ, List.count_cons, List.count_cons]
   omega
theorem getD_of' {l : List Bool} {k : Nat} {b : Bool} (h : l[((k : Nat) : Int).toNat]? = some b) : l.getD k false = b := by
 rw [tN_] at h
 rw [gD_, h]; rfl
end
theorem td_none {td : List Int} (h : ¬ (0 : Int) < ((td.length : Nat) : Int)) : td = [] := List.eq_nil_of_length_eq_zero (by omega)
section
variable {n : Int} {rs : Rows} {i a j : Nat} {sn : List Bool} {td : List Int} {x : Int} (rt : rightS n rs = true) (e : x = ((a : Nat) : Int)) (h : Rch n.toNat (relM rs) i sn td x j) (han : a < n.toNat) (hj : j < n.toNat)
include rt e h han hj
theorem rchI_yes (ha : a = i ∨ TC n.toNat (relM rs) i a) (hp : hasM n rs x ((j : Nat) : Int) = true) : Rch n.toNat (relM rs) i (sn.set ((j : Nat) : Int).toNat true) (td ++ [((j : Nat) : Int)]) x (j + 1) := by
 subst e
 exact rch_yes h ha han hj (by rw [← has_rel rt (by omega) (by omega)]; exact hp)
theorem rchI_no (hp : hasM n rs x ((j : Nat) : Int) = false) : Rch n.toNat (relM rs) i sn td x (j + 1) := by
 subst e
 exact rch_no h (.inl (by rw [← has_rel rt (by omega) (by omega)]; exact hp))
theorem rchI_had {b : Bool} (hb : sn[((j : Nat) : Int).toNat]? = some b) (h2 : b = true) : Rch n.toNat (relM rs) i sn td x (j + 1) := by
 subst e
 exact rch_no h (.inr (by rw [getD_of' hb]; exact h2))
end
theorem count_setI {sn : List Bool} {j : Nat} {b : Bool} {td : List Int} {z : Nat} (hb : sn[((j : Nat) : Int).toNat]? = some b) (h2 : b = false) (hz : 2 * sn.count false + td.length ≤ z) : 2 * (sn.set ((j : Nat) : Int).toNat true).count false + (td ++ [((j : Nat) : Int)]).length ≤ z := by
 subst h2
 have := count_set (l := sn) (k := j) hb
 rw [tN_, lA_, List.length_singleton]
 omega
theorem rc_sq {n : Int} {rs : Rows} (h : rightS n rs = true) (P : Nat → Nat → Bool) : (((matP n.toNat P).length : Nat) : Int) = n ∧ (∀ x ∈ matP n.toNat P, x.length ≤ 1000000000) ∧ n ≤ 4096 := by
 have h0 := right_pos h
 have h4 := (right_sq h).2.2.1
 exact ⟨by rw [matP_len]; omega, matP_small (by omega), h4⟩
theorem rc_set {n : Int} {rs xs : Rows} (h : rightS n rs = true) {P : Nat → Nat → Bool} {i q : Nat} {x : Int} (hs : xs = matP n.toNat (rcP n.toNat P i q)) (hx : (lst n.toNat (P i))[((q : Nat) : Int).toNat]? = some x) (hi : ((i : Nat) : Int) < n) :
  setMN n ((i : Nat) : Int) x = n ∧ setMR n xs ((i : Nat) : Int) x = matP n.toNat (rcP n.toNat P i (q + 1)) ∧ setME n ((i : Nat) : Int) x = 0 := by
 have h0 := right_pos h
 have hn : ((n.toNat : Nat) : Int) = n := by omega
 obtain ⟨h1, h2⟩ := rc_step (n := n.toNat) hx (by omega)
 rw [hn] at h1 h2
 refine ⟨(set_yes (rs := rs) h1).1, ?_, (set_yes (rs := rs) h1).2.2⟩
 rw [hs]; exact h2
theorem rc_start {n : Int} {rs : Rows} (h : rightS n rs = true) (P : Nat → Nat → Bool) : newMR n = matP n.toNat (rcP n.toNat P 0 0) := by
 rw [(newM_yes (right_ok h)).2.1]
 have := rc_zero (n := n.toNat) (P := P)
 rwa [Int.toNat_of_nonneg (right_pos h)] at this
theorem rc_fin {n : Int} {xs : Rows} {P : Nat → Nat → Bool} {i : Nat} (hs : xs = matP n.toNat (rcP n.toNat P i 0)) (hi : n ≤ ((i : Nat) : Int)) : xs = matP n.toNat P := by
 rw [hs]
 exact matP_congr fun a b ha hb => by unfold rcP; simp [show a < i from by omega]
section
variable {k : Int} {l : List (BitVec 8 × BitVec 8)} {z : BitVec 8 × BitVec 8} (hk : 0 < k) (h4 : k ≤ 4096)
include hk h4
end
end Go.Ew
namespace Go.Ew
section
variable {n : Int} {rs : Rows} (h : rightS n rs = true)
include h
end
end Go.Ew
namespace Go.Ew
def withL (n : Int) (rs : Rows) (o : Int) : List Int := if 0 ≤ o ∧ o < n then lst n.toNat (fun a => relM rs a o.toNat || decide (a = o.toNat)) else []
theorem withL_no {n : Int} {rs : Rows} {o : Int} (h : ¬ (0 ≤ o ∧ o < n)) : withL n rs o = [] := by unfold withL; rw [if_neg h]
theorem turn_row_is {n : Int} {rs : Rows} (h : rightS n rs = true) {o : Int} (h0 : 0 ≤ o ∧ o < n) {x : Row} (hx : (turnM n rs)[o.toNat]? = some x) : x = rowP n.toNat fun a => relM rs a o.toNat := by
 obtain ⟨m, p, rfl, hm, rfl⟩ := right_is h
 rw [turn_matP] at hx
 obtain ⟨h1, rfl⟩ := matP_at hx
 rw [tN_]
 exact rowP_congr fun a ha => (relM_matP ha h1).symm
theorem withL_yes {n : Int} {rs : Rows} (h : rightS n rs = true) {o : Int} (h0 : 0 ≤ o ∧ o < n) {x : Row} (hx : (turnM n rs)[o.toNat]? = some x) : listR (setR x o) = withL n rs o := by
 rw [turn_row_is h h0 hx, setR_rowP h0.1 (by omega), listR_lst]; unfold withL; rw [if_pos h0]
theorem turn_row_len {n : Int} {rs : Rows} (h : rightS n rs = true) {i : Nat} {x : Row} (hx : (turnM n rs)[i]? = some x) : x.length ≤ 64 := (right_sq (turn_right h)).2.2.2.2 _ (mG_ hx)
section
variable {n : Int} {rs : Rows} (h : rightS n rs = true) {k : Int} (hk : 0 ≤ k ∧ k < n)
include h hk
end
end Go.Ew
namespace Go.Ew
def keepL (p : Int → Bool) (xs : List Int) : List Int := xs.filter fun x => !p x
def DF (p : Int → Bool) (xs ys : List Int) (q : Int) (k : Nat) : Prop := ys.length = xs.length ∧ ys.take q.toNat = keepL p (xs.take k) ∧ ys.drop k = xs.drop k
section
variable {p : Int → Bool} {xs ys : List Int} {q x : Int} {k : Nat}
theorem df_none (h : idxF p xs = -1) : xs = keepL p xs := by
 have h1 := idxF_any (p := p) (r := xs)
 rw [h, decide_eq_false (by omega)] at h1
 unfold keepL
 refine (List.filter_eq_self.2 fun x hx => ?_).symm
 have := List.any_eq_false.1 h1.symm x hx
 simpa using this
theorem df_start (h : ¬ idxF p xs = -1) : 0 ≤ idxF p xs ∧ (idxF p xs).toNat < xs.length ∧ DF p xs xs (idxF p xs) ((idxF p xs).toNat + 1) := by
 unfold idxF at h ⊢
 cases hf : xs.findIdx? p with
 | none => rw [hf] at h; exact absurd rfl h
 | some i =>
  rw [hf] at h
  obtain ⟨h1, h2, h3⟩ := List.findIdx?_eq_some_iff_getElem.1 hf
  refine ⟨by show (0 : Int) ≤ ((i : Nat) : Int); omega, h1, rfl, ?_, rfl⟩
  show xs.take i = keepL p (xs.take (i + 1))
  unfold keepL
  rw [List.take_add_one, gE_ h1, List.filter_append]
  have e1 : (xs.take i).filter (fun x => !p x) = xs.take i := by
   refine List.filter_eq_self.2 fun y hy => ?_
   obtain ⟨j, hj⟩ := List.mem_iff_getElem?.1 hy
   have hjl := (gS_.1 hj).1
   rw [lT_] at hjl
   have h4 := h3 j (by omega)
   rw [List.getElem?_take_of_lt (by omega), gE_ (by omega)] at hj
   rw [← Option.some.inj hj]
   simpa using h4
  rw [e1]
  simp [h2]
theorem df_at (h : DF p xs ys q k) (hx : ys[k]? = some x) : xs[k]? = some x := by
 have h1 := h.2.2
 have : (ys.drop k)[0]? = some x := by rw [List.getElem?_drop]; exact hx
 rw [h1, List.getElem?_drop] at this
 exact this
theorem df_snoc (hx : xs[k]? = some x) : keepL p (xs.take (k + 1)) = keepL p (xs.take k) ++ (if p x = true then [] else [x]) := by
 unfold keepL
 rw [List.take_add_one, hx, List.filter_append]
 cases hp : p x <;> simp [hp]
theorem df_drop1 (h : DF p xs ys q k) : ys.drop (k + 1) = xs.drop (k + 1) := by
 have h1 := h.2.2
 rw [← List.drop_drop, ← List.drop_drop, h1]
theorem df_drop (h : DF p xs ys q k) (hx : ys[k]? = some x) (hp : p x = true) : DF p xs ys q (k + 1) :=
 ⟨h.1, by rw [df_snoc (df_at h hx), if_pos hp, List.append_nil]; exact h.2.1, df_drop1 h⟩
theorem df_keep (h : DF p xs ys q k) (hx : ys[k]? = some x) (hp : p x = false) (h0 : 0 ≤ q) (hq : q < ((k : Nat) : Int)) : DF p xs (ys.set q.toNat x) (q + 1) (k + 1) := by
 have hk := (gS_.1 hx).1
 refine ⟨by rw [List.length_set]; exact h.1, ?_, ?_⟩
 ·rw [df_snoc (df_at h hx), if_neg (by rw [hp]; decide), ← h.2.1, show (q + 1).toNat = q.toNat + 1 from by omega, List.take_add_one, List.take_set_of_le (Nat.le_refl _), List.getElem?_set_self (by omega)]
  rfl
 ·rw [List.drop_set_of_lt (by omega)]
  exact df_drop1 h
theorem df_end (h : DF p xs ys q k) (hk : xs.length ≤ k) (h0 : 0 ≤ q) (hq : q.toNat ≤ ys.length) (m : Nat) : (ys.take q.toNat ++ (List.replicate m (0 : Int) ++ [])).take q.toNat = keepL p xs := by
 rw [List.take_left' (by rw [lT_]; omega), h.2.1, List.take_of_length_le hk]
end
def wrQ (its : List ItemL) (i : Int) : Bool := ((its[i.toNat]?).map (fun x => x.2.2.1)).getD false
section
variable {its : List ItemL} {v i : Int} {x : ItemL}
theorem wrQ_yes (hx : its[i.toNat]? = some x) (h : (!x.2.2.1) = true) : wrQ its i = false := by
 unfold wrQ; rw [hx]; simpa using h
theorem wrQ_no (hx : its[i.toNat]? = some x) (h : (!x.2.2.1) = false) : wrQ its i = true := by
 unfold wrQ; rw [hx]; simpa using h
theorem wrQ_at (hx : its[i.toNat]? = some x) : wrQ its i = x.2.2.1 := by unfold wrQ; rw [hx]; rfl
theorem keep_yes {l : List Int} {q : Nat} {p : Int → Bool} {x : Int} (hx : l[q]? = some x) (hp : p x = false) : keepL p (l.take q) ++ [x] = keepL p (l.take (q + 1)) := by
 rw [df_snoc hx, if_neg (by rw [hp]; decide)]
theorem keep_no {l : List Int} {q : Nat} {p : Int → Bool} {x : Int} (hx : l[q]? = some x) (hp : p x = true) : keepL p (l.take q) = keepL p (l.take (q + 1)) := by
 rw [df_snoc hx, if_pos hp, List.append_nil]
theorem keep_len (l : List Int) (q : Nat) (p : Int → Bool) : (keepL p (l.take q)).length ≤ q := by
 unfold keepL
 have := List.length_filter_le (fun x => !p x) (l.take q)
 rw [lT_] at this; omega
theorem pastA_mem (o : OrdI its) {t : Int} {q : Nat} {x : Int} (hx : (pastA its t)[q]? = some x) : 0 ≤ x ∧ x < ((its.length : Nat) : Int) := by
 by_cases h : 0 ≤ t ∧ t < (its.length : Int)
 ·have := past_at o h.1 h.2 hx
  omega
 ·rw [← pastA_no h] at hx; simp at hx
theorem pastB_mem {t : Int} {j q : Nat} {x : Int} (hx : (pastB its t j)[q]? = some x) : 0 ≤ x ∧ x < ((j : Nat) : Int) := by
 unfold pastB at hx
 rw [List.getElem?_map, Option.map_eq_some_iff] at hx
 obtain ⟨a, h1, rfl⟩ := hx
 have := List.mem_range.1 (List.mem_filter.1 (mG_ h1)).1
 omega
end
def withO (n : Int) (rs : Rows) (o : Int) (q : Nat) : List Int := ((List.range q).filter fun a => decide (((a : Nat) : Int) = o) || hasM n rs ((a : Nat) : Int) o).map fun a => ((a : Nat) : Int)
theorem withO_yes {n : Int} {rs : Rows} {o : Int} {q : Nat} (h : ((q : Nat) : Int) = o ∨ hasM n rs ((q : Nat) : Int) o = true) : withO n rs o q ++ [((q : Nat) : Int)] = withO n rs o (q + 1) := by
 have h : (decide (((q : Nat) : Int) = o) || hasM n rs ((q : Nat) : Int) o) = true := by
  rcases h with h | h
  ·rw [decide_eq_true h]; rfl
  ·rw [h, Bool.or_true]
 unfold withO; rw [List.range_succ, List.filter_append, List.map_append]; simp [h]
theorem withO_no {n : Int} {rs : Rows} {o : Int} {q : Nat} (h1 : ¬ ((q : Nat) : Int) = o) (h2 : hasM n rs ((q : Nat) : Int) o = false) : withO n rs o q = withO n rs o (q + 1) := by
 have h : (decide (((q : Nat) : Int) = o) || hasM n rs ((q : Nat) : Int) o) = false := by rw [decide_eq_false h1, h2]; rfl
 unfold withO; rw [List.range_succ, List.filter_append, List.map_append]; simp [h]
theorem withO_len (n : Int) (rs : Rows) (o : Int) (q : Nat) : (withO n rs o q).length ≤ q := by
 unfold withO; rw [List.length_map]
 have := List.length_filter_le (fun a => decide (((a : Nat) : Int) = o) || hasM n rs ((a : Nat) : Int) o) (List.range q)
 rw [List.length_range] at this; exact this
theorem with_of {n : Int} {rs : Rows} (h : rightS n rs = true) {o : Int} (ho : 0 ≤ o ∧ o < n) : withO n rs o n.toNat = withL n rs o := by
 unfold withL withO
 rw [if_pos ho]
 unfold lst natL
 congr 1
 refine List.filter_congr fun a ha => ?_
 have := List.mem_range.1 ha
 rw [has_relI h ⟨by omega, by omega⟩ ho, tN_, Bool.or_comm]
 congr 1
 rw [decide_eq_decide]; omega
theorem with_end {n : Int} {rs : Rows} (h : rightS n rs = true) {o : Int} {q : Nat} (hq : q = 0 ∨ (0 ≤ o ∧ o < n)) (hq2 : q ≤ n.toNat) (hd : n.toNat ≤ q ∨ ¬ (0 ≤ o ∧ o < n)) : withO n rs o q = withL n rs o := by
 by_cases ho : 0 ≤ o ∧ o < n
 ·rcases hd with hd | hd
  ·rw [show q = n.toNat from by omega, with_of h ho]
  ·exact absurd ho hd
 ·rcases hq with rfl | hq
  ·rw [withL_no ho]; rfl
  ·exact absurd hq ho
end Go.Ew
namespace Go.Ew
abbrev StepL := Int × Int × Int × Int × Int
def inO (fi : List ItemL) (i : Int) : Bool := decide (0 ≤ i) && decide (i < ((fi.length : Nat) : Int))
def outO (fi : List ItemL) (i : Int) : Bool := decide (i < 0) || decide (((fi.length : Nat) : Int) ≤ i)
def vrO (fi : List ItemL) (i : Int) : Int := ((fi[i.toNat]?).map (fun x => x.2.2.2.1)).getD 0
def otherO (fi : List ItemL) (a b : Int) : Bool := !decide (a = b) && wrQ fi a && wrQ fi b && decide (vrO fi a = vrO fi b)
def stpO (pre : List StepL) (k : Int) : Option StepL := if 0 ≤ k then pre[k.toNat]? else none
def saysO (pre : List StepL) (k a b : Int) : Bool := match stpO pre k with
 | some s => decide (s.2.1 = a) && decide (s.2.2.1 = b)
 | none => false
def transO (pre : List StepL) (s : StepL) : Bool := match stpO pre s.2.2.2.1, stpO pre s.2.2.2.2 with
 | some x, some y => decide (x.2.1 = s.2.1) && decide (x.2.2.1 = y.2.1) && decide (y.2.2.1 = s.2.2.1)
 | _, _ => false
def goodO (fi : List ItemL) (fo : List Int) (pre : List StepL) (s : StepL) : Bool :=
 if s.1 = 1 then decide (s.2.2.2.1 = -1) && decide (s.2.2.2.2 = -1) && ahA fi s.2.1 s.2.2.1
 else if s.1 = 2 then decide (s.2.2.2.1 = -1) && decide (s.2.2.2.2 = -1) && decide (fo.getD s.2.2.1.toNat 0 = s.2.1)
 else if s.1 = 3 then transO pre s
 else if s.1 = 4 then inO fi s.2.2.2.2 && decide (fo.getD s.2.2.2.2.toNat 0 = s.2.2.1) && otherO fi s.2.1 s.2.2.1 && saysO pre s.2.2.2.1 s.2.1 s.2.2.2.2
 else false
def okO (fi : List ItemL) (s : StepL) : Bool := inO fi s.2.1 && inO fi s.2.2.1
def plainO (pre : List StepL) (pl : List Bool) (s : StepL) : Bool :=
 if s.1 = 3 ∧ transO pre s = true then pl.getD s.2.2.2.1.toNat false && pl.getD s.2.2.2.2.toNat false else !decide (s.1 = 4)
theorem outO_lo {fi : List ItemL} {i : Int} (h : i < 0) : outO fi i = true := by unfold outO; rw [decide_eq_true h]; rfl
theorem outO_hi {fi : List ItemL} {i : Int} (h : ¬ i < 0) : decide (((fi.length : Nat) : Int) ≤ i) = outO fi i := by unfold outO; rw [decide_eq_false h]; rfl
theorem stpO_no {pre : List StepL} {k : Int} (h : k < 0 ∨ ((pre.length : Nat) : Int) ≤ k) : stpO pre k = none := by
 unfold stpO
 split
 ·exact List.getElem?_eq_none (by omega)
 ·rfl
theorem stpO_at {pre : List StepL} {k : Int} {s : StepL} (h : 0 ≤ k) (hx : pre[k.toNat]? = some s) : stpO pre k = some s := by unfold stpO; rw [if_pos h, hx]
theorem op_ok {fi : List ItemL} {a b : Int} : (!([a, b].any (outO fi))) = (inO fi a && inO fi b) := by
 unfold outO inO
 simp only [List.any_cons, List.any_nil, Bool.or_false, Bool.not_or]
 have h : ∀ i : Int, (!decide (i < 0) && !decide (((fi.length : Nat) : Int) ≤ i)) = (decide (0 ≤ i) && decide (i < ((fi.length : Nat) : Int))) := by
  intro i
  rw [← decide_not, ← decide_not]
  congr 1 <;> rw [decide_eq_decide] <;> omega
 rw [← h a, ← h b]
theorem says_no {pre : List StepL} {k a b : Int} (h : (stpO pre k).isSome = false) : false = saysO pre k a b := by
 unfold saysO
 cases hs : stpO pre k with
 | none => rfl
 | some s => rw [hs] at h; cases h
theorem says_eq {pre : List StepL} {k a b : Int} (h : (stpO pre k).isSome = true) : saysO pre k a b = (decide ((stpO pre k).elim 0 (·.2.1) = a) && decide ((stpO pre k).elim 0 (·.2.2.1) = b)) := by
 unfold saysO
 cases hs : stpO pre k with
 | none => rw [hs] at h; cases h
 | some s => rfl
theorem says_f {pre : List StepL} {k a b : Int} (h : (stpO pre k).isSome = true) (h2 : decide ((stpO pre k).elim 0 (·.2.1) = a) = false) : false = saysO pre k a b := by rw [says_eq h, h2]; rfl
theorem says_t {pre : List StepL} {k a b : Int} (h : (stpO pre k).isSome = true) (h2 : decide ((stpO pre k).elim 0 (·.2.1) = a) = true) : decide ((stpO pre k).elim 0 (·.2.2.1) = b) = saysO pre k a b := by rw [says_eq h, h2]; rfl
theorem other_at {fi : List ItemL} {a b : Int} {x y : ItemL} (hx : fi[a.toNat]? = some x) (hy : fi[b.toNat]? = some y) : otherO fi a b = (!decide (a = b) && x.2.2.1 && y.2.2.1 && decide (x.2.2.2.1 = y.2.2.2.1)) := by
 unfold otherO vrO
 rw [wrQ_at hx, wrQ_at hy, hx, hy]; rfl
def nxG (fi : List ItemL) (fo : List Int) (pre : List StepL) (s : StepL) : Bool := okO fi s && goodO fi fo pre s
def nxS (fi : List ItemL) (pre : List StepL) (s : StepL) : List StepL := if okO fi s = true then pre ++ [s] else pre
def nxP (fi : List ItemL) (pre : List StepL) (pl : List Bool) (s : StepL) : List Bool := if okO fi s = true then pl ++ [plainO pre pl s] else pl
theorem ok_eq {fi : List ItemL} {s : StepL} : (!([s.2.1, s.2.2.1].any (outO fi))) = okO fi s := op_ok
def takeO (fi : List ItemL) (fo : List Int) : List StepL → List Bool → List StepL → Bool × List StepL × List Bool
 | pre, pl, [] => (true, pre, pl)
 | pre, pl, s :: l => if okO fi s = true then (if goodO fi fo pre s = true then takeO fi fo (pre ++ [s]) (pl ++ [plainO pre pl s]) l else (false, pre ++ [s], pl ++ [plainO pre pl s])) else (false, pre, pl)
def stepsO (fi : List ItemL) (fo : List Int) (l : List StepL) : Bool := (takeO fi fo [] [] l).1
section
variable {fi : List ItemL} {fo : List Int}
theorem takeO_pre {l : List StepL} : ∀ {pre : List StepL} {pl : List Bool}, (takeO fi fo pre pl l).1 = true → (takeO fi fo pre pl l).2.1 = pre ++ l := by
 induction l with
 | nil => intro pre pl _; simp [takeO]
 | cons s l ih =>
  intro pre pl h
  unfold takeO at h ⊢
  by_cases h1 : okO fi s = true
  ·rw [if_pos h1] at h ⊢
   by_cases h2 : goodO fi fo pre s = true
   ·rw [if_pos h2] at h ⊢
    rw [ih h, List.append_assoc]; rfl
   ·rw [if_neg h2] at h; cases h
  ·rw [if_neg h1] at h; cases h
end
end Go.Ew
namespace Go.Ew
section
variable {fi : List ItemL} {fo : List Int} {pre : List StepL} {pl : List Bool} {kd fr to sa sb : Int}
theorem ok_rng (h : (!([fr, to].any (outO fi))) = true) : (0 ≤ fr ∧ fr < ((fi.length : Nat) : Int)) ∧ 0 ≤ to ∧ to < ((fi.length : Nat) : Int) := by
 rw [op_ok, bA_] at h
 unfold inO at h
 simp only [bA_, decide_eq_true_eq] at h
 exact h
theorem op1_eq : (!([sb].any (outO fi))) = inO fi sb := by
 have h := op_ok (fi := fi) (a := sb) (b := sb)
 simp only [List.any_cons, List.any_nil, Bool.or_false, Bool.or_self, Bool.and_self] at h ⊢
 exact h
theorem op1_rng (h : (!([sb].any (outO fi))) = true) : 0 ≤ sb ∧ sb < ((fi.length : Nat) : Int) := by
 rw [op1_eq] at h
 unfold inO at h
 simp only [bA_, decide_eq_true_eq] at h
 exact h
theorem stpO_rng (h : (stpO pre sa).isSome = true) : 0 ≤ sa ∧ sa < ((pre.length : Nat) : Int) := by
 unfold stpO at h
 split at h
 ·rename_i h0
  refine ⟨h0, ?_⟩
  obtain ⟨x, hx⟩ := Option.isSome_iff_exists.1 h
  have := (gS_.1 hx).1
  omega
 ·cases h
theorem nx_no (h : (!([fr, to].any (outO fi))) = false) : false = nxG fi fo pre (kd, fr, to, sa, sb) := by
 unfold nxG
 rw [← ok_eq (s := (kd, fr, to, sa, sb)), h]; rfl
theorem nxS_no (h : (!([fr, to].any (outO fi))) = false) : pre = nxS fi pre (kd, fr, to, sa, sb) := by
 unfold nxS
 rw [if_neg (by rw [← ok_eq (s := (kd, fr, to, sa, sb)), h]; decide)]
theorem nxP_no (h : (!([fr, to].any (outO fi))) = false) : pl = nxP fi pre pl (kd, fr, to, sa, sb) := by
 unfold nxP
 rw [if_neg (by rw [← ok_eq (s := (kd, fr, to, sa, sb)), h]; decide)]
theorem nx_yes {g : Bool} (h : (!([fr, to].any (outO fi))) = true) (hg : g = goodO fi fo pre (kd, fr, to, sa, sb)) : g = nxG fi fo pre (kd, fr, to, sa, sb) := by
 unfold nxG
 rw [← ok_eq (s := (kd, fr, to, sa, sb)), h, hg]; rfl
theorem nxS_yes (h : (!([fr, to].any (outO fi))) = true) : pre ++ [(kd, fr, to, sa, sb)] = nxS fi pre (kd, fr, to, sa, sb) := by
 unfold nxS
 rw [if_pos (by rw [← ok_eq (s := (kd, fr, to, sa, sb)), h])]
theorem nxP_yes {p : Bool} (h : (!([fr, to].any (outO fi))) = true) (hp : p = plainO pre pl (kd, fr, to, sa, sb)) : pl ++ [p] = nxP fi pre pl (kd, fr, to, sa, sb) := by
 unfold nxP
 rw [if_pos (by rw [← ok_eq (s := (kd, fr, to, sa, sb)), h]), hp]
-- good
theorem g_1 (h : kd = 1) : goodO fi fo pre (kd, fr, to, sa, sb) = (decide (sa = -1) && decide (sb = -1) && ahA fi fr to) := by unfold goodO; rw [if_pos h]
theorem g1a (h : kd = 1) (h1 : decide (sa = -1) = false) : false = goodO fi fo pre (kd, fr, to, sa, sb) := by rw [g_1 h, h1]; rfl
theorem g1b (h : kd = 1) (h1 : decide (sa = -1) = true) (h2 : decide (sb = -1) = false) : false = goodO fi fo pre (kd, fr, to, sa, sb) := by rw [g_1 h, h1, h2]; rfl
theorem g1c (h : kd = 1) (h1 : decide (sa = -1) = true) (h2 : decide (sb = -1) = true) : ahA fi fr to = goodO fi fo pre (kd, fr, to, sa, sb) := by rw [g_1 h, h1, h2]; rfl
theorem g_2 (h : kd = 2) : goodO fi fo pre (kd, fr, to, sa, sb) = (decide (sa = -1) && decide (sb = -1) && decide (fo.getD to.toNat 0 = fr)) := by unfold goodO; rw [if_neg (by show ¬ kd = 1; omega), if_pos h]
theorem g2a (h : kd = 2) (h1 : decide (sa = -1) = false) : false = goodO fi fo pre (kd, fr, to, sa, sb) := by rw [g_2 h, h1]; rfl
theorem g2b (h : kd = 2) (h1 : decide (sa = -1) = true) (h2 : decide (sb = -1) = false) : false = goodO fi fo pre (kd, fr, to, sa, sb) := by rw [g_2 h, h1, h2]; rfl
theorem g2c {x : Int} (h : kd = 2) (h1 : decide (sa = -1) = true) (h2 : decide (sb = -1) = true) (hx : fo[to.toNat]? = some x) : decide (x = fr) = goodO fi fo pre (kd, fr, to, sa, sb) := by
 rw [g_2 h, h1, h2, gD_, hx]; rfl
theorem g_3 (h : kd = 3) : goodO fi fo pre (kd, fr, to, sa, sb) = transO pre (kd, fr, to, sa, sb) := by unfold goodO; rw [if_neg (by show ¬ kd = 1; omega), if_neg (by show ¬ kd = 2; omega), if_pos h]
theorem t_no (h : (stpO pre sa).isSome = false ∨ (stpO pre sb).isSome = false) : transO pre (kd, fr, to, sa, sb) = false := by
 unfold transO
 rcases h with h | h
 ·rw [show stpO pre (kd, fr, to, sa, sb).2.2.2.1 = none from Option.isSome_eq_false_iff.1 h |> Option.isNone_iff_eq_none.1]
 ·rw [show stpO pre (kd, fr, to, sa, sb).2.2.2.2 = none from Option.isSome_eq_false_iff.1 h |> Option.isNone_iff_eq_none.1]
  cases stpO pre (kd, fr, to, sa, sb).2.2.2.1 <;> rfl
theorem t_eq (h : (stpO pre sa).isSome = true) (h2 : (stpO pre sb).isSome = true) : transO pre (kd, fr, to, sa, sb) = (decide ((stpO pre sa).elim 0 (·.2.1) = fr) && decide ((stpO pre sa).elim 0 (·.2.2.1) = (stpO pre sb).elim 0 (·.2.1)) && decide ((stpO pre sb).elim 0 (·.2.2.1) = to)) := by
 unfold transO
 obtain ⟨x, hx⟩ := Option.isSome_iff_exists.1 h
 obtain ⟨y, hy⟩ := Option.isSome_iff_exists.1 h2
 rw [show stpO pre (kd, fr, to, sa, sb).2.2.2.1 = some x from hx, show stpO pre (kd, fr, to, sa, sb).2.2.2.2 = some y from hy]
 first | rfl | (rw [hx, hy]; rfl) | (rw [hx]; rfl)
theorem g3a (h : kd = 3) (h1 : (stpO pre sa).isSome = false) : false = goodO fi fo pre (kd, fr, to, sa, sb) := by rw [g_3 h, t_no (.inl h1)]
theorem g3b (h : kd = 3) (h1 : (stpO pre sb).isSome = false) : false = goodO fi fo pre (kd, fr, to, sa, sb) := by rw [g_3 h, t_no (.inr h1)]
theorem g3c (h : kd = 3) (h1 : (stpO pre sa).isSome = true) (h2 : (stpO pre sb).isSome = true) (h3 : decide ((stpO pre sa).elim 0 (·.2.1) = fr) = false) : false = goodO fi fo pre (kd, fr, to, sa, sb) := by rw [g_3 h, t_eq h1 h2, h3]; rfl
theorem g3d (h : kd = 3) (h1 : (stpO pre sa).isSome = true) (h2 : (stpO pre sb).isSome = true) (h3 : decide ((stpO pre sa).elim 0 (·.2.1) = fr) = true) (h4 : decide ((stpO pre sa).elim 0 (·.2.2.1) = (stpO pre sb).elim 0 (·.2.1)) = false) : false = goodO fi fo pre (kd, fr, to, sa, sb) := by rw [g_3 h, t_eq h1 h2, h3, h4]; rfl
theorem g3e (h : kd = 3) (h1 : (stpO pre sa).isSome = true) (h2 : (stpO pre sb).isSome = true) (h3 : decide ((stpO pre sa).elim 0 (·.2.1) = fr) = true) (h4 : decide ((stpO pre sa).elim 0 (·.2.2.1) = (stpO pre sb).elim 0 (·.2.1)) = true) : decide ((stpO pre sb).elim 0 (·.2.2.1) = to) = goodO fi fo pre (kd, fr, to, sa, sb) := by rw [g_3 h, t_eq h1 h2, h3, h4]; rfl
theorem g_4 (h : kd = 4) : goodO fi fo pre (kd, fr, to, sa, sb) = (inO fi sb && decide (fo.getD sb.toNat 0 = to) && otherO fi fr to && saysO pre sa fr sb) := by unfold goodO; rw [if_neg (by show ¬ kd = 1; omega), if_neg (by show ¬ kd = 2; omega), if_neg (by show ¬ kd = 3; omega), if_pos h]
theorem g4a (h : kd = 4) (h1 : (!([sb].any (outO fi))) = false) : false = goodO fi fo pre (kd, fr, to, sa, sb) := by rw [g_4 h, ← op1_eq, h1]; rfl
theorem g4b {x : Int} (h : kd = 4) (h1 : (!([sb].any (outO fi))) = true) (hx : fo[sb.toNat]? = some x) (h2 : decide (x = to) = false) : false = goodO fi fo pre (kd, fr, to, sa, sb) := by
 rw [g_4 h, ← op1_eq, h1, gD_, hx, show (some x).getD 0 = x from rfl, h2]; rfl
theorem g4c {x : Int} (h : kd = 4) (h1 : (!([sb].any (outO fi))) = true) (hx : fo[sb.toNat]? = some x) (h2 : decide (x = to) = true) (h3 : otherO fi fr to = false) : false = goodO fi fo pre (kd, fr, to, sa, sb) := by
 rw [g_4 h, ← op1_eq, h1, gD_, hx, show (some x).getD 0 = x from rfl, h2, h3]; rfl
theorem g4d {x : Int} (h : kd = 4) (h1 : (!([sb].any (outO fi))) = true) (hx : fo[sb.toNat]? = some x) (h2 : decide (x = to) = true) (h3 : otherO fi fr to = true) : saysO pre sa fr sb = goodO fi fo pre (kd, fr, to, sa, sb) := by
 rw [g_4 h, ← op1_eq, h1, gD_, hx, show (some x).getD 0 = x from rfl, h2, h3]; rfl
theorem gnone (h1 : ¬ kd = 1) (h2 : ¬ kd = 2) (h3 : ¬ kd = 3) (h4 : ¬ kd = 4) : false = goodO fi fo pre (kd, fr, to, sa, sb) := by unfold goodO; rw [if_neg h1, if_neg h2, if_neg h3, if_neg h4]
-- plain
theorem p_n (h3 : ¬ kd = 3) (h4 : ¬ kd = 4) : true = plainO pre pl (kd, fr, to, sa, sb) := by
 unfold plainO
 rw [if_neg (fun h => h3 h.1)]
 show true = !decide (kd = 4)
 rw [decide_eq_false h4]; rfl
theorem p_1 (h : kd = 1) : true = plainO pre pl (kd, fr, to, sa, sb) := p_n (by omega) (by omega)
theorem p_2 (h : kd = 2) : true = plainO pre pl (kd, fr, to, sa, sb) := p_n (by omega) (by omega)
theorem p_4 (h : kd = 4) : false = plainO pre pl (kd, fr, to, sa, sb) := by
 unfold plainO
 rw [if_neg (fun h2 => by have : kd = 3 := h2.1; omega)]
 show false = !decide (kd = 4)
 rw [decide_eq_true h]; rfl
theorem p3n (h : kd = 3) (hg : transO pre (kd, fr, to, sa, sb) = false) : true = plainO pre pl (kd, fr, to, sa, sb) := by
 unfold plainO
 rw [if_neg (fun h2 => by rw [hg] at h2; exact absurd h2.2 (by decide))]
 show true = !decide (kd = 4)
 rw [decide_eq_false (by omega)]; rfl
theorem p3a (h : kd = 3) (h1 : (stpO pre sa).isSome = false) : true = plainO pre pl (kd, fr, to, sa, sb) := p3n h (t_no (.inl h1))
theorem p3b (h : kd = 3) (h1 : (stpO pre sb).isSome = false) : true = plainO pre pl (kd, fr, to, sa, sb) := p3n h (t_no (.inr h1))
theorem p3c (h : kd = 3) (h1 : (stpO pre sa).isSome = true) (h2 : (stpO pre sb).isSome = true) (h3 : decide ((stpO pre sa).elim 0 (·.2.1) = fr) = false) : true = plainO pre pl (kd, fr, to, sa, sb) := p3n h (by rw [t_eq h1 h2, h3]; rfl)
theorem p3d (h : kd = 3) (h1 : (stpO pre sa).isSome = true) (h2 : (stpO pre sb).isSome = true) (h3 : decide ((stpO pre sa).elim 0 (·.2.1) = fr) = true) (h4 : decide ((stpO pre sa).elim 0 (·.2.2.1) = (stpO pre sb).elim 0 (·.2.1)) = false) : true = plainO pre pl (kd, fr, to, sa, sb) := p3n h (by rw [t_eq h1 h2, h3, h4]; rfl)
theorem p3e (h : kd = 3) (h1 : (stpO pre sa).isSome = true) (h2 : (stpO pre sb).isSome = true) (h3 : decide ((stpO pre sa).elim 0 (·.2.1) = fr) = true) (h4 : decide ((stpO pre sa).elim 0 (·.2.2.1) = (stpO pre sb).elim 0 (·.2.1)) = true) (h5 : decide ((stpO pre sb).elim 0 (·.2.2.1) = to) = false) : true = plainO pre pl (kd, fr, to, sa, sb) := p3n h (by rw [t_eq h1 h2, h3, h4, h5]; rfl)
theorem p_3 (h : kd = 3) (h1 : (stpO pre sa).isSome = true) (h2 : (stpO pre sb).isSome = true) (h3 : decide ((stpO pre sa).elim 0 (·.2.1) = fr) = true) (h4 : decide ((stpO pre sa).elim 0 (·.2.2.1) = (stpO pre sb).elim 0 (·.2.1)) = true) (h5 : decide ((stpO pre sb).elim 0 (·.2.2.1) = to) = true) : plainO pre pl (kd, fr, to, sa, sb) = (pl.getD sa.toNat false && pl.getD sb.toNat false) := by
 unfold plainO
 rw [if_pos ⟨h, by rw [t_eq h1 h2, h3, h4, h5]; rfl⟩]
theorem p3f {x : Bool} (h : kd = 3) (h1 : (stpO pre sa).isSome = true) (h2 : (stpO pre sb).isSome = true) (h3 : decide ((stpO pre sa).elim 0 (·.2.1) = fr) = true) (h4 : decide ((stpO pre sa).elim 0 (·.2.2.1) = (stpO pre sb).elim 0 (·.2.1)) = true) (h5 : decide ((stpO pre sb).elim 0 (·.2.2.1) = to) = true)
  (hx : pl[sa.toNat]? = some x) (h6 : x = false) : false = plainO pre pl (kd, fr, to, sa, sb) := by
 rw [p_3 h h1 h2 h3 h4 h5, gD_, hx, h6]; rfl
theorem p3g {x y : Bool} (h : kd = 3) (h1 : (stpO pre sa).isSome = true) (h2 : (stpO pre sb).isSome = true) (h3 : decide ((stpO pre sa).elim 0 (·.2.1) = fr) = true) (h4 : decide ((stpO pre sa).elim 0 (·.2.2.1) = (stpO pre sb).elim 0 (·.2.1)) = true) (h5 : decide ((stpO pre sb).elim 0 (·.2.2.1) = to) = true)
  (hx : pl[sa.toNat]? = some x) (h6 : x = true) (hy : pl[sb.toNat]? = some y) : y = plainO pre pl (kd, fr, to, sa, sb) := by
 rw [p_3 h h1 h2 h3 h4 h5, gD_, gD_, hx, hy, h6]; rfl
end
end Go.Ew
namespace Go.Ew
def o11 (h : HistL) : Bool := rightH h && decide ((chkA (ofI h)).2.2 = 0)
def o11V (h : HistL) : List ByteArray := if o11 h then ofV h else []
def o11I (h : HistL) : List ItemL := if o11 h then ofI h else []
def o11F (h : HistL) : List Int := if o11 h then fromR (ofI h) else []
theorem o11_no {h : HistL} (hq : o11 h = false) : o11V h = [] ∧ o11I h = [] ∧ o11F h = [] := by unfold o11V o11I o11F; simp [hq]
theorem o11_yes {h : HistL} (hq : o11 h = true) : o11V h = ofV h ∧ o11I h = ofI h ∧ o11F h = fromR (ofI h) := by unfold o11V o11I o11F; simp [hq]
theorem o11_no1 {h : HistL} (he : ¬ ofE h = 0) : o11 h = false := by
 unfold o11
 cases hr : rightH h with
 | false => rfl
 | true => exact absurd (of_ok hr).2.2 he
theorem o11_r {h : HistL} (he : ofE h = 0) : rightH h = true := by
 cases hr : rightH h with
 | true => rfl
 | false => rw [(of_bad hr).2.2] at he; cases he
theorem o11_no2 {h : HistL} (he : ¬ (chkA (ofI h)).2.2 = 0) : o11 h = false := by unfold o11; rw [decide_eq_false he]; simp
theorem o11_is {h : HistL} (he : ofE h = 0) (hc : (chkA (ofI h)).2.2 = 0) : o11 h = true := by unfold o11; rw [o11_r he, decide_eq_true hc]; rfl
theorem o11I_len (h : HistL) : (o11I h).length ≤ h.flatten.length := by
 unfold o11I; split
 ·exact ofI_len h
 ·simp
theorem ord_nil : OrdI ([] : List ItemL) := ⟨fun h => absurd h (Nat.lt_irrefl 0), fun i h => absurd h (Nat.not_lt_zero _)⟩
theorem o11_ord (h : HistL) : OrdI (o11I h) := by
 unfold o11I; split
 ·exact ofI_ord h
 ·exact ord_nil
theorem o11F_len (h : HistL) : (o11F h).length = (o11I h).length := by
 unfold o11F o11I; split
 ·exact fromR_len _
 ·rfl
theorem fromR_lt {its : List ItemL} : ∀ x ∈ fromR its, x < ((its.length : Nat) : Int) := by
 intro x hx
 unfold fromR at hx
 obtain ⟨y, hy, rfl⟩ := List.mem_map.1 hx
 have := (reads_facts (its := its) (x := y) rfl).2.2.2.1
 exact this
theorem o11F_lt (h : HistL) : ∀ x ∈ o11F h, x < (((o11I h).length : Nat) : Int) := by
 unfold o11F o11I; split
 ·exact fromR_lt
 ·intro x hx; cases hx
def rfP (fo : List Int) (a b : Nat) : Bool := decide (fo.getD b (-1) = ((a : Nat) : Int))
def rfR (fi : List ItemL) (fo : List Int) : Rows := matP fi.length (rfP fo)
def rfTo (n : Nat) (fo : List Int) (j : Nat) : Rows := matP n fun a b => decide (b < j) && rfP fo a b
theorem rf_zero (n : Nat) (fo : List Int) : newM ((n : Nat) : Int) = rfTo n fo 0 := by
 rw [newM_matP]; exact matP_congr fun a b _ _ => by simp
theorem rf_end {fi : List ItemL} {fo : List Int} {j : Nat} (hl : fo.length = fi.length) (hj : fo.length ≤ j) : rfTo fi.length fo j = rfR fi fo :=
 matP_congr fun a b _ hb => by rw [decide_eq_true (show b < j by omega)]; rfl
theorem rf_no {n : Nat} {fo : List Int} {j : Nat} {w : Int} (hw : fo[((j : Nat) : Int).toNat]? = some w) (h : w < 0) : rfTo n fo j = rfTo n fo (j + 1) := by
 refine matP_congr fun a b ha hb => ?_
 by_cases e : b = j
 ·subst e
  rw [tN_] at hw
  unfold rfP
  rw [gD_, hw, decide_eq_false (show ¬ (some w).getD (-1) = ((a : Nat) : Int) by simp; omega)]; simp
 ·have : decide (b < j) = decide (b < j + 1) := by rw [decide_eq_decide]; omega
  rw [this]
theorem rf_in {n j : Nat} {w : Int} (h0 : 0 ≤ w) (hw : w < ((n : Nat) : Int)) (hj : j < n) : inM ((n : Nat) : Int) [w, ((j : Nat) : Int)] = true := inM_two.2 (by omega)
theorem rf_set {n : Nat} {fo : List Int} {j : Nat} {w : Int} (hw : fo[((j : Nat) : Int).toNat]? = some w) (h0 : 0 ≤ w) (h1 : w < ((n : Nat) : Int)) (hj : j < n) : setM (rfTo n fo j) (w, ((j : Nat) : Int)) = rfTo n fo (j + 1) := by
 unfold rfTo
 rw [setM_matP (rf_in h0 h1 hj)]
 refine matP_congr fun a b ha hb => ?_
 rw [tN_] at hw ⊢
 by_cases e : b = j
 ·subst e
  rw [decide_eq_false (Nat.lt_irrefl b), decide_eq_true (Nat.lt_succ_self b), decide_eq_true rfl]
  unfold rfP
  rw [gD_, hw]
  show (false && _ || decide (a = w.toNat) && true) = (true && decide (w = ((a : Nat) : Int)))
  rw [Bool.false_and, Bool.false_or, Bool.and_true, Bool.true_and, decide_eq_decide]
  omega
 ·rw [decide_eq_false e, Bool.and_false, Bool.or_false]
  have : decide (b < j) = decide (b < j + 1) := by rw [decide_eq_decide]; omega
  rw [this]
theorem rf_put {n : Nat} {fo : List Int} {j : Nat} {w : Int} {xs : Rows} {x : Row} (hs : xs = rfTo n fo j) (hw : fo[((j : Nat) : Int).toNat]? = some w) (h0 : 0 ≤ w) (h1 : w < ((n : Nat) : Int)) (hj : j < n) (hx : xs[w.toNat]? = some x) : xs.set w.toNat (setR x ((j : Nat) : Int)) = rfTo n fo (j + 1) := by
 rw [setM_of hx, hs]; exact rf_set hw h0 h1 hj
theorem rf_setMR {n : Nat} {fo : List Int} {j : Nat} {w : Int} {xs : Rows} (hs : xs = rfTo n fo j) (hw : fo[((j : Nat) : Int).toNat]? = some w) (h0 : 0 ≤ w) (h1 : w < ((n : Nat) : Int)) (hj : j < n) :
  setMN ((n : Nat) : Int) w ((j : Nat) : Int) = ((n : Nat) : Int) ∧ setMR ((n : Nat) : Int) xs w ((j : Nat) : Int) = rfTo n fo (j + 1) := by
 have hin := rf_in h0 h1 hj
 exact ⟨(set_yes (rs := xs) hin).1, by rw [(set_yes hin).2.1, hs]; exact rf_set hw h0 h1 hj⟩
theorem rfTo_len (n : Nat) (fo : List Int) (j : Nat) : (rfTo n fo j).length = n := matP_len _ _
theorem rfR_len (fi : List ItemL) (fo : List Int) : (rfR fi fo).length = fi.length := matP_len _ _
theorem rfTo_sq {n : Nat} (h : n ≤ 4096) (fo : List Int) (j : Nat) : (((rfTo n fo j).length : Nat) : Int) = ((n : Nat) : Int) ∧ ∀ x ∈ rfTo n fo j, x.length ≤ 1000000000 := ⟨by rw [rfTo_len], matP_small h⟩
theorem mat_sq {n : Nat} (h : n ≤ 4096) (P : Nat → Nat → Bool) : (((matP n P).length : Nat) : Int) = ((n : Nat) : Int) ∧ ∀ x ∈ matP n P, x.length ≤ 1000000000 := ⟨by rw [matP_len], matP_small h⟩
def edP (fi : List ItemL) (fo : List Int) (a b : Nat) : Bool := ahN fi a b || rfP fo a b
def edR (fi : List ItemL) (fo : List Int) : Rows := matP fi.length (edP fi fo)
theorem ed_or (fi : List ItemL) (fo : List Int) : orMN ((fi.length : Nat) : Int) ((fi.length : Nat) : Int) = ((fi.length : Nat) : Int) ∧ orMR ((fi.length : Nat) : Int) (poR fi) ((fi.length : Nat) : Int) (rfR fi fo) = edR fi fo := by
 refine ⟨(orM_yes (ar := poR fi) (br := rfR fi fo) rfl).1, ?_⟩
 rw [(orM_yes rfl).2.1, tN_]
 exact orRs_matP _ _
def coP (fi : List ItemL) (fo : List Int) : Nat → Nat → Bool := cl fi.length (edP fi fo)
def coR (fi : List ItemL) (fo : List Int) : Rows := matP fi.length (coP fi fo)
theorem co_close (fi : List ItemL) (fo : List Int) : closeM ((fi.length : Nat) : Int) (edR fi fo) = coR fi fo := closeM_matP
theorem ed_right {fi : List ItemL} (fo : List Int) (h : fi.length ≤ 4096) : rightS ((fi.length : Nat) : Int) (edR fi fo) = true := right_matP h
theorem co_right {fi : List ItemL} (fo : List Int) (h : fi.length ≤ 4096) : rightS ((fi.length : Nat) : Int) (coR fi fo) = true := right_matP h
end Go.Ew
namespace Go.Ew
def hasI (l : List Int) (n : Int) : Bool := l.any (fun z_ => decide (n = z_))
def kindsO (lv : Int) : List Int := bif decide (lv = 1) then [1, 2, 3, 4] else bif decide (lv = 2) then [1, 2, 3, 4] ++ [5] else bif decide (lv = 3) then [1, 2, 3, 4] ++ [6, 7] else []
def unnO (kd r w1 w2 o fs sn : Int) : List Int := bif decide (kd = 1) then [w1, w2, o, fs, sn] else bif decide (kd = 2) then [r, w1, w2, sn] else bif decide (kd = 5) then [r, w1, w2, sn] else bif decide (kd = 3) then [w2, o, sn] else bif decide (kd = 4) then [o] else bif decide (kd = 6) then [w2, sn] else [r, w2, sn]
def foundO (pl : List Bool) (s : StepL) : Bool := decide (s.1 = 4) && !(pl.getD s.2.2.2.1.toNat false)
def withinO (wl kl : List Int) (s : StepL) : Bool := bif decide (s.1 = 1) then !hasI wl s.2.2.1 else bif decide (s.1 = 2) then !hasI wl s.2.2.1 else bif decide (s.1 = 4) then !hasI kl s.2.2.2.2 else false
section
variable (fi : List ItemL) (fo : List Int)
def worldO (o : Int) : List Int := withL ((fi.length : Nat) : Int) (coR fi fo) o
def keptO (o : Int) : List Int := keepL (wrQ fi) (pastA fi o)
def wthO (stp : List StepL) (o : Int) : Bool := !(stp.any (withinO (worldO fi fo o) (keptO fi o)))
def earlyO (r w : Int) : Bool := !(([r, w] : List Int).any (outO fi)) && decide (fo.getD r.toNat 0 = -1) && wrQ fi w && decide (vrO fi w = vrO fi r)
def patO (stp : List StepL) (pl : List Bool) (kd r w1 w2 o fs sn : Int) : Bool :=
 bif decide (kd = 1) then !(([r] : List Int).any (outO fi)) && decide (fo.getD r.toNat 0 = -2) && decide (((stp.length : Nat) : Int) = 0)
 else bif decide (kd = 2) then !(([o] : List Int).any (outO fi)) && !(pl.any (fun z_ => false == z_)) && saysO stp fs o o
 else bif decide (kd = 3) then earlyO fi fo r w1 && !(pl.any (fun z_ => false == z_)) && saysO stp fs w1 r
 else bif decide (kd = 4) then !(([r, w1, w2] : List Int).any (outO fi)) && decide (fo.getD r.toNat 0 = w1) && otherO fi w1 w2 && !(pl.any (fun z_ => false == z_)) && saysO stp fs w1 w2 && saysO stp sn w2 r
 else bif decide (kd = 5) then !(([o] : List Int).any (outO fi)) && !(stp.any (foundO pl)) && saysO stp fs o o
 else bif decide (kd = 6) then !(([o] : List Int).any (outO fi)) && earlyO fi fo r w1 && hasI (keptO fi o) r && wthO fi fo stp o && saysO stp fs w1 r
 else bif decide (kd = 7) then !(([o, w1] : List Int).any (outO fi)) && wthO fi fo stp o && saysO stp fs w1 w1
 else false
def holdsO (lv kd r w1 w2 o : Int) (l : List StepL) (fs sn : Int) : Bool :=
 hasI (kindsO lv) kd && !((unnO kd r w1 w2 o fs sn).any (fun x_ => !decide (x_ = -1))) && (takeO fi fo [] [] l).1 && patO fi fo (takeO fi fo [] [] l).2.1 (takeO fi fo [] [] l).2.2 kd r w1 w2 o fs sn
end
section
variable {fi : List ItemL} {fo : List Int}
theorem op3_rng {fr to sb : Int} (h : (!(([fr, to, sb] : List Int).any (outO fi))) = true) : (0 ≤ fr ∧ fr < ((fi.length : Nat) : Int)) ∧ (0 ≤ to ∧ to < ((fi.length : Nat) : Int)) ∧ 0 ≤ sb ∧ sb < ((fi.length : Nat) : Int) := by
 have e : (!(([fr, to, sb] : List Int).any (outO fi))) = (!(([fr, to] : List Int).any (outO fi)) && !(([sb] : List Int).any (outO fi))) := by
  simp only [List.any_cons, List.any_nil, Bool.or_false, Bool.not_or, Bool.and_assoc]
 rw [e, bA_] at h
 exact ⟨(ok_rng h.1).1, (ok_rng h.1).2, op1_rng h.2⟩
theorem nx_iff {pre : List StepL} {s : StepL} : nxG fi fo pre s = true ↔ okO fi s = true ∧ goodO fi fo pre s = true := by unfold nxG; rw [bA_]
theorem takeO_yes {l pre : List StepL} {pl : List Bool} {j : Nat} {s : StepL} (hx : l[((j : Nat) : Int).toNat]? = some s) (h : nxG fi fo pre s = true) : takeO fi fo pre pl (l.drop j) = takeO fi fo (nxS fi pre s) (nxP fi pre pl s) (l.drop (j + 1)) := by
 rw [tN_] at hx
 obtain ⟨hj, he⟩ := gS_.1 hx
 rw [List.drop_eq_getElem_cons hj, he]
 obtain ⟨h1, h2⟩ := nx_iff.1 h
 unfold nxS nxP
 rw [if_pos h1, if_pos h1, takeO, if_pos h1, if_pos h2]
theorem takeO_no {l pre : List StepL} {pl : List Bool} {j : Nat} {s : StepL} (hx : l[((j : Nat) : Int).toNat]? = some s) (h : nxG fi fo pre s = false) : takeO fi fo pre pl (l.drop j) = (false, nxS fi pre s, nxP fi pre pl s) := by
 rw [tN_] at hx
 obtain ⟨hj, he⟩ := gS_.1 hx
 rw [List.drop_eq_getElem_cons hj, he]
 unfold nxS nxP
 rw [takeO]
 by_cases h1 : okO fi s = true
 ·rw [if_pos h1, if_pos h1, if_pos h1]
  by_cases h2 : goodO fi fo pre s = true
  ·rw [nx_iff.2 ⟨h1, h2⟩] at h; cases h
  ·rw [if_neg h2]
 ·rw [if_neg h1, if_neg h1, if_neg h1]
theorem takeO_end {l pre : List StepL} {pl : List Bool} {j : Nat} (h : l.length ≤ j) : takeO fi fo pre pl (l.drop j) = (true, pre, pl) := by
 rw [List.drop_eq_nil_of_le h]; rfl
theorem nxS_len {pre : List StepL} {s : StepL} (h : nxG fi fo pre s = true) : (nxS fi pre s).length = pre.length + 1 := by
 unfold nxS; rw [if_pos (nx_iff.1 h).1, lA_]; rfl
theorem nxP_len {pre : List StepL} {pl : List Bool} {s : StepL} (h : nxG fi fo pre s = true) : (nxP fi pre pl s).length = pl.length + 1 := by
 unfold nxP; rw [if_pos (nx_iff.1 h).1, lA_]; rfl
theorem takeO_lens {l : List StepL} : ∀ {pre : List StepL} {pl : List Bool}, (takeO fi fo pre pl l).1 = true → pl.length = pre.length → (takeO fi fo pre pl l).2.2.length = (takeO fi fo pre pl l).2.1.length := by
 induction l with
 | nil => intro pre pl _ h; exact h
 | cons s l ih =>
  intro pre pl h hl
  unfold takeO at h ⊢
  by_cases h1 : okO fi s = true
  ·rw [if_pos h1] at h ⊢
   by_cases h2 : goodO fi fo pre s = true
   ·rw [if_pos h2] at h ⊢
    exact ih h (by rw [lA_, lA_, hl]; rfl)
   ·rw [if_neg h2] at h; cases h
  ·rw [if_neg h1] at h; cases h
theorem good4 {pre : List StepL} {s : StepL} (h : goodO fi fo pre s = true) (h4 : s.1 = 4) : 0 ≤ s.2.2.2.1 ∧ s.2.2.2.1 < ((pre.length : Nat) : Int) := by
 obtain ⟨kd, fr, to, sa, sb⟩ := s
 rw [g_4 h4] at h
 simp only [bA_] at h
 have hs := h.2
 unfold saysO at hs
 cases hq : stpO pre sa with
 | none => rw [hq] at hs; cases hs
 | some x => exact stpO_rng (by rw [hq]; rfl)
theorem takeO_rule {l : List StepL} : ∀ {pre : List StepL} {pl : List Bool}, (takeO fi fo pre pl l).1 = true → (∀ x ∈ pre, x.1 = 4 → 0 ≤ x.2.2.2.1 ∧ x.2.2.2.1 < ((pre.length : Nat) : Int)) → ∀ x ∈ (takeO fi fo pre pl l).2.1, x.1 = 4 → 0 ≤ x.2.2.2.1 ∧ x.2.2.2.1 < (((takeO fi fo pre pl l).2.1.length : Nat) : Int) := by
 induction l with
 | nil => intro pre pl _ h; exact h
 | cons s l ih =>
  intro pre pl h hl
  unfold takeO at h ⊢
  by_cases h1 : okO fi s = true
  ·rw [if_pos h1] at h ⊢
   by_cases h2 : goodO fi fo pre s = true
   ·rw [if_pos h2] at h ⊢
    refine ih h fun x hx hk => ?_
    rw [lA_]
    rcases List.mem_append.1 hx with hx | hx
    ·have := hl x hx hk; simp only [lC_, lN_]; omega
    ·rw [List.mem_singleton.1 hx] at hk ⊢
     have := good4 h2 hk; simp only [lC_, lN_]; omega
   ·rw [if_neg h2] at h; cases h
  ·rw [if_neg h1] at h; cases h
theorem rule_in {l : List StepL} (h : (takeO fi fo [] [] l).1 = true) : ∀ x ∈ (takeO fi fo [] [] l).2.1, x.1 = 4 → 0 ≤ x.2.2.2.1 ∧ x.2.2.2.1 < (((takeO fi fo [] [] l).2.2.length : Nat) : Int) := by
 rw [takeO_lens h rfl]
 exact takeO_rule h (fun x hx => by cases hx)
end
end Go.Ew
namespace Go.Ew
def namesO (kd : Int) : ByteArray := ([⟨#[]⟩, ⟨#[114]⟩, ⟨#[111, 102]⟩, ⟨#[114, 119, 102]⟩, ⟨#[114, 119, 120, 102, 115]⟩, ⟨#[111, 102]⟩, ⟨#[114, 119, 111, 102]⟩, ⟨#[119, 111, 102]⟩] : List ByteArray).getD kd.toNat ⟨#[]⟩
def isO (kd ch n : Int) : Bool := (namesO kd).data.toList.any (fun b => decide ((b.toNat : Int) = ch)) || decide (n = -1)
def fieldsO (kd rd wa wb op fs sn : Int) : Bool := isO kd 114 rd && isO kd 119 wa && isO kd 120 wb && isO kd 111 op && isO kd 102 fs && isO kd 115 sn
def zS : StepL := (0, 0, 0, 0, 0)
def sayB (l : List StepL) (k bf a b : Int) : Bool := decide (0 ≤ k) && decide (k < bf) && decide (k < ((l.length : Nat) : Int)) && decide ((l.getD k.toNat zS).2.1 = a) && decide ((l.getD k.toNat zS).2.2.1 = b)
def hasJ (l : List Int) (n : Int) : Bool := l.any (fun z_ => decide (z_ = n))
section
variable (fi : List ItemL) (fo : List Int)
def rgtS (l : List StepL) (i : Int) (s : StepL) : Bool :=
 bif !inO fi s.2.1 then false else bif !inO fi s.2.2.1 then false
 else bif decide (s.1 = 1) then decide (s.2.2.2.1 = -1) && decide (s.2.2.2.2 = -1) && ahB fi s.2.1 s.2.2.1
 else bif decide (s.1 = 2) then decide (s.2.2.2.1 = -1) && decide (s.2.2.2.2 = -1) && decide (fo.getD s.2.2.1.toNat 0 = s.2.1)
 else bif decide (s.1 = 3) then bif decide (s.2.2.2.1 < 0) then false else bif decide (i ≤ s.2.2.2.1) then false else bif decide (s.2.2.2.2 < 0) then false else bif decide (i ≤ s.2.2.2.2) then false
  else decide ((l.getD s.2.2.2.1.toNat zS).2.1 = s.2.1) && decide ((l.getD s.2.2.2.1.toNat zS).2.2.1 = (l.getD s.2.2.2.2.toNat zS).2.1) && decide ((l.getD s.2.2.2.2.toNat zS).2.2.1 = s.2.2.1)
 else bif decide (s.1 = 4) then inO fi s.2.2.2.2 && decide (fo.getD s.2.2.2.2.toNat 0 = s.2.2.1) && otherO fi s.2.1 s.2.2.1 && sayB l s.2.2.2.1 i s.2.1 s.2.2.2.2
 else false
def rgtO (l : List StepL) (i : Int) : Bool := rgtS fi fo l i (l.getD i.toNat zS)
def stepsR (l : List StepL) : Bool := (List.range l.length).all fun i => rgtO fi fo l ((i : Nat) : Int)
def plnS (p : List Bool) (s : StepL) : Bool := (decide (s.1 = 1) || decide (s.1 = 2)) || (decide (s.1 = 3) && p.getD s.2.2.2.1.toNat false && p.getD s.2.2.2.2.toNat false)
def plnN (l : List StepL) : Nat → List Bool
 | 0 => []
 | n + 1 => plnN l n ++ [plnS (plnN l n) (l.getD n zS)]
def brS (p : List Bool) (ru : Bool) (x : Bool) (s : StepL) : Bool := (!ru && !x) || (decide (s.1 = 4) && !(p.getD s.2.2.2.1.toNat false))
def bareR (l : List StepL) (ru : Bool) : Bool := (List.range (plnN l l.length).length).all fun j => !(brS (plnN l l.length) ru ((plnN l l.length).getD j false) (l.getD j zS))
def seenS (wl kl : List Int) (s : StepL) : Bool := (decide (s.1 = 4) && !hasJ kl s.2.2.2.2) || ((decide (s.1 = 1) || decide (s.1 = 2)) && !hasJ wl s.2.2.1)
def keptB (o : Int) : List Int := keepL (wrQ fi) (pastB fi o fi.length)
def seenR (l : List StepL) (o : Int) : Bool := l.all fun s => !(seenS (worldO fi fo o) (keptB fi o) s)
def earlyR (rd wa : Int) : Bool := inO fi rd && inO fi wa && decide (fo.getD rd.toNat 0 = -1) && wrQ fi wa && decide (vrO fi wa = vrO fi rd)
def kindsR (lv : Int) : List Int := bif decide (lv = 1) then [1, 2, 3, 4] else bif decide (lv = 2) then [1, 2, 3, 4, 5] else bif decide (lv = 3) then [1, 2, 3, 4, 6, 7] else []
def holdsR (lv kd rd wa wb op : Int) (l : List StepL) (fs sn : Int) : Bool :=
 bif !hasJ (kindsR lv) kd then false else bif !fieldsO kd rd wa wb op fs sn then false else bif !stepsR fi fo l then false
 else bif decide (kd = 1) then inO fi rd && decide (fo.getD rd.toNat 0 = -2) && decide (((l.length : Nat) : Int) = 0)
 else bif decide (kd = 2) then inO fi op && bareR l false && sayB l fs ((l.length : Nat) : Int) op op
 else bif decide (kd = 3) then earlyR fi fo rd wa && bareR l false && sayB l fs ((l.length : Nat) : Int) wa rd
 else bif decide (kd = 4) then bif !inO fi rd then false else bif !inO fi wa then false else bif !inO fi wb then false else bif !decide (fo.getD rd.toNat 0 = wa) then false else bif !otherO fi wb wa then false
  else bareR l false && sayB l fs ((l.length : Nat) : Int) wa wb && sayB l sn ((l.length : Nat) : Int) wb rd
 else bif decide (kd = 5) then inO fi op && bareR l true && sayB l fs ((l.length : Nat) : Int) op op
 else bif decide (kd = 6) then inO fi op && earlyR fi fo rd wa && hasJ (keptB fi op) rd && seenR fi fo l op && sayB l fs ((l.length : Nat) : Int) wa rd
 else inO fi op && inO fi wa && seenR fi fo l op && sayB l fs ((l.length : Nat) : Int) wa wa
end
section
variable {fi : List ItemL} {fo : List Int}
theorem hasJ_eq (l : List Int) (n : Int) : hasJ l n = hasI l n := by
 unfold hasJ hasI
 congr 1; funext z; rw [decide_eq_decide]; exact eq_comm
theorem kindsR_eq (lv : Int) : kindsR lv = kindsO lv := by
 unfold kindsR kindsO
 cases decide (lv = 1) <;> cases decide (lv = 2) <;> cases decide (lv = 3) <;> rfl
theorem keptB_eq (o : OrdI fi) (t : Int) : keptB fi t = keptO fi t := by unfold keptB keptO; rw [past_eq o]
theorem earlyR_eq (r w : Int) : earlyR fi fo r w = earlyO fi fo r w := by unfold earlyR earlyO; rw [op_ok]
theorem other_comm (a b : Int) : otherO fi a b = otherO fi b a := by
 unfold otherO
 rw [show decide (a = b) = decide (b = a) from by rw [decide_eq_decide]; exact eq_comm, show decide (vrO fi a = vrO fi b) = decide (vrO fi b = vrO fi a) from by rw [decide_eq_decide]; exact eq_comm]
 cases decide (b = a) <;> cases wrQ fi a <;> cases wrQ fi b <;> rfl
theorem getD_pre {α : Type} {p : List α} {s : α} {r : List α} {z : α} {k : Nat} (h : k < p.length) : (p ++ s :: r).getD k z = p.getD k z := by
 rw [gD_, gD_, aL_ h]
theorem stpO_getD {pre : List StepL} {k : Int} (h : 0 ≤ k ∧ k < ((pre.length : Nat) : Int)) : stpO pre k = some (pre.getD k.toNat zS) := by
 have hk : k.toNat < pre.length := by omega
 exact stpO_at h.1 (by rw [gD_, gE_ hk]; rfl)
theorem say_eq {pre r : List StepL} {s : StepL} {k a b : Int} : sayB (pre ++ s :: r) k ((pre.length : Nat) : Int) a b = saysO pre k a b := by
 unfold sayB saysO
 by_cases h : 0 ≤ k ∧ k < ((pre.length : Nat) : Int)
 ·rw [stpO_getD h, decide_eq_true h.1, decide_eq_true h.2, decide_eq_true (by rw [lA_, lC_]; omega), getD_pre (by omega)]
  rfl
 ·rw [stpO_no (by omega)]
  by_cases h0 : 0 ≤ k
  ·rw [decide_eq_true h0, decide_eq_false (by omega : ¬ k < ((pre.length : Nat) : Int))]; rfl
  ·rw [decide_eq_false h0]; rfl
theorem say_all {l : List StepL} {k a b : Int} : sayB l k ((l.length : Nat) : Int) a b = saysO l k a b := by
 unfold sayB saysO
 by_cases h : 0 ≤ k ∧ k < ((l.length : Nat) : Int)
 ·rw [stpO_getD h, decide_eq_true h.1, decide_eq_true h.2]; rfl
 ·rw [stpO_no (by omega)]
  by_cases h0 : 0 ≤ k
  ·rw [decide_eq_true h0, decide_eq_false (by omega : ¬ k < ((l.length : Nat) : Int))]; rfl
  ·rw [decide_eq_false h0]; rfl
theorem rgt_eq (o : OrdI fi) {pre r : List StepL} {s : StepL} : rgtO fi fo (pre ++ s :: r) ((pre.length : Nat) : Int) = nxG fi fo pre s := by
 obtain ⟨kd, fr, to, sa, sb⟩ := s
 have h0 : (pre ++ (kd, fr, to, sa, sb) :: r).getD ((pre.length : Nat) : Int).toNat zS = (kd, fr, to, sa, sb) := by
  rw [gD_, tN_, aR_ (Nat.le_refl _), Nat.sub_self]; rfl
 unfold rgtO
 rw [h0]
 unfold rgtS nxG
 simp only []
 rw [show okO fi (kd, fr, to, sa, sb) = (inO fi fr && inO fi to) from rfl]
 cases hf : inO fi fr
 ·rfl
 cases ht : inO fi to
 ·rfl
 simp only [Bool.not_true, cond_false, Bool.and_self, Bool.true_and]
 by_cases h1 : kd = 1
 ·rw [decide_eq_true h1, g_1 h1, ahB_A o]; rfl
 rw [decide_eq_false h1]
 by_cases h2 : kd = 2
 ·rw [decide_eq_true h2, g_2 h2]; rfl
 rw [decide_eq_false h2]
 by_cases h3 : kd = 3
 ·rw [decide_eq_true h3, g_3 h3]
  simp only [cond_false, cond_true]
  by_cases ha : 0 ≤ sa ∧ sa < ((pre.length : Nat) : Int)
  ·rw [decide_eq_false (by omega : ¬ sa < 0), decide_eq_false (by omega : ¬ ((pre.length : Nat) : Int) ≤ sa)]
   by_cases hb : 0 ≤ sb ∧ sb < ((pre.length : Nat) : Int)
   ·rw [decide_eq_false (by omega : ¬ sb < 0), decide_eq_false (by omega : ¬ ((pre.length : Nat) : Int) ≤ sb), t_eq (by rw [stpO_getD ha]; rfl) (by rw [stpO_getD hb]; rfl), stpO_getD ha, stpO_getD hb, getD_pre (by omega), getD_pre (by omega)]
    rfl
   ·rw [t_no (.inr (by rw [stpO_no (by omega)]; rfl))]
    by_cases hb0 : sb < 0
    ·rw [decide_eq_true hb0]; rfl
    ·rw [decide_eq_false hb0, decide_eq_true (by omega)]; rfl
  ·rw [t_no (.inl (by rw [stpO_no (by omega)]; rfl))]
   by_cases ha0 : sa < 0
   ·rw [decide_eq_true ha0]; rfl
   ·rw [decide_eq_false ha0, decide_eq_true (by omega)]; rfl
 rw [decide_eq_false h3]
 by_cases h4 : kd = 4
 ·rw [decide_eq_true h4, g_4 h4, say_eq]; rfl
 ·rw [decide_eq_false h4, ← gnone h1 h2 h3 h4]; rfl
theorem all_range_from {p : Nat → Bool} {n : Nat} : (List.range n).all p = true ↔ ∀ i, i < n → p i = true := by simp
theorem take_right (o : OrdI fi) : ∀ (r pre : List StepL) (pl : List Bool), (takeO fi fo pre pl r).1 = true ↔ ∀ i, pre.length ≤ i → i < (pre ++ r).length → rgtO fi fo (pre ++ r) ((i : Nat) : Int) = true
 | [], pre, pl => by
  constructor
  ·intro _ i h1 h2; rw [List.append_nil] at h2; omega
  ·intro _; rfl
 | s :: r, pre, pl => by
  have e : pre ++ s :: r = (pre ++ [s]) ++ r := by rw [List.append_assoc]; rfl
  have hb := rgt_eq (fo := fo) o (pre := pre) (r := r) (s := s)
  have ih := take_right o r (pre ++ [s]) (pl ++ [plainO pre pl s])
  unfold takeO
  by_cases h1 : okO fi s = true
  ·rw [if_pos h1]
   by_cases h2 : goodO fi fo pre s = true
   ·rw [if_pos h2, ih, e]
    constructor
    ·intro h i hi hj
     by_cases he : i = pre.length
     ·rw [he, ← e, hb]; exact nx_iff.2 ⟨h1, h2⟩
     ·exact h i (by rw [lA_]; simp only [lC_, lN_]; omega) hj
    ·intro h i hi hj
     exact h i (by rw [lA_] at hi; omega) hj
   ·rw [if_neg h2]
    constructor
    ·intro h; cases h
    ·intro h
     have := h pre.length (Nat.le_refl _) (by rw [lA_, lC_]; omega)
     rw [hb] at this; exact absurd (nx_iff.1 this).2 h2
  ·rw [if_neg h1]
   constructor
   ·intro h; cases h
   ·intro h
    have := h pre.length (Nat.le_refl _) (by rw [lA_, lC_]; omega)
    rw [hb] at this; exact absurd (nx_iff.1 this).1 h1
theorem stepsR_eq (o : OrdI fi) (l : List StepL) : stepsR fi fo l = stepsO fi fo l := by
 rw [Bool.eq_iff_iff]
 unfold stepsR stepsO
 rw [take_right o l [] [], all_range_from]
 simp only [List.nil_append, lN_]
 exact ⟨fun h i _ hi => h i hi, fun h i hi => h i (Nat.zero_le _) hi⟩
theorem plnN_len (l : List StepL) : ∀ n, (plnN l n).length = n
 | 0 => rfl
 | n + 1 => by unfold plnN; rw [lA_, plnN_len l n]; rfl
theorem plnN_pre {pre r : List StepL} : ∀ n, n ≤ pre.length → plnN (pre ++ r) n = plnN pre n
 | 0, _ => rfl
 | n + 1, h => by
  unfold plnN
  rw [plnN_pre n (by omega), gD_, aL_ (by omega), ← gD_]
theorem pln_plain {pre : List StepL} {pl : List Bool} {s : StepL} (h : goodO fi fo pre s = true) : plnS pl s = plainO pre pl s := by
 obtain ⟨kd, fr, to, sa, sb⟩ := s
 unfold plnS plainO
 by_cases h1 : kd = 1
 ·rw [if_neg (fun h => by have : kd = 3 := h.1; omega)]
  show (decide (kd = 1) || decide (kd = 2) || _) = !decide (kd = 4)
  rw [decide_eq_true h1, decide_eq_false (by omega : ¬ kd = 4)]; rfl
 by_cases h2 : kd = 2
 ·rw [if_neg (fun h => by have : kd = 3 := h.1; omega)]
  show (decide (kd = 1) || decide (kd = 2) || _) = !decide (kd = 4)
  rw [decide_eq_true h2, decide_eq_false (by omega : ¬ kd = 4), Bool.or_true]; rfl
 by_cases h3 : kd = 3
 ·rw [if_pos ⟨h3, by rw [← g_3 h3]; exact h⟩]
  show (decide (kd = 1) || decide (kd = 2) || (decide (kd = 3) && _ && _)) = _
  rw [decide_eq_false h1, decide_eq_false h2, decide_eq_true h3]
  simp only [Bool.false_or, Bool.true_and]
 by_cases h4 : kd = 4
 ·rw [if_neg (fun h => h3 h.1)]
  show (decide (kd = 1) || decide (kd = 2) || (decide (kd = 3) && _ && _)) = !decide (kd = 4)
  rw [decide_eq_false h1, decide_eq_false h2, decide_eq_false h3, decide_eq_true h4]; rfl
 ·rw [← gnone h1 h2 h3 h4] at h; cases h
theorem take_pln : ∀ (r pre : List StepL) (pl : List Bool), pl = plnN pre pre.length → (takeO fi fo pre pl r).1 = true → (takeO fi fo pre pl r).2.2 = plnN (pre ++ r) (pre ++ r).length
 | [], pre, pl, h, _ => by rw [List.append_nil]; exact h
 | s :: r, pre, pl, h, ht => by
  unfold takeO at ht ⊢
  by_cases h1 : okO fi s = true
  ·rw [if_pos h1] at ht ⊢
   by_cases h2 : goodO fi fo pre s = true
   ·rw [if_pos h2] at ht ⊢
    have ih := take_pln r (pre ++ [s]) (pl ++ [plainO pre pl s]) (by
     rw [lA_]
     show _ = plnN (pre ++ [s]) (pre.length + 1)
     unfold plnN
     rw [plnN_pre _ (Nat.le_refl _), ← h, gD_, aR_ (Nat.le_refl _), Nat.sub_self]
     show _ = pl ++ [plnS pl s]
     rw [pln_plain h2]) ht
    rw [ih, List.append_assoc]; rfl
   ·rw [if_neg h2] at ht; cases ht
  ·rw [if_neg h1] at ht; cases ht
theorem pln_take {l : List StepL} (h : stepsO fi fo l = true) : plnN l l.length = (takeO fi fo [] [] l).2.2 := (take_pln l [] [] rfl h).symm
theorem steps_all {l : List StepL} (h : stepsO fi fo l = true) : (takeO fi fo [] [] l).2.1 = l := takeO_pre h
theorem steps_at (o : OrdI fi) {l : List StepL} (h : stepsO fi fo l = true) {i : Nat} {s : StepL} (hs : l[i]? = some s) : nxG fi fo (l.take i) s = true := by
 rw [← stepsR_eq o] at h
 have hi := (gS_.1 hs).1
 have := all_range_from.1 h i hi
 have e : l = l.take i ++ s :: l.drop (i + 1) := by
  rw [← (gS_.1 hs).2, List.getElem_cons_drop, List.take_append_drop]
 have hl : (l.take i).length = i := by rw [lT_]; omega
 rw [← rgt_eq o (r := l.drop (i + 1)), ← e, hl]; exact this
theorem steps3 (o : OrdI fi) {l : List StepL} (h : stepsO fi fo l = true) : ∀ x ∈ l, x.1 = 3 → (0 ≤ x.2.2.2.1 ∧ x.2.2.2.1 < ((l.length : Nat) : Int)) ∧ 0 ≤ x.2.2.2.2 ∧ x.2.2.2.2 < ((l.length : Nat) : Int) := by
 intro x hx h3
 obtain ⟨i, hi⟩ := List.mem_iff_getElem?.1 hx
 have hg := (nx_iff.1 (steps_at o h hi)).2
 obtain ⟨kd, fr, to, sa, sb⟩ := x
 rw [g_3 h3] at hg
 have hl : ((l.take i).length) ≤ l.length := by rw [lT_]; omega
 have ha : (stpO (l.take i) sa).isSome = true := by
  cases hq : (stpO (l.take i) sa).isSome
  ·rw [t_no (.inl hq)] at hg; cases hg
  ·rfl
 have hb : (stpO (l.take i) sb).isSome = true := by
  cases hq : (stpO (l.take i) sb).isSome
  ·rw [t_no (.inr hq)] at hg; cases hg
  ·rfl
 have := stpO_rng ha
 have := stpO_rng hb
 show (0 ≤ sa ∧ sa < _) ∧ 0 ≤ sb ∧ sb < _
 omega
theorem steps4 {l : List StepL} (h : stepsO fi fo l = true) : ∀ x ∈ l, x.1 = 4 → 0 ≤ x.2.2.2.1 ∧ x.2.2.2.1 < ((l.length : Nat) : Int) := by
 have := takeO_rule (fi := fi) (fo := fo) (l := l) (pre := []) (pl := []) h (fun x hx => by cases hx)
 rw [steps_all h] at this
 exact this
theorem plain4 (o : OrdI fi) {l : List StepL} (h : stepsO fi fo l = true) {i : Nat} {s : StepL} (hs : l[i]? = some s) (h4 : s.1 = 4) : (plnN l l.length)[i]? = some false := by
 have hi := (gS_.1 hs).1
 have e : l = l.take (i + 1) ++ l.drop (i + 1) := (List.take_append_drop _ _).symm
 have key : ∀ n, i < n → n ≤ l.length → (plnN l n)[i]? = some false := by
  intro n
  induction n with
  | zero => intro h; omega
  | succ n ih =>
   intro h1 h2
   unfold plnN
   by_cases hn : i < n
   ·rw [aL_ (by rw [plnN_len]; exact hn)]; exact ih hn (by omega)
   ·have : i = n := by omega
    subst this
    rw [aR_ (by rw [plnN_len]; omega), plnN_len, Nat.sub_self, gD_, hs]
    show some (plnS (plnN l i) s) = some false
    unfold plnS
    rw [decide_eq_false (by omega : ¬ s.1 = 1), decide_eq_false (by omega : ¬ s.1 = 2), decide_eq_false (by omega : ¬ s.1 = 3)]; rfl
 exact key _ hi (Nat.le_refl _)
theorem bareR_f (o : OrdI fi) {l : List StepL} (h : stepsO fi fo l = true) : bareR l false = !((plnN l l.length).any (fun z_ => false == z_)) := by
 rw [Bool.eq_iff_iff]
 unfold bareR
 rw [all_range_from, plnN_len]
 simp only [Bool.not_eq_true', List.any_eq_false, beq_iff_eq]
 constructor
 ·intro hp x hx
  obtain ⟨i, hi⟩ := List.mem_iff_getElem?.1 hx
  have hil : i < l.length := by have := (gS_.1 hi).1; rwa [plnN_len] at this
  have := hp i hil
  unfold brS at this
  rw [Bool.or_eq_false_iff] at this
  have h1 := this.1
  rw [gD_, hi] at h1
  rintro rfl
  exact absurd h1 (by decide)
 ·intro hp i hi
  have hil : i < (plnN l l.length).length := by rw [plnN_len]; exact hi
  have hx := hp _ (List.getElem_mem hil)
  have hx' : (plnN l l.length)[i] = true := by cases hq : (plnN l l.length)[i] <;> simp_all
  unfold brS
  rw [Bool.or_eq_false_iff]
  constructor
  ·rw [gD_, gE_ hil, hx']; rfl
  ·have hsi := gE_ hi
   rw [show l.getD i zS = l[i] from by rw [gD_, hsi]; rfl]
   cases h4 : decide (l[i].1 = 4)
   ·rfl
   ·have := plain4 o h hsi (of_decide_eq_true h4)
    rw [gE_ hil, hx'] at this; cases this
theorem bareR_t {l : List StepL} : bareR l true = !(l.any (foundO (plnN l l.length))) := by
 rw [Bool.eq_iff_iff]
 unfold bareR
 rw [all_range_from, plnN_len]
 simp only [Bool.not_eq_true', List.any_eq_false]
 constructor
 ·intro hp x hx
  obtain ⟨i, hi⟩ := List.mem_iff_getElem?.1 hx
  have := hp i (gS_.1 hi).1
  unfold brS at this
  rw [gD_ (l := l), hi] at this
  unfold foundO
  simpa using this
 ·intro hp i hi
  have := hp _ (List.getElem_mem hi)
  unfold brS
  rw [show l.getD i zS = l[i] from by rw [gD_, gE_ hi]; rfl]
  unfold foundO at this
  simpa using this
theorem seen_step (wl kl : List Int) (s : StepL) : seenS wl kl s = withinO wl kl s := by
 unfold seenS withinO
 rw [hasJ_eq, hasJ_eq]
 by_cases h1 : s.1 = 1
 ·rw [decide_eq_true h1, decide_eq_false (by omega : ¬ s.1 = 4)]; rfl
 by_cases h2 : s.1 = 2
 ·rw [decide_eq_false h1, decide_eq_true h2, decide_eq_false (by omega : ¬ s.1 = 4)]; rfl
 rw [decide_eq_false h1, decide_eq_false h2]
 cases decide (s.1 = 4) <;> simp
theorem seenR_eq (o : OrdI fi) (l : List StepL) (t : Int) : seenR fi fo l t = wthO fi fo l t := by
 unfold seenR wthO
 rw [keptB_eq o, List.not_any_eq_all_not]
 congr 1; funext s; rw [seen_step]
theorem any_ne {l : List Int} : (!(l.any (fun x_ => !decide (x_ = -1)))) = l.all (fun x_ => decide (x_ = -1)) := by
 rw [List.not_any_eq_all_not]; congr 1; funext x; simp
theorem fields_eq {kd rd wa wb op fs sn : Int} (h : kd = 1 ∨ kd = 2 ∨ kd = 3 ∨ kd = 4 ∨ kd = 5 ∨ kd = 6 ∨ kd = 7) : fieldsO kd rd wa wb op fs sn = !((unnO kd rd wa wb op fs sn).any (fun x_ => !decide (x_ = -1))) := by
 rw [any_ne]
 unfold fieldsO isO
 rcases h with rfl | rfl | rfl | rfl | rfl | rfl | rfl <;>
  simp [namesO, unnO, ByteArray.data] <;> (try (cases decide (rd = -1) <;> cases decide (wa = -1) <;> cases decide (wb = -1) <;> cases decide (op = -1) <;> cases decide (fs = -1) <;> cases decide (sn = -1) <;> rfl))
end
end Go.Ew
namespace Go.Ew
abbrev h21 : HistL := [[(false, ⟨#[120]⟩, 1)]]
section
variable {fi : List ItemL} {fo : List Int} {l : List StepL}
theorem namesO_size {kd : Int} (h : 0 ≤ kd ∧ kd < 8) : (namesO kd).size ≤ 5 := by
 rcases (by omega : kd = 0 ∨ kd = 1 ∨ kd = 2 ∨ kd = 3 ∨ kd = 4 ∨ kd = 5 ∨ kd = 6 ∨ kd = 7) with rfl | rfl | rfl | rfl | rfl | rfl | rfl | rfl <;> decide
theorem inO_rng {i : Int} (h : inO fi i = true) : 0 ≤ i ∧ i < ((fi.length : Nat) : Int) := by
 unfold inO at h
 simpa only [bA_, decide_eq_true_eq] using h
theorem getD_nat {α : Type} {xs : List α} {j : Nat} {x z : α} (h : xs[((j : Nat) : Int).toNat]? = some x) : xs.getD j z = x := by
 rw [tN_] at h
 rw [gD_, h]; rfl
end
-- loops that ask all, or any
section
variable {α : Type} {l : List α} {p : α → Bool} {q : Nat → Bool} {j n : Nat} {x : α}
theorem any_hit (hx : l[((j : Nat) : Int).toNat]? = some x) (h : p x = true) : true = l.any p := by
 symm; rw [List.any_eq_true]; exact ⟨x, mG_ hx, h⟩
theorem any_end (hs : (l.take j).any p = false) (h : l.length ≤ j) : false = l.any p := by rw [List.take_of_length_le h] at hs; exact hs.symm
theorem allr_step (hs : (List.range j).all q = true) (h : q j = true) : (List.range (j + 1)).all q = true := by
 rw [List.range_succ, List.all_append, hs]; simp [h]
theorem allr_hit (hj : j < n) (h : q j = false) : false = (List.range n).all q := by
 symm; rw [List.all_eq_false]; exact ⟨j, List.mem_range.2 hj, by rw [h]; decide⟩
theorem allr_end (hs : (List.range j).all q = true) (h1 : j ≤ n) (h2 : n ≤ j) : true = (List.range n).all q := by
 rw [show n = j from by omega]; exact hs.symm
theorem alll_step (hs : (l.take j).all p = true) (hx : l[((j : Nat) : Int).toNat]? = some x) (h : p x = true) : (l.take (j + 1)).all p = true := all_take hx hs h
theorem alll_hit (hx : l[((j : Nat) : Int).toNat]? = some x) (h : p x = false) : false = l.all p := by
 symm; rw [List.all_eq_false]; exact ⟨x, mG_ hx, by rw [h]; decide⟩
theorem alll_end (hs : (l.take j).all p = true) (h : l.length ≤ j) : true = l.all p := by rw [List.take_of_length_le h] at hs; exact hs.symm
end
section
variable {l : List StepL} {j : Nat} {s : StepL} {ys : List Bool} {x : Bool}
theorem pln_get (hs : ys = plnN l j ++ List.replicate (l.length - j) false) {a : Nat} (hx : ys[a]? = some x) : (plnN l j).getD a false = x := by
 rw [hs] at hx
 rw [gD_]
 by_cases ha : a < (plnN l j).length
 ·rw [aL_ ha] at hx; rw [hx]; rfl
 ·rw [aR_ (by omega), List.getElem?_replicate] at hx
  rw [List.getElem?_eq_none (by omega)]
  split at hx
  ·exact Option.some.inj hx
  ·cases hx
theorem pln_set {v : Bool} (hs : ys = plnN l j ++ List.replicate (l.length - j) false) (hx : l[((j : Nat) : Int).toNat]? = some s) (hv : v = plnS (plnN l j) s) : ys.set ((j : Nat) : Int).toNat v = plnN l (j + 1) ++ List.replicate (l.length - (j + 1)) false := by
 rw [tN_] at hx ⊢
 have hj := (gS_.1 hx).1
 rw [hs, show l.length - j = (l.length - (j + 1)) + 1 from by omega, List.replicate_succ, List.set_append_right _ _ (by rw [plnN_len]; exact Nat.le_refl _), plnN_len, Nat.sub_self, List.set_cons_zero]
 show _ = (plnN l j ++ [plnS (plnN l j) (l.getD j zS)]) ++ _
 rw [gD_, hx, List.append_assoc, hv]; rfl
theorem pln_start : List.replicate l.length false = plnN l 0 ++ List.replicate (l.length - 0) false := rfl
theorem pln_end (hs : ys = plnN l j ++ List.replicate (l.length - j) false) (h1 : j ≤ l.length) (h2 : l.length ≤ j) : ys = plnN l l.length := by
 rw [hs, show j = l.length from by omega, Nat.sub_self, List.replicate_zero, List.append_nil]
theorem pln_ylen (hs : ys = plnN l j ++ List.replicate (l.length - j) false) (h1 : j ≤ l.length) : ys.length = l.length := by
 rw [hs, lA_, plnN_len, lR_]; omega
theorem kinds_rng {lv kd : Int} (h : hasJ (kindsR lv) kd = true) : kd = 1 ∨ kd = 2 ∨ kd = 3 ∨ kd = 4 ∨ kd = 5 ∨ kd = 6 ∨ kd = 7 := by
 unfold hasJ kindsR at h
 cases h1 : decide (lv = 1) <;> cases h2 : decide (lv = 2) <;> cases h3 : decide (lv = 3) <;> rw [h1, h2, h3] at h <;> simp at h <;> omega
end
section
variable {fi : List ItemL} {fo : List Int} {l : List StepL}
theorem holds_two (o : OrdI fi) (lv kd rd wa wb op fs sn : Int) : holdsR fi fo lv kd rd wa wb op l fs sn = holdsO fi fo lv kd rd wa wb op l fs sn := by
 unfold holdsR holdsO
 rw [← kindsR_eq, ← hasJ_eq]
 cases hk : hasJ (kindsR lv) kd
 ·rfl
 have hr := kinds_rng hk
 rw [fields_eq hr]
 cases hu : (unnO kd rd wa wb op fs sn).any (fun x_ => !decide (x_ = -1))
 case true => rfl
 rw [stepsR_eq o]
 cases hst : stepsO fi fo l
 ·rw [show (takeO fi fo [] [] l).1 = false from hst]; rfl
 rw [show (takeO fi fo [] [] l).1 = true from hst, steps_all hst, ← pln_take hst]
 simp only [Bool.not_true, Bool.not_false, cond_false, Bool.true_and]
 unfold patO
 rw [earlyR_eq, bareR_f o hst, bareR_t, seenR_eq o, keptB_eq o, hasJ_eq]
 simp only [say_all]
 rcases hr with rfl | rfl | rfl | rfl | rfl | rfl | rfl <;> simp only [decide_true, decide_false, cond_true, cond_false, op1_eq, Int.reduceEq]
 ·rw [other_comm wb wa, show (!(([rd, wa, wb] : List Int).any (outO fi))) = (inO fi rd && inO fi wa && inO fi wb) from by
   have e : (!(([rd, wa, wb] : List Int).any (outO fi))) = (!(([rd, wa] : List Int).any (outO fi)) && !(([wb] : List Int).any (outO fi))) := by
    simp only [List.any_cons, List.any_nil, Bool.or_false, Bool.not_or, Bool.and_assoc]
   rw [e, op_ok, op1_eq]]
  cases inO fi rd <;> cases inO fi wa <;> cases inO fi wb <;> cases decide (fo.getD rd.toNat 0 = wa) <;> cases otherO fi wa wb <;> rfl
 ·rw [op_ok]
end
end Go.Ew
namespace Go.Ew
open Go.RowKit Go.WideShapes Go.ChangeShapes
structure Bulk (B : (H : Type) → DataW H → Nat) : Prop where
 lit : ∀ (H : Type) l, 1 ≤ B H (.lit l)
 str : ∀ (H : Type) bs, bs.length + 1 ≤ B H (.lit (.string bs))
 nil : ∀ (H : Type), 1 ≤ B H .nil
 slice : ∀ (H : Type) (es sp : List (DataW H)), (es.map (B H)).sum + 1 ≤ B H (.slice es sp)
 agg : ∀ (H : Type) (ps : List (DataW H)), (ps.map (B H)).sum ≤ B H (.agg ps)
class Wt (α : Type) where
 wt : α → Nat
instance wtInt : Wt Int := ⟨fun _ => 1⟩
instance wtBV : Wt (BitVec 64) := ⟨fun _ => 1⟩
instance wtB8 : Wt (BitVec 8) := ⟨fun _ => 1⟩
instance wtBool : Wt Bool := ⟨fun _ => 1⟩
instance wtStr : Wt ByteArray := ⟨fun s => s.size + 1⟩
instance wtList {α : Type} [Wt α] : Wt (List α) := ⟨fun l => (l.map Wt.wt).sum + 1⟩
instance wtProd {α β : Type} [Wt α] [Wt β] : Wt (α × β) := ⟨fun x => Wt.wt x.1 + Wt.wt x.2⟩
theorem wt_len {α : Type} [Wt α] (h1 : ∀ x : α, 1 ≤ Wt.wt x) : ∀ l : List α, l.length ≤ (l.map Wt.wt).sum
 | [] => Nat.le_refl _
 | x :: l => by
  have := wt_len h1 l
  have := h1 x
  simp only [lC_, List.map_cons, List.sum_cons]; omega
theorem wt_flat {α : Type} [Wt α] (h1 : ∀ x : α, 1 ≤ Wt.wt x) : ∀ h : List (List α), h.flatten.length ≤ Wt.wt h := by
 intro h
 show _ ≤ (h.map Wt.wt).sum + 1
 induction h with
 | nil => simp
 | cons l h ih =>
  have := wt_len h1 l
  simp only [List.flatten_cons, lA_, List.map_cons, List.sum_cons]
  show _ ≤ ((l.map Wt.wt).sum + 1) + (h.map Wt.wt).sum + 1
  omega
theorem wt_prod {α β : Type} [Wt α] [Wt β] (h : ∀ x : β, 1 ≤ Wt.wt x) : ∀ x : α × β, 1 ≤ Wt.wt x := fun x => by
 have := h x.2
 show 1 ≤ Wt.wt x.1 + Wt.wt x.2
 omega
theorem wt_int : ∀ x : Int, 1 ≤ Wt.wt x := fun _ => Nat.le_refl _
def OpensB (B : (H : Type) → DataW H → Nat) (P : Program) (t : TypeId) (α : Type) [GT α] [Wt α] : Prop :=
 P.cellsOf t = GT.size α ∧ ∀ {H : Type} (enc : TypeId × Value → H) (W : World) (n : Nat) (cs : List Value) (x : DataW H × List MemPlace),
  DataW.trod enc P W 0 (fun _ => true) true n t cs = some x → ∃ y : α, GT.rep NoM W cs y ∧ Wt.wt y ≤ B H x.1
section
variable {P : Program} {t e : TypeId} {B : (H : Type) → DataW H → Nat}
theorem opensB_int (hB : Bulk B) (hc : P.cellsOf t = 1) (ht : P.underlying t = some (.int .i64)) : OpensB B P t Int := by
 refine ⟨hc, fun {H} enc W n cs x h => ?_⟩
 obtain ⟨k, rfl, rfl, hw⟩ := DataW.trod_int ht h
 exact ⟨k, ⟨rfl, bounds_i64 hw⟩, hB.lit H _⟩
theorem opensB_bool (hB : Bulk B) (hc : P.cellsOf t = 1) (ht : P.underlying t = some .bool) : OpensB B P t Bool := by
 refine ⟨hc, fun {H} enc W n cs x h => ?_⟩
 obtain ⟨k, rfl, rfl⟩ := DataW.trod_bool ht h
 exact ⟨k, rfl, hB.lit H _⟩
theorem opensB_string (hB : Bulk B) (hc : P.cellsOf t = 1) (ht : P.underlying t = some .string) : OpensB B P t ByteArray := by
 refine ⟨hc, fun {H} enc W n cs x h => ?_⟩
 obtain ⟨k, rfl, rfl, hk⟩ := DataW.trod_string ht h
 refine ⟨k, ⟨rfl, hk⟩, ?_⟩
 have := hB.str H k.data.toList
 rw [Array.length_toList] at this
 exact this
theorem wt_sum {α : Type} [Wt α] {D : Type} (g : D → Nat) : ∀ (l : List α) (es : List D), l.length = es.length → (∀ (i : Nat) (y : α) (x : D), l[i]? = some y → es[i]? = some x → Wt.wt y ≤ g x) → (l.map Wt.wt).sum ≤ (es.map g).sum
 | [], [], _, _ => Nat.le_refl _
 | [], _ :: _, h, _ => by simp at h
 | _ :: _, [], h, _ => by simp at h
 | y :: l, x :: es, h, k => by
  have h1 := wt_sum g l es (by simpa using h) fun i y x hy hx => k (i + 1) y x (by simpa using hy) (by simpa using hx)
  have h2 := k 0 y x rfl rfl
  simp only [List.map_cons, List.sum_cons]; omega
theorem opensB_slice {α : Type} [GT α] [Wt α] (hB : Bulk B) (hc : P.cellsOf t = 1) (ht : P.underlying t = some (.slice e)) (O : OpensB B P e α) : OpensB B P t (List α) := by
 refine ⟨hc, fun {H} enc W n cs x h => ?_⟩
 rcases DataW.trod_slice ht h with ⟨rfl, rfl⟩ | ⟨a, len, cap, elems, rest, m, rfl, rfl, rfl, -, hl, hm, hlen, hel, -, -⟩
 ·exact ⟨[], ⟨_, rfl, rs_nil _ _⟩, hB.nil H⟩
 ·have one : ∀ i, i < len → ∃ y : α, At NoM W (a.add (i * GT.size α)) y ∧ ∀ z, elems[i]? = some z → Wt.wt y ≤ B H z.1 := by
   intro i hi
   have h1 := hel i hi
   rw [gE_ (by omega : i < elems.length)] at h1
   simp only [Option.bind_eq_some_iff] at h1
   obtain ⟨ds, hd, hx⟩ := h1
   obtain ⟨y, hy, hw⟩ := O.2 enc W m ds _ hx
   rw [O.1] at hd
   refine ⟨y, ⟨ds, hy, fun h => h, cells_get hd⟩, fun z hz => ?_⟩
   rw [gE_ (by omega : i < elems.length)] at hz
   cases hz
   exact hw
  obtain ⟨l, hl1, hl2⟩ := choose_list (Q := fun i (y : α) => At NoM W (a.add (i * GT.size α)) y ∧ ∀ z, elems[i]? = some z → Wt.wt y ≤ B H z.1) len one
  refine ⟨l, ⟨_, rfl, some a, len, cap, rfl, hl1, hl, hm, ?_⟩, ?_⟩
  ·by_cases h0 : len = 0
   ·exact .inl h0
   ·exact .inr ⟨a, rfl, fun i y hy => (hl2 i y hy).1⟩
  ·have h1 := wt_sum (fun z : DataW H × List MemPlace => B H z.1) l elems (by omega) fun i y x hy hx => (hl2 i y hy).2 x hx
   have h2 := hB.slice H (elems.map (·.1)) (rest.map (·.1))
   rw [List.map_map] at h2
   show (l.map Wt.wt).sum + 1 ≤ _
   exact Nat.le_trans (Nat.add_le_add_right h1 1) h2
def OpensRB (B : (H : Type) → DataW H → Nat) (P : Program) (off total : Nat) (fs : List Field) (α : Type) [GT α] [Wt α] : Prop :=
 off + GT.size α = total ∧ ∀ {H : Type} (enc : TypeId × Value → H) (W : World) (n : Nat) (cs : List Value) (xs : List (DataW H × List MemPlace)), cs.length = total → xs.length = fs.length →
  (∀ (i : Nat) f, fs[i]? = some f → DataW.trod enc P W 0 (fun _ => true) true n f.type ((cs.drop f.offset).take (P.cellsOf f.type)) = xs[i]?) → ∃ y : α, GT.rep NoM W (cs.drop off) y ∧ Wt.wt y ≤ ((xs.map (·.1)).map (B H)).sum
theorem opensRB_one {α : Type} [GT α] [Wt α] {f : Field} {off total : Nat} (ho : f.offset = off) (O : OpensB B P f.type α) (hs : off + GT.size α = total) : OpensRB B P off total [f] α := by
 refine ⟨hs, fun {H} enc W n cs xs hl hx h => ?_⟩
 match xs, hx, h with
 | [x], _, h =>
  have h1 := h 0 f rfl
  obtain ⟨y, hy, hw⟩ := O.2 enc W n _ _ h1
  rw [O.1, ho, List.take_of_length_le (by simp; omega)] at hy
  exact ⟨y, hy, by simpa using hw⟩
theorem opensRB_cons {α β : Type} [GT α] [GT β] [Wt α] [Wt β] {f : Field} {fs : List Field} {off off' total : Nat} (ho : f.offset = off) (O : OpensB B P f.type α) (hs : off + GT.size α = off') (R : OpensRB B P off' total fs β) : OpensRB B P off total (f :: fs) (α × β) := by
 refine ⟨by rw [← R.1, ← hs]; show off + (GT.size α + GT.size β) = _; omega, fun {H} enc W n cs xs hl hx h => ?_⟩
 match xs, hx, h with
 | x :: xs, hx, h =>
  have h1 := h 0 f rfl
  obtain ⟨y, hy, hw⟩ := O.2 enc W n _ _ h1
  obtain ⟨z, hz, hv⟩ := R.2 enc W n cs xs hl (by simpa using hx) fun i g hg => h (i + 1) g (by simpa using hg)
  rw [O.1, ho] at hy
  refine ⟨(y, z), ⟨(cs.drop off).take (GT.size α), cs.drop off', ?_, hy, hz⟩, ?_⟩
  ·rw [← hs, ← List.drop_drop]
   exact (List.take_append_drop _ _).symm
  ·simp only [List.map_cons, List.sum_cons]
   exact Nat.add_le_add hw hv
theorem opensB_struct {α : Type} [GT α] [Wt α] {fs : Array Field} (hB : Bulk B) (ht : P.underlying t = some (.struct fs)) (hc : P.cellsOf t = GT.size α) (R : OpensRB B P 0 (P.cellsOf t) fs.toList α) : OpensB B P t α := by
 refine ⟨hc, fun {H} enc W n cs x h => ?_⟩
 obtain ⟨xs, m, rfl, rfl, hl, hx, hf⟩ := DataW.trod_struct ht h
 obtain ⟨y, hy, hw⟩ := R.2 enc W m cs xs hl (by simpa using hx) fun i f hf' => hf i f (by rw [← Array.getElem?_toList]; exact hf')
 exact ⟨y, by simpa using hy, Nat.le_trans hw (hB.agg H _)⟩
section
variable {H : Type} {enc : TypeId × Value → H} {W : World} {base : Nat} {v : Value} {d : DataW H} {ps : List MemPlace}
theorem topB_slice {α : Type} [GT α] [Wt α] (ht : P.underlying t = some (.slice e)) (O : OpensB B P t (List α)) (hv : Value.okWide P W .any base t v) (h : DataW.Trod enc P W 0 (fun _ => true) true t v d ps) :
  ∃ (y : List α) (a : Option Addr) (c : Nat), v = .slice a y.length c ∧ RV NoM W (.slice a y.length c) y ∧ Wt.wt y ≤ B H d := by
 obtain ⟨a, n, c, rfl⟩ := okWide_slice ht hv
 obtain ⟨m, h⟩ := h
 obtain ⟨y, hy, hw⟩ := O.2 enc W m _ _ h
 obtain ⟨a', c', e, hr⟩ := RS.explicit (RV.list.1 (⟨_, hy, rfl⟩ : RV NoM W (.slice a n c) y))
 injection e with e1 e2 e3
 subst e1 e2 e3
 exact ⟨y, a, c, rfl, hr, hw⟩
theorem topB_struct {α : Type} [GT α] [Wt α] {fs : Array Field} (ht : P.underlying t = some (.struct fs)) (ha : GT.agg α = true) (O : OpensB B P t α) (hv : Value.okWide P W .any base t v) (h : DataW.Trod enc P W 0 (fun _ => true) true t v d ps) : ∃ y : α, RV NoM W v y ∧ Wt.wt y ≤ B H d := by
 obtain ⟨y0, hy0⟩ := top_struct ht ha ⟨O.1, fun enc W n cs x h => by obtain ⟨y, hy, _⟩ := O.2 enc W n cs x h; exact ⟨y, hy⟩⟩ hv h
 obtain ⟨m, h⟩ := h
 obtain ⟨y, hy, hw⟩ := O.2 enc W m _ _ h
 obtain ⟨cs, hcs, hvc⟩ := hy0
 refine ⟨y, ⟨_, hy, ?_⟩, hw⟩
 rw [hvc, ha]
 rfl
end
end
end Go.Ew
