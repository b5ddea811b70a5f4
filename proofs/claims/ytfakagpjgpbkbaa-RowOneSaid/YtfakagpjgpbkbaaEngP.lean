/- Engine, part P: function values that are handed in; blocks that are only read; small words on lists. -/
import Derived.Test.YtfakagpjgpbkbaaEngO
namespace Go.Ew
open Go.RowKit
set_option linter.unusedVariables false
set_option linter.unusedSimpArgs false

/-- A block that is only read. -/
def ro (b : Nat) (cs : Array Value) (t : TypeId) : Item := ⟨none, fun M w => w.heap[b]? = some (.cells cs t (0, 0)) ∧ ¬ M b, fun h u _ => by
  have hb : b < _ := (Array.getElem?_eq_some_iff.1 h.1).1
  have := u.2 b hb h.2
  exact ⟨this.1.trans h.1, this.2⟩⟩

section
variable {P : Program} {n : Nat} {ops : Array Oper} {f : Slots} {w w0 w' : World} {K : Slots → World → Prop} {M0 : Nat → Prop} {l : List Item}
variable {d : Nat} {T ty e : TypeId} {ps : String} {af : Array Edge} {x y : Operand} {v : Value}

theorem ldR {bb off : Nat} {cs : Array Value} {t : TypeId} {k bytes : Nat} {agg : Bool} {z : Value} (H : HI M0 w0 w l) (i : Nat) (hi : l[i]? = some (ro bb cs t)) (F : TyF P T k agg bytes z) (ox : okT n x = true) (hx : ev f x = .pointer (some ⟨bb, off, none⟩))
    (hk : agg = false → k = 1) (hl : ((cs.toList.drop off).take k).length = k) (h : K (upd f d (mkv agg ((cs.toList.drop off).take k))) w) : SO P n ops ⟨some d, .load T x, ty, ps, af, none⟩ f w K := by
  have hb : w.heap[bb]? = some (.cells cs t (0, 0)) := (H.at_ i hi).1
  refine SO.value (v := mkv agg ((cs.toList.drop off).take k)) ?_ h
  have hc : ∀ j u, ((cs.toList.drop off).take k)[j]? = some u → w.cell? ((⟨bb, off, none⟩ : Addr).add j) = some u := by
    intro j u hu
    rw [show (⟨bb, off, none⟩ : Addr).add j = ⟨bb, off + j, none⟩ from by unfold Addr.add; split <;> simp_all, cell_of_row w bb (off + j) cs t (0, 0) hb]
    have hj : j < k := by
      have := (List.getElem?_eq_some_iff.1 hu).1
      omega
    rw [List.getElem?_take, if_pos hj, List.getElem?_drop] at hu
    simpa using hu
  simp [execOp, eval_acts ox, hx, Instr.loadAt, Instr.sureAddr, run_loadVar F hk hl hc]
end

/-- A function value over these data: it answers p, and writes nothing that was there. -/
def FP {α : Type} [GT α] (P : Program) (g : FuncId) (C : List Value) (M : Nat → Prop) (w : World) (xs : List α) (p : α → Bool) : Prop :=
  GoF P g ∧ ∀ w1 v x, x ∈ xs → Ext w w1 → RV M w1 v x → Calls P g ([v] ++ C).toArray w1 (Ret fun u w2 => u = .bool (p x) ∧ Ext w1 w2)
theorem FP.sub {α : Type} [GT α] {P : Program} {g : FuncId} {C : List Value} {M M' : Nat → Prop} {w w' : World} {xs : List α} {p : α → Bool} (h : FP P g C M w xs p) (e : Ext w w') (hM : ∀ b, M b → M' b) : FP P g C M' w' xs p :=
  ⟨h.1, fun w1 v x hx e' hv => h.2 w1 v x hx (e.trans e') (hv.lift (Up.less fun b _ hb => hM b hb))⟩
theorem MS_sub {M0 : Nat → Prop} {l : List Item} : ∀ b, M0 b → MS M0 l b := fun _ h => .inl h
theorem take_at {α : Type} {r : List α} {k : Nat} {x : α} (h : r[((k : Nat) : Int).toNat]? = some x) : r.take (k + 1) = r.take k ++ [x] := by
  rw [Int.toNat_natCast] at h
  rw [List.take_add_one, h]; rfl
theorem take_end {α : Type} {r : List α} {k : Nat} (h : r.length ≤ k) : r.take k = r := List.take_of_length_le h
theorem any_step {α : Type} {r : List α} {k : Nat} {x : α} {p : α → Bool} (h : r[((k : Nat) : Int).toNat]? = some x) (h1 : (r.take k).any p = false) (h2 : p x = false) : (r.take (k + 1)).any p = false := by
  rw [take_at h]; simp [h1, h2]
/-- Where p first holds. -/
def idxF {α : Type} (p : α → Bool) (r : List α) : Int := match r.findIdx? p with | some i => i | none => -1
theorem idxF_hit {α : Type} {r : List α} {k : Nat} {x : α} {p : α → Bool} (h : r[((k : Nat) : Int).toNat]? = some x) (h1 : (r.take k).any p = false) (h2 : p x = true) : (k : Int) = idxF p r := by
  rw [Int.toNat_natCast] at h
  obtain ⟨hk, hx⟩ := List.getElem?_eq_some_iff.1 h
  have : r.findIdx? p = some k := by
    rw [List.findIdx?_eq_some_iff_getElem]
    refine ⟨hk, by rw [hx]; exact h2, fun j hj => ?_⟩
    have hm : r[j] ∈ r.take k := by
      rw [List.mem_take_iff_getElem]
      exact ⟨j, by omega, rfl⟩
    have := List.any_eq_false.1 h1 _ hm
    simpa using this
  simp [idxF, this]
theorem idxF_miss {α : Type} {r : List α} {k : Nat} {p : α → Bool} (h1 : (r.take k).any p = false) (h2 : r.length ≤ k) : (-1 : Int) = idxF p r := by
  rw [take_end h2] at h1
  have : r.findIdx? p = none := by
    rw [List.findIdx?_eq_none_iff]
    intro x hx
    simpa using List.any_eq_false.1 h1 x hx
  simp [idxF, this]
theorem idxF_any {α : Type} {p : α → Bool} {r : List α} : decide ((0 : Int) ≤ idxF p r) = r.any p := by
  unfold idxF
  cases h : r.findIdx? p with
  | none =>
    rw [List.findIdx?_eq_none_iff] at h
    have : r.any p = false := List.any_eq_false.2 (by intro x hx; simp [h x hx])
    simp [this]
  | some i =>
    rw [List.findIdx?_eq_some_iff_getElem] at h
    obtain ⟨hi, hp, _⟩ := h
    have : r.any p = true := List.any_eq_true.2 ⟨_, List.getElem_mem hi, hp⟩
    simp [this]
theorem idxF_range {α : Type} {p : α → Bool} {r : List α} : -1 ≤ idxF p r ∧ idxF p r ≤ r.length := by
  unfold idxF
  cases h : r.findIdx? p with
  | none => simp only []; omega
  | some i =>
    rw [List.findIdx?_eq_some_iff_getElem] at h
    obtain ⟨hi, _⟩ := h
    simp only []; omega
theorem rv_len {α : Type} [GT α] {M : Nat → Prop} {w : World} {a : Option Addr} {n c : Nat} {xs : List α} (h : RV M w (.slice a n c) xs) : xs.length ≤ 9223372036854775807 := by
  obtain ⟨a', m, c', e, h2, h3, h4, -⟩ := RV.list.1 h
  injection e with e1 e2 e3
  unfold maxLen at h4
  omega
end Go.Ew
