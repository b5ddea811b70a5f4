/- Engine, part P: function values that are handed in; blocks that are only read; small words on lists. -/
import Derived.Test.YtmhopljngkgidaaDoorEngO
namespace Go.Ew
open Go.RowKit
set_option linter.unusedVariables false
set_option linter.unusedSimpArgs false

/-- A block that is only read. -/
def ro (b : Nat) (cs : Array Value) (t : TypeId) : Item := ⟨none, fun M w => w.heap[b]? = some (.cells cs t (0, 0)) ∧ ¬ M b, fun h u _ => by
  have hb : b < _ := (Array.getElem?_eq_some_iff.1 h.1).1
  have := u.2 b hb h.2
  exact ⟨this.1.trans h.1, this.2⟩⟩

section
variable {P : Program} {n : Nat} {ops : Array Oper} {f : Slots} {w w0 w' : World} {K : Slots → World → Prop} {M0 : Nat → Prop} {l : List Item}
variable {d : Nat} {T ty e : TypeId} {ps : String} {af : Array Edge} {x y : Operand} {v : Value}

theorem ldR {bb off : Nat} {cs : Array Value} {t : TypeId} {k bytes : Nat} {agg : Bool} {z : Value} (H : HI M0 w0 w l) (i : Nat) (hi : l[i]? = some (ro bb cs t)) (F : TyF P T k agg bytes z) (ox : okT n x = true) (hx : ev f x = .pointer (some ⟨bb, off, none⟩))
    (hk : agg = false → k = 1) (hl : ((cs.toList.drop off).take k).length = k) (h : K (upd f d (mkv agg ((cs.toList.drop off).take k))) w) : SO P n ops ⟨some d, .load T x, ty, ps, af, none⟩ f w K := by
  have hb : w.heap[bb]? = some (.cells cs t (0, 0)) := (H.at_ i hi).1
  refine SO.value (v := mkv agg ((cs.toList.drop off).take k)) ?_ h
  have hc : ∀ j u, ((cs.toList.drop off).take k)[j]? = some u → w.cell? ((⟨bb, off, none⟩ : Addr).add j) = some u := by
    intro j u hu
    rw [show (⟨bb, off, none⟩ : Addr).add j = ⟨bb, off + j, none⟩ from by unfold Addr.add; split <;> simp_all, cell_of_row w bb (off + j) cs t (0, 0) hb]
    have hj : j < k := by
      have := (List.getElem?_eq_some_iff.1 hu).1
      omega
    rw [List.getElem?_take, if_pos hj, List.getElem?_drop] at hu
    simpa using hu
  simp [execOp, eval_acts ox, hx, Instr.loadAt, Instr.sureAddr, run_loadVar F hk hl hc]
end

/-- A function value over these data: it answers p, and writes nothing that was there. -/
def FP {α : Type} [GT α] (P : Program) (g : FuncId) (C : List Value) (M : Nat → Prop) (w : World) (xs : List α) (p : α → Bool) : Prop :=
  GoF P g ∧ ∀ w1 v x, x ∈ xs → Ext w w1 → RV M w1 v x → Calls P g ([v] ++ C).toArray w1 (Ret fun u w2 => u = .bool (p x) ∧ Ext w1 w2)
theorem FP.sub {α : Type} [GT α] {P : Program} {g : FuncId} {C : List Value} {M M' : Nat → Prop} {w w' : World} {xs : List α} {p : α → Bool} (h : FP P g C M w xs p) (e : Ext w w') (hM : ∀ b, M b → M' b) : FP P g C M' w' xs p :=
  ⟨h.1, fun w1 v x hx e' hv => h.2 w1 v x hx (e.trans e') (hv.lift (Up.less fun b _ hb => hM b hb))⟩
theorem MS_sub {M0 : Nat → Prop} {l : List Item} : ∀ b, M0 b → MS M0 l b := fun _ h => .inl h
theorem take_at {α : Type} {r : List α} {k : Nat} {x : α} (h : r[((k : Nat) : Int).toNat]? = some x) : r.take (k + 1) = r.take k ++ [x] := by
  rw [Int.toNat_natCast] at h
  rw [List.take_add_one, h]; rfl
theorem take_end {α : Type} {r : List α} {k : Nat} (h : r.length ≤ k) : r.take k = r := List.take_of_length_le h
theorem any_step {α : Type} {r : List α} {k : Nat} {x : α} {p : α → Bool} (h : r[((k : Nat) : Int).toNat]? = some x) (h1 : (r.take k).any p = false) (h2 : p x = false) : (r.take (k + 1)).any p = false := by
  rw [take_at h]; simp [h1, h2]
/-- Where p first holds. -/
def idxF {α : Type} (p : α → Bool) (r : List α) : Int := match r.findIdx? p with | some i => i | none => -1
theorem idxF_hit {α : Type} {r : List α} {k : Nat} {x : α} {p : α → Bool} (h : r[((k : Nat) : Int).toNat]? = some x) (h1 : (r.take k).any p = false) (h2 : p x = true) : (k : Int) = idxF p r := by
  rw [Int.toNat_natCast] at h
  obtain ⟨hk, hx⟩ := List.getElem?_eq_some_iff.1 h
  have : r.findIdx? p = some k := by
    rw [List.findIdx?_eq_some_iff_getElem]
    refine ⟨hk, by rw [hx]; exact h2, fun j hj => ?_⟩
    have hm : r[j] ∈ r.take k := by
      rw [List.mem_take_iff_getElem]
      exact ⟨j, by omega, rfl⟩
    have := List.any_eq_false.1 h1 _ hm
    simpa using this
  simp [idxF, this]
theorem idxF_miss {α : Type} {r : List α} {k : Nat} {p : α → Bool} (h1 : (r.take k).any p = false) (h2 : r.length ≤ k) : (-1 : Int) = idxF p r := by
  rw [take_end h2] at h1
  have : r.findIdx? p = none := by
    rw [List.findIdx?_eq_none_iff]
    intro x hx
    simpa using List.any_eq_false.1 h1 x hx
  simp [idxF, this]
theorem idxF_any {α : Type} {p : α → Bool} {r : List α} : decide ((0 : Int) ≤ idxF p r) = r.any p := by
  unfold idxF
  cases h : r.findIdx? p with
  | none =>
    rw [List.findIdx?_eq_none_iff] at h
    have : r.any p = false := List.any_eq_false.2 (by intro x hx; simp [h x hx])
    simp [this]
  | some i =>
    rw [List.findIdx?_eq_some_iff_getElem] at h
    obtain ⟨hi, hp, _⟩ := h
    have : r.any p = true := List.any_eq_true.2 ⟨_, List.getElem_mem hi, hp⟩
    simp [this]
theorem idxF_range {α : Type} {p : α → Bool} {r : List α} : -1 ≤ idxF p r ∧ idxF p r ≤ r.length := by
  unfold idxF
  cases h : r.findIdx? p with
  | none => simp only []; omega
  | some i =>
    rw [List.findIdx?_eq_some_iff_getElem] at h
    obtain ⟨hi, _⟩ := h
    simp only []; omega
theorem rv_len {α : Type} [GT α] {M : Nat → Prop} {w : World} {a : Option Addr} {n c : Nat} {xs : List α} (h : RV M w (.slice a n c) xs) : xs.length ≤ 9223372036854775807 := by
  obtain ⟨a', m, c', e, h2, h3, h4, -⟩ := RV.list.1 h
  injection e with e1 e2 e3
  unfold maxLen at h4
  omega
/-- A slice of the call's own; what its elements point to lies outside M and outside the slice itself. -/
def OwnsG {α : Type} [GT α] (M : Nat → Prop) (e : TypeId) (w0 : World) (xs : List α) (v : Value) (w : World) : Prop :=
  Ext w0 w ∧ (∀ b, v.ownBlock = some b → b < w.heap.size) ∧ (own w0.heap.size e v xs).holds (fun b => M b ∨ v.ownBlock = some b) w
section
variable {M0 : Nat → Prop} {w0 w w' : World} {l : List Item} {α : Type} [GT α] {v : Value} {xs : List α} {e : TypeId}
theorem HI.ownsG (H : HI M0 w0 w l) (h : OwnsG (MS M0 l) e w xs v w') : HI M0 w0 w' (own w0.heap.size e v xs :: l) := by
  obtain ⟨hx, hb, cs, h1, h2⟩ := h
  have hown : ∀ (B : Nat), B ≤ w.heap.size → w'.ownsRow B e (GT.size α) v xs.length cs := by
    intro B hB
    refine ⟨h1.1, ?_⟩
    rcases h1.2 with h3 | ⟨g, cap, cur, rfl, h3, h4⟩
    · exact .inl h3
    · exact .inr ⟨g, cap, cur, rfl, Nat.le_trans hB h3, h4⟩
  have hge : ∀ b, v.ownBlock = some b → w.heap.size ≤ b := fun b hvb => (h1.lt b hvb).1
  cases hv : v.ownBlock with
  | none =>
    refine (H.ext hx).put hv ⟨cs, hown _ H.below.size, Chunks.lift (Up.less ?_) h2⟩
    intro b hbl hM
    exact .inl hM
  | some b =>
    refine H.new hx b hv (hge b hv) (hb b hv) ⟨cs, hown _ H.below.size, Chunks.lift (Up.less ?_) h2⟩
    rintro c hc (hM | ⟨it, hit, hitc⟩)
    · exact .inl (.inl hM)
    · rcases List.mem_cons.1 hit with rfl | hit
      · exact .inr hitc
      · exact .inl (.inr ⟨it, hit, hitc⟩)
theorem HI.ownsG_out (H : HI M0 w0 w l) (i : Nat) (hi : l[i]? = some (own w0.heap.size e v xs)) : OwnsG M0 e w0 xs v w := by
  obtain ⟨cs, h1, h2⟩ := H.at_ i hi
  refine ⟨H.below, fun b hb => (own_blk_lt H hi b hb).2, cs, h1, Chunks.lift (Up.less ?_) h2⟩
  rintro b _ (hM | hb)
  · exact .inl hM
  · exact .inr ⟨_, List.mem_of_getElem? hi, hb⟩
theorem ownsG_nil {M : Nat → Prop} (h : Ext w0 w) : OwnsG M e w0 ([] : List α) (.slice none 0 0) w := ⟨h, fun b hb => (by cases hb), [], World.ownsRow_nil w _ e _, rfl⟩
theorem OwnsG.rv {M : Nat → Prop} (h : OwnsG M e w xs v w') (hM : ∀ b, M b → b < w.heap.size) : RV M w' v xs := by
  obtain ⟨_, hb, ho⟩ := h
  refine own_seg ho (fun b _ hb' => .inl hb') (fun b hvb hMb => ?_)
  obtain ⟨cs, h1, _⟩ := ho
  have := (h1.lt b hvb).1
  have := hM b hMb
  omega
end
section
variable {α : Type} {β : Type} {γ : Type} {δ : Type} {ε : Type} {ζ : Type} {V : Type} {a a' : α} {b b' : β} {c c' : γ} {d d' : δ} {e e' : ε} {z z' : ζ}
theorem cg1 (f : α → V) (h1 : a = a') : f a = f a' := by rw [h1]
theorem cg2 (f : α → β → V) (h1 : a = a') (h2 : b = b') : f a b = f a' b' := by rw [h1, h2]
theorem cg3 (f : α → β → γ → V) (h1 : a = a') (h2 : b = b') (h3 : c = c') : f a b c = f a' b' c' := by rw [h1, h2, h3]
theorem cg4 (f : α → β → γ → δ → V) (h1 : a = a') (h2 : b = b') (h3 : c = c') (h4 : d = d') : f a b c d = f a' b' c' d' := by rw [h1, h2, h3, h4]
theorem cg5 (f : α → β → γ → δ → ε → V) (h1 : a = a') (h2 : b = b') (h3 : c = c') (h4 : d = d') (h5 : e = e') : f a b c d e = f a' b' c' d' e' := by rw [h1, h2, h3, h4, h5]
theorem cg6 (f : α → β → γ → δ → ε → ζ → V) (h1 : a = a') (h2 : b = b') (h3 : c = c') (h4 : d = d') (h5 : e = e') (h6 : z = z') : f a b c d e z = f a' b' c' d' e' z' := by rw [h1, h2, h3, h4, h5, h6]
end
theorem rv_drop {α : Type} [GT α] {M0 : Nat → Prop} {l : List Item} {it : Item} {w : World} {v : Value} {x : α} (hn : it.blk = none) (h : RV (MS M0 (it :: l)) w v x) : RV (MS M0 l) w v x := by rwa [MS_cons_none hn] at h
theorem atw_drop {α : Type} [GT α] {M0 : Nat → Prop} {l : List Item} {it : Item} {w : World} {ad : Addr} {x : α} (hn : it.blk = none) (h : AtW (MS M0 (it :: l)) w ad x) : AtW (MS M0 l) w ad x := by rwa [MS_cons_none hn] at h
theorem at_drop {α : Type} [GT α] {M0 : Nat → Prop} {l : List Item} {it : Item} {w : World} {ad : Addr} {x : α} (hn : it.blk = none) (h : At (MS M0 (it :: l)) w ad x) : At (MS M0 l) w ad x := by rwa [MS_cons_none hn] at h
end Go.Ew
