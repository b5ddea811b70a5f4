/- Engine, part U: how much that which came in holds. -/
import Derived.Test.YtmhopljngkgidaaDoorEngQ
import Derived.JoinedCond
namespace Go.Ew
open Go.RowKit Go.WideShapes Go.ChangeShapes
set_option linter.unusedVariables false
set_option linter.unusedSimpArgs false

/-- A count of what a reading holds: each value and each letter counts. -/
structure Bulk (B : (H : Type) → DataW H → Nat) : Prop where
  lit : ∀ (H : Type) l, 1 ≤ B H (.lit l)
  str : ∀ (H : Type) bs, bs.length + 1 ≤ B H (.lit (.string bs))
  nil : ∀ (H : Type), 1 ≤ B H .nil
  slice : ∀ (H : Type) (es sp : List (DataW H)), (es.map (B H)).sum + 1 ≤ B H (.slice es sp)
  agg : ∀ (H : Type) (ps : List (DataW H)), (ps.map (B H)).sum ≤ B H (.agg ps)

/-- What data of a kind counts. -/
class Wt (α : Type) where
  wt : α → Nat
instance wtInt : Wt Int := ⟨fun _ => 1⟩
instance wtBV : Wt (BitVec 64) := ⟨fun _ => 1⟩
instance wtB8 : Wt (BitVec 8) := ⟨fun _ => 1⟩
instance wtBool : Wt Bool := ⟨fun _ => 1⟩
instance wtStr : Wt ByteArray := ⟨fun s => s.size + 1⟩
instance wtList {α : Type} [Wt α] : Wt (List α) := ⟨fun l => (l.map Wt.wt).sum + 1⟩
instance wtProd {α β : Type} [Wt α] [Wt β] : Wt (α × β) := ⟨fun x => Wt.wt x.1 + Wt.wt x.2⟩

theorem wt_len {α : Type} [Wt α] (h1 : ∀ x : α, 1 ≤ Wt.wt x) : ∀ l : List α, l.length ≤ (l.map Wt.wt).sum
  | [] => Nat.le_refl _
  | x :: l => by
    have := wt_len h1 l
    have := h1 x
    simp only [List.length_cons, List.map_cons, List.sum_cons]; omega
theorem wt_flat {α : Type} [Wt α] (h1 : ∀ x : α, 1 ≤ Wt.wt x) : ∀ h : List (List α), h.flatten.length ≤ Wt.wt h := by
  intro h
  show _ ≤ (h.map Wt.wt).sum + 1
  induction h with
  | nil => simp
  | cons l h ih =>
    have := wt_len h1 l
    simp only [List.flatten_cons, List.length_append, List.map_cons, List.sum_cons]
    show _ ≤ ((l.map Wt.wt).sum + 1) + (h.map Wt.wt).sum + 1
    omega
theorem wt_prod {α β : Type} [Wt α] [Wt β] (h : ∀ x : β, 1 ≤ Wt.wt x) : ∀ x : α × β, 1 ≤ Wt.wt x := fun x => by
  have := h x.2
  show 1 ≤ Wt.wt x.1 + Wt.wt x.2
  omega
theorem wt_int : ∀ x : Int, 1 ≤ Wt.wt x := fun _ => Nat.le_refl _

/-- What a reading through these cells meets is data of the kind, that counts no more than the reading. -/
def OpensB (B : (H : Type) → DataW H → Nat) (P : Program) (t : TypeId) (α : Type) [GT α] [Wt α] : Prop :=
  P.cellsOf t = GT.size α ∧ ∀ {H : Type} (enc : TypeId × Value → H) (W : World) (n : Nat) (cs : List Value) (x : DataW H × List MemPlace),
    DataW.trod enc P W 0 (fun _ => true) true n t cs = some x → ∃ y : α, GT.rep NoM W cs y ∧ Wt.wt y ≤ B H x.1

section
variable {P : Program} {t e : TypeId} {B : (H : Type) → DataW H → Nat}
theorem opensB_int (hB : Bulk B) (hc : P.cellsOf t = 1) (ht : P.underlying t = some (.int .i64)) : OpensB B P t Int := by
  refine ⟨hc, fun {H} enc W n cs x h => ?_⟩
  obtain ⟨k, rfl, rfl, hw⟩ := DataW.trod_int ht h
  exact ⟨k, ⟨rfl, bounds_i64 hw⟩, hB.lit H _⟩
theorem opensB_u64 (hB : Bulk B) (hc : P.cellsOf t = 1) (ht : P.underlying t = some (.int .u64)) : OpensB B P t (BitVec 64) := by
  refine ⟨hc, fun {H} enc W n cs x h => ?_⟩
  obtain ⟨y, hy⟩ := (opens_u64 hc ht).2 enc W n cs x h
  obtain ⟨k, rfl, rfl, -⟩ := DataW.trod_int ht h
  exact ⟨y, hy, hB.lit H _⟩
theorem opensB_u8 (hB : Bulk B) (hc : P.cellsOf t = 1) (ht : P.underlying t = some (.int .u8)) : OpensB B P t (BitVec 8) := by
  refine ⟨hc, fun {H} enc W n cs x h => ?_⟩
  obtain ⟨y, hy⟩ := (opens_u8 hc ht).2 enc W n cs x h
  obtain ⟨k, rfl, rfl, -⟩ := DataW.trod_int ht h
  exact ⟨y, hy, hB.lit H _⟩
theorem opensB_bool (hB : Bulk B) (hc : P.cellsOf t = 1) (ht : P.underlying t = some .bool) : OpensB B P t Bool := by
  refine ⟨hc, fun {H} enc W n cs x h => ?_⟩
  obtain ⟨k, rfl, rfl⟩ := DataW.trod_bool ht h
  exact ⟨k, rfl, hB.lit H _⟩
theorem opensB_string (hB : Bulk B) (hc : P.cellsOf t = 1) (ht : P.underlying t = some .string) : OpensB B P t ByteArray := by
  refine ⟨hc, fun {H} enc W n cs x h => ?_⟩
  obtain ⟨k, rfl, rfl, hk⟩ := DataW.trod_string ht h
  refine ⟨k, ⟨rfl, hk⟩, ?_⟩
  have := hB.str H k.data.toList
  rw [Array.length_toList] at this
  exact this
theorem wt_sum {α : Type} [Wt α] {D : Type} (g : D → Nat) : ∀ (l : List α) (es : List D), l.length = es.length → (∀ (i : Nat) (y : α) (x : D), l[i]? = some y → es[i]? = some x → Wt.wt y ≤ g x) → (l.map Wt.wt).sum ≤ (es.map g).sum
  | [], [], _, _ => Nat.le_refl _
  | [], _ :: _, h, _ => by simp at h
  | _ :: _, [], h, _ => by simp at h
  | y :: l, x :: es, h, k => by
    have h1 := wt_sum g l es (by simpa using h) fun i y x hy hx => k (i + 1) y x (by simpa using hy) (by simpa using hx)
    have h2 := k 0 y x rfl rfl
    simp only [List.map_cons, List.sum_cons]; omega
theorem opensB_slice {α : Type} [GT α] [Wt α] (hB : Bulk B) (hc : P.cellsOf t = 1) (ht : P.underlying t = some (.slice e)) (O : OpensB B P e α) : OpensB B P t (List α) := by
  refine ⟨hc, fun {H} enc W n cs x h => ?_⟩
  rcases DataW.trod_slice ht h with ⟨rfl, rfl⟩ | ⟨a, len, cap, elems, rest, m, rfl, rfl, rfl, -, hl, hm, hlen, hel, -, -⟩
  · exact ⟨[], ⟨_, rfl, rs_nil _ _⟩, hB.nil H⟩
  · have one : ∀ i, i < len → ∃ y : α, At NoM W (a.add (i * GT.size α)) y ∧ ∀ z, elems[i]? = some z → Wt.wt y ≤ B H z.1 := by
      intro i hi
      have h1 := hel i hi
      rw [List.getElem?_eq_getElem (by omega : i < elems.length)] at h1
      simp only [Option.bind_eq_some_iff] at h1
      obtain ⟨ds, hd, hx⟩ := h1
      obtain ⟨y, hy, hw⟩ := O.2 enc W m ds _ hx
      rw [O.1] at hd
      refine ⟨y, ⟨ds, hy, fun h => h, cells_get hd⟩, fun z hz => ?_⟩
      rw [List.getElem?_eq_getElem (by omega : i < elems.length)] at hz
      cases hz
      exact hw
    obtain ⟨l, hl1, hl2⟩ := choose_list (Q := fun i (y : α) => At NoM W (a.add (i * GT.size α)) y ∧ ∀ z, elems[i]? = some z → Wt.wt y ≤ B H z.1) len one
    refine ⟨l, ⟨_, rfl, some a, len, cap, rfl, hl1, hl, hm, ?_⟩, ?_⟩
    · by_cases h0 : len = 0
      · exact .inl h0
      · exact .inr ⟨a, rfl, fun i y hy => (hl2 i y hy).1⟩
    · have h1 := wt_sum (fun z : DataW H × List MemPlace => B H z.1) l elems (by omega) fun i y x hy hx => (hl2 i y hy).2 x hx
      have h2 := hB.slice H (elems.map (·.1)) (rest.map (·.1))
      rw [List.map_map] at h2
      show (l.map Wt.wt).sum + 1 ≤ _
      exact Nat.le_trans (Nat.add_le_add_right h1 1) h2
/-- The fields from off on, of total cells. -/
def OpensRB (B : (H : Type) → DataW H → Nat) (P : Program) (off total : Nat) (fs : List Field) (α : Type) [GT α] [Wt α] : Prop :=
  off + GT.size α = total ∧ ∀ {H : Type} (enc : TypeId × Value → H) (W : World) (n : Nat) (cs : List Value) (xs : List (DataW H × List MemPlace)), cs.length = total → xs.length = fs.length →
    (∀ (i : Nat) f, fs[i]? = some f → DataW.trod enc P W 0 (fun _ => true) true n f.type ((cs.drop f.offset).take (P.cellsOf f.type)) = xs[i]?) → ∃ y : α, GT.rep NoM W (cs.drop off) y ∧ Wt.wt y ≤ ((xs.map (·.1)).map (B H)).sum
theorem opensRB_one {α : Type} [GT α] [Wt α] {f : Field} {off total : Nat} (ho : f.offset = off) (O : OpensB B P f.type α) (hs : off + GT.size α = total) : OpensRB B P off total [f] α := by
  refine ⟨hs, fun {H} enc W n cs xs hl hx h => ?_⟩
  match xs, hx, h with
  | [x], _, h =>
    have h1 := h 0 f rfl
    obtain ⟨y, hy, hw⟩ := O.2 enc W n _ _ h1
    rw [O.1, ho, List.take_of_length_le (by simp; omega)] at hy
    exact ⟨y, hy, by simpa using hw⟩
theorem opensRB_cons {α β : Type} [GT α] [GT β] [Wt α] [Wt β] {f : Field} {fs : List Field} {off off' total : Nat} (ho : f.offset = off) (O : OpensB B P f.type α) (hs : off + GT.size α = off') (R : OpensRB B P off' total fs β) : OpensRB B P off total (f :: fs) (α × β) := by
  refine ⟨by rw [← R.1, ← hs]; show off + (GT.size α + GT.size β) = _; omega, fun {H} enc W n cs xs hl hx h => ?_⟩
  match xs, hx, h with
  | x :: xs, hx, h =>
    have h1 := h 0 f rfl
    obtain ⟨y, hy, hw⟩ := O.2 enc W n _ _ h1
    obtain ⟨z, hz, hv⟩ := R.2 enc W n cs xs hl (by simpa using hx) fun i g hg => h (i + 1) g (by simpa using hg)
    rw [O.1, ho] at hy
    refine ⟨(y, z), ⟨(cs.drop off).take (GT.size α), cs.drop off', ?_, hy, hz⟩, ?_⟩
    · rw [← hs, ← List.drop_drop]
      exact (List.take_append_drop _ _).symm
    · simp only [List.map_cons, List.sum_cons]
      exact Nat.add_le_add hw hv
theorem opensB_struct {α : Type} [GT α] [Wt α] {fs : Array Field} (hB : Bulk B) (ht : P.underlying t = some (.struct fs)) (hc : P.cellsOf t = GT.size α) (R : OpensRB B P 0 (P.cellsOf t) fs.toList α) : OpensB B P t α := by
  refine ⟨hc, fun {H} enc W n cs x h => ?_⟩
  obtain ⟨xs, m, rfl, rfl, hl, hx, hf⟩ := DataW.trod_struct ht h
  obtain ⟨y, hy, hw⟩ := R.2 enc W m cs xs hl (by simpa using hx) fun i f hf' => hf i f (by rw [← Array.getElem?_toList]; exact hf')
  exact ⟨y, by simpa using hy, Nat.le_trans hw (hB.agg H _)⟩
theorem opensB_array2 {α : Type} [GT α] [Wt α] (hB : Bulk B) (ht : P.underlying t = some (.array 2 e)) (hc : P.cellsOf t = GT.size α + GT.size α) (O : OpensB B P e α) : OpensB B P t (α × α) := by
  refine ⟨hc, fun {H} enc W n cs x h => ?_⟩
  obtain ⟨xs, m, rfl, rfl, hl, hx, hf⟩ := DataW.trod_array ht h
  match xs, hx, hf with
  | [x0, x1], _, hf =>
    have h0 := hf 0 (by omega)
    have h1 := hf 1 (by omega)
    rw [O.1] at h0 h1
    obtain ⟨y, hy, hv⟩ := O.2 enc W m _ _ h0
    obtain ⟨z, hz, hw⟩ := O.2 enc W m _ _ h1
    rw [Nat.zero_mul, List.drop_zero] at hy
    rw [Nat.one_mul, List.take_of_length_le (by simp; omega)] at hz
    refine ⟨(y, z), ⟨_, _, (List.take_append_drop _ _).symm, hy, hz⟩, Nat.le_trans ?_ (hB.agg H _)⟩
    simp only [List.map_cons, List.map_nil, List.sum_cons, List.sum_nil]
    exact Nat.add_le_add hv (by simpa using hw)

section
variable {H : Type} {enc : TypeId × Value → H} {W : World} {base : Nat} {v : Value} {d : DataW H} {ps : List MemPlace}
theorem topB_slice {α : Type} [GT α] [Wt α] (ht : P.underlying t = some (.slice e)) (O : OpensB B P t (List α)) (hv : Value.okWide P W .any base t v) (h : DataW.Trod enc P W 0 (fun _ => true) true t v d ps) :
    ∃ (y : List α) (a : Option Addr) (c : Nat), v = .slice a y.length c ∧ RV NoM W (.slice a y.length c) y ∧ Wt.wt y ≤ B H d := by
  obtain ⟨a, n, c, rfl⟩ := okWide_slice ht hv
  obtain ⟨m, h⟩ := h
  obtain ⟨y, hy, hw⟩ := O.2 enc W m _ _ h
  obtain ⟨a', c', e, hr⟩ := RS.explicit (RV.list.1 (⟨_, hy, rfl⟩ : RV NoM W (.slice a n c) y))
  injection e with e1 e2 e3
  subst e1 e2 e3
  exact ⟨y, a, c, rfl, hr, hw⟩
theorem topB_struct {α : Type} [GT α] [Wt α] {fs : Array Field} (ht : P.underlying t = some (.struct fs)) (ha : GT.agg α = true) (O : OpensB B P t α) (hv : Value.okWide P W .any base t v) (h : DataW.Trod enc P W 0 (fun _ => true) true t v d ps) : ∃ y : α, RV NoM W v y ∧ Wt.wt y ≤ B H d := by
  obtain ⟨y0, hy0⟩ := top_struct ht ha ⟨O.1, fun enc W n cs x h => by obtain ⟨y, hy, _⟩ := O.2 enc W n cs x h; exact ⟨y, hy⟩⟩ hv h
  obtain ⟨m, h⟩ := h
  obtain ⟨y, hy, hw⟩ := O.2 enc W m _ _ h
  obtain ⟨cs, hcs, hvc⟩ := hy0
  refine ⟨y, ⟨_, hy, ?_⟩, hw⟩
  rw [hvc, ha]
  rfl
end
end
end Go.Ew
