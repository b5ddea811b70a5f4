/- Engine, part Q: the ends of a row: what came in is read as plain data; what was there reads again as it did. -/
import Derived.Test.YtmhopljngkgidaaDoorEngP
import Derived.WalkKit
import Derived.ProofKit
import Derived.OpenShut
import Derived.ReadAgain
import Derived.ChangeStays
import Derived.Below
import Derived.ChangeSame
namespace Go.Ew
open Go.RowKit Go.WideShapes Go.ChangeShapes
set_option linter.unusedVariables false
set_option linter.unusedSimpArgs false

/-- No block is barred. -/
abbrev NoM : Nat → Prop := fun _ => False

/-- What a reading through these cells of type t meets is data of the kind α. -/
def Opens (P : Program) (t : TypeId) (α : Type) [GT α] : Prop :=
  P.cellsOf t = GT.size α ∧ ∀ {H : Type} (enc : TypeId × Value → H) (W : World) (n : Nat) (cs : List Value) (x : DataW H × List MemPlace),
    DataW.trod enc P W 0 (fun _ => true) true n t cs = some x → ∃ y : α, GT.rep NoM W cs y

section
variable {P : Program} {t e : TypeId}

theorem opens_int (hc : P.cellsOf t = 1) (ht : P.underlying t = some (.int .i64)) : Opens P t Int := by
  refine ⟨hc, fun enc W n cs x h => ?_⟩
  obtain ⟨k, rfl, -, hw⟩ := DataW.trod_int ht h
  exact ⟨k, rfl, bounds_i64 hw⟩
theorem opens_u64 (hc : P.cellsOf t = 1) (ht : P.underlying t = some (.int .u64)) : Opens P t (BitVec 64) := by
  refine ⟨hc, fun enc W n cs x h => ?_⟩
  obtain ⟨k, rfl, -, hw⟩ := DataW.trod_int ht h
  have hb := bounds_u64 hw
  refine ⟨BitVec.ofNat 64 k.toNat, ?_⟩
  show [_] = [_]
  have : ((BitVec.ofNat 64 k.toNat).toNat : Int) = k := by rw [BitVec.toNat_ofNat]; omega
  rw [U, this]
theorem opens_u8 (hc : P.cellsOf t = 1) (ht : P.underlying t = some (.int .u8)) : Opens P t (BitVec 8) := by
  refine ⟨hc, fun enc W n cs x h => ?_⟩
  obtain ⟨k, rfl, -, hw⟩ := DataW.trod_int ht h
  have hb := bounds_u8 hw
  refine ⟨BitVec.ofNat 8 k.toNat, ?_⟩
  show [_] = [_]
  have : ((BitVec.ofNat 8 k.toNat).toNat : Int) = k := by rw [BitVec.toNat_ofNat]; omega
  rw [U8, this]
theorem opens_bool (hc : P.cellsOf t = 1) (ht : P.underlying t = some .bool) : Opens P t Bool := by
  refine ⟨hc, fun enc W n cs x h => ?_⟩
  obtain ⟨k, rfl, -⟩ := DataW.trod_bool ht h
  exact ⟨k, rfl⟩
theorem opens_string (hc : P.cellsOf t = 1) (ht : P.underlying t = some .string) : Opens P t ByteArray := by
  refine ⟨hc, fun enc W n cs x h => ?_⟩
  obtain ⟨k, rfl, -, hk⟩ := DataW.trod_string ht h
  exact ⟨k, rfl, hk⟩

theorem cells_get {W : World} {a : Addr} {n : Nat} {cs : List Value} (h : W.cells? 0 a n = some cs) : ∀ j v, cs[j]? = some v → W.cell? (a.add j) = some v := by
  intro j v hv
  simp only [World.cells?, Nat.zero_le, if_true] at h
  have hl := mapM_some_length h
  have hj : j < cs.length := (List.getElem?_eq_some_iff.1 hv).1
  rw [List.length_range] at hl
  have := mapM_some_get h j j (by rw [List.getElem?_range (by omega)])
  rw [this, hv]

/-- One of each. -/
theorem choose_list {α : Type} {Q : Nat → α → Prop} : ∀ n : Nat, (∀ i, i < n → ∃ y, Q i y) → ∃ l : List α, l.length = n ∧ ∀ (i : Nat) (y : α), l[i]? = some y → Q i y
  | 0, _ => ⟨[], rfl, fun i y h => by simp at h⟩
  | n + 1, h => by
    obtain ⟨l, hl, hq⟩ := choose_list n fun i hi => h i (by omega)
    obtain ⟨y, hy⟩ := h n (by omega)
    refine ⟨l ++ [y], by simp [hl], fun i z hz => ?_⟩
    by_cases hi : i < l.length
    · rw [List.getElem?_append_left hi] at hz; exact hq i z hz
    · rw [List.getElem?_append_right (by omega)] at hz
      have hi0 : i - l.length = 0 := by
        have := (List.getElem?_eq_some_iff.1 hz).1
        simp at this; omega
      rw [hi0] at hz
      simp at hz
      subst hz
      rw [show i = n from by omega]
      exact hy
theorem opens_slice {α : Type} [GT α] (hc : P.cellsOf t = 1) (ht : P.underlying t = some (.slice e)) (O : Opens P e α) : Opens P t (List α) := by
  refine ⟨hc, fun enc W n cs x h => ?_⟩
  rcases DataW.trod_slice ht h with ⟨rfl, -⟩ | ⟨a, len, cap, elems, rest, m, rfl, rfl, -, -, hl, hm, hlen, hel, -, -⟩
  · exact ⟨[], _, rfl, rs_nil _ _⟩
  · have one : ∀ i, i < len → ∃ y : α, At NoM W (a.add (i * GT.size α)) y := by
      intro i hi
      have h1 := hel i hi
      rw [List.getElem?_eq_getElem (by omega : i < elems.length)] at h1
      simp only [Option.bind_eq_some_iff] at h1
      obtain ⟨ds, hd, hx⟩ := h1
      obtain ⟨y, hy⟩ := O.2 enc W m ds _ hx
      rw [O.1] at hd
      exact ⟨y, ds, hy, fun h => h, cells_get hd⟩
    obtain ⟨l, hl1, hl2⟩ := choose_list (Q := fun i (y : α) => At NoM W (a.add (i * GT.size α)) y) len one
    refine ⟨l, _, rfl, some a, len, cap, rfl, hl1, hl, hm, ?_⟩
    by_cases h0 : len = 0
    · exact .inl h0
    · exact .inr ⟨a, rfl, fun i y hy => hl2 i y hy⟩
/-- The fields from off on, of total cells. -/
def OpensR (P : Program) (off total : Nat) (fs : List Field) (α : Type) [GT α] : Prop :=
  off + GT.size α = total ∧ ∀ {H : Type} (enc : TypeId × Value → H) (W : World) (n : Nat) (cs : List Value), cs.length = total →
    (∀ f ∈ fs, ∃ x, DataW.trod enc P W 0 (fun _ => true) true n f.type ((cs.drop f.offset).take (P.cellsOf f.type)) = some x) → ∃ y : α, GT.rep NoM W (cs.drop off) y
theorem opensR_one {α : Type} [GT α] {f : Field} {off total : Nat} (ho : f.offset = off) (O : Opens P f.type α) (hs : off + GT.size α = total) : OpensR P off total [f] α := by
  refine ⟨hs, fun enc W n cs hl h => ?_⟩
  obtain ⟨x, hx⟩ := h f (by simp)
  obtain ⟨y, hy⟩ := O.2 enc W n _ _ hx
  rw [O.1, ho, List.take_of_length_le (by simp; omega)] at hy
  exact ⟨y, hy⟩
theorem opensR_cons {α β : Type} [GT α] [GT β] {f : Field} {fs : List Field} {off off' total : Nat} (ho : f.offset = off) (O : Opens P f.type α) (hs : off + GT.size α = off') (R : OpensR P off' total fs β) : OpensR P off total (f :: fs) (α × β) := by
  refine ⟨by rw [← R.1, ← hs]; show off + (GT.size α + GT.size β) = _; omega, fun enc W n cs hl h => ?_⟩
  obtain ⟨x, hx⟩ := h f (by simp)
  obtain ⟨y, hy⟩ := O.2 enc W n _ _ hx
  obtain ⟨z, hz⟩ := R.2 enc W n cs hl fun g hg => h g (by simp [hg])
  rw [O.1, ho] at hy
  refine ⟨(y, z), (cs.drop off).take (GT.size α), cs.drop off', ?_, hy, hz⟩
  rw [← hs, ← List.drop_drop]
  exact (List.take_append_drop _ _).symm
theorem opens_struct {α : Type} [GT α] {fs : Array Field} (ht : P.underlying t = some (.struct fs)) (hc : P.cellsOf t = GT.size α) (R : OpensR P 0 (P.cellsOf t) fs.toList α) : Opens P t α := by
  refine ⟨hc, fun enc W n cs x h => ?_⟩
  obtain ⟨xs, m, rfl, -, hl, hx, hf⟩ := DataW.trod_struct ht h
  obtain ⟨y, hy⟩ := R.2 enc W m cs hl fun f hf' => by
    obtain ⟨i, hi⟩ := List.mem_iff_getElem?.1 hf'
    have hi' : fs[i]? = some f := by rw [← Array.getElem?_toList]; exact hi
    have h1 := hf i f hi'
    have hlt : i < xs.length := by rw [hx]; exact (Array.getElem?_eq_some_iff.1 hi').1
    rw [List.getElem?_eq_getElem hlt] at h1
    exact ⟨_, h1⟩
  exact ⟨y, by simpa using hy⟩
theorem opens_array2 {α : Type} [GT α] (ht : P.underlying t = some (.array 2 e)) (hc : P.cellsOf t = GT.size α + GT.size α) (O : Opens P e α) : Opens P t (α × α) := by
  refine ⟨hc, fun enc W n cs x h => ?_⟩
  obtain ⟨xs, m, rfl, -, hl, hx, hf⟩ := DataW.trod_array ht h
  have g : ∀ i, i < 2 → ∃ y : α, GT.rep NoM W ((cs.drop (i * GT.size α)).take (GT.size α)) y := by
    intro i hi
    have h1 := hf i hi
    rw [List.getElem?_eq_getElem (by omega : i < xs.length), O.1] at h1
    exact O.2 enc W m _ _ h1
  obtain ⟨y, hy⟩ := g 0 (by omega)
  obtain ⟨z, hz⟩ := g 1 (by omega)
  rw [Nat.zero_mul, List.drop_zero] at hy
  rw [Nat.one_mul, List.take_of_length_le (by simp; omega)] at hz
  exact ⟨(y, z), _, _, (List.take_append_drop _ _).symm, hy, hz⟩

/-! At the top. -/
section
variable {H : Type} {enc : TypeId × Value → H} {W : World} {base : Nat} {v : Value} {d : DataW H} {ps : List MemPlace}
theorem top_one {α : Type} [GT α] (ha : GT.agg α = false) (O : Opens P t α) (hv : v.cells = #[v]) (h : DataW.Trod enc P W 0 (fun _ => true) true t v d ps) : ∃ y : α, RV NoM W v y := by
  obtain ⟨n, h⟩ := h
  obtain ⟨y, hy⟩ := O.2 enc W n _ _ h
  rw [hv] at hy
  exact ⟨y, _, hy, by rw [ha]; rfl⟩
theorem top_slice {α : Type} [GT α] (ht : P.underlying t = some (.slice e)) (O : Opens P t (List α)) (hv : Value.okWide P W .any base t v) (h : DataW.Trod enc P W 0 (fun _ => true) true t v d ps) :
    ∃ (y : List α) (a : Option Addr) (c : Nat), v = .slice a y.length c ∧ RV NoM W (.slice a y.length c) y := by
  obtain ⟨a, n, c, rfl⟩ := okWide_slice ht hv
  obtain ⟨y, hy⟩ := top_one rfl O rfl h
  obtain ⟨a', c', e, hr⟩ := RS.explicit (RV.list.1 hy)
  injection e with e1 e2 e3
  subst e1 e2 e3
  exact ⟨y, a, c, rfl, hr⟩
theorem top_int {k : IntKind} (ht : P.underlying t = some (.int k)) (hv : Value.okWide P W .any base t v) (h : DataW.Trod enc P W 0 (fun _ => true) true t v d ps) : ∃ n : Int, v = .int k n ∧ (Lit.int k n).wf = true := by
  obtain ⟨n, h⟩ := h
  obtain ⟨m, rfl⟩ := okWide_int ht hv
  obtain ⟨m', e, -, hw⟩ := DataW.trod_int ht h
  simp [Value.cells] at e
  subst e
  exact ⟨m, rfl, hw⟩
theorem top_i64 (ht : P.underlying t = some (.int .i64)) (hv : Value.okWide P W .any base t v) (h : DataW.Trod enc P W 0 (fun _ => true) true t v d ps) : ∃ n : Int, v = .int .i64 n ∧ I64 n := by
  obtain ⟨n, rfl, hw⟩ := top_int ht hv h
  exact ⟨n, rfl, bounds_i64 hw⟩
theorem top_u16 (ht : P.underlying t = some (.int .u16)) (hv : Value.okWide P W .any base t v) (h : DataW.Trod enc P W 0 (fun _ => true) true t v d ps) : ∃ n : Int, v = .int .u16 n ∧ (0 ≤ n ∧ n ≤ 65535) := by
  obtain ⟨n, rfl, hw⟩ := top_int ht hv h
  exact ⟨n, rfl, bounds_u16 hw⟩
theorem top_u64 (ht : P.underlying t = some (.int .u64)) (hv : Value.okWide P W .any base t v) (h : DataW.Trod enc P W 0 (fun _ => true) true t v d ps) : ∃ x : BitVec 64, v = U x := by
  obtain ⟨n, rfl, hw⟩ := top_int ht hv h
  have hb := bounds_u64 hw
  refine ⟨BitVec.ofNat 64 n.toNat, ?_⟩
  have : ((BitVec.ofNat 64 n.toNat).toNat : Int) = n := by rw [BitVec.toNat_ofNat]; omega
  rw [U, this]
theorem top_u8 (ht : P.underlying t = some (.int .u8)) (hv : Value.okWide P W .any base t v) (h : DataW.Trod enc P W 0 (fun _ => true) true t v d ps) : ∃ x : BitVec 8, v = U8 x := by
  obtain ⟨n, rfl, hw⟩ := top_int ht hv h
  have hb := bounds_u8 hw
  refine ⟨BitVec.ofNat 8 n.toNat, ?_⟩
  have : ((BitVec.ofNat 8 n.toNat).toNat : Int) = n := by rw [BitVec.toNat_ofNat]; omega
  rw [U8, this]
theorem top_bool (ht : P.underlying t = some .bool) (hv : Value.okWide P W .any base t v) : ∃ x : Bool, v = .bool x := okWide_bool ht hv
theorem top_string (hc : P.cellsOf t = 1) (ht : P.underlying t = some .string) (hv : Value.okWide P W .any base t v) (h : DataW.Trod enc P W 0 (fun _ => true) true t v d ps) : ∃ x : ByteArray, v = .string x ∧ x.size ≤ maxLen := by
  obtain ⟨s, rfl⟩ := okWide_string ht hv
  obtain ⟨y, hy⟩ := top_one rfl (opens_string hc ht) rfl h
  obtain ⟨e, hs⟩ := RV.str.1 hy
  injection e with e
  subst e
  exact ⟨s, rfl, hs⟩
theorem top_struct {α : Type} [GT α] {fs : Array Field} (ht : P.underlying t = some (.struct fs)) (ha : GT.agg α = true) (O : Opens P t α) (hv : Value.okWide P W .any base t v) (h : DataW.Trod enc P W 0 (fun _ => true) true t v d ps) : ∃ y : α, RV NoM W v y := by
  obtain ⟨cs, rfl, -⟩ := okWide_struct ht hv
  obtain ⟨n, h⟩ := h
  obtain ⟨y, hy⟩ := O.2 enc W n _ _ h
  exact ⟨y, _, hy, by rw [ha]; simp [mkv, Value.cells]⟩

/-- What came in, behind a call that wrote nothing of what was there. -/
theorem trodAll_ext {W' : World} {T : TypeId → Prop} (K : Kids P T) (hz : ∀ t e, T t → P.underlying t = some (.slice e) → 0 < P.cellsOf e) (e : Ext W W') {sp : Nat → Bool} :
    ∀ {ts : List TypeId} {vs : List Value} {ds : List (DataW H)} {ps : List MemPlace}, (∀ t ∈ ts, T t) → DataW.TrodAll enc P W 0 (fun _ => true) true ts vs ds ps → (∀ p ∈ ps, sp p.block = true) → DataW.TrodAll enc P W' 0 sp true ts vs ds ps
  | [], [], [], _, _, h, _ => h
  | t :: _, v :: _, _ :: _, _, hT, ⟨p, q, ⟨n, h1⟩, h2, hp⟩, hs => by
    refine ⟨p, q, ⟨n, ?_⟩, trodAll_ext K hz e (fun t ht => hT t (List.mem_cons.2 (Or.inr ht))) h2 (fun x hx => hs x (by rw [hp]; exact List.mem_append_right _ hx)), hp⟩
    have hr := DataW.trod_respare K hz n _ _ _ (hT _ (List.mem_cons.2 (Or.inl rfl))) h1 (spare' := sp) (fun x hx => hs x (by rw [hp]; exact List.mem_append_left _ hx))
    exact DataW.trod_carry n _ _ _ hr fun x hx => Below.same e (DataW.trod_lt n _ _ _ h1 x hx)
  | [], [], _ :: _, _, _, h, _ => h.elim
  | [], _ :: _, _, _, _, h, _ => h.elim
  | _ :: _, [], _, _, _, h, _ => h.elim
  | _ :: _, _ :: _, [], _, _, h, _ => h.elim

theorem law_close {f : Func} {s : ChangeSpec} {apart fresh handsOn again : Bool} {W W' : World} {args : Array Value} {ds gs : List (DataW H)} {before : List MemPlace} {tb : TypeId}
    (K : Kids P (· < P.types.size)) (hz : ∀ t e, t < P.types.size → P.underlying t = some (.slice e) → 0 < P.cellsOf e) (hts : ∀ t ∈ f.params.toList, t < P.types.size)
    (hvars : s.vars = []) (hW : DataW.Whole enc P f.params.toList s.vars apart W args.toList ds gs before) (e : Ext W W') (hrt : f.resultTypes = #[tb]) (hu : P.underlying tb = some .bool)
    (h1 : (s.fn H (ds ++ gs)).results = [.lit (.bool true)]) (h2 : (s.fn H (ds ++ gs)).args = ds) (h3 : (s.fn H (ds ++ gs)).vars = []) :
    s.post enc P f apart fresh handsOn again W args (.bool true) W' := by
  have hlt : ∀ p ∈ before, p.block < W.heap.size := fun p hp => hW.lt p hp
  have hW2 := hW
  obtain ⟨p, q, hA, hV, hpq, hfz, hnd⟩ := hW2
  rw [hvars] at hV
  have hq : gs = [] ∧ q = [] := by
    cases gs with
    | nil => exact ⟨rfl, hV⟩
    | cons _ _ => exact hV.elim
  obtain ⟨rfl, rfl⟩ := hq
  rw [List.append_nil] at hpq
  subst hpq
  have hold : ∀ x ∈ before, (fun b => decide (b < W.heap.size)) x.block = true := fun x hx => by simpa using hlt x hx
  have hres : ∀ (b : Nat) (sp : Nat → Bool) (hd : Bool), DataW.TrodAll enc P W' b sp hd f.resultTypes.toList ((Value.bool true).resultList f.resultTypes.size) (s.fn H (ds ++ [])).results [] := by
    intro b sp hd
    rw [h1, hrt]
    exact trodAll_mk1 (shut_bool hu _)
  have hargs : ∀ sp : Nat → Bool, (∀ x ∈ before, sp x.block = true) → DataW.TrodAll enc P W' 0 sp true f.params.toList args.toList (s.fn H (ds ++ [])).args before := by
    intro sp hsp
    rw [h2]
    exact trodAll_ext K hz e hts hA hsp
  have hvs : ∀ sp : Nat → Bool, DataW.TrodVars enc P W' sp s.vars (s.fn H (ds ++ [])).vars [] := by
    intro sp
    rw [h3, hvars]
    rfl
  refine ⟨ds, [], before, [], before, [], hW, hres _ _ _, hargs _ hold, hvs _, World.keptBut_mono (fun x hx => ⟨hx, .inr (.inl hx)⟩) (e.frame (· ∈ before)), fun _ => ?_⟩
  refine ⟨ok_one (by rw [hrt]) rfl (okWide_bool_mk hu _), (s.fn H (ds ++ [])).results ++ (s.fn H (ds ++ [])).args, (s.fn H (ds ++ [])).vars, ([] ++ before) ++ [], ⟨[] ++ before, [], trodAll_append (hargs _ (fun _ _ => rfl)) (hres _ _ _), hvs _, rfl, ?_, ?_⟩, ?_⟩
  · intro b off hp
    have hin : MemPlace.cell b off ∈ before := by simpa using hp
    rw [Below.frozen e (hlt _ hin)]
    exact hfz b off hin
  · intro ha
    simpa using hnd ha
  · intro x hx _
    simpa using hx
end
end
end Go.Ew
