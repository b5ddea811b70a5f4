/- Engine, part O: small words that the printed proofs use. -/
import Derived.Test.YtmhopljngkgidaaDoorEngN
namespace Go.Ew
open Go.RowKit Go.IntWalk
set_option linter.unusedVariables false
set_option linter.unusedSimpArgs false

theorem ieq {v : Value} {kk : IntKind} {a b : Int} (h : v = .int kk a) (e : a = b) : v = .int kk b := e ▸ h
theorem ueq {v : Value} {a b : BitVec 64} (h : v = U a) (e : a = b) : v = U b := e ▸ h
theorem nott {b : Bool} (h : (!b) = true) : b = false := by cases b <;> simp_all
theorem notf {b : Bool} (h : (!b) = false) : b = true := by cases b <;> simp_all
theorem AtW.ext {α : Type} [GT α] {M : Nat → Prop} {w w' : World} {ad : Addr} {x : α} (h : AtW M w ad x) (e : Ext w w') : AtW M w' ad x := by
  obtain ⟨cs, h1, h2⟩ := h
  refine ⟨cs, GT.lift h1 (Up.ext e), fun j v hv => ?_⟩
  have hc := h2 j v hv
  exact (World.cell?_of_block (e.block _ (block_lt_cell hc))).trans hc
theorem rs_nil {α : Type} [GT α] (M : Nat → Prop) (w : World) : RS M w (.slice none 0 0) ([] : List α) := ⟨none, 0, 0, rfl, rfl, Nat.le_refl _, by simp [maxLen], .inl rfl⟩
theorem rv_nil {α : Type} [GT α] (M : Nat → Prop) (w : World) : RV M w (.slice none 0 0) ([] : List α) := RV.list.2 (rs_nil M w)
theorem MS_nil {M0 : Nat → Prop} : MS M0 [] = M0 := by funext b; simp [MS]

/-- Data that lies nowhere: numbers, truth values, texts, and structs of these. -/
class Flat (α : Type) [GT α] : Prop where
  flat : ∀ {M w M' w' cs} {x : α}, GT.rep M w cs x → GT.rep M' w' cs x
instance : Flat Int := ⟨fun h => h⟩
instance : Flat (BitVec 64) := ⟨fun h => h⟩
instance : Flat (BitVec 8) := ⟨fun h => h⟩
instance : Flat Bool := ⟨fun h => h⟩
instance : Flat ByteArray := ⟨fun h => h⟩
instance {α β : Type} [GT α] [GT β] [Flat α] [Flat β] : Flat (α × β) := ⟨fun h => by
  obtain ⟨c1, c2, h0, h1, h2⟩ := h
  exact ⟨c1, c2, h0, Flat.flat h1, Flat.flat h2⟩⟩
theorem Chunks.flat {α : Type} [GT α] [Flat α] {M M' : Nat → Prop} {w w' : World} : ∀ {xs : List α} {cs : List Value}, Chunks M w cs xs → Chunks M' w' cs xs
  | [], _, h => h
  | x :: xs, cs, ⟨c1, c2, h1, h2, h3⟩ => ⟨c1, c2, h1, Flat.flat h2, Chunks.flat h3⟩

section
variable {M0 : Nat → Prop} {w0 w w' : World} {l l' : List Item} {α : Type} [GT α] {v : Value} {xs : List α} {x : α} {e : TypeId} {ad : Addr}
theorem HI.rv (H : HI M0 w0 w l) (i : Nat) (hi : l[i]? = some (imm v x)) : RV (MS M0 l) w v x := H.at_ i hi
theorem HI.atv (H : HI M0 w0 w l) (i : Nat) (hi : l[i]? = some (atI ad x)) : At (MS M0 l) w ad x := H.at_ i hi
theorem HI.gives_out (H : HI M0 w0 w l) (i : Nat) (hi : l[i]? = some (imm v x)) : RV M0 w v x := (H.rv i hi).lift H.out
theorem HI.outO (H : HI M0 w0 w l) (i : Nat) (hi : l[i]? = some (own w0.heap.size e v xs)) : RV M0 w v xs := H.out_own i hi (fun _ _ _ _ => trivial)
theorem HI.news_own [Flat α] (H : HI M0 w0 w l) (i : Nat) (hi : l[i]? = some (own w0.heap.size e v xs)) : RV (fun b => b < w0.heap.size) w v xs := by
  obtain ⟨cs, h1, h2⟩ := H.at_ i hi
  have hO : (own w0.heap.size e v xs).holds (fun b => b < w0.heap.size) w := ⟨cs, h1, Chunks.flat h2⟩
  refine own_seg hO (fun b _ hb => hb) (fun b hb hM => ?_)
  have := (own_blk_lt H hi b hb).1
  omega
theorem HI.owns_out [Flat α] (H : HI M0 w0 w l) (i : Nat) (hi : l[i]? = some (own w0.heap.size e v xs)) : Owns e w0 xs v w := by
  obtain ⟨cs, h1, h2⟩ := H.at_ i hi
  exact ⟨H.below, fun b hb => (own_blk_lt H hi b hb).2, cs, h1, Chunks.flat h2⟩
theorem owns_nil (h : Ext w0 w) : Owns e w0 ([] : List α) (.slice none 0 0) w := ⟨h, fun b hb => (by cases hb), [], World.ownsRow_nil w _ e _, rfl⟩

theorem nodup_filterMap {β γ : Type} (g : β → Option γ) : ∀ (is : List β), is.Nodup → (∀ i ∈ is, ∀ j ∈ is, ∀ b, g i = some b → g j = some b → i = j) → (is.filterMap g).Nodup
  | [], _, _ => List.nodup_nil
  | i :: is, hn, hg => by
    have hn' := List.nodup_cons.1 hn
    have ih := nodup_filterMap g is hn'.2 (fun a ha b hb => hg a (List.mem_cons_of_mem _ ha) b (List.mem_cons_of_mem _ hb))
    rw [List.filterMap_cons]
    cases hgi : g i with
    | none => exact ih
    | some b =>
      refine List.nodup_cons.2 ⟨fun hm => ?_, ih⟩
      obtain ⟨j, hj, hgj⟩ := List.mem_filterMap.1 hm
      have := hg i (List.mem_cons_self) j (List.mem_cons_of_mem _ hj) b hgi hgj
      exact hn'.1 (this ▸ hj)
/-- Some of the items, in another order. -/
theorem HI.pickN (H : HI M0 w0 w l) (is : List Nat) (hn : is.Nodup) (he : is.filterMap (fun i => l[i]?) = l') : HI M0 w0 w l' := by
  subst he
  refine H.pick _ (fun it hit => ?_) ?_
  · obtain ⟨i, _, hi⟩ := List.mem_filterMap.1 hit
    exact List.mem_of_getElem? hi
  · rw [List.filterMap_filterMap]
    refine nodup_filterMap _ is hn fun i _ j _ b hi hj => ?_
    obtain ⟨a, ha, hab⟩ := Option.bind_eq_some_iff.1 hi
    obtain ⟨c, hc, hcb⟩ := Option.bind_eq_some_iff.1 hj
    exact filterMap_inj (·.blk) l H.nodup i j a c ha hc (by rw [hab]; rfl) (by rw [hab, hcb])
end

theorem DSteps.rest {P : Program} {n : Nat} {l : List Oper} {k : Nat} {Φ : List (Value → World → Prop)} {f0 : Slots} {w0 : World} {i : Nat} (h : Nat.ble k i = true) : ∀ r, DSteps P n l k Φ f0 w0 i r := by
  intro r
  induction r generalizing i with
  | nil => trivial
  | cons o r ih =>
    refine ⟨fun hb => ?_, ih ?_⟩
    · simp at h hb; omega
    · simp at h ⊢; omega
theorem Owns.rv {α : Type} [GT α] {e : TypeId} {w w' : World} {xs : List α} {v : Value} {M : Nat → Prop} (h : Owns e w xs v w') (hM : ∀ b, M b → b < w.heap.size) : RV M w' v xs := by
  obtain ⟨_, hb, ho⟩ := h
  refine own_seg ho (fun b _ hb' => .inl (hM b hb')) (fun b hvb hMb => ?_)
  obtain ⟨cs, h1, _⟩ := ho
  have := (h1.lt b hvb).1
  have := hM b hMb
  omega

/-! Results that lie in blocks of the call's own. -/
section
variable {P : Program} {n : Nat} {fn : Func} {R : Value → World → Prop} {f : Slots} {w w0 : World} {M0 : Nat → Prop} {l : List Item} {agg : Bool} {bytes : Nat} {z : Value} {k : Nat}
theorem tmp_get {t : Nat} (h : Nat.blt t n = true) : (acts n f).tmps.getD t undef = f t := tmp_acts h
theorem run_resultLoad {T : TypeId} {b : Nat} {cs : Array Value} {ty : TypeId} (H : HI M0 w0 w l) (i : Nat) (hi : l[i]? = some (box b cs ty)) (F : TyF P T k agg bytes z) (hk : agg = false → k = 1) (hl : ((cs.toList.drop 0).take k).length = k) :
    (loadVar T ⟨b, 0, none⟩).run P w = .ok (mkv agg ((cs.toList.drop 0).take k)) w := by
  have hb : w.heap[b]? = some (.cells cs ty (0, 0)) := H.at_ i hi
  refine run_loadVar F hk hl fun j u hu => ?_
  rw [show (⟨b, 0, none⟩ : Addr).add j = ⟨b, j, none⟩ from by unfold Addr.add; split <;> simp_all, cell_of_row w b j cs ty (0, 0) hb]
  have hj : j < k := by
    have := (List.getElem?_eq_some_iff.1 hu).1
    omega
  rw [List.getElem?_take, if_pos hj, List.getElem?_drop] at hu
  simpa using hu

theorem rc1 {T : TypeId} {b : Nat} {cs : Array Value} {ty : TypeId} {p : Nat} (H : HI M0 w0 w l) (i : Nat) (hi : l[i]? = some (box b cs ty)) (F : TyF P T k agg bytes z) (hr : fn.results = #[.cell p T]) (hp : Nat.blt p n = true) (hx : f p = .pointer (some ⟨b, 0, none⟩)) (hl : ((cs.toList.drop 0).take k).length = k) (hk : agg = false → k = 1)
    (h : R (mkv agg ((cs.toList.drop 0).take k)) w) : retQ P n fn R .ret (acts n f) w := by
  refine ⟨f, rfl, _, ?_, h⟩
  have h := run_resultLoad (P := P) H i hi F hk hl
  have h0 : (acts n f).tmps.getD p undef = .pointer (some ⟨b, 0, none⟩) := by rw [tmp_get hp, hx]
  simp only [results, hr, List.mapM_toArray]
  simp only [List.mapM_cons, List.mapM_nil]
  simp [h, h0, asAddr]
theorem rc2 {T : TypeId} {b : Nat} {cs : Array Value} {ty : TypeId} {p t : Nat} (H : HI M0 w0 w l) (i : Nat) (hi : l[i]? = some (box b cs ty)) (F : TyF P T k agg bytes z) (hr : fn.results = #[.cell p T, .tmp t]) (hp : Nat.blt p n = true) (ht : Nat.blt t n = true) (hx : f p = .pointer (some ⟨b, 0, none⟩)) (hl : ((cs.toList.drop 0).take k).length = k) (hk : agg = false → k = 1)
    (h : R (.tuple #[mkv agg ((cs.toList.drop 0).take k), f t]) w) : retQ P n fn R .ret (acts n f) w := by
  refine ⟨f, rfl, _, ?_, h⟩
  have h := run_resultLoad (P := P) H i hi F hk hl
  have h0 : (acts n f).tmps.getD p undef = .pointer (some ⟨b, 0, none⟩) := by rw [tmp_get hp, hx]
  have h2 := tmp_get (f := f) ht
  simp only [results, hr, List.mapM_toArray]
  simp only [List.mapM_cons, List.mapM_nil]
  simp [h, h0, asAddr, h2]
theorem rc4 {T : TypeId} {b : Nat} {cs : Array Value} {ty : TypeId} {p t t2 t3 : Nat} (H : HI M0 w0 w l) (i : Nat) (hi : l[i]? = some (box b cs ty)) (F : TyF P T k agg bytes z) (hr : fn.results = #[.cell p T, .tmp t, .tmp t2, .tmp t3]) (hp : Nat.blt p n = true) (ht : Nat.blt t n = true) (ht2 : Nat.blt t2 n = true) (ht3 : Nat.blt t3 n = true) (hx : f p = .pointer (some ⟨b, 0, none⟩)) (hl : ((cs.toList.drop 0).take k).length = k) (hk : agg = false → k = 1)
    (h : R (.tuple #[mkv agg ((cs.toList.drop 0).take k), f t, f t2, f t3]) w) : retQ P n fn R .ret (acts n f) w := by
  refine ⟨f, rfl, _, ?_, h⟩
  have h := run_resultLoad (P := P) H i hi F hk hl
  have h0 : (acts n f).tmps.getD p undef = .pointer (some ⟨b, 0, none⟩) := by rw [tmp_get hp, hx]
  have h2 := tmp_get (f := f) ht
  have h3 := tmp_get (f := f) ht2
  have h4 := tmp_get (f := f) ht3
  simp only [results, hr, List.mapM_toArray]
  simp only [List.mapM_cons, List.mapM_nil]
  simp [h, h0, asAddr, h2, h3, h4]
theorem r3 {t t2 t3 : Nat} (hr : fn.results = #[.tmp t, .tmp t2, .tmp t3]) (ht : Nat.blt t n = true) (ht2 : Nat.blt t2 n = true) (ht3 : Nat.blt t3 n = true)
    (h : R (.tuple #[f t, f t2, f t3]) w) : retQ P n fn R .ret (acts n f) w := by
  refine ⟨f, rfl, _, ?_, h⟩
  have h2 := tmp_get (f := f) ht
  have h3 := tmp_get (f := f) ht2
  have h4 := tmp_get (f := f) ht3
  simp only [results, hr, List.mapM_toArray]
  simp only [List.mapM_cons, List.mapM_nil]
  simp [h2, h3, h4]
end
theorem rv_none {α : Type} [GT α] {M : Nat → Prop} {w : World} {a : Option Addr} {n c : Nat} {xs : List α} (h : RV M w (.slice a n c) xs) (ha : a.isNone = true) : xs = [] := by
  cases a with
  | some _ => cases ha
  | none =>
    obtain ⟨a, m, c', e, h2, -, -, h5⟩ := RV.list.1 h
    injection e with e1 e2 e3
    subst e1
    rcases h5 with h5 | ⟨ad, h5, -⟩
    · exact List.length_eq_zero_iff.1 (h2.trans h5)
    · cases h5
end Go.Ew
