/- Engine, part N: slices that are made, appended to, cut; strings; structs that are built. -/
import Derived.Test.YtmhopljngkgidaaDoorEngM
import Derived.Maps.AppendAt
namespace Go.Ew
open Go.RowKit Go.IntWalk
set_option linter.unusedVariables false
set_option linter.unusedSimpArgs false

theorem Ext.grown {w w' : World} (h : w.grownBy w' none) : Ext w w' := ⟨h.os, h.tape, h.output, h.size, fun k hk => h.block k hk (by simp)⟩

/-- What append takes from: cells that are ys. -/
def Src {α : Type} [GT α] (M : Nat → Prop) (w : World) (v : Value) (ys : List α) : Prop :=
  ∃ a c, v = .slice a ys.length c ∧ (ys.length = 0 ∨ ∃ ad, a = some ad ∧ ∃ cs, Chunks M w cs ys ∧ ∀ j u, cs[j]? = some u → w.cell? (ad.add j) = some u)

theorem Seg.chunks {α : Type} [GT α] {M : Nat → Prop} {w : World} : ∀ {xs : List α} {ad : Addr}, Seg M w ad xs → ∃ cs, Chunks M w cs xs ∧ ∀ j u, cs[j]? = some u → w.cell? (ad.add j) = some u
  | [], ad, _ => ⟨[], rfl, fun j u h => by simp at h⟩
  | x :: xs, ad, h => by
    obtain ⟨c1, h1, _, h2⟩ := h 0 x rfl
    have htail : Seg M w (ad.add (GT.size α)) xs := by
      intro i y hy
      have := h (i + 1) y (by simpa using hy)
      rw [add_add]
      rwa [show (i + 1) * GT.size α = GT.size α + i * GT.size α from by rw [Nat.add_mul]; omega] at this
    obtain ⟨c2, h3, h4⟩ := Seg.chunks htail
    refine ⟨c1 ++ c2, ⟨c1, c2, rfl, h1, h3⟩, fun j u hu => ?_⟩
    rw [List.getElem?_append] at hu
    have hl := GT.len h1
    split at hu
    · have := h2 j u hu
      rwa [add_add, Nat.zero_mul, Nat.zero_add] at this
    · have := h4 _ u hu
      rw [add_add, hl] at this
      rwa [show GT.size α + (j - GT.size α) = j from by omega] at this
theorem RV.src {α : Type} [GT α] {M : Nat → Prop} {w : World} {v : Value} {ys : List α} (h : RV M w v ys) : Src M w v ys := by
  obtain ⟨a, n, c, rfl, rfl, h3, h4, h5⟩ := RV.list.1 h
  refine ⟨a, c, rfl, ?_⟩
  rcases h5 with h5 | ⟨ad, h5, h6⟩
  · exact .inl h5
  · exact .inr ⟨ad, h5, h6.chunks⟩
theorem own_src {α : Type} [GT α] {M : Nat → Prop} {w : World} {v : Value} {ys : List α} {B : Nat} {e : TypeId} (h : (own B e v ys).holds M w) : Src M w v ys := by
  obtain ⟨cs, h1, h2⟩ := h
  rcases h1.2 with ⟨rfl, h3⟩ | ⟨g, cap, cur, rfl, h3, h4, h5, h6, h7, h8⟩
  · exact ⟨none, 0, by rw [h3], .inl h3⟩
  · exact ⟨_, cap, rfl, .inr ⟨_, rfl, cs, h2, h1.cells (g := g) rfl⟩⟩
/-- A slice of the call's own, seen as data: while its block is left alone. -/
theorem own_seg {α : Type} [GT α] {M M' : Nat → Prop} {w : World} {v : Value} {ys : List α} {B : Nat} {e : TypeId} (h : (own B e v ys).holds M w) (hM : ∀ b, b < w.heap.size → M' b → M b) (hv : ∀ b, v.ownBlock = some b → ¬ M' b) : RV M' w v ys := by
  obtain ⟨cs, h1, h2⟩ := h
  refine RV.list.2 ?_
  rcases h1.2 with ⟨rfl, h3⟩ | ⟨g, cap, cur, rfl, h3, h4, h5, h6, h7, h8⟩
  · exact ⟨none, 0, 0, rfl, h3, Nat.le_refl _, by simp [maxLen], .inl rfl⟩
  · refine ⟨_, _, cap, rfl, rfl, h5, h6, .inr ⟨_, rfl, fun i x hx => ?_⟩⟩
    obtain ⟨c, hc1, hc2⟩ := Chunks.at_ h2 i x hx
    refine ⟨c, GT.lift hc1 (Up.less hM), by rw [add_block]; exact hv g rfl, fun j u hu => ?_⟩
    rw [add_add]
    exact h1.cells (g := g) rfl _ u (hc2 j u hu)

section
variable {M0 : Nat → Prop} {w0 w w' : World} {l : List Item} {α : Type} [GT α] {v : Value} {xs : List α} {e : TypeId}
theorem own_blk_lt {B : Nat} (H : HI M0 w0 w l) {i : Nat} (hi : l[i]? = some (own B e v xs)) : ∀ b, v.ownBlock = some b → w0.heap.size ≤ b ∧ b < w.heap.size := H.blks _ (List.mem_of_getElem? hi)
/-- From here on it isn't written any more. -/
theorem HI.freeze {B : Nat} (H : HI M0 w0 w l) (i : Nat) (hi : l[i]? = some (own B e v xs)) : HI M0 w0 w (l.set i (imm v xs)) := by
  refine H.turn i hi rfl rfl rfl (Nat.le_refl _) (fun _ _ _ => rfl) (fun b hb => by cases hb) ?_
  have hO := H.at_ i hi
  refine own_seg hO (fun b hb hM => ?_) (fun b hb hM => ?_)
  · rcases hM with hM | ⟨it, hit, hitb⟩
    · exact .inl hM
    · rcases List.mem_or_eq_of_mem_set hit with hit | rfl
      · exact .inr ⟨it, hit, hitb⟩
      · cases hitb
  · have hbl := own_blk_lt H hi b hb
    rcases hM with hM | ⟨it, hit, hitb⟩
    · have := H.m0 b hM; omega
    · obtain ⟨m, hm, rfl⟩ := List.mem_iff_getElem.1 hit
      rw [List.getElem_set] at hitb
      split at hitb
      · cases hitb
      · rename_i hne
        have hml : m < l.length := by simpa using hm
        exact hne (filterMap_inj (·.blk) l H.nodup i m _ l[m] hi (List.getElem?_eq_getElem hml) (by show (v.ownBlock).isSome = true; rw [hb]; rfl) (by rw [hitb]; exact hb))
/-- var x []T -/
theorem HI.nil_ (α : Type) [GT α] (H : HI M0 w0 w l) (e : TypeId) : HI M0 w0 w (own w0.heap.size e (.slice none 0 0) ([] : List α) :: l) :=
  H.put rfl ⟨[], World.ownsRow_nil w _ e _, rfl⟩
/-- What a call hands back as its caller's own. -/
theorem HI.owns (H : HI M0 w0 w l) (h : Owns e w xs v w') : HI M0 w0 w' (own w0.heap.size e v xs :: l) := by
  obtain ⟨hx, hb, cs, h1, h2⟩ := h
  have hown : ∀ (B : Nat), B ≤ w.heap.size → w'.ownsRow B e (GT.size α) v xs.length cs := by
    intro B hB
    refine ⟨h1.1, ?_⟩
    rcases h1.2 with h3 | ⟨g, cap, cur, rfl, h3, h4⟩
    · exact .inl h3
    · exact .inr ⟨g, cap, cur, rfl, Nat.le_trans hB h3, h4⟩
  have hge : ∀ b, v.ownBlock = some b → w.heap.size ≤ b := fun b hvb => (h1.lt b hvb).1
  cases hv : v.ownBlock with
  | none =>
    refine (H.ext hx).put hv ⟨cs, hown _ H.below.size, Chunks.lift (Up.less ?_) h2⟩
    intro b hbl hM
    exact .inl ((H.mb) b hM)
  | some b =>
    refine H.new hx b hv (hge b hv) (hb b hv) ⟨cs, hown _ H.below.size, Chunks.lift (Up.less ?_) h2⟩
    rintro c hc (hM | ⟨it, hit, hitc⟩)
    · exact .inl (H.mb c (.inl hM))
    · rcases List.mem_cons.1 hit with rfl | hit
      · exact .inr hitc
      · exact .inl (H.mb c (.inr ⟨it, hit, hitc⟩))
/-- What a call hands back as data. -/
theorem HI.gives (H : HI M0 w0 w l) (h : Gives (MS M0 l) w xs v w') : HI M0 w0 w' (imm v xs :: l) := (H.ext h.1).put rfl h.2
theorem News.gives {β : Type} [GT β] {y : β} {M : Nat → Prop} (h : News w y v w') (hM : ∀ b, M b → b < w.heap.size) : Gives M w y v w' := ⟨h.1, h.2.lift (Up.less fun b _ hb => hM b hb)⟩
/-- The function's own new slice, handed back. -/
theorem HI.out_own (H : HI M0 w0 w l) (i : Nat) (hi : l[i]? = some (own w0.heap.size e v xs)) (hfresh : ∀ it ∈ l, ∀ b, it.blk = some b → True) : RV M0 w v xs := by
  have hO := H.at_ i hi
  refine own_seg hO (fun b _ hb => .inl hb) (fun b hb hM => ?_)
  have := own_blk_lt H hi b hb
  have := H.m0 b hM
  omega
end

section
variable {P : Program} {n : Nat} {ops : Array Oper} {f : Slots} {w : World} {K : Slots → World → Prop} {x y c : Operand} {d : Nat} {ty T T2 e : TypeId} {ps : String} {af : Array Edge} {v v2 u : Value} {a b : Int} {M M0 : Nat → Prop} {w0 : World} {l : List Item} {kk : IntKind} {bytes : Nat} {z : Value} {ad : Addr} {size : Nat} {agg : Bool}

theorem owns_explicit {B : Nat} {s m : Nat} {cs : List Value} (h : w.ownsRow B e s v m cs) : ∃ a c, v = .slice a m c := by
  rcases h.2 with ⟨rfl, rfl⟩ | ⟨g, cap, cur, rfl, _⟩
  · exact ⟨none, 0, rfl⟩
  · exact ⟨_, cap, rfl⟩

/-- out = append(out, ys...), out the call's own -/
theorem ap {α : Type} [GT α] {xs ys : List α} {B : Nat} (H : HI M0 w0 w l) (i : Nat) (hi : l[i]? = some (own B e v xs)) (hB : B = w0.heap.size) (ox : okT n x = true) (oy : okT n y = true) (hx : ev f x = v) (hy : ev f y = u)
    (hs : Src (MS M0 l) w u ys) (hu : P.underlying T = some (.slice e)) (F : TyF P e (GT.size α) agg bytes z) (hz : z.cells.size = GT.size α) (hl : (xs.length + ys.length) * bytes ≤ 140737488355328) (hl2 : xs.length + ys.length ≤ 9223372036854775807)
    (h : ∀ a c w', HI M0 w0 w' (l.set i (own B e (.slice a (xs ++ ys).length c) (xs ++ ys))) → K (upd f d (.slice a (xs ++ ys).length c)) w') :
    SO P n ops ⟨some d, .call { callee := .builtin .append, args := #[x, y], argTypes := #[T, T] }, ty, ps, af, none⟩ f w K := by
  subst hB
  obtain ⟨cs, h1, h2⟩ := H.at_ i hi
  obtain ⟨a0, c0, rfl, hsrc⟩ := hs
  obtain ⟨inf, hi1, hi2, hi3, hi4⟩ := F.info
  have hlt : ∀ b, v.ownBlock = some b → w0.heap.size ≤ b ∧ b < w.heap.size := own_blk_lt H hi
  -- the run, whatever the source
  obtain ⟨v', w', hrun, hown, hgr, hch⟩ : ∃ v' w', (Builtin.append_ #[T, T] ty #[v, .slice a0 ys.length c0]).run P w = .ok v' w' ∧
      (∃ ds, w'.ownsRow w0.heap.size e (GT.size α) v' (xs.length + ys.length) (cs ++ ds) ∧ Chunks (MS M0 l) w ds ys) ∧ w.grownBy w' v.ownBlock ∧ (v'.ownBlock = v.ownBlock ∨ ∀ b, v'.ownBlock = some b → w.heap.size ≤ b ∧ b < w'.heap.size) := by
    rcases hsrc with h0 | ⟨ad, rfl, ds, hd1, hd2⟩
    · have hys : ys = [] := List.eq_nil_of_length_eq_zero h0
      subst hys
      have hr : (Builtin.append_ #[T, T] ty #[v, .slice a0 0 c0]).run P w = .ok v w := by
        rcases h1.2 with ⟨rfl, hn⟩ | ⟨g, cap, cur, rfl, hb, hg, hnc, _⟩
        · cases a0 <;> simp [Builtin.append_, run_und hu, sizeOf, typeInfo, hi1, Builtin.lenOf, Builtin.firstCells, loadCells, loadCellsFrom]
        · have : xs.length ≤ cap := hnc
          cases a0 <;> simp [Builtin.append_, run_und hu, sizeOf, typeInfo, hi1, Builtin.lenOf, Builtin.firstCells, loadCells, loadCellsFrom, this, storeCells]
      exact ⟨v, w, by simpa using hr, ⟨[], by simpa using h1, rfl⟩, ⟨rfl, rfl, rfl, Nat.le_refl _, fun _ _ _ => rfl⟩, .inl rfl⟩
    · obtain ⟨v', w', r1, r2, r3, _, r4⟩ := run_append_own_at (P := P) w w0.heap.size T ty e inf z (GT.size α) bytes hu hi1 hi2 hi3 hi4 hz GT.pos v xs.length cs h1 ad ys.length c0 ds (Chunks.length hd1) hd2 (Chunks.oneC hd1) (by simp only [maxLen]; omega) hl H.below.size
      refine ⟨v', w', r1, ⟨ds, r2, hd1⟩, r3, ?_⟩
      rcases r4 with hb | hb
      · exact .inl hb
      · refine .inr fun b hvb => ⟨?_, (r2.lt b hvb).2⟩
        rw [hb] at hvb
        cases hvb
        exact Nat.le_refl _
  obtain ⟨ds, ho, hds⟩ := hown
  obtain ⟨a', c', rfl⟩ := owns_explicit ho
  refine SO.value (v := .slice a' (xs.length + ys.length) c') (w' := w') ?_ ?_
  · simp [execOp, resolve, invoke, builtin, eval_acts ox, eval_acts oy, hx, hy, hrun]
  · have := h a' c' w'
    rw [List.length_append] at this
    refine this ?_
    have hblk : ∀ b, (own w0.heap.size e (.slice a' (xs.length + ys.length) c') (xs ++ ys)).blk = some b → b < w'.heap.size ∧ ((own w0.heap.size e v xs).blk = some b ∨ w.heap.size ≤ b) := by
      intro b hb
      refine ⟨(ho.lt b hb).2, ?_⟩
      rcases hch with hch | hch
      · exact .inl (by rw [← hb]; exact hch.symm)
      · exact .inr (hch b hb).1
    refine H.turn i hi hgr.os hgr.tape hgr.output hgr.size (fun c hc hne => hgr.block c hc (fun e => hne e.symm)) hblk ?_
    refine ⟨cs ++ ds, by rw [List.length_append]; exact ho, ?_⟩
    refine Chunks.lift ?_ (Chunks.append h2 hds)
    refine ⟨hgr.size, fun b hb hM => ⟨hgr.block b hb (fun e => hM (.inr ⟨_, List.mem_of_getElem? hi, e.symm⟩)), ?_⟩⟩
    rintro (hM' | ⟨it, hit, hitb⟩)
    · exact hM (.inl hM')
    · rcases List.mem_or_eq_of_mem_set hit with hit | rfl
      · exact hM (.inr ⟨it, hit, hitb⟩)
      · rcases (hblk b hitb).2 with h' | h'
        · exact hM (.inr ⟨_, List.mem_of_getElem? hi, h'⟩)
        · omega

/-! #### []T{x, ..} -/
theorem lit_own {α : Type} [GT α] {M : Nat → Prop} {xs : List α} {cells : Array Value} {B : Nat} {w w' : World} (hx : Ext w w') (hB : B ≤ w.heap.size) (hh : w'.heap[w.heap.size]? = some (.cells cells e (0, 0))) (hc : Chunks M w cells.toList xs) (hl : xs.length ≤ maxLen) {M' : Nat → Prop} (hM : ∀ b, b < w.heap.size → M' b → M b) :
    (own B e (.slice (some ⟨w.heap.size, 0, none⟩) xs.length xs.length) xs).holds M' w' := by
  refine ⟨cells.toList, ⟨Chunks.length hc, .inr ⟨w.heap.size, xs.length, cells, rfl, hB, hh, Nat.le_refl _, hl, ?_, ?_⟩⟩, Chunks.lift ⟨hx.size, fun b hb hn => ⟨hx.block b hb, fun h => hn (hM b hb h)⟩⟩ hc⟩
  · have := Chunks.length hc; simpa using this
  · rw [List.take_of_length_le (by rw [Chunks.length hc]; exact Nat.le_refl _)]
theorem MS_new {it : Item} {b : Nat} (hn : it.blk = some b) : ∀ c, c < b → MS M0 (it :: l) c → MS M0 l c := by
  rintro c hc (h | ⟨j, hj, hjc⟩)
  · exact .inl h
  · rcases List.mem_cons.1 hj with rfl | hj
    · rw [hn] at hjc; cases hjc; omega
    · exact .inr ⟨j, hj, hjc⟩
theorem pb0 : (([] : List (Nat × Operand)).map fun p => (p.1, ev f p.2)) = [] := rfl
theorem pbc {i : Nat} {L : List (Nat × Operand)} {V : List (Nat × Value)} (h : ev f x = v) (t : (L.map fun p => (p.1, ev f p.2)) = V) : (((i, x) :: L).map fun p => (p.1, ev f p.2)) = (i, v) :: V := by
  rw [List.map_cons, t, h]
theorem bs {α : Type} [GT α] {xs : List α} {len : Nat} {L : List (Nat × Operand)} {V : List (Nat × Value)} {cells : Array Value} (H : HI M0 w0 w l) (ol : okL n (L.map (·.2)) = true) (hL : (L.map fun p => (p.1, ev f p.2)) = V)
    (hb : ∀ w, (Instr.buildSlice T len V.toArray).run P w = .ok (.slice (some ⟨w.heap.size, 0, none⟩) len len) (w.alloc (.cells cells e)))
    (hc : Chunks (MS M0 l) w cells.toList xs) (hl : xs.length = len) (hm : len ≤ maxLen)
    (h : ∀ g w', Ext w w' → HI M0 w0 w' (own w0.heap.size e (.slice (some ⟨g, 0, none⟩) len len) xs :: l) → K (upd f d (.slice (some ⟨g, 0, none⟩) len len)) w') :
    SO P n ops ⟨some d, .buildSlice T len L.toArray, ty, ps, af, none⟩ f w K := by
  subst hl hL
  refine SO.value (v := .slice (some ⟨w.heap.size, 0, none⟩) xs.length xs.length) (w' := w.alloc (.cells cells e)) ?_ (h _ _ (Ext.alloc w _) ?_)
  · have he : (L.map fun p => (p.1, (acts n f).eval p.2)) = L.map fun p => (p.1, ev f p.2) := by
      apply List.map_congr_left
      intro p hp
      rw [eval_acts (List.all_eq_true.1 ol p.2 (List.mem_map.2 ⟨p, hp, rfl⟩))]
    simp only [execOp, List.map_toArray]
    have := hb w
    rw [← he] at this
    simp [this]
  · refine H.new (Ext.alloc w _) w.heap.size rfl (Nat.le_refl _) (by simp) ?_
    exact lit_own (Ext.alloc w _) H.below.size (heap_alloc_new w _) hc hm (MS_new (b := w.heap.size) rfl)

/-! #### make([]T, n), make([]T, 0, n) -/
theorem mk {α : Type} [GT α] {m : Nat} {zx : α} (H : HI M0 w0 w l) (ox : okT n x = true) (oy : okT n y = true) (hx : ev f x = .int .i64 (m : Int)) (hy : ev f y = .int .i64 (m : Int)) (hu : P.underlying T = some (.slice e)) (F : TyF P e (GT.size α) (GT.agg α) bytes z)
    (hz : ∀ M w, GT.rep (α := α) M w z.cells.toList zx) (hb : bytes * m ≤ 281474976710656) (hm : m ≤ 9223372036854775807)
    (h : ∀ g w', Ext w w' → HI M0 w0 w' (own w0.heap.size e (.slice (some ⟨g, 0, none⟩) m m) (List.replicate m zx) :: l) → K (upd f d (.slice (some ⟨g, 0, none⟩) m m)) w') :
    SO P n ops ⟨some d, .makeSlice T x y, ty, ps, af, none⟩ f w K := by
  obtain ⟨inf, hi1, hi2, hi3, hi4⟩ := F.info
  obtain ⟨w', hrun, hown, hgr⟩ := run_make_full (P := P) w w0.heap.size T e inf z (GT.size α) hu hi1 hi2 hi3 .i64 .i64 m (by rw [hi4]; exact hb) (by simp only [maxLen]; omega) H.below.size
  refine SO.value (v := .slice (some ⟨w.heap.size, 0, none⟩) m m) (w' := w') (by simp [execOp, eval_acts ox, eval_acts oy, hx, hy, hrun]) (h _ _ (Ext.grown hgr) ?_)
  refine H.new (Ext.grown hgr) w.heap.size rfl (Nat.le_refl _) ((hown.lt _ rfl).2) ?_
  refine ⟨_, by rw [List.length_replicate]; exact hown, ?_⟩
  -- the cells are m times the zero value's
  have hzl : z.cells.toList.length = GT.size α := GT.len (hz (fun _ => False) w)
  have key : ∀ k, (madeCells z.cells (k * GT.size α)).toList = (List.replicate k z.cells.toList).flatten := by
    intro k
    apply List.ext_getElem
    · simp [madeCells, hzl, Nat.mul_comm]
    · intro i h1 h2
      have hik : i < k * GT.size α := by simpa [madeCells] using h1
      simp only [madeCells]
      have hs : z.cells.size = GT.size α := by simpa using hzl
      have hpos : 0 < GT.size α := GT.pos
      have hlt : i % GT.size α < z.cells.size := by rw [hs]; exact Nat.mod_lt _ hpos
      have e2 : ((List.replicate k z.cells.toList).flatten)[i]? = z.cells.toList[i % GT.size α]? := by
        clear h1 h2 hlt
        induction k generalizing i with
        | zero => simp at hik
        | succ k ih =>
          rw [List.replicate_succ, List.flatten_cons, List.getElem?_append]
          split
          · rename_i hl
            rw [hzl] at hl
            rw [Nat.mod_eq_of_lt hl]
          · rename_i hl
            rw [hzl] at hl ⊢
            rw [ih (i - GT.size α) (by rw [Nat.add_mul] at hik; omega)]
            rw [show i % GT.size α = (i - GT.size α) % GT.size α from by
              rw [Nat.mod_eq_sub_mod (by omega)]]
      have e3 := List.getElem?_eq_getElem h2
      rw [e2, List.getElem?_eq_getElem (by simpa using hlt)] at e3
      rw [← Option.some.inj e3]
      simp only [Array.getElem_toList, Array.getElem_map, Array.getElem_range, hs]
      rw [getElem!_pos z.cells (i % GT.size α) hlt]
  have hcs : ∀ k M w, Chunks (α := α) M w ((List.replicate k z.cells.toList).flatten) (List.replicate k zx) := by
    intro k
    induction k with
    | zero => intro M w; rfl
    | succ k ih => intro M w; exact ⟨_, _, by rw [List.replicate_succ, List.flatten_cons], hz M w, ih M w⟩
  rw [key]
  exact hcs _ _ _
theorem mk0 {α : Type} [GT α] {m : Nat} (H : HI M0 w0 w l) (ox : okT n x = true) (oy : okT n y = true) (hx : ev f x = .int .i64 0) (hy : ev f y = .int .i64 (m : Int)) (hu : P.underlying T = some (.slice e)) (F : TyF P e (GT.size α) agg bytes z)
    (hb : bytes * m ≤ 281474976710656) (hm : m ≤ 9223372036854775807)
    (h : ∀ g w', Ext w w' → HI M0 w0 w' (own w0.heap.size e (.slice (some ⟨g, 0, none⟩) 0 m) ([] : List α) :: l) → K (upd f d (.slice (some ⟨g, 0, none⟩) 0 m)) w') :
    SO P n ops ⟨some d, .makeSlice T x y, ty, ps, af, none⟩ f w K := by
  obtain ⟨inf, hi1, hi2, hi3, hi4⟩ := F.info
  obtain ⟨w', hrun, hown, hgr⟩ := run_make_own (P := P) w w0.heap.size T e inf z (GT.size α) hu hi1 hi2 hi3 .i64 .i64 m (by rw [hi4]; exact hb) (by simp only [maxLen]; omega) H.below.size
  refine SO.value (v := .slice (some ⟨w.heap.size, 0, none⟩) 0 m) (w' := w') (by simp [execOp, eval_acts ox, eval_acts oy, hx, hy, hrun]) (h _ _ (Ext.grown hgr) ?_)
  exact H.new (Ext.grown hgr) w.heap.size rfl (Nat.le_refl _) ((hown.lt _ rfl).2) ⟨[], hown, rfl⟩

/-! #### x[lo:hi] of a slice that is read -/
theorem RV.cut {α : Type} [GT α] {M : Nat → Prop} {w : World} {ao : Option Addr} {m cc : Nat} {xs : List α} (h : RV M w (.slice ao m cc) xs) (lo hi : Nat) (h1 : lo ≤ hi) (h2 : hi ≤ xs.length) (hc : cc = lo → xs.length = lo) :
    RV M w (.slice (if cc = lo then ao else ao.map (·.add (lo * GT.size α))) (hi - lo) (cc - lo)) ((xs.drop lo).take (hi - lo)) := by
  obtain ⟨a, n, c, he, h3, h4, h5, h6⟩ := RV.list.1 h
  simp only [Value.slice.injEq] at he
  obtain ⟨rfl, rfl, rfl⟩ := he
  refine RV.list.2 ⟨_, _, _, rfl, by simp; omega, by omega, by omega, ?_⟩
  by_cases h0 : hi - lo = 0
  · exact .inl h0
  · rcases h6 with h6 | ⟨ad, rfl, hs⟩
    · omega
    · have hne : cc ≠ lo := fun e => by have := hc e; omega
      refine .inr ⟨ad.add (lo * GT.size α), by simp [hne], fun i x hx => ?_⟩
      rw [List.getElem?_take] at hx
      split at hx
      · rw [List.getElem?_drop] at hx
        have := hs (lo + i) x hx
        rw [add_add]
        rwa [← Nat.add_mul]
      · cases hx
theorem slLH {α : Type} [GT α] {xs : List α} {ao : Option Addr} {cc : Nat} {lo hi : Int} {ylo yhi : Operand} (hR : RV M w (.slice ao xs.length cc) xs) (ox : okT n x = true) (ol : okT n ylo = true) (oh : okT n yhi = true) (hx : ev f x = .slice ao xs.length cc)
    (hl : ev f ylo = .int kk lo) (hh : ev f yhi = .int kk hi) (hb : 0 ≤ lo ∧ lo ≤ hi ∧ hi ≤ xs.length) (hu : P.underlying T = some (.slice e)) (F : TyF P e (GT.size α) agg bytes z)
    (h : ∀ a c, RV M w (.slice a ((xs.drop lo.toNat).take (hi.toNat - lo.toNat)).length c) ((xs.drop lo.toNat).take (hi.toNat - lo.toNat)) → K (upd f d (.slice a ((xs.drop lo.toNat).take (hi.toNat - lo.toNat)).length c)) w) :
    SO P n ops ⟨some d, .slice T x (some ylo) (some yhi) none, ty, ps, af, none⟩ f w K := by
  have hle : xs.length ≤ cc := by obtain ⟨a', n', c', he, _, h4, _⟩ := RV.list.1 hR; simp only [Value.slice.injEq] at he; omega
  have hc := hR.cut lo.toNat hi.toNat (by omega) (by omega) (fun e => by omega)
  have hlen : ((xs.drop lo.toNat).take (hi.toNat - lo.toNat)).length = hi.toNat - lo.toNat := by simp; omega
  refine SO.value (v := .slice (if cc = lo.toNat then ao else ao.map (·.add (lo.toNat * GT.size α))) (hi.toNat - lo.toNat) (cc - lo.toNat)) (w' := w) ?_ (by rw [hlen] at h; exact h _ _ hc)
  have hel : P.underlying T = some (.slice (P.elem T)) := by rw [hu]; simp [Program.elem, hu]
  have hel2 : P.elem T = e := by simp [Program.elem, hu]
  simp [execOp, eval_acts ox, eval_acts ol, eval_acts oh, hx, hl, hh, Instr.sliceAt, run_und hu]
  have := run_slice_lh (P := P) (w := w) T ao xs.length cc hel kk kk lo hi hb.1 hb.2.1 (by omega)
  rw [hel2, F.run_size] at this
  simp [this, sliced]
theorem slL {α : Type} [GT α] {xs : List α} {ao : Option Addr} {cc : Nat} {lo : Int} {ylo : Operand} (hR : RV M w (.slice ao xs.length cc) xs) (ox : okT n x = true) (ol : okT n ylo = true) (hx : ev f x = .slice ao xs.length cc)
    (hl : ev f ylo = .int kk lo) (hb : 0 ≤ lo ∧ lo ≤ xs.length) (hu : P.underlying T = some (.slice e)) (F : TyF P e (GT.size α) agg bytes z)
    (h : ∀ a c, RV M w (.slice a (xs.drop lo.toNat).length c) (xs.drop lo.toNat) → K (upd f d (.slice a (xs.drop lo.toNat).length c)) w) :
    SO P n ops ⟨some d, .slice T x (some ylo) none none, ty, ps, af, none⟩ f w K := by
  have hle : xs.length ≤ cc := by obtain ⟨a', n', c', he, _, h4, _⟩ := RV.list.1 hR; simp only [Value.slice.injEq] at he; omega
  have hc := hR.cut lo.toNat xs.length (by omega) (by omega) (fun e => by omega)
  rw [List.take_of_length_le (by simp)] at hc
  have hlen : (xs.drop lo.toNat).length = xs.length - lo.toNat := by simp
  refine SO.value (v := .slice (if cc = lo.toNat then ao else ao.map (·.add (lo.toNat * GT.size α))) (xs.length - lo.toNat) (cc - lo.toNat)) (w' := w) ?_ (by rw [hlen] at h; exact h _ _ hc)
  have hel : P.underlying T = some (.slice (P.elem T)) := by rw [hu]; simp [Program.elem, hu]
  have hel2 : P.elem T = e := by simp [Program.elem, hu]
  simp [execOp, eval_acts ox, eval_acts ol, hx, hl, Instr.sliceAt, run_und hu]
  have := run_slice_l (P := P) (w := w) T ao xs.length cc hel kk lo hb.1 (by omega)
  rw [hel2, F.run_size] at this
  simp [this, sliced]
theorem slH {α : Type} [GT α] {xs : List α} {ao : Option Addr} {cc : Nat} {hi : Int} {yhi : Operand} (hR : RV M w (.slice ao xs.length cc) xs) (ox : okT n x = true) (oh : okT n yhi = true) (hx : ev f x = .slice ao xs.length cc)
    (hh : ev f yhi = .int kk hi) (hb : 0 ≤ hi ∧ hi ≤ xs.length) (hu : P.underlying T = some (.slice e)) (F : TyF P e (GT.size α) agg bytes z)
    (h : ∀ a c, RV M w (.slice a (xs.take hi.toNat).length c) (xs.take hi.toNat) → K (upd f d (.slice a (xs.take hi.toNat).length c)) w) :
    SO P n ops ⟨some d, .slice T x none (some yhi) none, ty, ps, af, none⟩ f w K := by
  have hle : xs.length ≤ cc := by obtain ⟨a', n', c', he, _, h4, _⟩ := RV.list.1 hR; simp only [Value.slice.injEq] at he; omega
  have hc := hR.cut 0 hi.toNat (by omega) (by omega) (fun e => by omega)
  simp only [List.drop_zero, Nat.sub_zero] at hc
  have hlen : (xs.take hi.toNat).length = hi.toNat := by simp; omega
  refine SO.value (v := .slice (if cc = 0 then ao else ao.map (·.add (0 * GT.size α))) hi.toNat cc) (w' := w) ?_ (by rw [hlen] at h; exact h _ _ hc)
  have hel : P.underlying T = some (.slice (P.elem T)) := by rw [hu]; simp [Program.elem, hu]
  have hel2 : P.elem T = e := by simp [Program.elem, hu]
  simp [execOp, eval_acts ox, eval_acts oh, hx, hh, Instr.sliceAt, run_und hu]
  have := run_slice_h (P := P) (w := w) T ao xs.length cc hel kk hi hb.1 (by omega)
  rw [hel2, F.run_size] at this
  simp [this, sliced]

/-! #### structs -/
theorem bd {L : List (Nat × Operand)} {V : List (Nat × Value)} {v : Value} (ol : okL n (L.map (·.2)) = true) (hL : (L.map fun p => (p.1, ev f p.2)) = V) (hb : ∀ w, (Instr.build T V.toArray).run P w = .ok v w) (h : K (upd f d v) w) :
    SO P n ops ⟨some d, .build T L.toArray, ty, ps, af, none⟩ f w K := by
  subst hL
  refine SO.value (v := v) (w' := w) ?_ h
  have he : (L.map fun p => (p.1, (acts n f).eval p.2)) = L.map fun p => (p.1, ev f p.2) := by
    apply List.map_congr_left
    intro p hp
    rw [eval_acts (List.all_eq_true.1 ol p.2 (List.mem_map.2 ⟨p, hp, rfl⟩))]
  simp only [execOp, List.map_toArray]
  have := hb w
  rw [← he] at this
  simp [this]
/-- A field of a struct that is a value. -/
theorem fd {i : Nat} {u v : Value} (ox : okT n x = true) (hx : ev f x = u) (hr : ∀ w, (Instr.field T u i).run P w = .ok v w) (h : K (upd f d v) w) : SO P n ops ⟨some d, .field T x i, ty, ps, af, none⟩ f w K :=
  SO.value (v := v) (by simp [execOp, eval_acts ox, hx, hr w]) h
/-- An element of an array that is a value. -/
theorem ix {u v : Value} (ox : okT n x = true) (oy : okT n y = true) (hx : ev f x = u) (hy : ev f y = v2) (hr : ∀ w, (Instr.index T u v2).run P w = .ok v w) (h : K (upd f d v) w) : SO P n ops ⟨some d, .index T x y, ty, ps, af, none⟩ f w K :=
  SO.value (v := v) (by simp [execOp, eval_acts ox, eval_acts oy, hx, hy, hr w]) h
/-- &arr[i] of an array in memory, i a number that is there. -/
theorem iaA {i : Int} {m : Nat} (ox : okT n x = true) (oy : okT n y = true) (hx : ev f x = .pointer (some ad)) (hy : ev f y = .int kk i) (hi : 0 ≤ i ∧ i < (m : Int)) (hu : P.underlying T = some (.array m e)) (F : TyF P e size agg bytes z)
    (h : K (upd f d (.pointer (some (ad.add (i.toNat * size))))) w) : SO P n ops ⟨some d, .indexAddr T x y, ty, ps, af, none⟩ f w K :=
  SO.value (v := .pointer (some (ad.add (i.toNat * size)))) (by
    simp [execOp, eval_acts ox, eval_acts oy, hx, hy, Instr.indexAt, asIntOf, run_und hu, Instr.sureAddr, hi.1, hi.2, F.run_size]) h

theorem iaAn {i m : Nat} (ox : okT n x = true) (oy : okT n y = true) (hx : ev f x = .pointer (some ad)) (hy : ev f y = .int kk ((i : Nat) : Int)) (hi : i < m) (hu : P.underlying T = some (.array m e)) (F : TyF P e size agg bytes z)
    (h : K (upd f d (.pointer (some (ad.add (i * size))))) w) : SO P n ops ⟨some d, .indexAddr T x y, ty, ps, af, none⟩ f w K :=
  iaA ox oy hx hy (by omega) hu F (by rw [Int.toNat_natCast]; exact h)

/-! #### strings -/
theorem ixS {s : ByteArray} {i : Int} (ox : okT n x = true) (oy : okT n y = true) (hx : ev f x = .string s) (hy : ev f y = .int kk i) (hi : 0 ≤ i ∧ i < s.size) (hu : P.underlying T = some .string)
    (h : ∀ c, s[i.toNat]? = some c → K (upd f d (.int .u8 (c.toNat : Int))) w) : SO P n ops ⟨some d, .index T x y, ty, ps, af, none⟩ f w K := by
  have hlt : i.toNat < s.size := by omega
  have hg : s[i.toNat]? = some s[i.toNat] := getElem?_pos s i.toNat hlt
  exact SO.value (v := .int .u8 ((s[i.toNat]).toNat : Int)) (by
    simp [execOp, eval_acts ox, eval_acts oy, hx, hy, Instr.index, asIntOf, run_und hu, hi.1, hg]) (h _ hg)
theorem eqS {s t : ByteArray} (ox : okT n x = true) (oy : okT n y = true) (hx : ev f x = .string s) (hy : ev f y = .string t) (h : K (upd f d (.bool (decide (s = t)))) w) : SO P n ops ⟨some d, .binOp .eql T x y T2, ty, ps, af, none⟩ f w K :=
  SO.value (v := .bool (decide (s = t))) (by
    have e : (s.toList == t.toList) = decide (s = t) := by
      rw [← beq_toListBytes, Bool.eq_iff_iff]
      rcases s with ⟨a⟩
      rcases t with ⟨b⟩
      show (a == b) = true ↔ _
      simp
    have hg : (eqGuard .eql T x y (.string s) (.string t)).run P w = .ok () w := by unfold eqGuard; rfl
    simp only [execOp, eval_acts ox, eval_acts oy, hx, hy, Sem.run_bind, hg, Result.andThen_ok]
    simp [binOp, Op.stringOp, e]) h
theorem neS {s t : ByteArray} (ox : okT n x = true) (oy : okT n y = true) (hx : ev f x = .string s) (hy : ev f y = .string t) (h : K (upd f d (.bool (!decide (s = t)))) w) : SO P n ops ⟨some d, .binOp .neq T x y T2, ty, ps, af, none⟩ f w K :=
  SO.value (v := .bool (!decide (s = t))) (by
    have e : (s.toList == t.toList) = decide (s = t) := by
      rw [← beq_toListBytes, Bool.eq_iff_iff]
      rcases s with ⟨a⟩
      rcases t with ⟨b⟩
      show (a == b) = true ↔ _
      simp
    have hg : (eqGuard .neq T x y (.string s) (.string t)).run P w = .ok () w := by unfold eqGuard; rfl
    simp only [execOp, eval_acts ox, eval_acts oy, hx, hy, Sem.run_bind, hg, Result.andThen_ok]
    simp [binOp, Op.stringOp, e]) h
/-- '==', '!=' of two truth values. -/
theorem eqB {p q : Bool} (ox : okT n x = true) (oy : okT n y = true) (hx : ev f x = .bool p) (hy : ev f y = .bool q) (hu : P.underlying T = some .bool) (h : K (upd f d (.bool (p == q))) w) : SO P n ops ⟨some d, .binOp .eql T x y T2, ty, ps, af, none⟩ f w K :=
  SO.value (v := .bool (p == q)) (by
    have hg : (eqGuard .eql T x y (.bool p) (.bool q)).run P w = .ok () w := by unfold eqGuard; rfl
    have hr : (binOp .eql T (.bool p) (.bool q)).run P w = .ok (.bool (p == q)) w := by
      show ((Op.equal T (.bool p) (.bool q) >>= fun b => pure (Value.bool b)) : Sem Value).run P w = _
      have h : (Op.equal T (.bool p) (.bool q)).run P w = .ok (p == q) w := by
        rw [show Op.equal T (.bool p) (.bool q) = Op.equalIn (9999 + 1) T (.bool p) (.bool q) from rfl]
        unfold Op.equalIn
        rw [Sem.run_bind, run_und hu]; rfl
      rw [Sem.run_bind, h]; rfl
    simp only [execOp, eval_acts ox, eval_acts oy, hx, hy, Sem.run_bind, hg, hr, Result.andThen_ok, Sem.run_pure]) h
theorem neB {p q : Bool} (ox : okT n x = true) (oy : okT n y = true) (hx : ev f x = .bool p) (hy : ev f y = .bool q) (hu : P.underlying T = some .bool) (h : K (upd f d (.bool (!(p == q)))) w) : SO P n ops ⟨some d, .binOp .neq T x y T2, ty, ps, af, none⟩ f w K :=
  SO.value (v := .bool (!(p == q))) (by
    have hg : (eqGuard .neq T x y (.bool p) (.bool q)).run P w = .ok () w := by unfold eqGuard; rfl
    have hr : (binOp .neq T (.bool p) (.bool q)).run P w = .ok (.bool (!(p == q))) w := by
      show ((Op.equal T (.bool p) (.bool q) >>= fun b => pure (Value.bool (!b))) : Sem Value).run P w = _
      have h : (Op.equal T (.bool p) (.bool q)).run P w = .ok (p == q) w := by
        rw [show Op.equal T (.bool p) (.bool q) = Op.equalIn (9999 + 1) T (.bool p) (.bool q) from rfl]
        unfold Op.equalIn
        rw [Sem.run_bind, run_und hu]; rfl
      rw [Sem.run_bind, h]; rfl
    simp only [execOp, eval_acts ox, eval_acts oy, hx, hy, Sem.run_bind, hg, hr, Result.andThen_ok, Sem.run_pure]) h
/-- Any operator, by its run. -/
theorem op_ {op : BinOp} {u : Value} (ox : okT n x = true) (oy : okT n y = true) (hx : ev f x = v) (hy : ev f y = v2) (hg : (eqGuard op T x y v v2).run P w = .ok () w) (hr : (binOp op T v v2).run P w = .ok u w) (h : K (upd f d u) w) :
    SO P n ops ⟨some d, .binOp op T x y T2, ty, ps, af, none⟩ f w K :=
  SO.value (v := u) (by simp only [execOp, eval_acts ox, eval_acts oy, hx, hy, Sem.run_bind, hg, hr, Result.andThen_ok, Sem.run_pure]) h
end
end Go.Ew
