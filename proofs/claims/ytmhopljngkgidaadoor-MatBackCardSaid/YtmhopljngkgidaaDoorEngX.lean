/- Engine, part X: a slice of slices that the call itself made, with its rows, to be written. -/
import Derived.Test.YtmhopljngkgidaaDoorEngW
namespace Go.Ew
open Go.RowKit
set_option linter.unusedVariables false
set_option linter.unusedSimpArgs false

/-- A slice's own words. -/
structure SV where
  a : Option Addr
  n : Nat
  c : Nat
def SV.v (s : SV) : Value := .slice s.a s.n s.c
instance gSV : GT SV where
  size := 1
  agg := false
  rep _ _ cs s := cs = [s.v]
  len h := by rw [h]; rfl
  one h := by rw [h]; simp [Value.oneCell', SV.v]
  single _ := rfl
  pos := by decide
  lift h _ := h
theorem RV.sv {M : Nat → Prop} {w : World} {v : Value} {s : SV} : RV M w v s ↔ v = s.v := by
  constructor
  · rintro ⟨cs, rfl, rfl⟩; rfl
  · rintro rfl; exact ⟨_, rfl, rfl⟩

section
variable {α : Type} [GT α] {B : Nat} {e E : TypeId} {ss : List SV} {xs : List (List α)} {l l' : List Item} {M0 : Nat → Prop} {w0 w w' : World} {s : SV} {x y : List α} {i : Nat}
/-- The rows, each a slice of its own. -/
def rowItems (B : Nat) (e : TypeId) (ss : List SV) (xs : List (List α)) : List Item := List.zipWith (fun s x => own B e s.v x) ss xs
def rowImms (ss : List SV) (xs : List (List α)) : List Item := List.zipWith (fun s x => imm s.v x) ss xs
theorem row_at (hs : ss[i]? = some s) (hx : xs[i]? = some x) : (l ++ rowItems B e ss xs)[l.length + i]? = some (own B e s.v x) := by
  rw [List.getElem?_append_right (by omega), show l.length + i - l.length = i from by omega]
  unfold rowItems
  rw [List.getElem?_zipWith, hs, hx]
theorem row_set (hs : ss[i]? = some s) : (l ++ rowItems B e ss xs).set (l.length + i) (own B e s.v y) = l ++ rowItems B e ss (xs.set i y) := by
  rw [List.set_append_right _ _ (by omega), show l.length + i - l.length = i from by omega]
  congr 1
  unfold rowItems
  apply List.ext_getElem?
  intro j
  rw [List.getElem?_set, List.getElem?_zipWith, List.getElem?_zipWith, List.getElem?_set, List.length_zipWith]
  by_cases e : i = j
  · subst e
    have hl := (List.getElem?_eq_some_iff.1 hs).1
    by_cases hx : i < xs.length
    · rw [if_pos rfl, if_pos rfl, if_pos (by omega), if_pos hx, hs]
    · rw [if_pos rfl, if_pos rfl, if_neg (by omega), if_neg hx, hs]
  · rw [if_neg e, if_neg e]
theorem rows_snoc (h : ss.length = xs.length) : rowItems B e (ss ++ [s]) (xs ++ [x]) = rowItems B e ss xs ++ [own B e s.v x] := by
  unfold rowItems
  rw [List.zipWith_append h]; rfl
/-- Items in another order. -/
theorem HI.perm (H : HI M0 w0 w l) (hp : l'.Perm l) : HI M0 w0 w l' :=
  H.pick l' (fun it hit => hp.mem_iff.1 hit) ((hp.filterMap _).nodup_iff.2 H.nodup)
theorem HI.rowEnd (H : HI M0 w0 w (own B e s.v x :: (l ++ rowItems B e ss xs))) (h : ss.length = xs.length) : HI M0 w0 w (l ++ rowItems B e (ss ++ [s]) (xs ++ [x])) := by
  rw [rows_snoc h, ← List.append_assoc]
  exact H.perm (List.perm_append_singleton _ _)
theorem fm_congr {A B : Type} {f g : A → Option B} : ∀ {l : List A}, (∀ a ∈ l, f a = g a) → l.filterMap f = l.filterMap g
  | [], _ => rfl
  | a :: l, h => by rw [List.filterMap_cons, List.filterMap_cons, h a List.mem_cons_self, fm_congr fun b hb => h b (List.mem_cons_of_mem _ hb)]
theorem fm_range {A : Type} : ∀ t : List A, (List.range t.length).filterMap (fun i => t[i]?) = t
  | [] => rfl
  | a :: t => by
    rw [List.length_cons, List.range_succ_eq_map, List.filterMap_cons, List.filterMap_map]
    have : ((fun i => (a :: t)[i]?) ∘ Nat.succ) = fun i => t[i]? := by funext i; rfl
    rw [this, fm_range t]; rfl
/-- Some of the items, ahead of a tail that stays. -/
theorem HI.pickT {t : List Item} (H : HI M0 w0 w (l ++ t)) (is : List Nat) (hn : is.Nodup) (hb : is.all (fun i => Nat.blt i l.length) = true) (he : is.filterMap (fun i => l[i]?) = l') : HI M0 w0 w (l' ++ t) := by
  refine H.pickN (is ++ (List.range t.length).map (l.length + ·)) ?_ ?_
  · rw [List.nodup_append]
    refine ⟨hn, ?_, ?_⟩
    · rw [List.nodup_iff_pairwise_ne, List.pairwise_map]
      exact List.Pairwise.imp (fun h => by omega) List.nodup_range
    · intro a ha b hb' hab
      subst hab
      obtain ⟨j, -, rfl⟩ := List.mem_map.1 hb'
      have := List.all_eq_true.1 hb _ ha
      have : l.length + j < l.length := by simpa using this
      omega
  · rw [List.filterMap_append, ← he]
    congr 1
    · refine fm_congr fun i hi => ?_
      have := List.all_eq_true.1 hb _ hi
      rw [List.getElem?_append_left (by simpa using this)]
    · rw [List.filterMap_map]
      have : ((fun i => (l ++ t)[i]?) ∘ (l.length + ·)) = fun i => t[i]? := by
        funext i
        simp only [Function.comp]
        rw [List.getElem?_append_right (by omega), show l.length + i - l.length = i from by omega]
      rw [this]
      exact fm_range t
theorem HI.freezeRows : ∀ (ss : List SV) (xs : List (List α)) (l : List Item), HI M0 w0 w (l ++ rowItems B e ss xs) → HI M0 w0 w (l ++ rowImms ss xs)
  | [], xs, l, H => H
  | s :: ss, [], l, H => H
  | s :: ss, x :: xs, l, H => by
    have h1 : (l ++ rowItems B e (s :: ss) (x :: xs))[l.length]? = some (own B e s.v x) := by rw [List.getElem?_append_right (Nat.le_refl _), Nat.sub_self]; rfl
    have H1 := H.freeze l.length h1
    have h2 : (l ++ rowItems B e (s :: ss) (x :: xs)).set l.length (imm s.v x) = (l ++ [imm s.v x]) ++ rowItems B e ss xs := by
      rw [List.set_append_right _ _ (Nat.le_refl _), Nat.sub_self, List.append_assoc]; rfl
    rw [h2] at H1
    have H2 := HI.freezeRows ss xs _ H1
    rwa [List.append_assoc] at H2
theorem chunks_deep {M : Nat → Prop} : ∀ {ss : List SV} {xs : List (List α)} {cs : List Value}, ss.length = xs.length → (∀ (i : Nat) (s : SV) (x : List α), ss[i]? = some s → xs[i]? = some x → RV M w s.v x) → Chunks M w cs ss → Chunks M w cs xs
  | [], [], cs, _, _, h => h
  | s :: ss, x :: xs, cs, hl, hr, ⟨c1, c2, h1, h2, h3⟩ => by
    refine ⟨c1, c2, h1, ⟨s.v, h2, RV.list.1 (hr 0 s x rfl rfl)⟩, chunks_deep (by simpa using hl) (fun i s' x' hs hx => hr (i + 1) s' x' hs hx) h3⟩
  | [], _ :: _, _, h, _, _ => by cases h
  | _ :: _, [], _, h, _, _ => by cases h
/-- No more is written: the rows are data. -/
theorem HI.deep {v : Value} (H : HI M0 w0 w (own B E v ss :: (l ++ rowItems B e ss xs))) (hl : ss.length = xs.length) : HI M0 w0 w (own B E v xs :: l) := by
  have H1 : HI M0 w0 w (own B E v ss :: (l ++ rowImms ss xs)) := HI.freezeRows ss xs (own B E v ss :: l) H
  obtain ⟨cs, h1, h2⟩ := H1.at_ 0 rfl
  have key : ∀ (i : Nat) (s : SV) (x : List α), ss[i]? = some s → xs[i]? = some x → RV (MS M0 (own B E v ss :: (l ++ rowImms ss xs))) w s.v x := by
    intro i s x hs hx
    refine H1.all (imm s.v x) (List.mem_cons_of_mem _ (List.mem_append_right _ ?_))
    unfold rowImms
    exact List.mem_of_getElem? (i := i) (by rw [List.getElem?_zipWith, hs, hx])
  have H2 := H1.turn (it' := own B E v xs) 0 rfl rfl rfl rfl (Nat.le_refl _) (fun _ _ _ => rfl) (fun b hb => ⟨(H1.blks _ (List.mem_cons_self) b hb).2, .inl hb⟩) (by
    refine ⟨cs, ?_, Chunks.lift (M := MS M0 (own B E v ss :: (l ++ rowImms ss xs))) (Up.less ?_) (chunks_deep hl key h2)⟩
    · rw [← hl]; exact h1
    · rintro b _ (hb | ⟨it, hit, hb⟩)
      · exact .inl hb
      · rcases List.mem_cons.1 hit with rfl | hit
        · exact .inr ⟨_, List.mem_cons_self, hb⟩
        · exact .inr ⟨it, List.mem_cons_of_mem _ hit, hb⟩)
  refine H2.pick _ (fun it hit => ?_) ?_
  · rcases List.mem_cons.1 hit with rfl | hit
    · exact List.mem_cons_self
    · exact List.mem_cons_of_mem _ (List.mem_append_left _ hit)
  · refine List.Nodup.sublist ?_ H2.nodup
    refine List.Sublist.filterMap _ ?_
    exact (List.sublist_append_left l _).cons_cons _
/-- A call's own items, beside the caller's. -/
theorem HI.join (H : HI M0 w0 w l) (H' : HI (MS M0 l) w w' l') : HI M0 w0 w' (l' ++ l) := by
  have hM : ∀ b, MS (MS M0 l) l' b ↔ MS M0 (l' ++ l) b := by
    intro b
    constructor
    · rintro ((h | ⟨it, hit, hb⟩) | ⟨it, hit, hb⟩)
      · exact .inl h
      · exact .inr ⟨it, List.mem_append_right _ hit, hb⟩
      · exact .inr ⟨it, List.mem_append_left _ hit, hb⟩
    · rintro (h | ⟨it, hit, hb⟩)
      · exact .inl (.inl h)
      · rcases List.mem_append.1 hit with hit | hit
        · exact .inr ⟨it, hit, hb⟩
        · exact .inl (.inr ⟨it, hit, hb⟩)
  refine ⟨H.below.trans H'.below, H.m0, ?_, ?_, ?_⟩
  · intro it hit b hb
    rcases List.mem_append.1 hit with hit | hit
    · exact ⟨Nat.le_trans H.below.size (H'.blks it hit b hb).1, (H'.blks it hit b hb).2⟩
    · exact ⟨(H.blks it hit b hb).1, Nat.lt_of_lt_of_le (H.blks it hit b hb).2 H'.below.size⟩
  · rw [List.filterMap_append, List.nodup_append]
    refine ⟨H'.nodup, H.nodup, fun b hb c hc hbc => ?_⟩
    subst hbc
    obtain ⟨i, hi, hib⟩ := List.mem_filterMap.1 hb
    obtain ⟨j, hj, hjb⟩ := List.mem_filterMap.1 hc
    have h1 := (H'.blks i hi b hib).1
    have h2 := (H.blks j hj b hjb).2
    omega
  · intro it hit
    rcases List.mem_append.1 hit with hit | hit
    · exact it.lift (H'.all it hit) (Up.less fun b _ hb => (hM b).2 hb) fun _ _ => rfl
    · refine it.lift (H.all it hit) ⟨H'.below.size, fun c hc hMc => ⟨H'.below.block c hc, fun hb => ?_⟩⟩ fun b hb => H'.below.block b (H.blks it hit b hb).2
      rcases (hM c).2 hb with hb | ⟨i, hi, hib⟩
      · exact hMc hb
      · have := (H'.blks i hi c hib).1; omega
/-- The same items, less told. -/
theorem HI.weaken (H : HI M0 w0 w l) (hl : l'.map (·.blk) = l.map (·.blk)) (hh : ∀ (i : Nat) it it', l[i]? = some it → l'[i]? = some it' → ∀ M, it.holds M w → it'.holds M w) : HI M0 w0 w l' := by
  have hlen : l'.length = l.length := by simpa using congrArg List.length hl
  have hget : ∀ (i : Nat) it', l'[i]? = some it' → ∃ it, l[i]? = some it ∧ it.blk = it'.blk := by
    intro i it' hi
    have h1 := congrArg (fun z => z[i]?) hl
    simp only [List.getElem?_map, hi, Option.map_some] at h1
    cases hl2 : l[i]? with
    | none => rw [hl2] at h1; cases h1
    | some it => rw [hl2] at h1; exact ⟨it, rfl, (Option.some.inj h1).symm⟩
  have hMS : ∀ b, MS M0 l' b → MS M0 l b := by
    rintro b (h | ⟨it', hit, hb⟩)
    · exact .inl h
    · obtain ⟨i, hi⟩ := List.mem_iff_getElem?.1 hit
      obtain ⟨it, h1, h2⟩ := hget i it' hi
      exact .inr ⟨it, List.mem_of_getElem? h1, h2.trans hb⟩
  refine ⟨H.below, H.m0, ?_, ?_, ?_⟩
  · intro it' hit b hb
    obtain ⟨i, hi⟩ := List.mem_iff_getElem?.1 hit
    obtain ⟨it, h1, h2⟩ := hget i it' hi
    exact H.blks it (List.mem_of_getElem? h1) b (h2.trans hb)
  · have : ∀ m : List Item, m.filterMap (·.blk) = (m.map (·.blk)).filterMap id := by intro m; rw [List.filterMap_map]; rfl
    rw [this, hl, ← this]; exact H.nodup
  · intro it' hit
    obtain ⟨i, hi⟩ := List.mem_iff_getElem?.1 hit
    obtain ⟨it, h1, h2⟩ := hget i it' hi
    have := hh i it it' h1 hi _ (H.all it (List.mem_of_getElem? h1))
    exact it'.lift this (Up.less fun b _ hb => hMS b hb) fun _ _ => rfl
theorem own_low {β : Type} [GT β] {B B' : Nat} {v : Value} {ys : List β} {M : Nat → Prop} (hB : B' ≤ B) (h : (own B e v ys).holds M w) : (own B' e v ys).holds M w := by
  obtain ⟨cs, h1, h2⟩ := h
  refine ⟨cs, ⟨h1.1, ?_⟩, h2⟩
  rcases h1.2 with h3 | ⟨g, cap, cur, rfl, h3, h4⟩
  · exact .inl h3
  · exact .inr ⟨g, cap, cur, rfl, Nat.le_trans hB h3, h4⟩
/-- What a call hands back as its caller's own, with its rows. -/
def OwnsR (M : Nat → Prop) (E e : TypeId) (w0 : World) (ss : List SV) (xs : List (List α)) (v : Value) (w : World) : Prop := ss.length = xs.length ∧ HI M w0 w (own w0.heap.size E v ss :: rowItems w0.heap.size e ss xs)
theorem HI.ownsR {v : Value} (H : HI M0 w0 w l) (h : OwnsR (MS M0 l) E e w ss xs v w') : HI M0 w0 w' (own w0.heap.size E v ss :: (l ++ rowItems w0.heap.size e ss xs)) := by
  have H1 := H.join h.2
  have H2 : HI M0 w0 w' ((own w0.heap.size E v ss :: rowItems w0.heap.size e ss xs) ++ l) := by
    refine H1.weaken ?_ ?_
    · simp only [List.map_append, List.map_cons]
      congr 2
      unfold rowItems
      rw [List.map_zipWith, List.map_zipWith]; rfl
    · intro i it it' hi hi' M hh
      have hB : w0.heap.size ≤ w.heap.size := H.below.size
      cases i with
      | zero =>
        simp only [List.cons_append, List.getElem?_cons_zero, Option.some.injEq] at hi hi'
        subst hi; subst hi'; exact own_low hB hh
      | succ i =>
        simp only [List.cons_append, List.getElem?_cons_succ] at hi hi'
        have hlen : ∀ B, (rowItems B e ss xs).length = min ss.length xs.length := by intro B; unfold rowItems; simp
        by_cases hil : i < min ss.length xs.length
        · rw [List.getElem?_append_left (by rw [hlen]; exact hil)] at hi hi'
          unfold rowItems at hi hi'
          rw [List.getElem?_zipWith, List.getElem?_eq_getElem (by omega), List.getElem?_eq_getElem (by omega)] at hi hi'
          simp only [Option.some.injEq] at hi hi'
          subst hi; subst hi'; exact own_low hB hh
        · rw [List.getElem?_append_right (by rw [hlen]; omega), hlen] at hi hi'
          rw [hi] at hi'
          cases hi'; exact hh
  refine H2.perm ?_
  exact List.Perm.cons _ List.perm_append_comm
/-- A row, as the outer slice holds it. -/
theorem row_get (H : HI M0 w0 w (l ++ rowItems B e ss xs)) (hl : ss.length = xs.length) {i : Nat} (hi : i < ss.length) : ∃ (a : Option Addr) (x : List α) (c : Nat), ss[i]? = some (⟨a, x.length, c⟩ : SV) ∧ xs[i]? = some x := by
  have hs : ss[i]? = some ss[i] := List.getElem?_eq_getElem hi
  have hx : xs[i]? = some (xs[i]'(by omega)) := List.getElem?_eq_getElem (by omega)
  obtain ⟨cs, h1, h2⟩ := H.at_ _ (row_at (l := l) (B := B) (e := e) hs hx)
  have hn : ss[i].n = (xs[i]'(by omega)).length := by
    rcases h1.2 with ⟨h3, h4⟩ | ⟨g, cap, cur, h3, -⟩
    · rw [h4]; unfold SV.v at h3; injection h3
    · unfold SV.v at h3; injection h3
  refine ⟨ss[i].a, xs[i]'(by omega), ss[i].c, ?_, hx⟩
  rw [hs, ← hn]
/-- A row is turned. -/
theorem HI.rowPut {M : Nat → Prop} {it : Item} (H : HI M0 w0 w ((l ++ rowItems B e ss xs).set (l.length + i) (own B e s.v y))) (hs : ss[i]? = some s) : HI M0 w0 w (l ++ rowItems B e ss (xs.set i y)) := by
  rw [row_set hs] at H; exact H
/-- A row as data, for a call that gives numbers. -/
theorem row_rv (H : HI M0 w0 w (l ++ rowItems B e ss xs)) (hs : ss[i]? = some s) (hx : xs[i]? = some x) : RV (fun _ => False) w s.v x :=
  own_seg (H.at_ _ (row_at (l := l) (B := B) (e := e) hs hx)) (fun _ _ h => h.elim) (fun _ _ h => h.elim)
end
section
variable {P : Program} {n : Nat} {ops : Array Oper} {f : Slots} {w : World} {K : Slots → World → Prop} {M : Nat → Prop} {ad : Addr} {T : TypeId} {bytes : Nat} {z : Value} {x : Operand} {d : Nat} {ty : TypeId} {ps : String} {af : Array Edge}
theorem ldV {s : SV} (hA : AtW M w ad s) (F : TyF P T 1 false bytes z) (ox : okT n x = true) (hx : ev f x = .pointer (some ad)) (h : K (upd f d s.v) w) :
    SO P n ops ⟨some d, .load T x, ty, ps, af, none⟩ f w K := ldW hA F ox hx fun v hv => by rw [RV.sv.1 hv]; exact h
end
end Go.Ew
