/- Engine, part X: a slice of slices that the call itself made, with its rows, to be written. -/
import Derived.Test.YtmhopljngkgidaaOwnA
import Derived.Laws.CopyRow
import Derived.LaidMore
import Derived.Stop.Joined
import Derived.Laws.StructEq
import Derived.ChangeKeysEq
import Derived.MapKept
namespace Go.Ew
open Go.RowKit
set_option linter.unusedVariables false
set_option linter.unusedSimpArgs false

/-- A slice's own words. -/
structure SV where
  a : Option Addr
  n : Nat
  c : Nat
def SV.v (s : SV) : Value := .slice s.a s.n s.c
instance gSV : GT SV where
  size := 1
  agg := false
  rep _ _ cs s := cs = [s.v]
  len h := by rw [h]; rfl
  one h := by rw [h]; simp [Value.oneCell', SV.v]
  single _ := rfl
  pos := by decide
  lift h _ := h
theorem RV.sv {M : Nat → Prop} {w : World} {v : Value} {s : SV} : RV M w v s ↔ v = s.v := by
  constructor
  · rintro ⟨cs, rfl, rfl⟩; rfl
  · rintro rfl; exact ⟨_, rfl, rfl⟩

section
variable {α : Type} [GT α] {B : Nat} {e E : TypeId} {ss : List SV} {xs : List (List α)} {l l' : List Item} {M0 : Nat → Prop} {w0 w w' : World} {s : SV} {x y : List α} {i : Nat}
/-- The rows, each a slice of its own. -/
def rowItems (B : Nat) (e : TypeId) (ss : List SV) (xs : List (List α)) : List Item := List.zipWith (fun s x => own B e s.v x) ss xs
def rowImms (ss : List SV) (xs : List (List α)) : List Item := List.zipWith (fun s x => imm s.v x) ss xs
theorem row_at (hs : ss[i]? = some s) (hx : xs[i]? = some x) : (l ++ rowItems B e ss xs)[l.length + i]? = some (own B e s.v x) := by
  rw [List.getElem?_append_right (by omega), show l.length + i - l.length = i from by omega]
  unfold rowItems
  rw [List.getElem?_zipWith, hs, hx]
theorem row_set (hs : ss[i]? = some s) : (l ++ rowItems B e ss xs).set (l.length + i) (own B e s.v y) = l ++ rowItems B e ss (xs.set i y) := by
  rw [List.set_append_right _ _ (by omega), show l.length + i - l.length = i from by omega]
  congr 1
  unfold rowItems
  apply List.ext_getElem?
  intro j
  rw [List.getElem?_set, List.getElem?_zipWith, List.getElem?_zipWith, List.getElem?_set, List.length_zipWith]
  by_cases e : i = j
  · subst e
    have hl := (List.getElem?_eq_some_iff.1 hs).1
    by_cases hx : i < xs.length
    · rw [if_pos rfl, if_pos rfl, if_pos (by omega), if_pos hx, hs]
    · rw [if_pos rfl, if_pos rfl, if_neg (by omega), if_neg hx, hs]
  · rw [if_neg e, if_neg e]
theorem rows_snoc (h : ss.length = xs.length) : rowItems B e (ss ++ [s]) (xs ++ [x]) = rowItems B e ss xs ++ [own B e s.v x] := by
  unfold rowItems
  rw [List.zipWith_append h]; rfl
/-- Items in another order. -/
theorem HI.perm (H : HI M0 w0 w l) (hp : l'.Perm l) : HI M0 w0 w l' :=
  H.pick l' (fun it hit => hp.mem_iff.1 hit) ((hp.filterMap _).nodup_iff.2 H.nodup)
theorem HI.rowEnd (H : HI M0 w0 w (own B e s.v x :: (l ++ rowItems B e ss xs))) (h : ss.length = xs.length) : HI M0 w0 w (l ++ rowItems B e (ss ++ [s]) (xs ++ [x])) := by
  rw [rows_snoc h, ← List.append_assoc]
  exact H.perm (List.perm_append_singleton _ _)
theorem fm_congr {A B : Type} {f g : A → Option B} : ∀ {l : List A}, (∀ a ∈ l, f a = g a) → l.filterMap f = l.filterMap g
  | [], _ => rfl
  | a :: l, h => by rw [List.filterMap_cons, List.filterMap_cons, h a List.mem_cons_self, fm_congr fun b hb => h b (List.mem_cons_of_mem _ hb)]
theorem fm_range {A : Type} : ∀ t : List A, (List.range t.length).filterMap (fun i => t[i]?) = t
  | [] => rfl
  | a :: t => by
    rw [List.length_cons, List.range_succ_eq_map, List.filterMap_cons, List.filterMap_map]
    have : ((fun i => (a :: t)[i]?) ∘ Nat.succ) = fun i => t[i]? := by funext i; rfl
    rw [this, fm_range t]; rfl
/-- Some of the items, ahead of a tail that stays. -/
theorem HI.pickT {t : List Item} (H : HI M0 w0 w (l ++ t)) (is : List Nat) (hn : is.Nodup) (hb : is.all (fun i => Nat.blt i l.length) = true) (he : is.filterMap (fun i => l[i]?) = l') : HI M0 w0 w (l' ++ t) := by
  refine H.pickN (is ++ (List.range t.length).map (l.length + ·)) ?_ ?_
  · rw [List.nodup_append]
    refine ⟨hn, ?_, ?_⟩
    · rw [List.nodup_iff_pairwise_ne, List.pairwise_map]
      exact List.Pairwise.imp (fun h => by omega) List.nodup_range
    · intro a ha b hb' hab
      subst hab
      obtain ⟨j, -, rfl⟩ := List.mem_map.1 hb'
      have := List.all_eq_true.1 hb _ ha
      have : l.length + j < l.length := by simpa using this
      omega
  · rw [List.filterMap_append, ← he]
    congr 1
    · refine fm_congr fun i hi => ?_
      have := List.all_eq_true.1 hb _ hi
      rw [List.getElem?_append_left (by simpa using this)]
    · rw [List.filterMap_map]
      have : ((fun i => (l ++ t)[i]?) ∘ (l.length + ·)) = fun i => t[i]? := by
        funext i
        simp only [Function.comp]
        rw [List.getElem?_append_right (by omega), show l.length + i - l.length = i from by omega]
      rw [this]
      exact fm_range t
theorem HI.freezeRows : ∀ (ss : List SV) (xs : List (List α)) (l : List Item), HI M0 w0 w (l ++ rowItems B e ss xs) → HI M0 w0 w (l ++ rowImms ss xs)
  | [], xs, l, H => H
  | s :: ss, [], l, H => H
  | s :: ss, x :: xs, l, H => by
    have h1 : (l ++ rowItems B e (s :: ss) (x :: xs))[l.length]? = some (own B e s.v x) := by rw [List.getElem?_append_right (Nat.le_refl _), Nat.sub_self]; rfl
    have H1 := H.freeze l.length h1
    have h2 : (l ++ rowItems B e (s :: ss) (x :: xs)).set l.length (imm s.v x) = (l ++ [imm s.v x]) ++ rowItems B e ss xs := by
      rw [List.set_append_right _ _ (Nat.le_refl _), Nat.sub_self, List.append_assoc]; rfl
    rw [h2] at H1
    have H2 := HI.freezeRows ss xs _ H1
    rwa [List.append_assoc] at H2
theorem chunks_deep {M : Nat → Prop} : ∀ {ss : List SV} {xs : List (List α)} {cs : List Value}, ss.length = xs.length → (∀ (i : Nat) (s : SV) (x : List α), ss[i]? = some s → xs[i]? = some x → RV M w s.v x) → Chunks M w cs ss → Chunks M w cs xs
  | [], [], cs, _, _, h => h
  | s :: ss, x :: xs, cs, hl, hr, ⟨c1, c2, h1, h2, h3⟩ => by
    refine ⟨c1, c2, h1, ⟨s.v, h2, RV.list.1 (hr 0 s x rfl rfl)⟩, chunks_deep (by simpa using hl) (fun i s' x' hs hx => hr (i + 1) s' x' hs hx) h3⟩
  | [], _ :: _, _, h, _, _ => by cases h
  | _ :: _, [], _, h, _, _ => by cases h
/-- No more is written: the rows are data. -/
theorem HI.deep {v : Value} (H : HI M0 w0 w (own B E v ss :: (l ++ rowItems B e ss xs))) (hl : ss.length = xs.length) : HI M0 w0 w (own B E v xs :: l) := by
  have H1 : HI M0 w0 w (own B E v ss :: (l ++ rowImms ss xs)) := HI.freezeRows ss xs (own B E v ss :: l) H
  obtain ⟨cs, h1, h2⟩ := H1.at_ 0 rfl
  have key : ∀ (i : Nat) (s : SV) (x : List α), ss[i]? = some s → xs[i]? = some x → RV (MS M0 (own B E v ss :: (l ++ rowImms ss xs))) w s.v x := by
    intro i s x hs hx
    refine H1.all (imm s.v x) (List.mem_cons_of_mem _ (List.mem_append_right _ ?_))
    unfold rowImms
    exact List.mem_of_getElem? (i := i) (by rw [List.getElem?_zipWith, hs, hx])
  have H2 := H1.turn (it' := own B E v xs) 0 rfl rfl rfl rfl (Nat.le_refl _) (fun _ _ _ => rfl) (fun b hb => ⟨(H1.blks _ (List.mem_cons_self) b hb).2, .inl hb⟩) (by
    refine ⟨cs, ?_, Chunks.lift (M := MS M0 (own B E v ss :: (l ++ rowImms ss xs))) (Up.less ?_) (chunks_deep hl key h2)⟩
    · rw [← hl]; exact h1
    · rintro b _ (hb | ⟨it, hit, hb⟩)
      · exact .inl hb
      · rcases List.mem_cons.1 hit with rfl | hit
        · exact .inr ⟨_, List.mem_cons_self, hb⟩
        · exact .inr ⟨it, List.mem_cons_of_mem _ hit, hb⟩)
  refine H2.pick _ (fun it hit => ?_) ?_
  · rcases List.mem_cons.1 hit with rfl | hit
    · exact List.mem_cons_self
    · exact List.mem_cons_of_mem _ (List.mem_append_left _ hit)
  · refine List.Nodup.sublist ?_ H2.nodup
    refine List.Sublist.filterMap _ ?_
    exact (List.sublist_append_left l _).cons_cons _
/-- A call's own items, beside the caller's. -/
theorem HI.join (H : HI M0 w0 w l) (H' : HI (MS M0 l) w w' l') : HI M0 w0 w' (l' ++ l) := by
  have hM : ∀ b, MS (MS M0 l) l' b ↔ MS M0 (l' ++ l) b := by
    intro b
    constructor
    · rintro ((h | ⟨it, hit, hb⟩) | ⟨it, hit, hb⟩)
      · exact .inl h
      · exact .inr ⟨it, List.mem_append_right _ hit, hb⟩
      · exact .inr ⟨it, List.mem_append_left _ hit, hb⟩
    · rintro (h | ⟨it, hit, hb⟩)
      · exact .inl (.inl h)
      · rcases List.mem_append.1 hit with hit | hit
        · exact .inr ⟨it, hit, hb⟩
        · exact .inl (.inr ⟨it, hit, hb⟩)
  refine ⟨H.below.trans H'.below, H.m0, ?_, ?_, ?_⟩
  · intro it hit b hb
    rcases List.mem_append.1 hit with hit | hit
    · exact ⟨Nat.le_trans H.below.size (H'.blks it hit b hb).1, (H'.blks it hit b hb).2⟩
    · exact ⟨(H.blks it hit b hb).1, Nat.lt_of_lt_of_le (H.blks it hit b hb).2 H'.below.size⟩
  · rw [List.filterMap_append, List.nodup_append]
    refine ⟨H'.nodup, H.nodup, fun b hb c hc hbc => ?_⟩
    subst hbc
    obtain ⟨i, hi, hib⟩ := List.mem_filterMap.1 hb
    obtain ⟨j, hj, hjb⟩ := List.mem_filterMap.1 hc
    have h1 := (H'.blks i hi b hib).1
    have h2 := (H.blks j hj b hjb).2
    omega
  · intro it hit
    rcases List.mem_append.1 hit with hit | hit
    · exact it.lift (H'.all it hit) (Up.less fun b _ hb => (hM b).2 hb) fun _ _ => rfl
    · refine it.lift (H.all it hit) ⟨H'.below.size, fun c hc hMc => ⟨H'.below.block c hc, fun hb => ?_⟩⟩ fun b hb => H'.below.block b (H.blks it hit b hb).2
      rcases (hM c).2 hb with hb | ⟨i, hi, hib⟩
      · exact hMc hb
      · have := (H'.blks i hi c hib).1; omega
/-- The same items, less told. -/
theorem HI.weaken (H : HI M0 w0 w l) (hl : l'.map (·.blk) = l.map (·.blk)) (hh : ∀ (i : Nat) it it', l[i]? = some it → l'[i]? = some it' → ∀ M, it.holds M w → it'.holds M w) : HI M0 w0 w l' := by
  have hlen : l'.length = l.length := by simpa using congrArg List.length hl
  have hget : ∀ (i : Nat) it', l'[i]? = some it' → ∃ it, l[i]? = some it ∧ it.blk = it'.blk := by
    intro i it' hi
    have h1 := congrArg (fun z => z[i]?) hl
    simp only [List.getElem?_map, hi, Option.map_some] at h1
    cases hl2 : l[i]? with
    | none => rw [hl2] at h1; cases h1
    | some it => rw [hl2] at h1; exact ⟨it, rfl, (Option.some.inj h1).symm⟩
  have hMS : ∀ b, MS M0 l' b → MS M0 l b := by
    rintro b (h | ⟨it', hit, hb⟩)
    · exact .inl h
    · obtain ⟨i, hi⟩ := List.mem_iff_getElem?.1 hit
      obtain ⟨it, h1, h2⟩ := hget i it' hi
      exact .inr ⟨it, List.mem_of_getElem? h1, h2.trans hb⟩
  refine ⟨H.below, H.m0, ?_, ?_, ?_⟩
  · intro it' hit b hb
    obtain ⟨i, hi⟩ := List.mem_iff_getElem?.1 hit
    obtain ⟨it, h1, h2⟩ := hget i it' hi
    exact H.blks it (List.mem_of_getElem? h1) b (h2.trans hb)
  · have : ∀ m : List Item, m.filterMap (·.blk) = (m.map (·.blk)).filterMap id := by intro m; rw [List.filterMap_map]; rfl
    rw [this, hl, ← this]; exact H.nodup
  · intro it' hit
    obtain ⟨i, hi⟩ := List.mem_iff_getElem?.1 hit
    obtain ⟨it, h1, h2⟩ := hget i it' hi
    have := hh i it it' h1 hi _ (H.all it (List.mem_of_getElem? h1))
    exact it'.lift this (Up.less fun b _ hb => hMS b hb) fun _ _ => rfl
theorem own_low {β : Type} [GT β] {B B' : Nat} {v : Value} {ys : List β} {M : Nat → Prop} (hB : B' ≤ B) (h : (own B e v ys).holds M w) : (own B' e v ys).holds M w := by
  obtain ⟨cs, h1, h2⟩ := h
  refine ⟨cs, ⟨h1.1, ?_⟩, h2⟩
  rcases h1.2 with h3 | ⟨g, cap, cur, rfl, h3, h4⟩
  · exact .inl h3
  · exact .inr ⟨g, cap, cur, rfl, Nat.le_trans hB h3, h4⟩
/-- What a call hands back as its caller's own, with its rows. -/
def OwnsR (M : Nat → Prop) (E e : TypeId) (w0 : World) (ss : List SV) (xs : List (List α)) (v : Value) (w : World) : Prop := ss.length = xs.length ∧ HI M w0 w (own w0.heap.size E v ss :: rowItems w0.heap.size e ss xs)
theorem HI.ownsR {v : Value} (H : HI M0 w0 w l) (h : OwnsR (MS M0 l) E e w ss xs v w') : HI M0 w0 w' (own w0.heap.size E v ss :: (l ++ rowItems w0.heap.size e ss xs)) := by
  have H1 := H.join h.2
  have H2 : HI M0 w0 w' ((own w0.heap.size E v ss :: rowItems w0.heap.size e ss xs) ++ l) := by
    refine H1.weaken ?_ ?_
    · simp only [List.map_append, List.map_cons]
      congr 2
      unfold rowItems
      rw [List.map_zipWith, List.map_zipWith]; rfl
    · intro i it it' hi hi' M hh
      have hB : w0.heap.size ≤ w.heap.size := H.below.size
      cases i with
      | zero =>
        simp only [List.cons_append, List.getElem?_cons_zero, Option.some.injEq] at hi hi'
        subst hi; subst hi'; exact own_low hB hh
      | succ i =>
        simp only [List.cons_append, List.getElem?_cons_succ] at hi hi'
        have hlen : ∀ B, (rowItems B e ss xs).length = min ss.length xs.length := by intro B; unfold rowItems; simp
        by_cases hil : i < min ss.length xs.length
        · rw [List.getElem?_append_left (by rw [hlen]; exact hil)] at hi hi'
          unfold rowItems at hi hi'
          rw [List.getElem?_zipWith, List.getElem?_eq_getElem (by omega), List.getElem?_eq_getElem (by omega)] at hi hi'
          simp only [Option.some.injEq] at hi hi'
          subst hi; subst hi'; exact own_low hB hh
        · rw [List.getElem?_append_right (by rw [hlen]; omega), hlen] at hi hi'
          rw [hi] at hi'
          cases hi'; exact hh
  refine H2.perm ?_
  exact List.Perm.cons _ List.perm_append_comm
/-- A row, as the outer slice holds it. -/
theorem row_get (H : HI M0 w0 w (l ++ rowItems B e ss xs)) (hl : ss.length = xs.length) {i : Nat} (hi : i < ss.length) : ∃ (a : Option Addr) (x : List α) (c : Nat), ss[i]? = some (⟨a, x.length, c⟩ : SV) ∧ xs[i]? = some x := by
  have hs : ss[i]? = some ss[i] := List.getElem?_eq_getElem hi
  have hx : xs[i]? = some (xs[i]'(by omega)) := List.getElem?_eq_getElem (by omega)
  obtain ⟨cs, h1, h2⟩ := H.at_ _ (row_at (l := l) (B := B) (e := e) hs hx)
  have hn : ss[i].n = (xs[i]'(by omega)).length := by
    rcases h1.2 with ⟨h3, h4⟩ | ⟨g, cap, cur, h3, -⟩
    · rw [h4]; unfold SV.v at h3; injection h3
    · unfold SV.v at h3; injection h3
  refine ⟨ss[i].a, xs[i]'(by omega), ss[i].c, ?_, hx⟩
  rw [hs, ← hn]
/-- A row is turned. -/
theorem HI.rowPut {M : Nat → Prop} {it : Item} (H : HI M0 w0 w ((l ++ rowItems B e ss xs).set (l.length + i) (own B e s.v y))) (hs : ss[i]? = some s) : HI M0 w0 w (l ++ rowItems B e ss (xs.set i y)) := by
  rw [row_set hs] at H; exact H
/-- A row as data, for a call that gives numbers. -/
theorem row_rv (H : HI M0 w0 w (l ++ rowItems B e ss xs)) (hs : ss[i]? = some s) (hx : xs[i]? = some x) : RV (fun _ => False) w s.v x :=
  own_seg (H.at_ _ (row_at (l := l) (B := B) (e := e) hs hx)) (fun _ _ h => h.elim) (fun _ _ h => h.elim)
end
section
variable {P : Program} {n : Nat} {ops : Array Oper} {f : Slots} {w : World} {K : Slots → World → Prop} {M : Nat → Prop} {ad : Addr} {T : TypeId} {bytes : Nat} {z : Value} {x : Operand} {d : Nat} {ty : TypeId} {ps : String} {af : Array Edge}
theorem ldV {s : SV} (hA : AtW M w ad s) (F : TyF P T 1 false bytes z) (ox : okT n x = true) (hx : ev f x = .pointer (some ad)) (h : K (upd f d s.v) w) :
    SO P n ops ⟨some d, .load T x, ty, ps, af, none⟩ f w K := ldW hA F ox hx fun v hv => by rw [RV.sv.1 hv]; exact h
end
end Go.Ew
namespace Go.Ew
open Go.RowKit
set_option linter.unusedVariables false
set_option linter.unusedSimpArgs false
section
variable {P : Program} {n : Nat} {ops : Array Oper} {f : Slots} {w : World} {K : Slots → World → Prop} {x y : Operand} {d : Nat} {ty T e : TypeId} {ps : String} {af : Array Edge} {v u : Value} {M M0 : Nat → Prop} {w0 : World} {l : List Item} {bytes : Nat} {z : Value} {B : Nat}
theorem cpO {xs ys : List (BitVec 64)} (H : HI M0 w0 w l) (i : Nat) (hi : l[i]? = some (own B e v xs)) (hB : B = w0.heap.size) (ox : okT n x = true) (oy : okT n y = true) (hx : ev f x = v) (hy : ev f y = u)
    (hs : Src (MS M0 l) w u ys) (hu : P.underlying T = some (.slice e)) (F : TyF P e 1 false bytes z) (hl : ys.length = xs.length) (hp : 0 < xs.length)
    (h : ∀ w', HI M0 w0 w' (l.set i (own B e v ys)) → K (upd f d (.int .i64 (ys.length : Int))) w') :
    SO P n ops ⟨some d, .call { callee := .builtin .copy, args := #[x, y], argTypes := #[T, T] }, ty, ps, af, none⟩ f w K := by
  subst hB
  obtain ⟨cs, h1, h2⟩ := H.at_ i hi
  obtain ⟨a0, c0, rfl, hsrc⟩ := hs
  obtain ⟨inf, hi1, hi2, hi3, hi4⟩ := F.info
  rcases h1.2 with ⟨rfl, h3⟩ | ⟨g', cap, cur, rfl, h3, h4, h5, h6, h7, h8⟩
  · omega
  · rcases hsrc with h0 | ⟨ad, rfl, ds, hd1, hd2⟩
    · omega
    · have hdl : ds.length = ys.length := by have := Chunks.length hd1; simpa [GT.size] using this
      have hsz : cur.size = cap := by rw [h7]; simp [GT.size]
      have hrun := run_copy_row (P := P) w T T ty e g' 0 xs.length cap ad ys.length c0 cur e ds hu (by rw [hi1]; simp [hi3]) h4 (by rw [hdl, hl]; simp) hd2 (by omega) (Chunks.oneC hd1)
      refine SO.value (v := .int .i64 (ys.length : Int)) (w' := w.setRow g' (wr cur 0 ds)) ?_ (h _ ?_)
      · have hr2 : (Builtin.copy_ #[T, T] ty #[.slice (some ⟨g', 0, none⟩) xs.length cap, .slice (some ad) ys.length c0]).run P w = .ok (.int .i64 (ys.length : Int)) (w.setRow g' (wr cur 0 ds)) := by
          rw [hrun, ← hdl]; rfl
        simp [execOp, resolve, invoke, builtin, eval_acts ox, eval_acts oy, hx, hy, hr2]
      · have hother : ∀ c, c < w.heap.size → (own w0.heap.size e (Value.slice (some ⟨g', 0, none⟩) xs.length cap) xs).blk ≠ some c → (w.setRow g' (wr cur 0 ds)).heap[c]? = w.heap[c]? :=
          fun c hc hne => setRow_other w g' c _ (fun e => hne (by rw [e]; rfl))
        have hblk : ∀ b, (own w0.heap.size e (Value.slice (some ⟨g', 0, none⟩) xs.length cap) ys).blk = some b → b < (w.setRow g' (wr cur 0 ds)).heap.size ∧ ((own w0.heap.size e (Value.slice (some ⟨g', 0, none⟩) xs.length cap) xs).blk = some b ∨ w.heap.size ≤ b) := by
          intro b hb
          refine ⟨?_, .inl hb⟩
          rw [size_setRow]
          exact (H.blks _ (List.mem_of_getElem? hi) b hb).2
        refine H.turn i hi rfl rfl rfl (by simp) hother hblk ?_
        refine ⟨ds, ⟨by simpa [GT.size] using hdl, .inr ⟨g', cap, wr cur 0 ds, by rw [hl], h3, setRow_heap w g' cur _ e _ h4, by omega, h6, ?_, ?_⟩⟩, ?_⟩
        · simp only [wr, List.size_toArray, List.length_append, List.length_take, List.length_drop, Array.length_toList]
          omega
        · simp only [wr]
          rw [List.take_zero, List.nil_append, Nat.zero_add, List.take_left' (by simpa [GT.size] using hdl)]
        · have hup : Up (MS M0 l) w (MS M0 (l.set i (own w0.heap.size e (Value.slice (some ⟨g', 0, none⟩) xs.length cap) ys))) (w.setRow g' (wr cur 0 ds)) := by
            refine ⟨by simp, fun b hb hM => ⟨setRow_other w g' b _ (fun e => hM (.inr ⟨_, List.mem_of_getElem? hi, by rw [e]; rfl⟩)), ?_⟩⟩
            rintro (hM' | ⟨it, hit, hitb⟩)
            · exact hM (.inl hM')
            · rcases List.mem_or_eq_of_mem_set hit with hit | rfl
              · exact hM (.inr ⟨it, hit, hitb⟩)
              · exact hM (.inr ⟨_, List.mem_of_getElem? hi, hitb⟩)
          exact Chunks.lift hup hd1
end
/-- Two rows of one matrix: unlike places, or the same row. -/
theorem join_ne {α : Type} {ss : List SV} {xs : List (List α)} {i k L : Nat} {s s2 : SV} {x x2 : List α} (hs : ss[i]? = some s) (hs2 : ss[k]? = some s2) (hx : xs[i]? = some x) (hx2 : xs[k]? = some x2) : L + i ≠ L + k ∨ (s.v = s2.v ∧ x2 = x) := by
  by_cases h : i = k
  · subst h
    right
    rw [hs] at hs2; rw [hx] at hx2
    cases hs2; cases hx2
    exact ⟨rfl, rfl⟩
  · left; omega
end Go.Ew
namespace Go.Ew
set_option linter.unusedVariables false

def bitB (i : Int) : BitVec 64 := if 0 ≤ i ∧ i ≤ 63 then 1#64 <<< i.toNat else 0#64
theorem ofInt_i64 {i : Int} (h : I64 i) : ((BitVec.ofInt 64 i).toNat : Int) = if 0 ≤ i then i else i + 18446744073709551616 := by
  rw [← wrap_u64_bv, IntKind.wrap_u64]; unfold I64 at h; split <;> omega
theorem bitB_hi {i : Int} (h : I64 i) (h1 : 63 < (BitVec.ofInt 64 i).toNat) : 0#64 = bitB i := by
  unfold bitB; rw [if_neg]; have := ofInt_i64 h; unfold I64 at h; split at this <;> omega
theorem bitB_lo {i : Int} (h : I64 i) (h1 : ¬ 63 < (BitVec.ofInt 64 i).toNat) : 1#64 <<< ((BitVec.ofInt 64 i).toNat : Int).toNat = bitB i := by
  have h2 := ofInt_i64 h
  unfold bitB; unfold I64 at h
  split at h2
  · rw [if_pos (by omega)]; congr 1; omega
  · omega
/-- Has a word a bit? -/
def hasW (w : BitVec 64) (i : Int) : Bool := decide (0 ≤ i) && w.getLsbD i.toNat
theorem and_bit (w : BitVec 64) (k : Nat) (hk : k < 64) : (w &&& 1#64 <<< k = 0#64) ↔ w.getLsbD k = false := by
  constructor
  · intro h
    have := congrArg (·.getLsbD k) h
    simpa [hk] using this
  · intro h
    apply BitVec.eq_of_getLsbD_eq
    intro j hj
    simp only [BitVec.getLsbD_and, BitVec.getLsbD_shiftLeft, BitVec.getLsbD_zero]
    by_cases hjk : j = k
    · subst hjk; simp [h]
    · by_cases hlt : j < k
      · simp [hlt]
      · have : j - k ≠ 0 := by omega
        simp [this]
theorem hasW_eq (w : BitVec 64) (i : Int) : (!decide (w &&& bitB i = 0#64)) = hasW w i := by
  unfold bitB hasW
  by_cases h : 0 ≤ i ∧ i ≤ 63
  · rw [if_pos h, Bool.eq_iff_iff]
    have := and_bit w i.toNat (by omega)
    simp [this, h.1]
  · rw [if_neg h]
    by_cases h0 : 0 ≤ i
    · have : w.getLsbD i.toNat = false := BitVec.getLsbD_of_ge w _ (by omega)
      simp [this]
    · simp [h0]
/-- A row of words; its bits. -/
abbrev Row := List (BitVec 64)
def hasR (r : Row) (i : Int) : Bool := decide (0 ≤ i) && (r.getD (i.toNat / 64) 0#64).getLsbD (i.toNat % 64)
def inR (r : Row) (i : Int) : Bool := decide (0 ≤ i ∧ i < 64 * (r.length : Int))
theorem inR_yes {r : Row} {i : Int} (h : 0 ≤ i) : decide (i / 64 < (r.length : Int)) = inR r i := by
  unfold inR; congr 1; apply propext; omega
theorem inR_no {r : Row} {i : Int} (h : i < 0) : false = inR r i := by
  unfold inR; simp; omega
theorem hasR_in {r : Row} {i : Int} (h : inR r i = true) {x : BitVec 64} (hx : r[(i / 64).toNat]? = some x) : hasW x (i % 64) = hasR r i := by
  unfold inR at h; simp only [decide_eq_true_eq] at h
  unfold hasW hasR
  have e1 : (i / 64).toNat = i.toNat / 64 := by omega
  have e2 : (i % 64).toNat = i.toNat % 64 := by omega
  rw [e1] at hx
  rw [e2, List.getD_eq_getElem?_getD, hx]
  simp [h.1, Int.emod_nonneg]
theorem hasR_out {r : Row} {i : Int} (h : inR r i = false) : false = hasR r i := by
  unfold inR at h; simp only [decide_eq_false_iff_not] at h
  unfold hasR
  by_cases h0 : 0 ≤ i
  · rw [List.getD_eq_getElem?_getD, List.getElem?_eq_none (by omega)]; simp
  · simp [h0]
def setR (r : Row) (i : Int) : Row := if inR r i then r.set (i.toNat / 64) (r.getD (i.toNat / 64) 0#64 ||| bitB (i % 64)) else r
theorem setR_in {r : Row} {i : Int} (h : inR r i = true) {x : BitVec 64} (hx : r[(i / 64).toNat]? = some x) : r.set (i / 64).toNat (x ||| bitB (i % 64)) = setR r i := by
  unfold setR; rw [if_pos h]
  unfold inR at h; simp only [decide_eq_true_eq] at h
  have e1 : (i / 64).toNat = i.toNat / 64 := by omega
  rw [e1] at hx
  rw [e1, List.getD_eq_getElem?_getD, hx]; rfl
theorem setR_out {r : Row} {i : Int} (h : inR r i = false) : r = setR r i := by
  unfold setR; rw [if_neg (by simp [h])]
end Go.Ew
namespace Go.Ew
set_option linter.unusedVariables false

/-- How many of the first k bits. -/
def cntN (x : Nat) : Nat → Nat
  | 0 => 0
  | k + 1 => cntN x k + (x.testBit k).toNat
def countW (x : BitVec 64) : Nat := cntN x.toNat 64
theorem cntN_le (x : Nat) : ∀ k, cntN x k ≤ k
  | 0 => Nat.le_refl _
  | k + 1 => by have := cntN_le x k; have : (x.testBit k).toNat ≤ 1 := Bool.toNat_le _; simp only [cntN]; omega
theorem countW_le (x : BitVec 64) : countW x ≤ 64 := cntN_le _ _
theorem testBit_low {a A k : Nat} (ha : a < 256) : (a + 256 * A).testBit k = if k < 8 then a.testBit k else A.testBit (k - 8) := by
  have h := Nat.testBit_two_pow_mul_add (i := 8) A (b := a) (by simpa using ha) k
  rw [show a + 256 * A = 2 ^ 8 * A + a from by omega]
  exact h
theorem cntN_low {a A : Nat} (ha : a < 256) : ∀ k, k ≤ 8 → cntN (a + 256 * A) k = cntN a k
  | 0, _ => rfl
  | k + 1, h => by
    simp only [cntN]
    rw [cntN_low ha k (by omega), testBit_low ha, if_pos (by omega)]
theorem cntN_split {a A : Nat} (ha : a < 256) : ∀ k, cntN (a + 256 * A) (8 + k) = cntN a 8 + cntN A k
  | 0 => cntN_low ha 8 (Nat.le_refl _)
  | k + 1 => by
    have h := cntN_split (A := A) ha k
    rw [show 8 + (k + 1) = (8 + k) + 1 from by omega]
    show cntN (a + 256 * A) (8 + k) + ((a + 256 * A).testBit (8 + k)).toNat = cntN a 8 + (cntN A k + (A.testBit k).toNat)
    rw [h, testBit_low ha, if_neg (by omega), show 8 + k - 8 = k from by omega]
    omega

/-! The library's reckoning, byte by byte. -/
theorem land_low {a A m M : Nat} (ha : a < 256) (hm : m < 256) : (a + 256 * A) &&& (m + 256 * M) = (a &&& m) + 256 * (A &&& M) := by
  have h1 : ((a + 256 * A) &&& (m + 256 * M)) % 2 ^ 8 = (a + 256 * A) % 2 ^ 8 &&& (m + 256 * M) % 2 ^ 8 := Nat.and_mod_two_pow
  have h2 : ((a + 256 * A) &&& (m + 256 * M)) / 2 ^ 8 = (a + 256 * A) / 2 ^ 8 &&& (m + 256 * M) / 2 ^ 8 := Nat.and_div_two_pow
  rw [show (a + 256 * A) % 2 ^ 8 = a from by omega, show (m + 256 * M) % 2 ^ 8 = m from by omega] at h1
  rw [show (a + 256 * A) / 2 ^ 8 = A from by omega, show (m + 256 * M) / 2 ^ 8 = M from by omega] at h2
  omega
def rep (m : Nat) : Nat → Nat
  | 0 => 0
  | n + 1 => m + 256 * rep m n
theorem rep_succ (m n : Nat) : rep m (n + 1) = m + 256 * rep m n := rfl
def s1 (n x : Nat) : Nat := (x / 2 &&& rep 0x55 n) + (x &&& rep 0x55 n)
def s2 (n x : Nat) : Nat := (x / 4 &&& rep 0x33 n) + (x &&& rep 0x33 n)
def s3 (n x : Nat) : Nat := (x / 16 + x) &&& rep 0x0f n
def byte1 (a : Nat) : Nat := (a / 2 &&& 0x55) + (a &&& 0x55)
def byte2 (a : Nat) : Nat := (a / 4 &&& 0x33) + (a &&& 0x33)
theorem b1_hi : ∀ c < 2, ∀ a < 256, (a / 2 + 128 * c) &&& 0x55 = a / 2 &&& 0x55 := by decide +kernel
theorem b2_hi : ∀ c < 4, ∀ a < 256, (a / 4 + 64 * c) &&& 0x33 = a / 4 &&& 0x33 := by decide +kernel
theorem b1_lt : ∀ a < 256, byte1 a < 256 := by decide +kernel
theorem b2_lt : ∀ a < 256, byte2 a < 256 := by decide +kernel
theorem b3 : ∀ a < 256, byte2 (byte1 a) < 69 ∧ byte2 (byte1 a) % 16 < 5 ∧ byte2 (byte1 a) % 16 + byte2 (byte1 a) / 16 = cntN a 8 := by decide +kernel
theorem b3_hi : ∀ c < 5, ∀ a < 69, a % 16 < 5 → a / 16 + 16 * c + a < 256 ∧ (a / 16 + 16 * c + a) &&& 15 = a % 16 + a / 16 := by decide +kernel
theorem s1_step {n a A : Nat} (ha : a < 256) : s1 (n + 1) (a + 256 * A) = byte1 a + 256 * s1 n A := by
  unfold s1 byte1
  rw [rep_succ]
  rw [show (a + 256 * A) / 2 = (a / 2 + 128 * (A % 2)) + 256 * (A / 2) from by omega, land_low (by omega) (by omega), land_low ha (by omega), b1_hi _ (by omega) _ ha]
  omega
theorem s2_step {n a A : Nat} (ha : a < 256) : s2 (n + 1) (a + 256 * A) = byte2 a + 256 * s2 n A := by
  unfold s2 byte2
  rw [rep_succ]
  rw [show (a + 256 * A) / 4 = (a / 4 + 64 * (A % 4)) + 256 * (A / 4) from by omega, land_low (by omega) (by omega), land_low ha (by omega), b2_hi _ (by omega) _ ha]
  omega
theorem s3_step {n a A : Nat} (ha : a < 69) (h1 : a % 16 < 5) (hA : A % 16 < 5) : s3 (n + 1) (a + 256 * A) = (a % 16 + a / 16) + 256 * s3 n A := by
  unfold s3
  rw [rep_succ]
  have hb := b3_hi (A % 16) hA a ha h1
  rw [show (a + 256 * A) / 16 + (a + 256 * A) = (a / 16 + 16 * (A % 16) + a) + 256 * (A / 16 + A) from by omega, land_low hb.1 (by omega), hb.2]
/-- A number, of its bytes. -/
def ofB : List Nat → Nat
  | [] => 0
  | a :: l => a + 256 * ofB l
theorem s1_of : ∀ l : List Nat, (∀ a ∈ l, a < 256) → s1 l.length (ofB l) = ofB (l.map byte1)
  | [], _ => rfl
  | a :: l, h => by
    simp only [ofB, List.length_cons, List.map_cons]
    rw [s1_step (h a (by simp)), s1_of l fun b hb => h b (by simp [hb])]
theorem s2_of : ∀ l : List Nat, (∀ a ∈ l, a < 256) → s2 l.length (ofB l) = ofB (l.map byte2)
  | [], _ => rfl
  | a :: l, h => by
    simp only [ofB, List.length_cons, List.map_cons]
    rw [s2_step (h a (by simp)), s2_of l fun b hb => h b (by simp [hb])]
theorem ofB_low {l : List Nat} (h : ∀ a ∈ l, a < 69 ∧ a % 16 < 5) : ofB l % 16 < 5 := by
  cases l with
  | nil => decide
  | cons a l => have := h a (by simp); simp only [ofB]; omega
theorem s3_of : ∀ l : List Nat, (∀ a ∈ l, a < 69 ∧ a % 16 < 5) → s3 l.length (ofB l) = ofB (l.map fun a => a % 16 + a / 16)
  | [], _ => rfl
  | a :: l, h => by
    simp only [ofB, List.length_cons, List.map_cons]
    rw [s3_step (h a (by simp)).1 (h a (by simp)).2 (ofB_low fun b hb => h b (by simp [hb])), s3_of l fun b hb => h b (by simp [hb])]
theorem cnt_of : ∀ l : List Nat, (∀ a ∈ l, a < 256) → cntN (ofB l) (8 * l.length) = (l.map fun a => cntN a 8).sum
  | [], _ => rfl
  | a :: l, h => by
    rw [List.length_cons, show 8 * (l.length + 1) = 8 + 8 * l.length from by omega, ofB, cntN_split (h a (by simp)), cnt_of l fun b hb => h b (by simp [hb])]
    simp
def bytesOf : Nat → Nat → List Nat
  | 0, _ => []
  | n + 1, x => x % 256 :: bytesOf n (x / 256)
theorem bytesOf_lt : ∀ n x, ∀ a ∈ bytesOf n x, a < 256
  | 0, _, a, h => by cases h
  | n + 1, x, a, h => by
    rcases List.mem_cons.1 h with rfl | h
    · omega
    · exact bytesOf_lt n _ a h
theorem bytesOf_len : ∀ n x, (bytesOf n x).length = n
  | 0, _ => rfl
  | n + 1, x => by simp [bytesOf, bytesOf_len n]
theorem ofB_bytesOf : ∀ n x, x < 256 ^ n → ofB (bytesOf n x) = x
  | 0, x, h => by simp at h; simp [bytesOf, ofB, h]
  | n + 1, x, h => by
    rw [bytesOf, ofB, ofB_bytesOf n _ (by rw [Nat.pow_succ] at h; omega)]; omega
theorem eight {l : List Nat} (h : l.length = 8) : ∃ a0 a1 a2 a3 a4 a5 a6 a7, l = [a0, a1, a2, a3, a4, a5, a6, a7] := by
  match l, h with
  | [a0, a1, a2, a3, a4, a5, a6, a7], _ => exact ⟨_, _, _, _, _, _, _, _, rfl⟩
theorem ofB8 (a0 a1 a2 a3 a4 a5 a6 a7 : Nat) : ofB [a0, a1, a2, a3, a4, a5, a6, a7] = a0 + 256 * (a1 + 256 * (a2 + 256 * (a3 + 256 * (a4 + 256 * (a5 + 256 * (a6 + 256 * a7)))))) := rfl
theorem ofB8_lt {l : List Nat} (h : l.length = 8) (hb : ∀ a ∈ l, a < 256) : ofB l < 18446744073709551616 := by
  obtain ⟨a0, a1, a2, a3, a4, a5, a6, a7, rfl⟩ := eight h
  have h0 := hb a0 (by simp)
  have h1 := hb a1 (by simp)
  have h2 := hb a2 (by simp)
  have h3 := hb a3 (by simp)
  have h4 := hb a4 (by simp)
  have h5 := hb a5 (by simp)
  have h6 := hb a6 (by simp)
  have h7 := hb a7 (by simp)
  rw [ofB8]; omega
theorem ofB8_lt' {l : List Nat} (h : l.length = 8) (hb : ∀ a ∈ l, a < 69) : ofB l < 5000000000000000000 := by
  obtain ⟨a0, a1, a2, a3, a4, a5, a6, a7, rfl⟩ := eight h
  have h0 := hb a0 (by simp)
  have h1 := hb a1 (by simp)
  have h2 := hb a2 (by simp)
  have h3 := hb a3 (by simp)
  have h4 := hb a4 (by simp)
  have h5 := hb a5 (by simp)
  have h6 := hb a6 (by simp)
  have h7 := hb a7 (by simp)
  rw [ofB8]; omega
theorem s321 (x : Nat) (h : x < 18446744073709551616) : ∃ l : List Nat, l.length = 8 ∧ (∀ a ∈ l, a ≤ 8) ∧
    s3 8 (s2 8 (s1 8 x)) = ofB l ∧ cntN x 64 = l.sum ∧ s1 8 x < 18446744073709551616 ∧ s2 8 (s1 8 x) < 5000000000000000000 := by
  have hx : ofB (bytesOf 8 x) = x := ofB_bytesOf 8 x (by simpa using h)
  have hlt := bytesOf_lt 8 x
  have hl := bytesOf_len 8 x
  generalize bytesOf 8 x = L at hx hlt hl
  have e1 : s1 8 x = ofB (L.map byte1) := by have := s1_of _ hlt; rwa [hl, hx] at this
  have hb1 : ∀ a ∈ L.map byte1, a < 256 := by intro a ha; obtain ⟨b, hb, rfl⟩ := List.mem_map.1 ha; exact b1_lt b (hlt b hb)
  have e2 : s2 8 (s1 8 x) = ofB ((L.map byte1).map byte2) := by
    have := s2_of (L.map byte1) hb1
    rwa [List.length_map, hl, ← e1] at this
  have hb2 : ∀ a ∈ (L.map byte1).map byte2, a < 69 ∧ a % 16 < 5 := by
    intro a ha; obtain ⟨c, hc, rfl⟩ := List.mem_map.1 ha; obtain ⟨b, hb, rfl⟩ := List.mem_map.1 hc
    have := b3 b (hlt b hb); exact ⟨this.1, this.2.1⟩
  have e3 : s3 8 (s2 8 (s1 8 x)) = ofB (((L.map byte1).map byte2).map fun a => a % 16 + a / 16) := by
    have := s3_of ((L.map byte1).map byte2) hb2
    rwa [List.length_map, List.length_map, hl, ← e2] at this
  have e4 : cntN x 64 = (L.map fun a => cntN a 8).sum := by have := cnt_of _ hlt; rwa [hl, hx] at this
  have e5 : (((L.map byte1).map byte2).map fun a => a % 16 + a / 16) = L.map fun a => cntN a 8 := by
    rw [List.map_map, List.map_map]
    exact List.map_congr_left fun a ha => (b3 a (hlt a ha)).2.2
  refine ⟨L.map fun a => cntN a 8, by simp [hl], ?_, e3.trans (by rw [e5]), e4, ?_, ?_⟩
  · intro a ha
    obtain ⟨b, hb, rfl⟩ := List.mem_map.1 ha
    exact cntN_le _ _
  · rw [e1]; exact ofB8_lt (by simp [hl]) hb1
  · rw [e2]; exact ofB8_lt' (by simp [hl]) fun a ha => (hb2 a ha).1
theorem d1 {a b : Nat} (h : a < 256) : (a + 256 * b) / 256 = b := by omega
theorem d2 {a b c : Nat} (h : a < 256) (h' : b < 256) : (a + 256 * (b + 256 * c)) / 65536 = c := by omega
theorem d4 {a b c d e : Nat} (h : a < 256) (h' : b < 256) (h2 : c < 256) (h3 : d < 256) : (a + 256 * (b + 256 * (c + 256 * (d + 256 * e)))) / 4294967296 = e := by omega
theorem e128 {a b : Nat} (h : a < 128) : (a + 256 * b) % 128 = a := by omega
theorem lin4 (a0 a1 a2 a3 a4 a5 a6 a7 : Nat) : a0 + 256 * (a1 + 256 * (a2 + 256 * (a3 + 256 * (a4 + 256 * (a5 + 256 * (a6 + 256 * a7)))))) + (a1 + 256 * (a2 + 256 * (a3 + 256 * (a4 + 256 * (a5 + 256 * (a6 + 256 * a7)))))) =
    (a0 + a1) + 256 * ((a1 + a2) + 256 * ((a2 + a3) + 256 * ((a3 + a4) + 256 * ((a4 + a5) + 256 * ((a5 + a6) + 256 * ((a6 + a7) + 256 * a7)))))) := by omega
theorem lin5 (c0 c1 c2 c3 c4 c5 c6 c7 : Nat) : c0 + 256 * (c1 + 256 * (c2 + 256 * (c3 + 256 * (c4 + 256 * (c5 + 256 * (c6 + 256 * c7)))))) + (c2 + 256 * (c3 + 256 * (c4 + 256 * (c5 + 256 * (c6 + 256 * c7))))) =
    (c0 + c2) + 256 * ((c1 + c3) + 256 * ((c2 + c4) + 256 * ((c3 + c5) + 256 * ((c4 + c6) + 256 * ((c5 + c7) + 256 * (c6 + 256 * c7)))))) := by omega
theorem lin6 (c0 c1 c2 c3 c4 c5 c6 c7 : Nat) : c0 + 256 * (c1 + 256 * (c2 + 256 * (c3 + 256 * (c4 + 256 * (c5 + 256 * (c6 + 256 * c7)))))) + (c4 + 256 * (c5 + 256 * (c6 + 256 * c7))) =
    (c0 + c4) + 256 * ((c1 + c5) + 256 * ((c2 + c6) + 256 * ((c3 + c7) + 256 * (c4 + 256 * (c5 + 256 * (c6 + 256 * c7)))))) := by omega
theorem lt2 {a b : Nat} (h : a ≤ 8) (h' : b ≤ 8) : a + b ≤ 16 := by omega
theorem lt4 {a b : Nat} (h : a ≤ 16) (h' : b ≤ 16) : a + b ≤ 32 := by omega
theorem lt8 {a b : Nat} (h : a ≤ 32) (h' : b ≤ 32) : a + b < 128 := by omega
theorem lt256 {a : Nat} (h : a ≤ 32) : a < 256 := by omega
theorem le16 {a : Nat} (h : a ≤ 16) : a ≤ 32 := by omega
theorem le8 {a : Nat} (h : a ≤ 8) : a ≤ 32 := by omega
theorem ones_tail {a0 a1 a2 a3 a4 a5 a6 a7 x3 x4 x5 x6 : Nat} (l0 : a0 ≤ 8) (l1 : a1 ≤ 8) (l2 : a2 ≤ 8) (l3 : a3 ≤ 8) (l4 : a4 ≤ 8) (l5 : a5 ≤ 8) (l6 : a6 ≤ 8) (l7 : a7 ≤ 8)
    (n3 : x3 = a0 + 256 * (a1 + 256 * (a2 + 256 * (a3 + 256 * (a4 + 256 * (a5 + 256 * (a6 + 256 * a7))))))) (n4 : x4 = x3 + x3 / 256) (n5 : x5 = x4 + x4 / 65536) (n6 : x6 = x5 + x5 / 4294967296) :
    x6 % 128 = a0 + (a1 + (a2 + (a3 + (a4 + (a5 + (a6 + (a7 + 0))))))) := by
  have m4 : x4 = _ := n4
  rw [n3, d1 (lt256 (le8 l0)), lin4] at m4
  have m5 : x5 = _ := n5
  rw [m4, d2 (lt256 (le16 (lt2 l0 l1))) (lt256 (le16 (lt2 l1 l2))), lin5] at m5
  have m6 : x6 = _ := n6
  rw [m5, d4 (lt256 (lt4 (lt2 l0 l1) (lt2 l2 l3))) (lt256 (lt4 (lt2 l1 l2) (lt2 l3 l4))) (lt256 (lt4 (lt2 l2 l3) (lt2 l4 l5))) (lt256 (lt4 (lt2 l3 l4) (lt2 l5 l6))), lin6] at m6
  rw [m6, e128 (lt8 (lt4 (lt2 l0 l1) (lt2 l2 l3)) (lt4 (lt2 l4 l5) (lt2 l6 l7)))]
  clear n3 n4 n5 n6 m4 m5 m6
  omega
theorem add_shr (a : BitVec 64) (k : Nat) (h : a.toNat + a.toNat / 2 ^ k < 18446744073709551616) : (a + a >>> k).toNat = a.toNat + a.toNat / 2 ^ k := by
  rw [BitVec.toNat_add, BitVec.toNat_ushiftRight, Nat.shiftRight_eq_div_pow]
  exact Nat.mod_eq_of_lt h
theorem ones_bound {a0 a1 a2 a3 a4 a5 a6 a7 x3 : Nat} (l0 : a0 ≤ 8) (l1 : a1 ≤ 8) (l2 : a2 ≤ 8) (l3 : a3 ≤ 8) (l4 : a4 ≤ 8) (l5 : a5 ≤ 8) (l6 : a6 ≤ 8) (l7 : a7 ≤ 8)
    (n3 : x3 = a0 + 256 * (a1 + 256 * (a2 + 256 * (a3 + 256 * (a4 + 256 * (a5 + 256 * (a6 + 256 * a7))))))) : x3 < 1000000000000000000 := by omega
/-- bits.OnesCount64's words, in the order of its text. -/
theorem ones_eq (x : BitVec 64) : ∀ x1 x2 x3 x4 x5 x6 : BitVec 64,
    x1 = (x >>> 1 &&& 6148914691236517205#64) + (x &&& 6148914691236517205#64) → x2 = (x1 >>> 2 &&& 3689348814741910323#64) + (x1 &&& 3689348814741910323#64) →
    x3 = ((x2 >>> 4 + x2) &&& 1085102592571150095#64) → x4 = x3 + x3 >>> 8 → x5 = x4 + x4 >>> 16 → x6 = x5 + x5 >>> 32 → x6.toNat % 128 = countW x ∧ x6.toNat < 9223372036854775808 := by
  intro x1 x2 x3 x4 x5 x6 h1 h2 h3 h4 h5 h6
  obtain ⟨l, hl, hle, e, ec, t1, t2⟩ := s321 x.toNat x.isLt
  obtain ⟨a0, a1, a2, a3, a4, a5, a6, a7, rfl⟩ := eight hl
  have l0 := hle a0 (by simp)
  have l1 := hle a1 (by simp)
  have l2 := hle a2 (by simp)
  have l3 := hle a3 (by simp)
  have l4 := hle a4 (by simp)
  have l5 := hle a5 (by simp)
  have l6 := hle a6 (by simp)
  have l7 := hle a7 (by simp)
  rw [ofB8] at e
  simp only [List.sum_cons, List.sum_nil] at ec
  have r1 : rep 0x55 8 = 6148914691236517205 := by decide
  have r2 : rep 0x33 8 = 3689348814741910323 := by decide
  have r3 : rep 0x0f 8 = 1085102592571150095 := by decide
  have n1 : x1.toNat = s1 8 x.toNat := by
    rw [h1]; unfold s1 at t1 ⊢; rw [r1] at t1 ⊢
    simp only [BitVec.toNat_add, BitVec.toNat_and, BitVec.toNat_ushiftRight, BitVec.toNat_ofNat, Nat.shiftRight_eq_div_pow, Nat.reducePow, Nat.reduceMod]
    omega
  have n2 : x2.toNat = s2 8 (s1 8 x.toNat) := by
    rw [h2, ← n1]; rw [← n1] at t2; unfold s2 at t2 ⊢; rw [r2] at t2 ⊢
    simp only [BitVec.toNat_add, BitVec.toNat_and, BitVec.toNat_ushiftRight, BitVec.toNat_ofNat, Nat.shiftRight_eq_div_pow, Nat.reducePow, Nat.reduceMod]
    omega
  have n3 : x3.toNat = s3 8 (s2 8 (s1 8 x.toNat)) := by
    rw [h3, ← n2]; rw [← n2] at t2; unfold s3; rw [r3]
    simp only [BitVec.toNat_add, BitVec.toNat_and, BitVec.toNat_ushiftRight, BitVec.toNat_ofNat, Nat.shiftRight_eq_div_pow, Nat.reducePow, Nat.reduceMod]
    congr 1
    omega
  rw [e] at n3
  have b3 : x3.toNat < 1000000000000000000 := ones_bound l0 l1 l2 l3 l4 l5 l6 l7 n3
  have n4 := add_shr x3 8 (by omega)
  rw [← h4] at n4
  have b4 : x4.toNat < 2000000000000000000 := by omega
  have n5 := add_shr x4 16 (by omega)
  rw [← h5] at n5
  have b5 : x5.toNat < 4000000000000000000 := by omega
  have n6 := add_shr x5 32 (by omega)
  rw [← h6] at n6
  unfold countW
  rw [ec]
  exact ⟨ones_tail l0 l1 l2 l3 l4 l5 l6 l7 n3 n4 n5 n6, by omega⟩
end Go.Ew
namespace Go.Ew
set_option linter.unusedVariables false

def countR (r : Row) : Nat := (r.map countW).sum
theorem countR_take {r : Row} {k : Nat} {x : BitVec 64} (h : r[((k : Nat) : Int).toNat]? = some x) : countR (r.take (k + 1)) = countR (r.take k) + countW x := by
  rw [take_at h]; simp [countR]
theorem countR_take_int {r : Row} {k : Nat} {x : BitVec 64} (h : r[((k : Nat) : Int).toNat]? = some x) : ((countR (r.take k) : Nat) : Int) + ((countW x : Nat) : Int) = ((countR (r.take (k + 1)) : Nat) : Int) := by
  rw [countR_take h]; omega
theorem countR_le (r : Row) : countR r ≤ 64 * r.length := by
  unfold countR
  induction r with
  | nil => simp
  | cons x r ih => have := countW_le x; simp; omega
def partW (x y : BitVec 64) : Bool := decide (x &&& ~~~y = 0#64)
/-- Is a row part of another one? -/
def subAt (a b : Row) (i : Nat) : Bool := partW (a.getD i 0#64) (b.getD i 0#64)
def subTo (a b : Row) (k : Nat) : Bool := (List.range k).all (subAt a b)
def subR (a b : Row) : Bool := subTo a b a.length
theorem subTo_step {a b : Row} {k : Nat} (h : subTo a b k = true) (h1 : subAt a b k = true) : subTo a b (k + 1) = true := by
  unfold subTo at *; rw [List.range_succ, List.all_append, h]; simpa using h1
theorem subR_no {a b : Row} {k : Nat} (hk : k < a.length) (h1 : subAt a b k = false) : false = subR a b := by
  symm; unfold subR subTo
  rw [List.all_eq_false]
  exact ⟨k, by simpa using hk, by simp [h1]⟩
theorem getD_at {r : Row} {k : Nat} {x : BitVec 64} (h : r[((k : Nat) : Int).toNat]? = some x) : r.getD k 0#64 = x := by
  rw [Int.toNat_natCast] at h; rw [List.getD_eq_getElem?_getD, h]; rfl
theorem getD_out {r : Row} {k : Nat} (h : r.length ≤ k) : r.getD k 0#64 = 0#64 := by
  rw [List.getD_eq_getElem?_getD, List.getElem?_eq_none h]; rfl
theorem subAt_in {a b : Row} {k : Nat} {x y : BitVec 64} (hx : a[((k : Nat) : Int).toNat]? = some x) (hy : b[((k : Nat) : Int).toNat]? = some y) : subAt a b k = decide (x &&& ~~~y = 0#64) := by
  unfold subAt partW; rw [getD_at hx, getD_at hy]
theorem subAt_out {a b : Row} {k : Nat} {x : BitVec 64} (hx : a[((k : Nat) : Int).toNat]? = some x) (hy : b.length ≤ k) : subAt a b k = decide (x = 0#64) := by
  unfold subAt partW; rw [getD_at hx, getD_out hy, show ~~~(0#64) = BitVec.allOnes 64 from rfl, BitVec.and_allOnes]
def sameTo (a b : Row) (k : Nat) : Prop := a.take k = b.take k
theorem take_eq_step {α : Type} {a b : List α} {k : Nat} {x y : α} (h : a.take k = b.take k) (hx : a[((k : Nat) : Int).toNat]? = some x) (hy : b[((k : Nat) : Int).toNat]? = some y) (e : x = y) : a.take (k + 1) = b.take (k + 1) := by
  rw [take_at hx, take_at hy, h, e]
theorem ne_of_at {α : Type} {a b : List α} {k : Nat} {x y : α} (hx : a[((k : Nat) : Int).toNat]? = some x) (hy : b[((k : Nat) : Int).toNat]? = some y) (e : ¬ x = y) : a ≠ b := by
  rintro rfl; rw [hx] at hy; exact e (Option.some.inj hy)
theorem eq_of_take {α : Type} {a b : List α} {k : Nat} (hl : a.length = b.length) (h : a.take k = b.take k) (hk : a.length ≤ k) : a = b := by
  rwa [List.take_of_length_le hk, List.take_of_length_le (by omega)] at h
def words (n : Int) : Nat := ((max n 0 + 63) / 64).toNat
def newR (n : Int) : Row := List.replicate (words n) 0#64

/-! Setting a bit. -/
theorem cntN_congr {x y : Nat} : ∀ k, (∀ j, j < k → x.testBit j = y.testBit j) → cntN x k = cntN y k
  | 0, _ => rfl
  | k + 1, h => by simp only [cntN]; rw [cntN_congr k fun j hj => h j (by omega), h k (by omega)]
theorem cntN_set {x y : Nat} {i : Nat} (hi : x.testBit i = false) (hy : y.testBit i = true) (h : ∀ j, j ≠ i → x.testBit j = y.testBit j) : ∀ k, i < k → cntN y k = cntN x k + 1
  | 0, h => by omega
  | k + 1, hk => by
    simp only [cntN]
    by_cases hik : i = k
    · subst hik
      rw [cntN_congr i fun j hj => (h j (by omega)).symm, hi, hy]; rfl
    · rw [cntN_set hi hy h k (by omega), h k (fun e => hik e.symm)]; omega
theorem or_bit_get (x : BitVec 64) (i j : Nat) (hi : i < 64) (hj : j < 64) : (x ||| bitB (i : Int)).getLsbD j = (x.getLsbD j || decide (j = i)) := by
  unfold bitB
  rw [if_pos (by omega), BitVec.getLsbD_or, BitVec.getLsbD_shiftLeft, Int.toNat_natCast]
  congr 1
  by_cases h : j = i
  · subst h; simp [hi]
  · by_cases h2 : j < i
    · simp [h, h2]
    · have : j - i ≠ 0 := by omega
      simp [h, h2, this, hj]
theorem or_bit_had {x : BitVec 64} {i : Nat} (hi : i < 64) (h : x.getLsbD i = true) : x ||| bitB (i : Int) = x := by
  apply BitVec.eq_of_getLsbD_eq
  intro j hj
  rw [or_bit_get _ _ _ hi hj]
  by_cases e : j = i
  · subst e; simp [h]
  · simp [e]
theorem countW_or {x : BitVec 64} {i : Nat} (hi : i < 64) (h : x.getLsbD i = false) : countW (x ||| bitB (i : Int)) = countW x + 1 := by
  unfold countW
  refine cntN_set (i := i) h ?_ ?_ 64 hi
  · have := or_bit_get x i i hi hi
    simp only [decide_true, Bool.or_true] at this
    exact this
  · intro j hj
    by_cases h64 : j < 64
    · have := or_bit_get x i j hi h64
      rw [decide_eq_false hj, Bool.or_false] at this
      exact this.symm
    · have e1 : x.getLsbD j = false := BitVec.getLsbD_of_ge _ _ (by omega)
      have e2 : (x ||| bitB (i : Int)).getLsbD j = false := BitVec.getLsbD_of_ge _ _ (by omega)
      exact e1.trans e2.symm
theorem setR_length (r : Row) (i : Int) : (setR r i).length = r.length := by unfold setR; split <;> simp
theorem inR_set (r : Row) (i j : Int) : inR (setR r i) j = inR r j := by unfold inR; rw [setR_length]
theorem setR_get {r : Row} {i : Int} (h : inR r i = true) (k : Nat) (hk : k < r.length) : (setR r i).getD k 0#64 = if k = i.toNat / 64 then r.getD k 0#64 ||| bitB ((i.toNat % 64 : Nat) : Int) else r.getD k 0#64 := by
  unfold setR; rw [if_pos h]
  unfold inR at h; simp only [decide_eq_true_eq] at h
  have e : i % 64 = ((i.toNat % 64 : Nat) : Int) := by omega
  simp only [List.getD_eq_getElem?_getD]
  by_cases hk2 : k = i.toNat / 64
  · subst hk2
    rw [List.getElem?_set_self hk, if_pos rfl, e]; rfl
  · rw [List.getElem?_set_ne (fun e => hk2 e.symm), if_neg hk2]
theorem hasR_set_self {r : Row} {i : Int} : hasR (setR r i) i = inR r i := by
  by_cases h : inR r i = true
  · have h' := h
    unfold inR at h'; simp only [decide_eq_true_eq] at h'
    have hm : i.toNat % 64 < 64 := Nat.mod_lt _ (by decide)
    rw [h]; unfold hasR
    rw [setR_get h _ (by omega), if_pos rfl, or_bit_get _ _ _ hm hm]
    simp [h'.1]
  · have h2 : inR (setR r i) i = false := by rw [inR_set]; simpa using h
    rw [← hasR_out h2]; simpa using h
theorem hasR_in_of {r : Row} {i : Int} (h : hasR r i = true) : inR r i = true := by
  cases h1 : inR r i with
  | true => rfl
  | false => rw [← hasR_out h1] at h; cases h
theorem setR_had {r : Row} {i : Int} (h : hasR r i = true) : setR r i = r := by
  have hi := hasR_in_of h
  have h' := hi
  unfold inR at h'; simp only [decide_eq_true_eq] at h'
  have hm : i.toNat % 64 < 64 := Nat.mod_lt _ (by decide)
  apply List.ext_getElem (setR_length _ _)
  intro k h1 h2
  have := setR_get hi k h2
  rw [List.getD_eq_getElem?_getD, List.getD_eq_getElem?_getD, List.getElem?_eq_getElem h1, List.getElem?_eq_getElem h2] at this
  simp only [Option.getD_some] at this
  rw [this]
  split
  · rename_i e
    refine or_bit_had hm ?_
    unfold hasR at h
    simp only [Bool.and_eq_true, decide_eq_true_eq] at h
    have h3 := h.2
    rw [← e, List.getD_eq_getElem?_getD, List.getElem?_eq_getElem h2] at h3
    exact h3
  · rfl
theorem setR_twice (r : Row) (i : Int) : setR (setR r i) i = setR r i := by
  cases h : inR r i with
  | true => exact setR_had (by rw [hasR_set_self]; exact h)
  | false => have e := setR_out h; rw [← e, ← e]
theorem countR_set {r : Row} {k : Nat} {x y : BitVec 64} (h : r[k]? = some x) : countR (r.set k y) + countW x = countR r + countW y := by
  unfold countR
  induction r generalizing k with
  | nil => simp at h
  | cons z r ih =>
    cases k with
    | zero => simp at h; subst h; simp; omega
    | succ k => simp at h; have := ih h; simp only [List.set_cons_succ, List.map_cons, List.sum_cons]; omega
theorem countR_setR {r : Row} {i : Int} (h : inR r i = true) (hn : hasR r i = false) : countR (setR r i) = countR r + 1 := by
  have h' := h
  unfold inR at h'; simp only [decide_eq_true_eq] at h'
  have hm : i.toNat % 64 < 64 := Nat.mod_lt _ (by decide)
  have hk : i.toNat / 64 < r.length := by omega
  have hx : r[i.toNat / 64]? = some r[i.toNat / 64] := List.getElem?_eq_getElem hk
  have hg : r.getD (i.toNat / 64) 0#64 = r[i.toNat / 64] := by rw [List.getD_eq_getElem?_getD, hx]; rfl
  have e : i % 64 = ((i.toNat % 64 : Nat) : Int) := by omega
  have hb : r[i.toNat / 64].getLsbD (i.toNat % 64) = false := by
    unfold hasR at hn
    rw [hg] at hn
    simpa [h'.1] using hn
  unfold setR
  rw [if_pos h, hg, e]
  have := countR_set (y := r[i.toNat / 64] ||| bitB ((i.toNat % 64 : Nat) : Int)) hx
  rw [countW_or hm hb] at this
  omega
theorem part_self (x y : BitVec 64) : x &&& ~~~(x ||| y) = 0#64 := by
  apply BitVec.eq_of_getLsbD_eq
  intro j hj
  rw [BitVec.getLsbD_and, BitVec.getLsbD_not, BitVec.getLsbD_or, BitVec.getLsbD_zero]
  cases x.getLsbD j <;> simp
theorem part_refl (x : BitVec 64) : x &&& ~~~x = 0#64 := by simp
theorem subR_set (r : Row) (i : Int) : subR r (setR r i) = true := by
  unfold subR subTo
  rw [List.all_eq_true]
  intro k hk
  have hk : k < r.length := by simpa using hk
  unfold subAt partW
  rw [decide_eq_true_eq]
  cases h : inR r i with
  | true =>
    rw [setR_get h k hk]
    split
    · exact part_self _ _
    · exact part_refl _
  | false => rw [← setR_out h]; exact part_refl _
/-- What RowOne says. -/
theorem rowOne_count {r : Row} {k : Int} (hk : 0 ≤ k) : ((countR (setR r k) : Nat) : Int) = if k < 64 * (r.length : Int) ∧ hasR r k = false then ((countR r : Nat) : Int) + 1 else ((countR r : Nat) : Int) := by
  by_cases h : k < 64 * (r.length : Int)
  · have hin : inR r k = true := by unfold inR; simp [hk, h]
    cases hh : hasR r k with
    | false => rw [if_pos ⟨h, rfl⟩, countR_setR hin hh]; omega
    | true => rw [if_neg (by simp), setR_had hh]
  · have hout : inR r k = false := by unfold inR; simp; omega
    rw [if_neg (fun e => h e.1), ← setR_out hout]
end Go.Ew
namespace Go.Ew
set_option linter.unusedVariables false

abbrev Rows := List (List (BitVec 64))
def outN (n k : Int) : Bool := decide (k < 0) || decide (n ≤ k)
def inM (n : Int) (l : List Int) : Bool := !l.any (outN n)
theorem inM_two {n a b : Int} : inM n [a, b] = true ↔ (0 ≤ a ∧ a < n) ∧ (0 ≤ b ∧ b < n) := by
  unfold inM outN
  simp
theorem inM_two_no {n a b : Int} : inM n [a, b] = false ↔ ¬((0 ≤ a ∧ a < n) ∧ (0 ≤ b ∧ b < n)) := by
  rw [← inM_two]; simp
def inP (n : Int) (p : Int × Int) : Bool := inM n [p.1, p.2]
def rowAt (rs : Rows) (i : Int) : Row := rs.getD i.toNat []
theorem rowAt_of {rs : Rows} {i : Int} {x : Row} (h : rs[i.toNat]? = some x) : rowAt rs i = x := by unfold rowAt; rw [List.getD_eq_getElem?_getD, h]; rfl
def setM (rs : Rows) (p : Int × Int) : Rows := rs.set p.1.toNat (setR (rowAt rs p.1) p.2)
theorem setM_length (rs : Rows) (p : Int × Int) : (setM rs p).length = rs.length := by unfold setM; simp
theorem setM_of {rs : Rows} {i j : Int} {x : Row} (h : rs[i.toNat]? = some x) : rs.set i.toNat (setR x j) = setM rs (i, j) := by unfold setM; rw [rowAt_of h]
def okN (n : Int) : Bool := decide (0 ≤ n) && decide (n ≤ 4096)
theorem okN_iff {n : Int} : okN n = true ↔ 0 ≤ n ∧ n ≤ 4096 := by unfold okN; simp
theorem okN_no {n : Int} : okN n = false ↔ ¬ (0 ≤ n ∧ n ≤ 4096) := by rw [← okN_iff]; simp
def newM (n : Int) : Rows := List.replicate n.toNat (newR n)
def newMN (n : Int) : Int := if okN n then n else 0
def newMR (n : Int) : Rows := if okN n then newM n else []
def newME (n : Int) : Int := if okN n then 0 else 1
theorem newM_yes {n : Int} (h : okN n = true) : newMN n = n ∧ newMR n = newM n ∧ newME n = 0 := by simp [newMN, newMR, newME, h]
theorem newM_no {n : Int} (h : okN n = false) : newMN n = 0 ∧ newMR n = [] ∧ newME n = 1 := by simp [newMN, newMR, newME, h]
theorem newM_length (n : Int) : (newM n).length = n.toNat := by unfold newM; simp
/-- A row of which k places are filled. -/
def fillTo {α : Type} (m k : Nat) (a b : α) : List α := List.replicate k a ++ List.replicate (m - k) b
theorem fillTo_zero {α : Type} (m : Nat) (a b : α) : List.replicate m b = fillTo m 0 a b := by simp [fillTo]
theorem fillTo_length {α : Type} {m k : Nat} (a b : α) (h : k ≤ m) : (fillTo m k a b).length = m := by simp [fillTo]; omega
theorem fillTo_set {α : Type} {m k : Nat} {a b : α} (h : k < m) : (fillTo m k a b).set k a = fillTo m (k + 1) a b := by
  unfold fillTo
  obtain ⟨q, hq⟩ : ∃ q, m - k = q + 1 := ⟨m - k - 1, by omega⟩
  rw [hq, List.set_append_right _ _ (by simp), show m - (k + 1) = q from by omega, List.length_replicate, Nat.sub_self, List.replicate_succ, List.set_cons_zero, List.replicate_succ', List.append_assoc]
  rfl
theorem fillTo_end {α : Type} {m k : Nat} {a b : α} (h : k = m) : fillTo m k a b = List.replicate m a := by subst h; simp [fillTo]

/-! The matrix of pairs. -/
def foldM (n : Int) (ps : List (Int × Int)) : Rows := ps.foldl setM (newM n)
theorem foldl_setM_length : ∀ (ps : List (Int × Int)) (rs : Rows), (ps.foldl setM rs).length = rs.length
  | [], _ => rfl
  | p :: ps, rs => by rw [List.foldl_cons, foldl_setM_length ps, setM_length]
theorem foldM_length (n : Int) (ps : List (Int × Int)) : (foldM n ps).length = n.toNat := by unfold foldM; rw [foldl_setM_length, newM_length]
theorem foldM_step {n : Int} {ps : List (Int × Int)} {j : Nat} {p : Int × Int} (h : ps[((j : Nat) : Int).toNat]? = some p) : foldM n (ps.take (j + 1)) = setM (foldM n (ps.take j)) p := by
  unfold foldM; rw [take_at h, List.foldl_append]; rfl
def ofOk (n : Int) (ps : List (Int × Int)) : Bool := okN n && ps.all (inP n)
def ofMN (n : Int) (ps : List (Int × Int)) : Int := if ofOk n ps then n else 0
def ofMR (n : Int) (ps : List (Int × Int)) : Rows := if ofOk n ps then foldM n ps else []
def ofME (n : Int) (ps : List (Int × Int)) : Int := if ofOk n ps then 0 else 1
theorem of_yes {n : Int} {ps : List (Int × Int)} (h : ofOk n ps = true) : ofMN n ps = n ∧ ofMR n ps = foldM n ps ∧ ofME n ps = 0 := by simp [ofMN, ofMR, ofME, h]
theorem of_no {n : Int} {ps : List (Int × Int)} (h : ofOk n ps = false) : ofMN n ps = 0 ∧ ofMR n ps = [] ∧ ofME n ps = 1 := by simp [ofMN, ofMR, ofME, h]
theorem all_take {α : Type} {l : List α} {q : α → Bool} {j : Nat} {x : α} (h : l[((j : Nat) : Int).toNat]? = some x) (h1 : (l.take j).all q = true) (h2 : q x = true) : (l.take (j + 1)).all q = true := by
  rw [take_at h, List.all_append, h1]; simp [h2]
theorem all_no {α : Type} {l : List α} {q : α → Bool} {i : Nat} {x : α} (h : l[i]? = some x) (h2 : q x = false) : l.all q = false := by
  rw [List.all_eq_false]; exact ⟨x, List.mem_of_getElem? h, by simp [h2]⟩
theorem ofOk_end {n : Int} {ps : List (Int × Int)} {j : Nat} (h : okN n = true) (h1 : (ps.take j).all (inP n) = true) (h2 : ps.length ≤ j) : ofOk n ps = true := by
  rw [take_end h2] at h1; simp [ofOk, h, h1]
theorem ofOk_no {n : Int} {ps : List (Int × Int)} {i : Nat} {p : Int × Int} (h : ps[i]? = some p) (h2 : inP n p = false) : ofOk n ps = false := by
  simp [ofOk, all_no h h2]
theorem ofOk_bad {n : Int} {ps : List (Int × Int)} (h : okN n = false) : ofOk n ps = false := by simp [ofOk, h]
theorem setM_rows {m : Nat} {rs : Rows} {p : Int × Int} (h : ∀ x ∈ rs, x.length = m) : ∀ x ∈ setM rs p, x.length = m := by
  intro x hx
  unfold setM at hx
  by_cases hi : p.1.toNat < rs.length
  · rcases List.mem_or_eq_of_mem_set hx with hx | rfl
    · exact h x hx
    · rw [setR_length]
      unfold rowAt
      rw [List.getD_eq_getElem?_getD, List.getElem?_eq_getElem hi]
      exact h _ (List.getElem_mem hi)
  · rw [List.set_eq_of_length_le (by omega)] at hx
    exact h x hx
theorem foldl_setM_rows {m : Nat} : ∀ (ps : List (Int × Int)) (rs : Rows), (∀ x ∈ rs, x.length = m) → ∀ x ∈ ps.foldl setM rs, x.length = m
  | [], _, h => h
  | p :: ps, rs, h => by rw [List.foldl_cons]; exact foldl_setM_rows ps _ (setM_rows h)
theorem newR_length (n : Int) : (newR n).length = words n := by unfold newR; simp
theorem foldM_row {n : Int} {ps : List (Int × Int)} {i : Nat} {x : Row} (h : (foldM n ps)[i]? = some x) : x.length = words n :=
  foldl_setM_rows ps (newM n) (by
    intro x hx
    unfold newM at hx
    rw [List.eq_of_mem_replicate hx, newR_length]) x (List.mem_of_getElem? h)
theorem words_le {n : Int} (h : n ≤ 4096) : words n ≤ 64 := by unfold words; omega
theorem newME_no {n : Int} (h : newME n ≠ 0) : okN n = false := by
  cases h1 : okN n with
  | false => rfl
  | true => exact absurd (newM_yes h1).2.2 h
theorem newME_yes {n : Int} (h : newME n = 0) : okN n = true := by
  cases h1 : okN n with
  | true => rfl
  | false => rw [(newM_no h1).2.2] at h; cases h
/-! Setting, asking, being right. -/
def setMN (n : Int) (i j : Int) : Int := if inM n [i, j] then n else 0
def setMR (n : Int) (rs : Rows) (i j : Int) : Rows := if inM n [i, j] then setM rs (i, j) else []
def setME (n : Int) (i j : Int) : Int := if inM n [i, j] then 0 else 1
def hasM (n : Int) (rs : Rows) (i j : Int) : Bool := inM n [i, j] && hasR (rowAt rs i) j
theorem set_yes {n i j : Int} {rs : Rows} (h : inM n [i, j] = true) : setMN n i j = n ∧ setMR n rs i j = setM rs (i, j) ∧ setME n i j = 0 := by simp [setMN, setMR, setME, h]
theorem set_no {n i j : Int} {rs : Rows} (h : inM n [i, j] = false) : setMN n i j = 0 ∧ setMR n rs i j = [] ∧ setME n i j = 1 := by simp [setMN, setMR, setME, h]
def lowW (k : Int) : BitVec 64 := if k ≤ 0 then 0#64 else 18446744073709551615#64 >>> (64 - min k 64).toNat
theorem lowW_no {k : Int} (h : k ≤ 0) : 0#64 = lowW k := by unfold lowW; rw [if_pos h]
theorem lowW_yes {k : Int} (h : ¬ k ≤ 0) : 18446744073709551615#64 >>> ((BitVec.ofInt 64 (64 - min k 64)).toNat : Int).toNat = lowW k := by
  unfold lowW
  rw [if_neg h, Int.toNat_natCast, BitVec.toNat_ofInt]
  congr 1
  have h1 : (0 : Int) ≤ 64 - min k 64 := by omega
  have h2 : 64 - min k 64 < 18446744073709551616 := by omega
  have h3 : (64 - min k 64) % ((2 ^ 64 : Nat) : Int) = 64 - min k 64 := Int.emod_eq_of_lt h1 h2
  rw [h3]
def spareW (n : Int) : BitVec 64 := if 0 < n % 64 then lowW (n % 64) else 18446744073709551615#64
def badRow (wn : Int) (sp : BitVec 64) (r : Row) : Bool := !decide ((r.length : Int) = wn) || !decide (r.getD (wn - 1).toNat 0#64 &&& ~~~sp = 0#64)
def rightM (n : Int) (rs : Rows) : Bool := okN n && decide ((rs.length : Int) = n) && !rs.any (badRow ((words n : Nat) : Int) (spareW n))
theorem at_is {α : Type} {l : List α} {i : Nat} {x y : α} (h : l[i]? = some x) (e : l[i]? = some y) : x = y := Option.some.inj (h.symm.trans e)
theorem getD_of {r : Row} {i : Int} {x : BitVec 64} (h : r[i.toNat]? = some x) : r.getD i.toNat 0#64 = x := by rw [List.getD_eq_getElem?_getD, h]; rfl
theorem inM_eq {n i j : Int} : inM n [i, j] = (decide (0 ≤ i) && decide (i < n) && decide (0 ≤ j) && decide (j < n)) := by
  rw [Bool.eq_iff_iff, inM_two]; simp [and_assoc]
def eqM (an : Int) (ar : Rows) (bn : Int) (br : Rows) : Bool := decide (an = bn ∧ ar = br)
theorem eqM_refl (an : Int) (ar : Rows) : eqM an ar an ar = true := by unfold eqM; simp
theorem eqM_no {an bn : Int} {ar br : Rows} (h : ¬ (an = bn ∧ ar = br)) : false = eqM an ar bn br := by unfold eqM; rw [decide_eq_false h]
theorem eqM_yes {an bn : Int} {ar br : Rows} (h : an = bn) (h2 : ar = br) : true = eqM an ar bn br := by unfold eqM; rw [decide_eq_true ⟨h, h2⟩]
theorem newME_dec (n : Int) : decide (newME n = 0) = okN n := by
  cases h : okN n with
  | true => rw [(newM_yes h).2.2]; rfl
  | false => rw [(newM_no h).2.2]; rfl
theorem ofME_zero {n : Int} {ps : List (Int × Int)} (h : ofME n ps = 0) : ofOk n ps = true := by
  cases h1 : ofOk n ps with
  | true => rfl
  | false => rw [(of_no h1).2.2] at h; cases h
theorem ofME_not {n : Int} {ps : List (Int × Int)} (h : ofME n ps ≠ 0) : ofOk n ps = false := by
  cases h1 : ofOk n ps with
  | false => rfl
  | true => exact absurd (of_yes h1).2.2 h
theorem ofOk_nil {n : Int} (h : okN n = true) : ofOk n [] = true := by simp [ofOk, h]
theorem ofOk_take {n : Int} {ps : List (Int × Int)} {j : Nat} {p : Int × Int} (hx : ps[((j : Nat) : Int).toNat]? = some p) (h : ofOk n (ps.take j) = true) : ofOk n (ps.take (j + 1)) = inP n p := by
  unfold ofOk at *
  rw [take_at hx, List.all_append]
  simp only [Bool.and_eq_true] at h
  simp [h.1, h.2]
theorem ofM_step {n : Int} {ps : List (Int × Int)} {j : Nat} {p : Int × Int} (hx : ps[((j : Nat) : Int).toNat]? = some p) (h : ofOk n (ps.take j) = true) :
    setMN (ofMN n (ps.take j)) p.1 p.2 = ofMN n (ps.take (j + 1)) ∧ setMR (ofMN n (ps.take j)) (ofMR n (ps.take j)) p.1 p.2 = ofMR n (ps.take (j + 1)) ∧ setME (ofMN n (ps.take j)) p.1 p.2 = ofME n (ps.take (j + 1)) := by
  have h1 := ofOk_take hx h
  obtain ⟨e1, e2, -⟩ := of_yes h
  rw [e1, e2]
  cases hp : inP n p with
  | true =>
    rw [hp] at h1
    obtain ⟨f1, f2, f3⟩ := of_yes h1
    obtain ⟨g1, g2, g3⟩ := set_yes (rs := foldM n (ps.take j)) (show inM n [p.1, p.2] = true from hp)
    rw [f1, f2, f3, g1, g2, g3]
    exact ⟨rfl, (foldM_step hx).symm, rfl⟩
  | false =>
    rw [hp] at h1
    obtain ⟨f1, f2, f3⟩ := of_no h1
    obtain ⟨g1, g2, g3⟩ := set_no (rs := foldM n (ps.take j)) (show inM n [p.1, p.2] = false from hp)
    rw [f1, f2, f3, g1, g2, g3]
    exact ⟨rfl, rfl, rfl⟩
theorem ofOk_back {n : Int} {ps : List (Int × Int)} (j : Nat) (h : ofOk n (ps.take j) = false) (hn : okN n = true) : ofOk n ps = false := by
  unfold ofOk at *
  rw [hn, Bool.true_and] at h
  rw [hn, Bool.true_and]
  obtain ⟨x, hx, h2⟩ := List.all_eq_false.1 h
  exact List.all_eq_false.2 ⟨x, List.mem_of_mem_take hx, h2⟩
theorem ofM_sq {n : Int} {ps : List (Int × Int)} (h : ofOk n ps = true) : (((ofMR n ps).length : Nat) : Int) = ofMN n ps ∧ (∀ x ∈ ofMR n ps, x.length ≤ 1000000000) ∧ ofMN n ps ≤ 4096 := by
  obtain ⟨e1, e2, -⟩ := of_yes h
  have hn : okN n = true := by unfold ofOk at h; simp only [Bool.and_eq_true] at h; exact h.1
  have hn2 := okN_iff.1 hn
  rw [e1, e2, foldM_length]
  refine ⟨by omega, fun x hx => ?_, hn2.2⟩
  obtain ⟨i, hi⟩ := List.mem_iff_getElem?.1 hx
  have h1 := foldM_row hi
  have h2 := words_le hn2.2
  omega
theorem ofOk_nil_eq (n : Int) : ofOk n [] = okN n := by unfold ofOk; simp
theorem ofM_nil (n : Int) : newMN n = ofMN n [] ∧ newMR n = ofMR n [] ∧ newME n = ofME n [] := by
  unfold newMN ofMN newMR ofMR newME ofME
  rw [ofOk_nil_eq]
  exact ⟨rfl, rfl, rfl⟩
theorem ofOk_less {n : Int} {ps : List (Int × Int)} (j : Nat) (h : ofOk n (ps.take j) = false) : ofOk n ps = false := by
  cases hn : okN n with
  | true => exact ofOk_back j h hn
  | false => exact ofOk_bad hn
end Go.Ew
namespace Go.Ew
set_option linter.unusedVariables false

theorem shl_step (j : Nat) : (1#64 <<< j) * 2#64 = 1#64 <<< (j + 1) := by
  rw [show (2#64) = BitVec.twoPow 64 1 from rfl, BitVec.mul_twoPow_eq_shiftLeft, ← BitVec.shiftLeft_add]
theorem bitB_pow {i : Int} (h0 : 0 ≤ i) (h : i ≤ 63) : bitB i = 1#64 <<< i.toNat := by unfold bitB; rw [if_pos ⟨h0, h⟩]
theorem bitB_out {i : Int} (h : ¬ (0 ≤ i ∧ i ≤ 63)) : bitB i = 0#64 := by unfold bitB; rw [if_neg h]
theorem bitB_toNat {i : Int} (h0 : 0 ≤ i) (h : i ≤ 63) : (bitB i).toNat = 2 ^ i.toNat := by
  rw [bitB_pow h0 h, BitVec.toNat_shiftLeft, BitVec.toNat_ofNat, Nat.shiftLeft_eq]
  have h1 : i.toNat < 64 := by omega
  have : 2 ^ i.toNat < 2 ^ 64 := Nat.pow_lt_pow_right (by decide) h1
  rw [Nat.mod_eq_of_lt (a := 1) (by decide), Nat.one_mul, Nat.mod_eq_of_lt this]
theorem bitB_ne {i : Int} (h : ¬ bitB i = 0#64) : 0 ≤ i ∧ i ≤ 63 := by
  by_cases h1 : 0 ≤ i ∧ i ≤ 63
  · exact h1
  · exact absurd (bitB_out h1) h
theorem hasW_quo {w : BitVec 64} {i : Int} (h : ¬ bitB i = 0#64) : decide (w / bitB i % 2#64 = 1#64) = hasW w i := by
  obtain ⟨h0, h1⟩ := bitB_ne h
  unfold hasW
  rw [Bool.eq_iff_iff, decide_eq_true_eq, Bool.and_eq_true, decide_eq_true_eq]
  have e : w.getLsbD i.toNat = true ↔ w.toNat / 2 ^ i.toNat % 2 = 1 := by
    rw [BitVec.getLsbD, Nat.testBit_eq_decide_div_mod_eq, decide_eq_true_eq]
  rw [e]
  have e2 : (w / bitB i % 2#64).toNat = w.toNat / 2 ^ i.toNat % 2 := by
    rw [BitVec.toNat_umod, BitVec.toNat_udiv, bitB_toNat h0 h1]; rfl
  constructor
  · intro h2
    rw [h2] at e2
    exact ⟨h0, e2.symm⟩
  · rintro ⟨-, h2⟩
    apply BitVec.eq_of_toNat_eq
    rw [e2, h2]; rfl
theorem hasW_zero {w : BitVec 64} {i : Int} (h : bitB i = 0#64) : false = hasW w i := by
  unfold hasW
  by_cases h1 : 0 ≤ i ∧ i ≤ 63
  · have h2 := bitB_toNat h1.1 h1.2
    rw [h] at h2
    have : 0 < 2 ^ i.toNat := Nat.pow_pos (by decide)
    simp only [BitVec.toNat_ofNat, Nat.zero_mod] at h2; omega
  · by_cases h0 : 0 ≤ i
    · have : w.getLsbD i.toNat = false := BitVec.getLsbD_of_ge w _ (by omega)
      simp [this]
    · simp [h0]
/-- A bit that is not there may be added. -/
theorem add_bit {x : BitVec 64} {i : Int} (h : hasW x i = false) : x + bitB i = x ||| bitB i := by
  have e : x &&& bitB i = 0#64 := by
    have := hasW_eq x i
    rw [h] at this
    simpa using this
  exact BitVec.add_eq_or_of_and_eq_zero x (bitB i) e
theorem inR_64 {r : Row} {i : Int} (h0 : 0 ≤ i) : decide (i < 64 * (r.length : Int)) = inR r i := by unfold inR; simp [h0]
theorem inR_of {r : Row} {i : Int} (h0 : 0 ≤ i) (h : i < 64 * (r.length : Int)) : inR r i = true := by unfold inR; simp [h0, h]
theorem inR_not {r : Row} {i : Int} (h : ¬ (0 ≤ i ∧ i < 64 * (r.length : Int))) : inR r i = false := by unfold inR; simp; omega
theorem hasR_of {r : Row} {i : Int} (h0 : 0 ≤ i) (h : i < 64 * (r.length : Int)) {x : BitVec 64} (hx : r[(i / 64).toNat]? = some x) : hasW x (i % 64) = hasR r i := hasR_in (inR_of h0 h) hx
theorem hasR_no {r : Row} {i : Int} (h : ¬ (0 ≤ i ∧ i < 64 * (r.length : Int))) : false = hasR r i := hasR_out (inR_not h)
theorem setR_no {r : Row} {i : Int} (h : ¬ (0 ≤ i ∧ i < 64 * (r.length : Int))) : r = setR r i := setR_out (inR_not h)
theorem setR_add {r : Row} {i : Int} (h0 : 0 ≤ i) (h : i < 64 * (r.length : Int)) (hn : hasR r i = false) {x : BitVec 64} (hx : r[(i / 64).toNat]? = some x) : r.set (i / 64).toNat (x + bitB (i % 64)) = setR r i := by
  rw [add_bit (by rw [hasR_of h0 h hx]; exact hn), setR_in (inR_of h0 h) hx]
theorem words_pos {n : Int} (h : 0 ≤ n) : ((words n : Nat) : Int) = (n + 63) / 64 := by unfold words; omega
theorem words_neg {n : Int} (h : n < 0) : ((words n : Nat) : Int) = 0 := by unfold words; omega
end Go.Ew
namespace Go.Ew
open Go.RowKit Go.WideShapes Go.ChangeShapes
set_option linter.unusedVariables false

def tabN : List Nat := [0, 1, 56, 2, 57, 49, 28, 3, 61, 58, 42, 50, 38, 29, 17, 4, 62, 47, 59, 36, 45, 43, 51, 22, 53, 39, 33, 30, 24, 18, 12, 5, 63, 55, 48, 27, 60, 41, 37, 16, 46, 35, 44, 21, 52, 32, 23, 11, 54, 26, 40, 15, 34, 20, 31, 10, 25, 14, 19, 9, 13, 8, 7, 6]
/-- The table lies in its block. -/
def TabAt (g : Nat) (w : World) : Prop := ∀ i, i < 64 → w.cell? ⟨g, i, none⟩ = some (.int .u8 ((tabN.getD i 0 : Nat) : Int))
theorem TabAt.ext {g : Nat} {w w' : World} (h : TabAt g w) (e : Ext w w') : TabAt g w' := by
  intro i hi
  have h1 := h i hi
  rw [Below.cell e (p := ⟨g, i, none⟩) (block_lt_cell h1)]
  exact h1
def tab8 (i : Nat) : BitVec 8 := BitVec.ofNat 8 (tabN.getD i 0)
theorem tab_lt : ∀ i < 64, tabN.getD i 0 < 64 := by decide
theorem tab8_nat {i : Nat} (h : i < 64) : ((tab8 i).toNat : Int) = ((tabN.getD i 0 : Nat) : Int) := by
  have := tab_lt i h
  unfold tab8
  rw [BitVec.toNat_ofNat]
  omega
theorem TabAt.at_ {g : Nat} {w : World} {M : Nat → Prop} (h : TabAt g w) {i : Nat} (hi : i < 64) : AtW M w ⟨g, i, none⟩ (tab8 i) := by
  refine ⟨[U8 (tab8 i)], rfl, fun j v hv => ?_⟩
  cases j with
  | zero =>
    simp at hv; subst hv
    rw [show (⟨g, i, none⟩ : Addr).add 0 = ⟨g, i, none⟩ from rfl, h i hi, U8, tab8_nat hi]
  | succ j => simp at hv

theorem tabA {g : Nat} {w0 w : World} {M : Nat → Prop} (h : TabAt g w0) (e : Ext w0 w) {i : Nat} {ad : Addr} (ha : (⟨g, 0, none⟩ : Addr).add (i * 1) = ad) (hi : i < 64) : AtW M w ad (tab8 i) := by
  have : ad = ⟨g, i, none⟩ := by
    rw [← ha, Nat.mul_one]
    unfold Addr.add
    split
    · rename_i h; rw [h]
    · simp
  rw [this]
  exact (h.ext e).at_ hi
/-- Where the row says that the table is laid, it lies there. -/
theorem tab_of_laid {P : Program} {g : Nat} {t e : TypeId} {name : String} {D : DataW Unit} {W : World} (hg : P.globalNamed name = some g) (ht : (P.globals[g]?).map (·.type) = some t)
    (hu : P.underlying t = some (.array 64 e)) (he : P.underlying e = some (.int .u8)) (hc : P.cellsOf e = 1) (hD : D = .agg (tabN.map fun k => .lit (.int .u8 ((k : Nat) : Int)))) (h : laidMetH P [(name, D)] W)
    (hp : laidMetH P [(name, D)] W ↔ laidMet P [(name, D)] W) : TabAt g W := by
  rw [hp] at h
  obtain ⟨ps, ⟨g0, t0, cs0, f0, p0, q0, hg0, ht0, hv0, hd0, _⟩, _⟩ := h
  obtain rfl := Option.some.inj (hg.symm.trans hg0)
  obtain rfl := Option.some.inj (ht.symm.trans ht0)
  obtain ⟨xs, m, rfl, hx, hlen, hn, hel⟩ := DataW.trod_array hu hd0
  intro i hi
  have h1 := hel i hi
  rw [hc, Nat.mul_one, List.getElem?_eq_getElem (by omega : i < xs.length)] at h1
  obtain ⟨k, e1, e2, _⟩ := DataW.trod_int he h1
  simp only [Prod.mk.injEq] at hx
  have h2 : (DataW.agg (tabN.map fun k => DataW.lit (Lit.int .u8 ((k : Nat) : Int))) : DataW Unit) = .agg (xs.map (·.1)) := by rw [← hD]; exact hx.1
  injection h2 with h3
  have h4 := congrArg (fun l => l[i]?) h3
  have hti : i < tabN.length := by simpa [tabN] using hi
  simp only [List.getElem?_map, List.getElem?_eq_getElem hti, List.getElem?_eq_getElem (by omega : i < xs.length), Option.map_some, e2, Option.some.injEq] at h4
  injection h4 with h5
  injection h5 with h6 h7
  have h8 : tabN.getD i 0 = tabN[i] := by rw [List.getD_eq_getElem?_getD, List.getElem?_eq_getElem hti]; rfl
  rw [h8, h7]
  have := World.var?_cell hg0 hv0 i
  have hc2 : cs0[i]? = some (.int .u8 k) := by
    have : (cs0.toList.drop i).head? = some (.int .u8 k) := by
      have h9 : ((cs0.toList.drop i).take 1).head? = some (.int .u8 k) := by rw [e1]; rfl
      cases hq : cs0.toList.drop i with
      | nil => rw [hq] at h9; simp at h9
      | cons a b => rw [hq] at h9; simpa using h9
    rw [List.head?_drop] at this
    simpa using this
  rw [hc2] at this
  simpa using this
end Go.Ew
namespace Go.Ew
set_option linter.unusedVariables false

def listW (x : BitVec 64) : List Nat := (List.range 64).filter fun k => x.getLsbD k
def firstW (x : BitVec 64) : Nat := (listW x).headD 64
theorem filter_range_least {p : Nat → Bool} : ∀ (n : Nat), (∃ k < n, p k = true) → ∃ k, k < n ∧ p k = true ∧ (∀ j, j < k → p j = false) ∧ ∃ l, (List.range n).filter p = k :: l ∧ l = (List.range n).filter (fun i => p i && !decide (i = k))
  | 0, ⟨k, h, _⟩ => by omega
  | n + 1, h => by
    by_cases h1 : ∃ k < n, p k = true
    · obtain ⟨k, hk, hp, hl, l, e1, e2⟩ := filter_range_least n h1
      refine ⟨k, by omega, hp, hl, l ++ [n].filter p, ?_, ?_⟩
      · rw [List.range_succ, List.filter_append, e1]; rfl
      · rw [List.range_succ, List.filter_append, ← e2]
        congr 1
        have : ¬ n = k := by omega
        simp [List.filter_cons, this]
    · obtain ⟨k, hk, hp⟩ := h
      have hkn : k = n := by
        apply Classical.byContradiction
        intro hne
        exact h1 ⟨k, by omega, hp⟩
      subst hkn
      have hno : ∀ j, j < k → p j = false := by
        intro j hj
        cases hb : p j with
        | false => rfl
        | true => exact absurd ⟨j, hj, hb⟩ h1
      have hf : (List.range k).filter p = [] := by
        rw [List.filter_eq_nil_iff]
        intro j hj
        rw [List.mem_range] at hj
        simp [hno j hj]
      have hf2 : (List.range k).filter (fun i => p i && !decide (i = k)) = [] := by
        rw [List.filter_eq_nil_iff]
        intro j hj
        rw [List.mem_range] at hj
        simp [hno j hj]
      refine ⟨k, by omega, hp, hno, [], ?_, ?_⟩
      · rw [List.range_succ, List.filter_append, hf]; simp [hp]
      · rw [List.range_succ, List.filter_append, hf2]; simp
theorem bit_of_ne {x : BitVec 64} (h : x ≠ 0#64) : ∃ k < 64, x.getLsbD k = true := by
  apply Classical.byContradiction
  intro hn
  apply h
  apply BitVec.eq_of_getLsbD_eq
  intro i hi
  rw [BitVec.getLsbD_zero]
  cases hb : x.getLsbD i with
  | false => rfl
  | true => exact absurd ⟨i, hi, hb⟩ hn
theorem least {x : BitVec 64} (h : x ≠ 0#64) : ∃ l, firstW x < 64 ∧ x.getLsbD (firstW x) = true ∧ (∀ j, j < firstW x → x.getLsbD j = false) ∧ listW x = firstW x :: l ∧ l = (List.range 64).filter (fun i => x.getLsbD i && !decide (i = firstW x)) := by
  obtain ⟨k, hk, hp, hl, l, e1, e2⟩ := filter_range_least 64 (bit_of_ne h)
  have hf : firstW x = k := by unfold firstW listW; rw [e1]; rfl
  rw [hf]
  exact ⟨l, hk, hp, hl, e1, e2⟩
theorem below_iff {x : BitVec 64} {k : Nat} (hp : x.getLsbD k = true) (hl : ∀ j, j < k → x.getLsbD j = false) (i : Nat) : (∃ j, j < i ∧ x.getLsbD j = true) ↔ k < i := by
  constructor
  · rintro ⟨j, hj, h⟩
    rcases Nat.lt_or_ge k i with h1 | h1
    · exact h1
    · rw [hl j (by omega)] at h; cases h
  · intro h; exact ⟨k, h, hp⟩
theorem lowbit {x : BitVec 64} (h : x ≠ 0#64) : x &&& -x = 1#64 <<< firstW x := by
  obtain ⟨l, hk, hp, hl, -, -⟩ := least h
  apply BitVec.eq_of_getLsbD_eq
  intro i hi
  rw [BitVec.getLsbD_and, BitVec.getLsbD_neg, BitVec.getLsbD_shiftLeft]
  simp only [below_iff hp hl i]
  by_cases h1 : i = firstW x
  · subst h1; simp [hp, hk]
  · by_cases h2 : i < firstW x
    · simp [hl i h2, h2]
    · have h3 : firstW x < i := by omega
      have h4 : i - firstW x ≠ 0 := by omega
      cases hx : x.getLsbD i <;> simp [h2, h3, h4, hi]
theorem clear {x : BitVec 64} (h : x ≠ 0#64) : listW x = firstW x :: listW (x &&& (x - 1#64)) := by
  obtain ⟨l, hk, hp, hl, e1, e2⟩ := least h
  rw [e1, e2]
  congr 1
  unfold listW
  apply List.filter_congr
  intro i hi
  rw [List.mem_range] at hi
  have e : x - 1#64 = ~~~(-x) := by
    rw [BitVec.not_neg, BitVec.sub_eq_add_neg]
  rw [BitVec.getLsbD_and, e, BitVec.getLsbD_not, BitVec.getLsbD_neg]
  simp only [below_iff hp hl i]
  by_cases h1 : i = firstW x
  · subst h1; simp [hp, hk]
  · by_cases h2 : i < firstW x
    · simp [hl i h2]
    · have h3 : firstW x < i := by omega
      cases hx : x.getLsbD i <;> simp [h1, h3, hi]
theorem bruijn : ∀ k < 64, ((1#64 <<< k * 285870213051353865#64) >>> 58).toNat < 64 ∧ tabN.getD ((1#64 <<< k * 285870213051353865#64) >>> 58).toNat 0 = k := by decide +kernel
theorem zeros_lt {x : BitVec 64} (h : x ≠ 0#64) : (((x &&& -x) * 285870213051353865#64) >>> 58).toNat < 64 := by
  obtain ⟨l, hk, -⟩ := least h
  rw [lowbit h]; exact (bruijn _ hk).1
theorem zeros_eq {x : BitVec 64} (h : x ≠ 0#64) : ((tab8 (((x &&& -x) * 285870213051353865#64) >>> 58).toNat).toNat : Int) = ((firstW x : Nat) : Int) := by
  obtain ⟨l, hk, -⟩ := least h
  rw [tab8_nat (zeros_lt h), lowbit h, (bruijn _ hk).2]
theorem listW_zero : listW 0#64 = [] := by
  unfold listW
  rw [List.filter_eq_nil_iff]
  intro i _
  simp
theorem firstW_zero : firstW 0#64 = 64 := by unfold firstW; rw [listW_zero]; rfl
theorem firstW_le (x : BitVec 64) : firstW x ≤ 64 := by
  by_cases h : x = 0#64
  · subst h; rw [firstW_zero]; exact Nat.le_refl _
  · obtain ⟨l, hk, -⟩ := least h; omega
end Go.Ew
namespace Go.Ew
set_option linter.unusedVariables false

def intsW (j : Nat) (x : BitVec 64) : List Int := (listW x).map fun k => (j : Int) * 64 + ((k : Nat) : Int)
def listTo (r : Row) (j : Nat) : List Int := (List.range j).flatMap fun i => intsW i (r.getD i 0#64)
def listR (r : Row) : List Int := listTo r r.length
theorem intsW_zero (j : Nat) : intsW j 0#64 = [] := by unfold intsW; rw [listW_zero]; rfl
theorem intsW_step {j : Nat} {x : BitVec 64} (h : x ≠ 0#64) : intsW j x = ((j : Int) * 64 + ((firstW x : Nat) : Int)) :: intsW j (x &&& (x - 1#64)) := by
  unfold intsW; rw [clear h]; rfl
theorem listW_length (x : BitVec 64) : (listW x).length ≤ 64 := by
  unfold listW
  exact Nat.le_trans (List.length_filter_le _ _) (by simp)
theorem intsW_length (j : Nat) (x : BitVec 64) : (intsW j x).length ≤ 64 := by unfold intsW; rw [List.length_map]; exact listW_length x
theorem listTo_succ (r : Row) (j : Nat) : listTo r (j + 1) = listTo r j ++ intsW j (r.getD j 0#64) := by
  unfold listTo; rw [List.range_succ, List.flatMap_append]; simp
theorem listTo_length (r : Row) : ∀ j, (listTo r j).length ≤ 64 * j
  | 0 => by simp [listTo]
  | j + 1 => by
    have := listTo_length r j
    have := intsW_length j (r.getD j 0#64)
    rw [listTo_succ, List.length_append]; omega
theorem clear_less {x : BitVec 64} (h : x ≠ 0#64) : (listW (x &&& (x - 1#64))).length < (listW x).length := by
  rw [clear h]; simp
theorem listR_length (r : Row) : (listR r).length ≤ 64 * r.length := listTo_length r _
end Go.Ew
namespace Go.Ew
set_option linter.unusedVariables false

def orAt (a b : Row) (i : Nat) : BitVec 64 := a.getD i 0#64 ||| b.getD i 0#64
def orR (a b : Row) : Row := (List.range (max a.length b.length)).map (orAt a b)
theorem orAt_comm (a b : Row) (i : Nat) : orAt a b i = orAt b a i := BitVec.or_comm _ _
theorem orR_comm (a b : Row) : orR a b = orR b a := by
  unfold orR
  rw [Nat.max_comm]
  exact List.map_congr_left fun i _ => orAt_comm a b i
theorem orR_length (a b : Row) : (orR a b).length = max a.length b.length := by unfold orR; simp
/-- The first j words are done; z: what stands in the others. -/
def orTo (m : Nat) (a b z : Row) (j : Nat) : Row := (List.range m).map fun i => if i < j then orAt a b i else z.getD i 0#64
theorem orTo_length (m : Nat) (a b z : Row) (j : Nat) : (orTo m a b z j).length = m := by unfold orTo; simp
theorem orTo_zero (a b z : Row) : z = orTo z.length a b z 0 := by
  apply List.ext_getElem
  · rw [orTo_length]
  · intro i h1 h2
    unfold orTo
    simp [List.getD_eq_getElem?_getD, h1]
theorem orTo_get {m : Nat} {a b z : Row} {j : Nat} {x : BitVec 64} (h : (orTo m a b z j)[((j : Nat) : Int).toNat]? = some x) : x = z.getD j 0#64 := by
  rw [Int.toNat_natCast] at h
  obtain ⟨h1, h2⟩ := List.getElem?_eq_some_iff.1 h
  rw [← h2]
  unfold orTo
  simp
theorem orTo_set {m : Nat} {a b z : Row} {j : Nat} {v : BitVec 64} (hv : v = orAt a b j) : (orTo m a b z j).set j v = orTo m a b z (j + 1) := by
  apply List.ext_getElem
  · simp [orTo_length]
  · intro i h1 h2
    have hm : i < m := by rw [orTo_length] at h2; exact h2
    rw [List.getElem_set]
    unfold orTo
    simp only [List.getElem_map, List.getElem_range]
    by_cases hij : j = i
    · subst hij; simp [hv]
    · have : (i < j + 1) ↔ (i < j) := by omega
      simp [hij, this]
theorem orTo_next {m : Nat} {a b z : Row} {j : Nat} (hz : z.getD j 0#64 = orAt a b j) : orTo m a b z j = orTo m a b z (j + 1) := by
  unfold orTo
  apply List.map_congr_left
  intro i _
  by_cases hij : i = j
  · subst hij; rw [if_neg (Nat.lt_irrefl _), if_pos (Nat.lt_succ_self _), hz]
  · have : (i < j + 1) ↔ (i < j) := by omega
    simp [this]
theorem orTo_all {a b z : Row} {j m : Nat} (hm : m = max a.length b.length) (h : ∀ i, j ≤ i → i < m → z.getD i 0#64 = orAt a b i) : orTo m a b z j = orR a b := by
  unfold orTo orR
  subst hm
  apply List.map_congr_left
  intro i hi
  rw [List.mem_range] at hi
  split
  · rfl
  · exact h i (by omega) hi
theorem orAt_left {a b : Row} {i : Nat} (h : b.length ≤ i) : a.getD i 0#64 = orAt a b i := by
  unfold orAt; rw [getD_out h, BitVec.or_zero]
theorem orAt_none {a b : Row} {i : Nat} (h1 : a.length ≤ i) (h : b.length ≤ i) : 0#64 = orAt a b i := by
  unfold orAt; rw [getD_out h, getD_out h1, BitVec.or_zero]

theorem orTo_rep (m : Nat) (a b : Row) : List.replicate m 0#64 = orTo m a b [] 0 := by
  apply List.ext_getElem
  · simp [orTo_length]
  · intro i h1 h2
    unfold orTo
    simp
/-! The list, asked bit by bit. -/
def listN (r : Row) (n : Nat) : List Int := ((List.range n).filter fun k => hasR r ((k : Nat) : Int)).map fun k => ((k : Nat) : Int)
theorem listN_succ_yes {r : Row} {n : Nat} (h : hasR r ((n : Nat) : Int) = true) : listN r (n + 1) = listN r n ++ [((n : Nat) : Int)] := by
  unfold listN; rw [List.range_succ, List.filter_append, List.map_append]; simp [h]
theorem listN_succ_no {r : Row} {n : Nat} (h : hasR r ((n : Nat) : Int) = false) : listN r (n + 1) = listN r n := by
  unfold listN; rw [List.range_succ, List.filter_append, List.map_append]; simp [h]
theorem listN_length (r : Row) (n : Nat) : (listN r n).length ≤ n := by
  unfold listN; rw [List.length_map]
  exact Nat.le_trans (List.length_filter_le _ _) (by simp)
theorem range_add_map (m k : Nat) : List.range (m + k) = List.range m ++ (List.range k).map (fun i => m + i) := by
  apply List.ext_getElem
  · simp
  · intro i h1 h2
    simp only [List.getElem_range]
    by_cases h : i < m
    · rw [List.getElem_append_left (by simpa using h)]; simp
    · rw [List.getElem_append_right (by simpa using h)]; simp; omega
theorem hasR_word (r : Row) (j k : Nat) (hk : k < 64) : hasR r (((64 * j + k : Nat) : Nat) : Int) = (r.getD j 0#64).getLsbD k := by
  unfold hasR
  rw [Int.toNat_natCast, show (64 * j + k) / 64 = j from by omega, show (64 * j + k) % 64 = k from by omega]
  simp only [Bool.and_eq_right_iff_imp, decide_eq_true_eq]
  intro _; omega
theorem listN_list (r : Row) : ∀ j, listN r (64 * j) = listTo r j
  | 0 => rfl
  | j + 1 => by
    rw [listTo_succ, ← listN_list r j, show 64 * (j + 1) = 64 * j + 64 from by omega]
    unfold listN intsW listW
    rw [range_add_map, List.filter_append, List.map_append]
    congr 1
    rw [List.filter_map, List.map_map]
    have e : (List.range 64).filter ((fun k => hasR r ((k : Nat) : Int)) ∘ fun i => 64 * j + i) = (List.range 64).filter fun k => (r.getD j 0#64).getLsbD k := by
      apply List.filter_congr
      intro k hk
      rw [List.mem_range] at hk
      exact hasR_word r j k hk
    rw [e]
    apply List.map_congr_left
    intro k _
    show ((64 * j + k : Nat) : Int) = (j : Int) * 64 + ((k : Nat) : Int)
    omega
theorem listN_all (r : Row) : listN r (64 * r.length) = listR r := listN_list r r.length
theorem listN_int {r : Row} {n : Nat} : ((n : Nat) : Int) < 64 * (r.length : Int) ↔ n < 64 * r.length := by omega
theorem cnt_filter (x : BitVec 64) : ∀ k, cntN x.toNat k = ((List.range k).filter fun i => x.getLsbD i).length
  | 0 => rfl
  | k + 1 => by
    rw [List.range_succ, List.filter_append, List.length_append, ← cnt_filter x k]
    show cntN x.toNat k + (x.toNat.testBit k).toNat = _
    congr 1
    show (x.getLsbD k).toNat = _
    cases h : x.getLsbD k <;> simp [h]
theorem countW_list (x : BitVec 64) : (listW x).length = countW x := by unfold listW countW; exact (cnt_filter x 64).symm
theorem listTo_count (r : Row) : ∀ j, j ≤ r.length → (listTo r j).length = countR (r.take j)
  | 0, _ => rfl
  | j + 1, h => by
    have hj : r[j]? = some r[j] := List.getElem?_eq_getElem (by omega)
    have hx : r[((j : Nat) : Int).toNat]? = some r[j] := hj
    rw [listTo_succ, List.length_append, listTo_count r j (by omega), countR_take hx, getD_at hx]
    unfold intsW
    rw [List.length_map, countW_list]
theorem listR_count (r : Row) : (listR r).length = countR r := by
  have := listTo_count r r.length (Nat.le_refl _)
  rw [List.take_length] at this
  exact this
theorem partW_iff (x y : BitVec 64) : partW x y = true ↔ ∀ k < 64, x.getLsbD k = true → y.getLsbD k = true := by
  unfold partW
  rw [decide_eq_true_eq]
  constructor
  · intro h k hk hx
    have := congrArg (·.getLsbD k) h
    simp only [BitVec.getLsbD_and, BitVec.getLsbD_not, BitVec.getLsbD_zero, hx, hk, decide_true, Bool.true_and, Bool.not_eq_false'] at this
    exact this
  · intro h
    apply BitVec.eq_of_getLsbD_eq
    intro k hk
    rw [BitVec.getLsbD_and, BitVec.getLsbD_not, BitVec.getLsbD_zero]
    cases hx : x.getLsbD k with
    | false => rfl
    | true => simp [hk, h k hk hx]
theorem mem_intsW {j : Nat} {x : BitVec 64} {i : Int} : i ∈ intsW j x ↔ ∃ k < 64, x.getLsbD k = true ∧ i = (j : Int) * 64 + ((k : Nat) : Int) := by
  unfold intsW listW
  simp only [List.mem_map, List.mem_filter, List.mem_range]
  constructor
  · rintro ⟨k, ⟨h1, h2⟩, rfl⟩; exact ⟨k, h1, h2, rfl⟩
  · rintro ⟨k, h1, h2, rfl⟩; exact ⟨k, ⟨h1, h2⟩, rfl⟩
theorem mem_listR {r : Row} {i : Int} : i ∈ listR r ↔ hasR r i = true := by
  unfold listR listTo
  simp only [List.mem_flatMap, List.mem_range, mem_intsW]
  constructor
  · rintro ⟨j, hj, k, hk, hx, rfl⟩
    have := hasR_word r j k hk
    rw [show (j : Int) * 64 + ((k : Nat) : Int) = ((64 * j + k : Nat) : Int) from by omega, this]; exact hx
  · intro h
    have hi := hasR_in_of h
    unfold inR at hi
    simp only [decide_eq_true_eq] at hi
    have hw := hasR_word r (i.toNat / 64) (i.toNat % 64) (by omega)
    rw [show (((64 * (i.toNat / 64) + i.toNat % 64 : Nat) : Nat) : Int) = i from by omega, h] at hw
    exact ⟨i.toNat / 64, by omega, i.toNat % 64, by omega, hw.symm, by omega⟩
theorem sub_has (a b : Row) : (listR a).all (hasR b) = subR a b := by
  rw [Bool.eq_iff_iff, List.all_eq_true]
  unfold subR subTo
  rw [List.all_eq_true]
  constructor
  · intro h j hj
    rw [List.mem_range] at hj
    unfold subAt
    rw [partW_iff]
    intro k hk hx
    rw [← hasR_word a j k hk] at hx
    rw [← hasR_word b j k hk]
    exact h _ (mem_listR.2 hx)
  · intro h i hi
    have hh := mem_listR.1 hi
    have hin := hasR_in_of hh
    unfold inR at hin
    simp only [decide_eq_true_eq] at hin
    have hj := h (i.toNat / 64) (by rw [List.mem_range]; omega)
    unfold subAt at hj
    rw [partW_iff] at hj
    have e : (((64 * (i.toNat / 64) + i.toNat % 64 : Nat) : Nat) : Int) = i := by omega
    have := hj (i.toNat % 64) (by omega) (by rw [← hasR_word a _ _ (by omega), e]; exact hh)
    rw [← hasR_word b _ _ (by omega), e] at this
    exact this
end Go.Ew
namespace Go.Ew
set_option linter.unusedVariables false

theorem hasR_neg (r : Row) {i : Int} (h : i < 0) : hasR r i = false := (hasR_no (by omega)).symm
theorem hasR_nat (r : Row) (n : Nat) : hasR r ((n : Nat) : Int) = (r.getD (n / 64) 0#64).getLsbD (n % 64) := by
  unfold hasR; rw [Int.toNat_natCast]; simp
theorem hasR_setR {r : Row} {i k : Int} : hasR (setR r i) k = (hasR r k || (decide (k = i) && inR r i)) := by
  cases h : inR r i with
  | false => rw [← setR_out h]; simp
  | true =>
    by_cases hk : k = i
    · subst hk; rw [hasR_set_self, h]; simp
    · simp only [hk, decide_false, Bool.false_and, Bool.or_false]
      by_cases hk0 : k < 0
      · rw [hasR_neg _ hk0, hasR_neg _ hk0]
      · obtain ⟨n, rfl⟩ : ∃ n : Nat, k = ((n : Nat) : Int) := ⟨k.toNat, by omega⟩
        have h' := h
        unfold inR at h'; simp only [decide_eq_true_eq] at h'
        rw [hasR_nat, hasR_nat]
        by_cases hw : n / 64 < r.length
        · rw [setR_get h _ hw]
          split
          · rename_i e
            rw [or_bit_get _ _ _ (by omega) (by omega)]
            have : ¬ n % 64 = i.toNat % 64 := by omega
            simp [this]
          · rfl
        · rw [getD_out (by rw [setR_length]; omega), getD_out (by omega)]
theorem row_ext {a b : Row} (hl : a.length = b.length) (h : ∀ n : Nat, hasR a ((n : Nat) : Int) = hasR b ((n : Nat) : Int)) : a = b := by
  apply List.ext_getElem hl
  intro j h1 h2
  apply BitVec.eq_of_getLsbD_eq
  intro k hk
  have e1 := hasR_word a j k hk
  have e2 := hasR_word b j k hk
  rw [h, e2, List.getD_eq_getElem?_getD, List.getD_eq_getElem?_getD, List.getElem?_eq_getElem h1, List.getElem?_eq_getElem h2] at e1
  simpa using e1.symm
theorem foldl_setR_length : ∀ (l : List Int) (r : Row), (l.foldl setR r).length = r.length
  | [], _ => rfl
  | i :: l, r => by rw [List.foldl_cons, foldl_setR_length l, setR_length]
theorem foldl_setR_has : ∀ (l : List Int) (r : Row) (k : Int), hasR (l.foldl setR r) k = (hasR r k || (l.any fun i => decide (k = i) && inR r i))
  | [], r, k => by simp
  | i :: l, r, k => by
    rw [List.foldl_cons, foldl_setR_has l, hasR_setR]
    simp only [inR_set, List.any_cons, Bool.or_assoc]
theorem words_mul (n : Nat) : words (64 * ((n : Nat) : Int)) = n := by unfold words; omega
theorem newR_has (n k : Int) : hasR (newR n) k = false := by
  by_cases hk : k < 0
  · exact hasR_neg _ hk
  · obtain ⟨m, rfl⟩ : ∃ m : Nat, k = ((m : Nat) : Int) := ⟨k.toNat, by omega⟩
    rw [hasR_nat]
    unfold newR
    rw [List.getD_eq_getElem?_getD]
    by_cases h : m / 64 < words n
    · simp [List.getElem?_replicate, h]
    · simp [List.getElem?_replicate, h]
theorem setAll (a : Row) : (listR a).foldl setR (newR (64 * (a.length : Int))) = a := by
  have hl : (newR (64 * (a.length : Int))).length = a.length := by rw [newR_length, words_mul]
  apply row_ext
  · rw [foldl_setR_length, hl]
  · intro n
    rw [foldl_setR_has, newR_has, Bool.false_or, Bool.eq_iff_iff, List.any_eq_true]
    constructor
    · rintro ⟨i, hi, h⟩
      simp only [Bool.and_eq_true, decide_eq_true_eq] at h
      rw [h.1]; exact mem_listR.1 hi
    · intro h
      have hin := hasR_in_of h
      refine ⟨_, mem_listR.2 h, ?_⟩
      unfold inR at hin ⊢
      rw [hl]
      simpa using hin
theorem listR_rise (a : Row) : (listR a).Pairwise (· < ·) := by
  rw [← listN_all]
  unfold listN
  rw [List.pairwise_map]
  refine List.Pairwise.filter _ (List.Pairwise.imp ?_ List.pairwise_lt_range)
  intro x y h; omega
theorem rise_at {a : Row} {j : Nat} {x y : Int} (h0 : 0 < (j : Int)) (hx : (listR a)[((j : Nat) : Int).toNat]? = some x) (hy : (listR a)[(((j : Nat) : Int) - 1).toNat]? = some y) : decide (x ≤ y) = false := by
  rw [decide_eq_false_iff_not]
  rw [Int.toNat_natCast] at hx
  obtain ⟨h1, rfl⟩ := List.getElem?_eq_some_iff.1 hx
  obtain ⟨h2, rfl⟩ := List.getElem?_eq_some_iff.1 hy
  have := List.pairwise_iff_getElem.1 (listR_rise a) _ _ h2 h1 (by omega)
  omega
theorem subR_iff {a b : Row} : subR a b = true ↔ ∀ i, hasR a i = true → hasR b i = true := by
  rw [← sub_has, List.all_eq_true]
  constructor
  · intro h i hi; exact h i (mem_listR.2 hi)
  · intro h i hi; exact h i (mem_listR.1 hi)
theorem hasR_or (a b : Row) (i : Int) : hasR (orR a b) i = (hasR a i || hasR b i) := by
  by_cases hk : i < 0
  · rw [hasR_neg _ hk, hasR_neg _ hk, hasR_neg _ hk]; rfl
  · obtain ⟨n, rfl⟩ : ∃ n : Nat, i = ((n : Nat) : Int) := ⟨i.toNat, by omega⟩
    rw [hasR_nat, hasR_nat, hasR_nat]
    by_cases h : n / 64 < max a.length b.length
    · have : (orR a b).getD (n / 64) 0#64 = orAt a b (n / 64) := by
        rw [List.getD_eq_getElem?_getD, List.getElem?_eq_getElem (by rw [orR_length]; exact h)]
        unfold orR
        simp
      rw [this, orAt, BitVec.getLsbD_or]
    · rw [getD_out (by rw [orR_length]; omega), getD_out (by omega), getD_out (by omega)]; simp
theorem subR_or (a b : Row) : subR a (orR a b) = true := subR_iff.2 fun i h => by rw [hasR_or, h]; rfl
theorem subR_or' (a b : Row) : subR b (orR a b) = true := subR_iff.2 fun i h => by rw [hasR_or, h]; simp
theorem listN_more (r : Row) : ∀ m, listN r (64 * r.length + m) = listN r (64 * r.length)
  | 0 => rfl
  | m + 1 => by
    rw [← Nat.add_assoc, listN_succ_no, listN_more r m]
    exact (hasR_no (by omega)).symm
theorem countR_upto (r : Row) {n : Nat} (h : 64 * r.length ≤ n) : countR r = ((List.range n).filter fun k => hasR r ((k : Nat) : Int)).length := by
  obtain ⟨m, rfl⟩ : ∃ m, n = 64 * r.length + m := ⟨n - 64 * r.length, by omega⟩
  have h1 := congrArg List.length (listN_more r m)
  rw [listN_all, listR_count] at h1
  rw [← h1]; unfold listN; rw [List.length_map]
theorem filter_or_length {α : Type} (p q : α → Bool) : ∀ l : List α, (l.filter q).length ≤ (l.filter fun x => p x || q x).length ∧ ((l.filter fun x => p x || q x).length = (l.filter q).length ↔ ∀ x ∈ l, p x = true → q x = true)
  | [] => by simp
  | x :: l => by
    obtain ⟨h1, h2⟩ := filter_or_length p q l
    cases hp : p x <;> cases hq : q x <;> simp [List.filter_cons, hp, hq] <;> (constructor <;> first | omega | (constructor <;> intro h <;> first | exact h2.1 (by omega) | (have := h2.2 h; omega)) | skip)
theorem sub_count (a b : Row) : (subR a b == decide (((countR (orR a b) : Nat) : Int) = ((countR b : Nat) : Int))) = true := by
  have hA := countR_upto (orR a b) (n := 64 * max a.length b.length) (by rw [orR_length]; exact Nat.le_refl _)
  have hB := countR_upto b (n := 64 * max a.length b.length) (by omega)
  have e : (fun k : Nat => hasR (orR a b) ((k : Nat) : Int)) = fun k : Nat => hasR a ((k : Nat) : Int) || hasR b ((k : Nat) : Int) := by funext k; exact hasR_or _ _ _
  rw [e] at hA
  obtain ⟨-, h2⟩ := filter_or_length (fun k : Nat => hasR a ((k : Nat) : Int)) (fun k : Nat => hasR b ((k : Nat) : Int)) (List.range (64 * max a.length b.length))
  rw [beq_iff_eq, Bool.eq_iff_iff, decide_eq_true_eq, subR_iff]
  constructor
  · intro h
    have := h2.2 fun k _ hk => h _ hk
    omega
  · intro h i hi
    have hin := hasR_in_of hi
    unfold inR at hin
    simp only [decide_eq_true_eq] at hin
    have := h2.1 (by omega) i.toNat (by rw [List.mem_range]; omega)
    rw [show ((i.toNat : Nat) : Int) = i from by omega] at this
    exact this hi
theorem or_both {m j : Nat} {a b xs : Row} {x0 x2 x3 : BitVec 64} (hs : xs = orTo m a b [] j) (ha : a[((j : Nat) : Int).toNat]? = some x0) (h2 : (xs.set ((j : Nat) : Int).toNat x0)[((j : Nat) : Int).toNat]? = some x2) (hb : b[((j : Nat) : Int).toNat]? = some x3) :
    (xs.set ((j : Nat) : Int).toNat x0).set ((j : Nat) : Int).toNat (x2 ||| x3) = orTo m a b [] (j + 1) := by
  have e2 : x2 = x0 := by
    have hl : ((j : Nat) : Int).toNat < xs.length := by
      have := (List.getElem?_eq_some_iff.1 h2).1
      simpa using this
    rw [List.getElem?_set_self hl] at h2
    exact (Option.some.inj h2).symm
  rw [List.set_set, e2, hs, Int.toNat_natCast]
  exact orTo_set (by unfold orAt; rw [getD_at ha, getD_at hb])
theorem or_left {m j : Nat} {a b xs : Row} {x0 : BitVec 64} (hs : xs = orTo m a b [] j) (ha : a[((j : Nat) : Int).toNat]? = some x0) (hb : b.length ≤ j) : xs.set ((j : Nat) : Int).toNat x0 = orTo m a b [] (j + 1) := by
  rw [hs, Int.toNat_natCast]
  exact orTo_set (by rw [← getD_at ha]; exact orAt_left hb)
theorem or_right {m j : Nat} {a b xs : Row} {x1 x2 : BitVec 64} (hs : xs = orTo m a b [] j) (ha : a.length ≤ j) (h1 : xs[((j : Nat) : Int).toNat]? = some x1) (hb : b[((j : Nat) : Int).toNat]? = some x2) : xs.set ((j : Nat) : Int).toNat (x1 ||| x2) = orTo m a b [] (j + 1) := by
  have e1 := orTo_get (hs ▸ h1)
  rw [hs, Int.toNat_natCast]
  refine orTo_set ?_
  unfold orAt
  rw [e1, getD_at hb, getD_out ha]
  simp
theorem or_none {m j : Nat} {a b xs : Row} (hs : xs = orTo m a b [] j) (ha : a.length ≤ j) (hb : b.length ≤ j) : xs = orTo m a b [] (j + 1) := by
  rw [hs]
  refine orTo_next ?_
  rw [← orAt_none ha hb]
  simp
end Go.Ew
namespace Go.Ew
open Go.RowKit
set_option linter.unusedVariables false
set_option linter.unusedSimpArgs false

/-- A guarded operation whose guard was itself passed over is passed over. -/
theorem gu {P : Program} {n : Nat} {ops : Array Oper} {f : Slots} {w : World} {K : Slots → World → Prop} {d : Option Nat} {op : Op} {ty : TypeId} {ps : String} {af : Array Edge} {j t : Nat} {want : Bool}
    (hj : gdst ops j = some t) (ht : Nat.blt t n = true) (hv : f t = undef)
    (h : K (updO f d undef) w) : SO P n ops ⟨d, op, ty, ps, af, some (j, want)⟩ f w K := by
  intro Q rest hk
  have hy : yielded ops (acts n f).tmps j = none := by
    simp only [Nat.blt_eq] at ht
    unfold gdst at hj
    simp [yielded, hj, acts, ht, hv, undef]
  unfold wpList
  rw [if_neg (by simp [Region.wanted, hy])]
  rw [put_acts]
  exact hk _ _ h

/-! Fields further behind. -/
theorem At.s1 {α β : Type} [GT α] [GT β] {M : Nat → Prop} {w : World} {ad : Addr} {x : α × β} (h : At M w ad x) : At M w (ad.add (GT.size α)) x.2 := h.snd
theorem At.s2 {α β γ : Type} [GT α] [GT β] [GT γ] {M : Nat → Prop} {w : World} {ad : Addr} {x : α × β × γ} (h : At M w ad x) : At M w (ad.add (GT.size α + GT.size β)) x.2.2 := by have h_ := h.s1.snd; rwa [add_add] at h_
theorem At.s3 {α β γ δ : Type} [GT α] [GT β] [GT γ] [GT δ] {M : Nat → Prop} {w : World} {ad : Addr} {x : α × β × γ × δ} (h : At M w ad x) : At M w (ad.add (GT.size α + GT.size β + GT.size γ)) x.2.2.2 := by have h_ := h.s2.snd; rwa [add_add] at h_
theorem At.s4 {α β γ δ ε : Type} [GT α] [GT β] [GT γ] [GT δ] [GT ε] {M : Nat → Prop} {w : World} {ad : Addr} {x : α × β × γ × δ × ε} (h : At M w ad x) : At M w (ad.add (GT.size α + GT.size β + GT.size γ + GT.size δ)) x.2.2.2.2 := by have h_ := h.s3.snd; rwa [add_add] at h_
theorem At.s5 {α β γ δ ε ζ : Type} [GT α] [GT β] [GT γ] [GT δ] [GT ε] [GT ζ] {M : Nat → Prop} {w : World} {ad : Addr} {x : α × β × γ × δ × ε × ζ} (h : At M w ad x) : At M w (ad.add (GT.size α + GT.size β + GT.size γ + GT.size δ + GT.size ε)) x.2.2.2.2.2 := by have h_ := h.s4.snd; rwa [add_add] at h_
theorem At.s6 {α β γ δ ε ζ η : Type} [GT α] [GT β] [GT γ] [GT δ] [GT ε] [GT ζ] [GT η] {M : Nat → Prop} {w : World} {ad : Addr} {x : α × β × γ × δ × ε × ζ × η} (h : At M w ad x) : At M w (ad.add (GT.size α + GT.size β + GT.size γ + GT.size δ + GT.size ε + GT.size ζ)) x.2.2.2.2.2.2 := by have h_ := h.s5.snd; rwa [add_add] at h_
theorem AtW.s1 {α β : Type} [GT α] [GT β] {M : Nat → Prop} {w : World} {ad : Addr} {x : α × β} (h : AtW M w ad x) : AtW M w (ad.add (GT.size α)) x.2 := h.snd
theorem AtW.s2 {α β γ : Type} [GT α] [GT β] [GT γ] {M : Nat → Prop} {w : World} {ad : Addr} {x : α × β × γ} (h : AtW M w ad x) : AtW M w (ad.add (GT.size α + GT.size β)) x.2.2 := by have h_ := h.s1.snd; rwa [add_add] at h_
theorem AtW.s3 {α β γ δ : Type} [GT α] [GT β] [GT γ] [GT δ] {M : Nat → Prop} {w : World} {ad : Addr} {x : α × β × γ × δ} (h : AtW M w ad x) : AtW M w (ad.add (GT.size α + GT.size β + GT.size γ)) x.2.2.2 := by have h_ := h.s2.snd; rwa [add_add] at h_
theorem AtW.s4 {α β γ δ ε : Type} [GT α] [GT β] [GT γ] [GT δ] [GT ε] {M : Nat → Prop} {w : World} {ad : Addr} {x : α × β × γ × δ × ε} (h : AtW M w ad x) : AtW M w (ad.add (GT.size α + GT.size β + GT.size γ + GT.size δ)) x.2.2.2.2 := by have h_ := h.s3.snd; rwa [add_add] at h_
theorem AtW.s5 {α β γ δ ε ζ : Type} [GT α] [GT β] [GT γ] [GT δ] [GT ε] [GT ζ] {M : Nat → Prop} {w : World} {ad : Addr} {x : α × β × γ × δ × ε × ζ} (h : AtW M w ad x) : AtW M w (ad.add (GT.size α + GT.size β + GT.size γ + GT.size δ + GT.size ε)) x.2.2.2.2.2 := by have h_ := h.s4.snd; rwa [add_add] at h_
theorem AtW.s6 {α β γ δ ε ζ η : Type} [GT α] [GT β] [GT γ] [GT δ] [GT ε] [GT ζ] [GT η] {M : Nat → Prop} {w : World} {ad : Addr} {x : α × β × γ × δ × ε × ζ × η} (h : AtW M w ad x) : AtW M w (ad.add (GT.size α + GT.size β + GT.size γ + GT.size δ + GT.size ε + GT.size ζ)) x.2.2.2.2.2.2 := by have h_ := h.s5.snd; rwa [add_add] at h_

section
variable {P : Program}

/-- A type of one cell, and what '==' says of two values of it. -/
def Leaf (P : Program) (t : TypeId) (v u : Value) (r : Bool) : Prop := (∀ w, (isAgg t).run P w = .ok false w) ∧ ∀ d w, (Op.equalIn (d + 1) t v u).run P w = .ok r w
theorem noAgg {t : TypeId} {d : TypeDesc} (h : P.underlying t = some d) (hd : (match d with | .struct _ | .array _ _ => false | _ => true) = true) (w : World) : (isAgg t).run P w = .ok false w := by
  cases d <;> first | (cases hd; done) | simp [isAgg, underlying, h]
theorem leafI {t : TypeId} {k kk : IntKind} {a b : Int} (h : P.underlying t = some (.int k)) : Leaf P t (.int kk a) (.int kk b) (decide (a = b)) :=
  ⟨noAgg h rfl, fun d w => by rw [run_equalIn_int w d t kk k a b h]; congr 1⟩
theorem leafB {t : TypeId} {a b : Bool} (h : P.underlying t = some .bool) : Leaf P t (.bool a) (.bool b) (decide (a = b)) :=
  ⟨noAgg h rfl, fun d w => by rw [run_equalIn_bool' w d t a b h]; congr 1⟩
theorem leafS {t : TypeId} {a b : ByteArray} (h : P.underlying t = some .string) : Leaf P t (.string a) (.string b) (decide (a = b)) :=
  ⟨noAgg h rfl, fun d w => by
    have e : (a.toList == b.toList) = decide (a = b) := by
      rw [← beq_toListBytes, Bool.eq_iff_iff]
      rcases a with ⟨x⟩
      rcases b with ⟨y⟩
      show (x == y) = true ↔ _
      simp
    rw [run_equalIn_string w d t a b h, e]⟩
theorem part_leaf {t : TypeId} {cs : Array Value} {off : Nat} {v : Value} (h : ∀ w, (isAgg t).run P w = .ok false w) (hc : cs[off]? = some v) (w : World) : (part t cs off).run P w = .ok v w := by
  simp [part, h w, hc]

/-- What kind of leaf a type is. -/
def leafKind (P : Program) (t : TypeId) : Option Nat := match P.underlying t with | some (.int _) => some 0 | some .bool => some 1 | some .string => some 2 | _ => none
/-- A struct's fields: where each lies, and its kind. -/
def fldsK (P : Program) (T : TypeId) : List (Option (Nat × Nat)) := (P.fieldsOf T).toList.map fun f => if f.name = "_" then none else (leafKind P f.type).map fun k => (f.offset, k)
/-- The cells of two structs, kind by kind, and what is said of each. -/
def KEq (xs ys : Array Value) : List (Option (Nat × Nat)) → List Bool → Prop
  | [], [] => True
  | some (o, 0) :: ks, r :: rs => (∃ kk a b, xs[o]? = some (.int kk a) ∧ ys[o]? = some (.int kk b) ∧ r = decide (a = b)) ∧ KEq xs ys ks rs
  | some (o, 1) :: ks, r :: rs => (∃ a b, xs[o]? = some (.bool a) ∧ ys[o]? = some (.bool b) ∧ r = decide (a = b)) ∧ KEq xs ys ks rs
  | some (o, 2) :: ks, r :: rs => (∃ a b, xs[o]? = some (.string a) ∧ ys[o]? = some (.string b) ∧ r = decide (a = b)) ∧ KEq xs ys ks rs
  | _, _ => False
theorem leafKind_0 {t : TypeId} (h : leafKind P t = some 0) : ∃ k, P.underlying t = some (.int k) := by
  unfold leafKind at h; split at h <;> simp_all
theorem leafKind_1 {t : TypeId} (h : leafKind P t = some 1) : P.underlying t = some .bool := by
  unfold leafKind at h; split at h <;> simp_all
theorem leafKind_2 {t : TypeId} (h : leafKind P t = some 2) : P.underlying t = some .string := by
  unfold leafKind at h; split at h <;> simp_all

theorem eqFlds {xs ys : Array Value} : ∀ {fs : List Field} {rs : List Bool} (d : Nat) (w : World), KEq xs ys (fs.map fun f => if f.name = "_" then none else (leafKind P f.type).map fun k => (f.offset, k)) rs → (Op.eqFields (d + 1) xs ys fs).run P w = .ok (rs.all id) w
  | [], [], d, w, _ => by simp [Op.eqFields]
  | [], _ :: _, d, w, h => by simp [KEq] at h
  | f :: fs, rs, d, w, h => by
    rw [List.map_cons] at h
    by_cases hn : f.name = "_"
    · rw [if_pos hn] at h; cases rs <;> simp [KEq] at h
    · rw [if_neg hn] at h
      have key : ∀ (a b : Value) (r : Bool) (rs' : List Bool), Leaf P f.type a b r → xs[f.offset]? = some a → ys[f.offset]? = some b →
          KEq xs ys (fs.map fun f => if f.name = "_" then none else (leafKind P f.type).map fun k => (f.offset, k)) rs' → (Op.eqFields (d + 1) xs ys (f :: fs)).run P w = .ok ((r :: rs').all id) w := by
        intro a b r rs' hl ha hb ht
        have ih := eqFlds d w ht
        simp only [Op.eqFields, ne_eq, hn, not_false_eq_true, if_true, Sem.run_bind, part_leaf hl.1 ha w, part_leaf hl.1 hb w, hl.2 d w, Result.andThen_ok]
        cases r
        · simp
        · simp [ih]
      cases hk : leafKind P f.type with
      | none => rw [hk] at h; cases rs <;> simp [KEq] at h
      | some k =>
        rw [hk, Option.map_some] at h
        cases rs with
        | nil => simp [KEq] at h
        | cons r rs' =>
          match k, hk, h with
          | 0, hk, ⟨⟨kk, a, b, ha, hb, hr⟩, ht⟩ =>
            obtain ⟨q, hq⟩ := leafKind_0 hk
            rw [hr]; exact key _ _ _ _ (leafI hq) ha hb ht
          | 1, hk, ⟨⟨a, b, ha, hb, hr⟩, ht⟩ => rw [hr]; exact key _ _ _ _ (leafB (leafKind_1 hk)) ha hb ht
          | 2, hk, ⟨⟨a, b, ha, hb, hr⟩, ht⟩ => rw [hr]; exact key _ _ _ _ (leafS (leafKind_2 hk)) ha hb ht
          | (n + 3), hk, h => simp [KEq] at h

/-- What the table says of a struct whose values can be held against each other. -/
structure StF (P : Program) (T : TypeId) (ks : List (Option (Nat × Nat))) : Prop where
  u : P.underlying T = some (.struct (P.fieldsOf T))
  s : P.stoodInHeld T = false
  g : P.eqGuardType P.depth T = false
  k : fldsK P T = ks
theorem StF.eq {T : TypeId} {ks : List (Option (Nat × Nat))} (F : StF P T ks) {xs ys : Array Value} {rs : List Bool} (h : KEq xs ys ks rs) (d : Nat) (w : World) : (Op.equalIn (d + 2) T (.agg xs) (.agg ys)).run P w = .ok (rs.all id) w := by
  rw [run_equalIn_agg w (d + 1) T xs ys F.u F.s]
  exact eqFlds d w (by rw [← F.k] at h; exact h)

/-- What the table says of an array of two numbers. -/
structure ArF (P : Program) (T : TypeId) : Prop where
  h : ∃ e k i, P.underlying T = some (.array 2 e) ∧ P.underlying e = some (.int k) ∧ P.info? e = some i ∧ P.cellsOf e = 1
  g : P.eqGuardType P.depth T = false
theorem arF {T e : TypeId} {k : IntKind} (h1 : P.underlying T = some (.array 2 e)) (h2 : P.underlying e = some (.int k)) (h3 : (P.info? e).isSome = true) (h4 : P.cellsOf e = 1) (g : P.eqGuardType P.depth T = false) : ArF P T := by
  obtain ⟨i, hi⟩ := Option.isSome_iff_exists.1 h3
  exact ⟨⟨e, k, i, h1, h2, hi, h4⟩, g⟩
theorem ArF.eq {T : TypeId} (F : ArF P T) {k1 k2 : IntKind} {a b c d : Int} (m : Nat) (w : World) : (Op.equalIn (m + 2) T (.agg #[.int k1 a, .int k2 b]) (.agg #[.int k1 c, .int k2 d])).run P w = .ok (decide (a = c) && decide (b = d)) w := by
  obtain ⟨e, k, i, h1, h2, h3, h4⟩ := F.h
  have l1 : Leaf P e (.int k1 a) (.int k1 c) (decide (a = c)) := leafI h2
  have l2 : Leaf P e (.int k2 b) (.int k2 d) (decide (b = d)) := leafI h2
  have p1 : (part e #[.int k1 a, .int k2 b] 0).run P w = .ok (.int k1 a) w := part_leaf l1.1 rfl w
  have p2 : (part e #[.int k1 c, .int k2 d] 0).run P w = .ok (.int k1 c) w := part_leaf l1.1 rfl w
  have p3 : (part e #[.int k1 a, .int k2 b] 1).run P w = .ok (.int k2 b) w := part_leaf l1.1 rfl w
  have p4 : (part e #[.int k1 c, .int k2 d] 1).run P w = .ok (.int k2 d) w := part_leaf l1.1 rfl w
  rw [run_equalIn_array w (m + 1) _ _ h1 h3, h4, show List.range 2 = [0, 1] from rfl]
  simp only [Op.eqItems, Sem.run_bind, Sem.run_ite, Sem.run_pure, Nat.mul_one, p1, p2, p3, p4, l1.2 m w, l2.2 m w, Result.andThen_ok]
  by_cases e1 : a = c <;> by_cases e2 : b = d <;> simp [e1, e2]

section
variable {n : Nat} {ops : Array Oper} {f : Slots} {w : World} {K : Slots → World → Prop} {x y c : Operand} {d : Nat} {ty T T2 : TypeId} {ps : String} {af : Array Edge}
theorem eqG {ks : List (Option (Nat × Nat))} {xs ys : Array Value} {rs : List Bool} {q : Bool} (F : StF P T ks) (ox : okT n x = true) (oy : okT n y = true) (hx : ev f x = .agg xs) (hy : ev f y = .agg ys) (hk : KEq xs ys ks rs) (hq : rs.all id = q)
    (h : K (upd f d (.bool q)) w) : SO P n ops ⟨some d, .binOp .eql T x y T2, ty, ps, af, none⟩ f w K :=
  op_ ox oy hx hy (run_eqGuard_agg w .eql T x y xs ys F.g) (by rw [run_eql_struct, F.eq hk 9998 w, hq]; rfl) h
theorem neG {ks : List (Option (Nat × Nat))} {xs ys : Array Value} {rs : List Bool} {q : Bool} (F : StF P T ks) (ox : okT n x = true) (oy : okT n y = true) (hx : ev f x = .agg xs) (hy : ev f y = .agg ys) (hk : KEq xs ys ks rs) (hq : rs.all id = q)
    (h : K (upd f d (.bool (!q))) w) : SO P n ops ⟨some d, .binOp .neq T x y T2, ty, ps, af, none⟩ f w K :=
  op_ ox oy hx hy (run_eqGuard_agg w .neq T x y xs ys F.g) (by rw [run_neq_struct, F.eq hk 9998 w, hq]; rfl) h
theorem eqA {k1 k2 : IntKind} {a b a' b' : Int} {q : Bool} (F : ArF P T) (ox : okT n x = true) (oy : okT n y = true) (hx : ev f x = .agg #[.int k1 a, .int k2 b]) (hy : ev f y = .agg #[.int k1 a', .int k2 b']) (hq : (decide (a = a') && decide (b = b')) = q)
    (h : K (upd f d (.bool q)) w) : SO P n ops ⟨some d, .binOp .eql T x y T2, ty, ps, af, none⟩ f w K :=
  op_ ox oy hx hy (run_eqGuard_agg w .eql T x y _ _ F.g) (by rw [run_eql_struct, F.eq 9998 w, hq]; rfl) h
theorem neA {k1 k2 : IntKind} {a b a' b' : Int} {q : Bool} (F : ArF P T) (ox : okT n x = true) (oy : okT n y = true) (hx : ev f x = .agg #[.int k1 a, .int k2 b]) (hy : ev f y = .agg #[.int k1 a', .int k2 b']) (hq : (decide (a = a') && decide (b = b')) = q)
    (h : K (upd f d (.bool (!q))) w) : SO P n ops ⟨some d, .binOp .neq T x y T2, ty, ps, af, none⟩ f w K :=
  op_ ox oy hx hy (run_eqGuard_agg w .neq T x y _ _ F.g) (by rw [run_neq_struct, F.eq 9998 w, hq]; rfl) h
end

/-! ### Maps whose keys are pairs of numbers -/
/-- A pair of numbers as a key. -/
abbrev K2 (p : Int × Int) : Value := .agg #[.int .i64 p.1, .int .i64 p.2]
abbrev KV := List ((Int × Int) × Int)
/-- Keys of a type are held against each other as pairs are. -/
structure Key2 (P : Program) (kt : TypeId) : Prop where
  u : ∃ d, P.underlying kt = some d
  eq : ∀ a b w, (Op.equal kt (K2 a) (K2 b)).run P w = .ok (decide (a = b)) w
  chk : ∀ e a w, (Instr.checkKey e 10000 kt (K2 a)).run P w = .ok () w
theorem pair_dec (a b : Int × Int) : (decide (a.1 = b.1) && decide (a.2 = b.2)) = decide (a = b) := by
  rw [Bool.eq_iff_iff]; simp [Prod.ext_iff]
theorem chk_leaf {t : TypeId} {k kk : IntKind} {a : Int} (h : P.underlying t = some (.int k)) (e : Bool) (m : Nat) (w : World) : (Instr.checkKey e (m + 1) t (.int kk a)).run P w = .ok () w := by
  simp [Instr.checkKey, underlying, h]
theorem flds2 {T : TypeId} (h : fldsK P T = [some (0, 0), some (1, 0)]) : ∃ f g, (P.fieldsOf T).toList = [f, g] ∧ f.name ≠ "_" ∧ g.name ≠ "_" ∧ f.offset = 0 ∧ g.offset = 1 ∧ (∃ k, P.underlying f.type = some (.int k)) ∧ ∃ k, P.underlying g.type = some (.int k) := by
  unfold fldsK at h
  rcases hl : (P.fieldsOf T).toList with _ | ⟨f, _ | ⟨g, _ | ⟨q, r⟩⟩⟩
  · rw [hl] at h; simp at h
  · rw [hl] at h; simp at h
  · rw [hl] at h
    simp only [List.map_cons, List.map_nil, List.cons.injEq, and_true] at h
    obtain ⟨h1, h2⟩ := h
    have side : ∀ (q : Field) (o : Nat), (if q.name = "_" then none else (leafKind P q.type).map fun k => (q.offset, k)) = some (o, 0) → q.name ≠ "_" ∧ q.offset = o ∧ ∃ k, P.underlying q.type = some (.int k) := by
      intro q o hq
      split at hq
      · cases hq
      · rename_i hn
        obtain ⟨k, hk, he⟩ := Option.map_eq_some_iff.1 hq
        simp only [Prod.mk.injEq] at he
        obtain ⟨rfl, rfl⟩ := he
        exact ⟨hn, rfl, leafKind_0 hk⟩
    obtain ⟨a1, a2, a3⟩ := side f 0 h1
    obtain ⟨b1, b2, b3⟩ := side g 1 h2
    exact ⟨f, g, rfl, a1, b1, a2, b2, a3, b3⟩
  · rw [hl] at h; simp at h
theorem key2_struct {kt : TypeId} (F : StF P kt [some (0, 0), some (1, 0)]) : Key2 P kt where
  u := ⟨_, F.u⟩
  eq a b w := by
    have h := F.eq (xs := #[.int .i64 a.1, .int .i64 a.2]) (ys := #[.int .i64 b.1, .int .i64 b.2]) (rs := [decide (a.1 = b.1), decide (a.2 = b.2)]) ⟨⟨_, _, _, rfl, rfl, rfl⟩, ⟨_, _, _, rfl, rfl, rfl⟩, trivial⟩ 9998 w
    rw [show Op.equal kt (K2 a) (K2 b) = Op.equalIn (9998 + 2) kt (K2 a) (K2 b) from rfl, h, ← pair_dec]
    simp
  chk e a w := by
    obtain ⟨f, g, hl, h1, h2, h3, h4, ⟨k1, h5⟩, ⟨k2, h6⟩⟩ := flds2 F.k
    have p1 : (part f.type #[.int .i64 a.1, .int .i64 a.2] 0).run P w = .ok (.int .i64 a.1) w := part_leaf (noAgg h5 rfl) rfl w
    have p2 : (part g.type #[.int .i64 a.1, .int .i64 a.2] 1).run P w = .ok (.int .i64 a.2) w := part_leaf (noAgg h6 rfl) rfl w
    have c1 := chk_leaf (P := P) (kk := .i64) (a := a.1) h5 e 9998 w
    have c2 := chk_leaf (P := P) (kk := .i64) (a := a.2) h6 e 9998 w
    show (Instr.checkKey e (9999 + 1) kt (.agg #[.int .i64 a.1, .int .i64 a.2])).run P w = _
    rw [show (9999 : Nat) = 9998 + 1 from rfl]
    generalize 9998 = q at c1 c2 ⊢
    unfold Instr.checkKey
    simp only [Sem.run_bind, run_underlying F.u, Result.andThen_ok]
    rw [← Array.forIn_toList, hl]
    simp only [List.forIn_cons, List.forIn_nil, ne_eq, h1, h2, h3, h4, not_false_eq_true, if_true, Sem.run_bind, p1, p2, Result.andThen_ok, Sem.run_pure, c1, c2]
theorem key2_array {kt : TypeId} (F : ArF P kt) : Key2 P kt where
  u := by obtain ⟨e, k, i, h1, _⟩ := F.h; exact ⟨_, h1⟩
  eq a b w := by rw [show Op.equal kt (K2 a) (K2 b) = Op.equalIn (9998 + 2) kt (K2 a) (K2 b) from rfl, F.eq 9998 w, pair_dec]
  chk e a w := by
    obtain ⟨t, k, i, h1, h2, h3, h4⟩ := F.h
    have p1 : (part t #[.int .i64 a.1, .int .i64 a.2] 0).run P w = .ok (.int .i64 a.1) w := part_leaf (noAgg h2 rfl) rfl w
    have p2 : (part t #[.int .i64 a.1, .int .i64 a.2] 1).run P w = .ok (.int .i64 a.2) w := part_leaf (noAgg h2 rfl) rfl w
    have c1 := chk_leaf (P := P) (kk := .i64) (a := a.1) h2 e 9998 w
    have c2 := chk_leaf (P := P) (kk := .i64) (a := a.2) h2 e 9998 w
    show (Instr.checkKey e (9999 + 1) kt (.agg #[.int .i64 a.1, .int .i64 a.2])).run P w = _
    have hs : (sizeOf t).run P w = .ok 1 w := by rw [run_sizeOf w h3, h4]
    rw [show (9999 : Nat) = 9998 + 1 from rfl]
    generalize 9998 = q at c1 c2 ⊢
    unfold Instr.checkKey
    simp only [Sem.run_bind, run_underlying h1, Result.andThen_ok, Std.Legacy.Range.forIn_eq_forIn_range', Std.Legacy.Range.size, Nat.sub_zero, Nat.add_one_sub_one, Nat.div_one]
    rw [show List.range' 0 2 = [0, 1] from rfl]
    simp only [List.forIn_cons, List.forIn_nil, Sem.run_bind, hs, p1, p2, Nat.zero_mul, Nat.one_mul, Result.andThen_ok, Sem.run_pure, c1, c2]

theorem get_map {w : World} {r : Nat} {es : Array MapEntry} {clock : Nat} (hb : w.heap[r]? = some (.map es clock)) : (getObj r).run P w = .ok (.map es clock) w := by
  simp [getObj, Sem.run, hb]
theorem set_map {w : World} {r : Nat} {es : Array MapEntry} {clock : Nat} (o : Obj) (hb : w.heap[r]? = some (.map es clock)) : (setObj r o).run P w = .ok () { w with heap := w.heap.setIfInBounds r o } := by
  simp [setObj, Sem.run, hb]
theorem set_heap {w : World} {r : Nat} {o o' : Obj} (hb : w.heap[r]? = some o) : (w.heap.setIfInBounds r o')[r]? = some o' ∧ ∀ r', r' ≠ r → (w.heap.setIfInBounds r o')[r']? = w.heap[r']? := by
  have hlt : r < w.heap.size := (Array.getElem?_eq_some_iff.1 hb).1
  exact ⟨by simp [hlt], fun r' hne => by simp [Ne.symm hne]⟩
/-- What a map says of a key. -/
def getM : KV → Int × Int → Option Int
  | [], _ => none
  | x :: xs, k => if k = x.1 then some x.2 else getM xs k
/-- .. with a key. -/
def putM : KV → Int × Int → Int → KV
  | [], k, v => [(k, v)]
  | x :: xs, k, v => if k = x.1 then (k, v) :: xs else x :: putM xs k v
theorem getM_put (m : KV) (k k' : Int × Int) (v : Int) : getM (putM m k v) k' = if k' = k then some v else getM m k' := by
  induction m with
  | nil => simp [putM, getM]
  | cons x xs ih =>
    unfold putM
    by_cases h : k = x.1
    · subst h
      simp only [if_true, getM]
      by_cases h' : k' = x.1 <;> simp [h']
    · rw [if_neg h]
      simp only [getM, ih]
      by_cases h' : k' = x.1
      · rw [if_pos h', if_pos h', if_neg (by rw [h']; exact fun e => h e.symm)]
      · rw [if_neg h', if_neg h']
def findM : KV → Int × Int → Nat → Option (Nat × Value)
  | [], _, _ => none
  | x :: xs, k, i => if k = x.1 then some (i, .int .i64 x.2) else findM xs k (i + 1)
theorem findM_get : ∀ (m : KV) (k : Int × Int) (i : Nat), (findM m k i).map (·.2) = (getM m k).map fun v => Value.int .i64 v
  | [], _, _ => rfl
  | x :: xs, k, i => by
    unfold findM getM
    split
    · rfl
    · exact findM_get xs k (i + 1)
def MapRep (es : List MapEntry) (m : KV) : Prop := es.map (fun e => (e.key, e.val)) = m.map fun x => (K2 x.1, Value.int .i64 x.2)
theorem ask_run {kt : TypeId} (F : Key2 P kt) (k : Int × Int) (w : World) : ∀ (m : KV) (es : List MapEntry) (i : Nat), MapRep es m → (Instr.findAsking kt (K2 k) es i).run P w = .ok (findM m k i) w
  | [], es, i, h => by
    have : es = [] := by simpa [MapRep] using h
    subst this; simp [Instr.findAsking, findM]
  | x :: xs, es, i, h => by
    match es, h with
    | e :: es, h =>
      simp only [MapRep, List.map_cons, List.cons.injEq, Prod.mk.injEq] at h
      obtain ⟨⟨h1, h2⟩, h3⟩ := h
      have ih := ask_run F k w xs es (i + 1) h3
      by_cases hk : k = x.1
      · simp [Instr.findAsking, findM, h1, h2, F.eq, hk]
      · simp [Instr.findAsking, findM, h1, h2, F.eq, hk, ih]
    | [], h => simp [MapRep] at h
theorem findNow_agg (d : TypeDesc) (cs : Array Value) (e : MapEntry) (es : List MapEntry) (i : Nat) : Instr.findNow d (.agg cs) (e :: es) i = none := by
  have : Instr.sameNow d (.agg cs) e.key = none := by
    cases d <;> cases e.key <;> rfl
  simp [Instr.findNow, this]
theorem find_run {kt : TypeId} (F : Key2 P kt) (k : Int × Int) (w : World) {m : KV} {es : List MapEntry} (h : MapRep es m) : (Instr.findKey kt (K2 k) es).run P w = .ok (findM m k 0) w := by
  obtain ⟨d, hd⟩ := F.u
  cases es with
  | nil =>
    have : m = [] := by simpa [MapRep] using h.symm
    subst this
    simp [Instr.findKey, run_underlying hd, Result.andThen, Instr.findNow, findM]
  | cons e es =>
    have h0 : Instr.findNow d (K2 k) (e :: es) 0 = none := findNow_agg d _ e es 0
    simp [Instr.findKey, run_underlying hd, Result.andThen, h0, ask_run F k w m _ 0 h]
theorem findM_some : ∀ (m : KV) (es : List MapEntry) (k : Int × Int) (i j : Nat) (v : Value), MapRep es m → findM m k i = some (j, v) → ∃ q e, j = i + q ∧ es[q]? = some e ∧ e.key = K2 k ∧ ∀ (c : Nat) (u : Int), MapRep (es.modify q fun e => { e with key := K2 k, val := .int .i64 u }) (putM m k u)
  | [], _, _, _, _, _, _, h => by cases h
  | x :: xs, es, k, i, j, v, hr, h => by
    match es, hr with
    | [], hr => simp [MapRep] at hr
    | e :: es, hr =>
      simp only [MapRep, List.map_cons, List.cons.injEq, Prod.mk.injEq] at hr
      obtain ⟨⟨h1, h2⟩, h3⟩ := hr
      unfold findM at h
      split at h
      · rename_i hk
        simp only [Option.some.injEq, Prod.mk.injEq] at h
        refine ⟨0, e, h.1.symm, rfl, by rw [h1, hk], fun c u => ?_⟩
        unfold putM
        rw [if_pos hk]
        simp [MapRep, h3]
      · rename_i hk
        obtain ⟨q, e', hq1, hq2, hq3, hq4⟩ := findM_some xs es k (i + 1) j v h3 h
        refine ⟨q + 1, e', by omega, by simpa using hq2, hq3, fun c u => ?_⟩
        have := hq4 c u
        unfold putM
        rw [if_neg hk]
        simp only [MapRep, List.modify_succ_cons, List.map_cons, List.cons.injEq, Prod.mk.injEq]
        exact ⟨⟨h1, h2⟩, this⟩
theorem findM_none : ∀ (m : KV) (es : List MapEntry) (k : Int × Int) (i : Nat), MapRep es m → findM m k i = none → ∀ (c : Nat) (u : Int), MapRep (es ++ [⟨K2 k, .int .i64 u, c⟩]) (putM m k u)
  | [], es, k, _, hr, _, c, u => by
    have : es = [] := by simpa [MapRep] using hr
    subst this; simp [MapRep, putM]
  | x :: xs, es, k, i, hr, h, c, u => by
    match es, hr with
    | [], hr => simp [MapRep] at hr
    | e :: es, hr =>
      simp only [MapRep, List.map_cons, List.cons.injEq, Prod.mk.injEq] at hr
      obtain ⟨⟨h1, h2⟩, h3⟩ := hr
      unfold findM at h
      split at h
      · cases h
      · rename_i hk
        have := findM_none xs es k (i + 1) h3 h c u
        unfold putM
        rw [if_neg hk]
        simp only [MapRep, List.cons_append, List.map_cons, List.cons.injEq, Prod.mk.injEq]
        exact ⟨⟨h1, h2⟩, this⟩

/-- A map of the call's own. -/
def mapI (b : Nat) (m : KV) : Item :=
  ⟨some b, fun _ w => ∃ es clock, w.heap[b]? = some (.map es clock) ∧ MapRep es.toList m ∧ ∀ x ∈ m, I64 x.2, fun h _ hb => by
    obtain ⟨es, c, h1, h2⟩ := h
    exact ⟨es, c, (hb b rfl).trans h1, h2⟩⟩
theorem getM_in {m : KV} (h : ∀ x ∈ m, I64 x.2) {k : Int × Int} {v : Int} (hv : getM m k = some v) : I64 v := by
  induction m with
  | nil => cases hv
  | cons x xs ih =>
    unfold getM at hv
    split at hv
    · cases hv; exact h x (by simp)
    · exact ih (fun y hy => h y (by simp [hy])) hv
theorem putM_in {m : KV} (h : ∀ x ∈ m, I64 x.2) (k : Int × Int) {v : Int} (hv : I64 v) : ∀ x ∈ putM m k v, I64 x.2 := by
  induction m with
  | nil => intro x hx; simp [putM] at hx; subst hx; exact hv
  | cons y ys ih =>
    intro x hx
    unfold putM at hx
    split at hx
    · rcases List.mem_cons.1 hx with rfl | hx
      · exact hv
      · exact h x (by simp [hx])
    · rcases List.mem_cons.1 hx with rfl | hx
      · exact h x (by simp)
      · exact ih (fun z hz => h z (by simp [hz])) x hx

/-- What the table says of a map's type. -/
structure MapF (P : Program) (T : TypeId) : Prop where
  h : ∃ kt et, P.underlying T = some (.map kt et) ∧ Key2 P kt ∧ ∀ w, (zeroValue et).run P w = .ok (.int .i64 0) w
theorem mapF {T kt et : TypeId} {k b : Nat} {a : Bool} (h : P.underlying T = some (.map kt et)) (K : Key2 P kt) (F : TyF P et k a b (.int .i64 0)) : MapF P T := ⟨kt, et, h, K, F.run_zero⟩

section
variable {n : Nat} {ops : Array Oper} {f : Slots} {w : World} {K : Slots → World → Prop} {x y c : Operand} {d : Nat} {ty T T2 : TypeId} {ps : String} {af : Array Edge} {M0 : Nat → Prop} {w0 : World} {l : List Item} {m : KV} {b : Nat}
/-- make(map..) -/
theorem mm (H : HI M0 w0 w l) (h : ∀ b w', Ext w w' → HI M0 w0 w' (mapI b [] :: l) → K (upd f d (.map (some b))) w') : SO P n ops ⟨some d, .makeMap T none, ty, ps, af, none⟩ f w K :=
  SO.value (v := .map (some w.heap.size)) (w' := w.alloc (.map #[] 0)) (by simp [execOp, run_makeMap]) (h _ _ (Ext.alloc w _)
    (H.new (Ext.alloc w _) w.heap.size rfl (Nat.le_refl _) (by simp) ⟨#[], 0, heap_alloc_new w _, rfl, fun _ h => (by cases h)⟩))
/-- v, ok := m[k] -/
theorem mlk {k : Int × Int} (F : MapF P T) (H : HI M0 w0 w l) (i : Nat) (hi : l[i]? = some (mapI b m)) (ox : okT n x = true) (oy : okT n y = true) (hx : ev f x = .map (some b)) (hy : ev f y = K2 k)
    (h : I64 ((getM m k).getD 0) → K (upd f d (.tuple #[.int .i64 ((getM m k).getD 0), .bool (getM m k).isSome])) w) : SO P n ops ⟨some d, .lookup T x y true, ty, ps, af, none⟩ f w K := by
  obtain ⟨kt, et, h1, h2, h3⟩ := F.h
  obtain ⟨es, clock, g1, g2, g3⟩ := H.at_ i hi
  have hI : I64 ((getM m k).getD 0) := by
    cases hg : getM m k with
    | none => unfold I64; simp
    | some v => exact getM_in g3 hg
  refine SO.value (v := .tuple #[.int .i64 ((getM m k).getD 0), .bool (getM m k).isSome]) (w' := w) ?_ (h hI)
  have hf := findM_get m k 0
  have hr := find_run h2 k w g2
  simp only [execOp, eval_acts ox, eval_acts oy, hx, hy, Instr.lookup, Sem.run_bind, run_underlying h1, get_map g1, h2.chk, hr, Result.andThen_ok, Sem.run_pure]
  cases hq : findM m k 0 with
  | none =>
    have hg : getM m k = none := by rw [hq] at hf; simpa using hf.symm
    simp [hq, hg, h3 w]
  | some p =>
    obtain ⟨j, v⟩ := p
    rw [hq] at hf
    cases hg : getM m k with
    | none => rw [hg] at hf; cases hf
    | some u =>
      rw [hg] at hf
      simp only [Option.map_some, Option.some.injEq] at hf
      subst hf
      simp
/-- m[k] = v -/
theorem mup {dd : Option Nat} {k : Int × Int} {v : Int} (F : MapF P T) (H : HI M0 w0 w l) (i : Nat) (hi : l[i]? = some (mapI b m)) (ox : okT n x = true) (oy : okT n y = true) (oc : okT n c = true) (hx : ev f x = .map (some b)) (hy : ev f y = K2 k) (hc : ev f c = .int .i64 v) (hv : I64 v)
    (h : ∀ w', HI M0 w0 w' (l.set i (mapI b (putM m k v))) → K (updO f dd undef) w') : SO P n ops ⟨dd, .mapUpdate T x y c, ty, ps, af, none⟩ f w K := by
  obtain ⟨kt, et, h1, h2, h3⟩ := F.h
  obtain ⟨es, clock, g1, g2, g3⟩ := H.at_ i hi
  have hr := find_run h2 k w g2
  have hlt : b < w.heap.size := (Array.getElem?_eq_some_iff.1 g1).1
  have fin : ∀ (o : Obj), (∀ M w', w'.heap[b]? = some o → (mapI b (putM m k v)).holds M w') →
      HI M0 w0 { w with heap := w.heap.setIfInBounds b o } (l.set i (mapI b (putM m k v))) := by
    intro o ho
    refine H.turn i hi rfl rfl rfl (by simp) (fun q hq hne => ?_) (fun q hq => ?_) (ho _ _ (set_heap g1).1)
    · exact (set_heap g1).2 q fun e => hne (by rw [e]; rfl)
    · cases hq
      exact ⟨by simpa using hlt, .inl rfl⟩
  cases hq : findM m k 0 with
  | none =>
    refine SO.skip (w' := { w with heap := w.heap.setIfInBounds b (.map (es.push ⟨K2 k, .int .i64 v, clock⟩) (clock + 1)) }) ?_ (h _ (fin _ ?_))
    · simp [execOp, eval_acts ox, eval_acts oy, eval_acts oc, hx, hy, hc, Instr.mapUpdate, run_underlying h1, get_map g1, h2.chk, hr, hq, set_map _ g1]
    · intro M w' hw
      exact ⟨_, _, hw, by rw [Array.toList_push]; exact findM_none m es.toList k 0 g2 hq clock v, putM_in g3 k hv⟩
  | some p =>
    obtain ⟨j, u⟩ := p
    obtain ⟨q, e, hq1, hq2, hq3, hq4⟩ := findM_some m es.toList k 0 j u g2 hq
    obtain rfl : j = q := by omega
    have he : es[j]? = some e := by simpa using hq2
    have hsb : (Instr.keyThatStays e.key (K2 k)).run P w = .ok (K2 k) w := by
      rw [hq3]; simp [Instr.keyThatStays, Instr.sameBits]
    refine SO.skip (w' := { w with heap := w.heap.setIfInBounds b (.map (es.modify j fun e => { e with key := K2 k, val := .int .i64 v }) clock) }) ?_ (h _ (fin _ ?_))
    · simp [execOp, eval_acts ox, eval_acts oy, eval_acts oc, hx, hy, hc, Instr.mapUpdate, run_underlying h1, get_map g1, h2.chk, hr, hq, he, hsb, set_map _ g1]
    · intro M w' hw
      exact ⟨_, _, hw, by rw [Array.toList_modify]; exact hq4 clock v, putM_in g3 k hv⟩
end
end
end Go.Ew
namespace Go.Ew
set_option linter.unusedVariables false
set_option linter.unusedSimpArgs false

theorem cntN_half (x : Nat) : ∀ k, cntN x (k + 1) = x % 2 + cntN (x / 2) k
  | 0 => by
    show cntN x 0 + _ = _
    simp only [cntN, Nat.testBit_zero]
    rcases Nat.mod_two_eq_zero_or_one x with h | h <;> simp [h]
  | k + 1 => by
    have ih := cntN_half x k
    show cntN x (k + 1) + (x.testBit (k + 1)).toNat = x % 2 + (cntN (x / 2) k + ((x / 2).testBit k).toNat)
    rw [ih, Nat.testBit_succ]; omega
theorem countW_half (y : BitVec 64) : countW y = (y % 2#64).toNat + countW (y / 2#64) := by
  have h := cntN_half y.toNat 63
  have hy := y.isLt
  unfold countW
  rw [h, BitVec.toNat_umod, BitVec.toNat_udiv]
  show y.toNat % 2 + cntN (y.toNat / 2) 63 = y.toNat % 2 + (cntN (y.toNat / 2) 63 + ((y.toNat / 2).testBit 63).toNat)
  have : (y.toNat / 2).testBit 63 = false := Nat.testBit_lt_two_pow (by omega)
  rw [this]; simp
theorem countW_zero : countW 0#64 = 0 := by decide +kernel
theorem half_less {y : BitVec 64} (h : 0 < y.toNat) : (y / 2#64).toNat < y.toNat := by
  rw [BitVec.toNat_udiv]
  show y.toNat / 2 < y.toNat
  omega
theorem count_step (w y : BitVec 64) : ((countW w : Nat) : Int) - ((countW y : Nat) : Int) + ((y % 2#64).toNat : Int) = ((countW w : Nat) : Int) - ((countW (y / 2#64) : Nat) : Int) := by
  have := countW_half y; omega
theorem count_end {w y : BitVec 64} (h : ¬ 0 < y.toNat) : ((countW w : Nat) : Int) - ((countW y : Nat) : Int) = ((countW w : Nat) : Int) := by
  have : y = 0#64 := BitVec.eq_of_toNat_eq (by simpa using h)
  rw [this, countW_zero]; omega

theorem hasW_nat (w : BitVec 64) (k : Nat) : hasW w ((k : Nat) : Int) = w.getLsbD k := by unfold hasW; simp
theorem first_hit {w : BitVec 64} {j : Nat} (h : hasW w ((j : Nat) : Int) = true) (hl : ∀ k, k < j → w.getLsbD k = false) : ((j : Nat) : Int) = ((firstW w : Nat) : Int) := by
  rw [hasW_nat] at h
  have hne : w ≠ 0#64 := by rintro rfl; simp at h
  obtain ⟨l, h1, h2, h3, -⟩ := least hne
  rcases Nat.lt_trichotomy j (firstW w) with h4 | h4 | h4
  · rw [h3 j h4] at h; cases h
  · omega
  · rw [hl _ h4] at h2; cases h2
theorem first_step {w : BitVec 64} {j : Nat} (hl : ∀ k, k < j → w.getLsbD k = false) (h : hasW w ((j : Nat) : Int) = false) : ∀ k, k < j + 1 → w.getLsbD k = false := by
  intro k hk
  rw [hasW_nat] at h
  rcases Nat.lt_succ_iff_lt_or_eq.1 hk with h1 | rfl
  · exact hl k h1
  · exact h
theorem first_miss {w : BitVec 64} {j : Nat} (hl : ∀ k, k < j → w.getLsbD k = false) (h : 64 ≤ j) : (64 : Int) = ((firstW w : Nat) : Int) := by
  have : w = 0#64 := by
    refine Classical.byContradiction fun hne => ?_
    obtain ⟨k, hk, hb⟩ := bit_of_ne hne
    rw [hl k (by omega)] at hb; cases hb
  rw [this, firstW_zero]; rfl
theorem first_has {w : BitVec 64} (h : w ≠ 0#64) : hasW w ((firstW w : Nat) : Int) = true := by
  obtain ⟨l, h1, h2, h3, -⟩ := least h
  rw [hasW_nat]; exact h2

theorem lowW_bit (k : Int) (i : Nat) : (lowW k).getLsbD i = (decide (i < 64) && decide ((i : Int) < k)) := by
  unfold lowW
  split
  · rw [show decide ((i : Int) < k) = false from decide_eq_false (by omega)]; simp
  · rename_i h
    rw [BitVec.getLsbD_ushiftRight, show (18446744073709551615#64 : BitVec 64) = BitVec.allOnes 64 from rfl, BitVec.getLsbD_allOnes, Bool.eq_iff_iff]
    simp only [decide_eq_true_eq, Bool.and_eq_true]
    omega
theorem bit_ext {x y : BitVec 64} (h : ∀ i, i < 64 → x.getLsbD i = y.getLsbD i) : x = y := BitVec.eq_of_getLsbD_eq h
theorem bitB_get {i : Int} (h0 : 0 ≤ i) (h : i ≤ 63) (k : Nat) (hk : k < 64) : (bitB i).getLsbD k = decide (k = i.toNat) := by
  rw [bitB_pow h0 h, BitVec.getLsbD_shiftLeft, BitVec.getLsbD_one, Bool.eq_iff_iff]
  simp only [Bool.and_eq_true, decide_eq_true_eq, Bool.not_eq_true', decide_eq_false_iff_not]
  omega
theorem hasW_range {w : BitVec 64} {i : Int} (h : hasW w i = true) : 0 ≤ i ∧ i ≤ 63 ∧ w.getLsbD i.toNat = true := by
  unfold hasW at h
  simp only [Bool.and_eq_true, decide_eq_true_eq] at h
  refine ⟨h.1, ?_, h.2⟩
  have := BitVec.lt_of_getLsbD h.2
  omega
theorem low_step {j : Nat} (h : j < 64) : lowW ((j : Nat) : Int) + bitB ((j : Nat) : Int) = lowW (((j + 1 : Nat) : Nat) : Int) := by
  have hn : hasW (lowW ((j : Nat) : Int)) ((j : Nat) : Int) = false := by rw [hasW_nat, lowW_bit]; simp
  rw [add_bit hn]
  refine bit_ext fun i hi => ?_
  rw [BitVec.getLsbD_or, lowW_bit, lowW_bit, bitB_get (by omega) (by omega) i hi, Bool.eq_iff_iff]
  simp only [Bool.or_eq_true, Bool.and_eq_true, decide_eq_true_eq]
  omega
theorem low_64 {k : Int} (h : 64 ≤ k) : lowW k = lowW 64 := by
  refine bit_ext fun i hi => ?_
  rw [lowW_bit, lowW_bit, Bool.eq_iff_iff]
  simp only [Bool.and_eq_true, decide_eq_true_eq]
  omega
theorem low_0 {k : Int} (h : k ≤ 0) : lowW k = lowW 0 := by rw [← lowW_no h]; rfl
theorem low_end {j : Nat} {n : Int} (hj : j ≤ 64) (hn : ((j : Nat) : Int) ≤ n ∨ j = 0) (h : ¬ ((j : Nat) : Int) < 64 ∨ ¬ ((j : Nat) : Int) < n) : lowW ((j : Nat) : Int) = lowW n := by
  by_cases h1 : ((j : Nat) : Int) < 64
  · rcases h with h | h
    · exact absurd h1 h
    · by_cases h2 : n ≤ 0
      · rw [low_0 h2, show j = 0 from by omega]; rfl
      · rw [show ((j : Nat) : Int) = n from by omega]
  · rw [low_64 (k := n) (by omega), show j = 64 from by omega]; rfl
theorem hasW_low {n k : Int} (h0 : 0 ≤ k) (h : k < 64) : hasW (lowW n) k = decide (k < n) := by
  unfold hasW
  rw [lowW_bit, Bool.eq_iff_iff]
  simp only [Bool.and_eq_true, decide_eq_true_eq]
  omega
theorem countW_low_nat : ∀ j : Nat, j ≤ 64 → countW (lowW ((j : Nat) : Int)) = j
  | 0, _ => by decide +kernel
  | j + 1, h => by
    have hn : hasW (lowW ((j : Nat) : Int)) ((j : Nat) : Int) = false := by rw [hasW_nat, lowW_bit]; simp
    rw [← low_step (by omega), add_bit hn, countW_or (by omega) (by rwa [hasW_nat] at hn), countW_low_nat j (by omega)]
theorem countW_low (n : Int) : ((countW (lowW n) : Nat) : Int) = min (max n 0) 64 := by
  by_cases h : n ≤ 0
  · rw [low_0 h]; have := countW_low_nat 0 (by omega); rw [show ((0 : Nat) : Int) = 0 from rfl] at this; rw [this]; omega
  · by_cases h2 : 64 ≤ n
    · rw [low_64 h2]; have := countW_low_nat 64 (by omega); rw [show ((64 : Nat) : Int) = 64 from rfl] at this; rw [this]; omega
    · have := countW_low_nat n.toNat (by omega)
      rw [show ((n.toNat : Nat) : Int) = n from by omega] at this
      rw [this]; omega

theorem mask_no {w : BitVec 64} {i : Int} (h : hasW w i = false) : w &&& lowW (i + 1) = w &&& lowW i := by
  refine bit_ext fun k hk => ?_
  rw [BitVec.getLsbD_and, BitVec.getLsbD_and, lowW_bit, lowW_bit]
  by_cases e : (k : Int) = i
  · subst e
    rw [hasW_nat] at h
    simp [h]
  · rw [show decide ((k : Int) < i + 1) = decide ((k : Int) < i) from by rw [decide_eq_decide]; omega]
theorem mask_yes {w : BitVec 64} {i : Int} (h : hasW w i = true) : w &&& lowW (i + 1) = (w &&& lowW i) + bitB i ∧ countW (w &&& lowW (i + 1)) = countW (w &&& lowW i) + 1 := by
  obtain ⟨h0, h1, h2⟩ := hasW_range h
  have hn : hasW (w &&& lowW i) i = false := by unfold hasW; rw [BitVec.getLsbD_and, lowW_bit]; simp; omega
  have e : w &&& lowW (i + 1) = (w &&& lowW i) ||| bitB i := by
    refine bit_ext fun k hk => ?_
    rw [BitVec.getLsbD_or, BitVec.getLsbD_and, BitVec.getLsbD_and, lowW_bit, lowW_bit, bitB_get h0 h1 k hk]
    by_cases ek : k = i.toNat
    · subst ek
      rw [h2, Bool.eq_iff_iff]; simp; omega
    · rw [show decide ((k : Int) < i + 1) = decide ((k : Int) < i) from by rw [decide_eq_decide]; omega]
      simp [ek]
  refine ⟨by rw [e, add_bit hn], ?_⟩
  rw [e]
  have : bitB i = bitB ((i.toNat : Nat) : Int) := by rw [show ((i.toNat : Nat) : Int) = i from by omega]
  rw [this]
  refine countW_or (by omega) ?_
  unfold hasW at hn
  simpa [h0] using hn
theorem next_i (j : Nat) : (((j + 1 : Nat) : Nat) : Int) - 1 = ((j : Int) - 1) + 1 := by omega
theorem mask_u_no {w : BitVec 64} {j : Nat} (h : hasW w ((j : Int) - 1) = false) : w &&& lowW ((j : Int) - 1) = w &&& lowW ((((j + 1 : Nat) : Nat) : Int) - 1) := by rw [next_i]; exact (mask_no h).symm
theorem mask_u_yes {w : BitVec 64} {j : Nat} (h : hasW w ((j : Int) - 1) = true) : (w &&& lowW ((j : Int) - 1)) + bitB ((j : Int) - 1) = w &&& lowW ((((j + 1 : Nat) : Nat) : Int) - 1) := by rw [next_i]; exact (mask_yes h).1.symm
theorem mask_i_no {w : BitVec 64} {j : Nat} (h : hasW w ((j : Int) - 1) = false) : ((countW (w &&& lowW ((j : Int) - 1)) : Nat) : Int) = ((countW (w &&& lowW ((((j + 1 : Nat) : Nat) : Int) - 1)) : Nat) : Int) := by rw [← mask_u_no h]
theorem mask_i_yes {w : BitVec 64} {j : Nat} (h : hasW w ((j : Int) - 1) = true) : ((countW (w &&& lowW ((j : Int) - 1)) : Nat) : Int) + 1 = ((countW (w &&& lowW ((((j + 1 : Nat) : Nat) : Int) - 1)) : Nat) : Int) := by
  rw [next_i, (mask_yes h).2]; omega
theorem mask_start (x : BitVec 64) : x &&& lowW (((0 : Nat) : Int) - 1) = 0#64 := by rw [← lowW_no (k := ((0 : Nat) : Int) - 1) (by omega)]; simp
theorem count_start (x : BitVec 64) : (0 : Int) = ((countW (x &&& lowW (((0 : Nat) : Int) - 1)) : Nat) : Int) := by rw [mask_start, countW_zero]; rfl
theorem mask_all {w : BitVec 64} {k : Int} (h : 64 ≤ k) : w &&& lowW k = w := by
  refine bit_ext fun i hi => ?_
  rw [BitVec.getLsbD_and, lowW_bit, show decide ((i : Int) < k) = true from decide_eq_true (by omega)]; simp [hi]
theorem mask_first {w : BitVec 64} (h : w ≠ 0#64) : w &&& lowW ((firstW w : Nat) : Int) = 0#64 := by
  obtain ⟨l, h1, h2, h3, -⟩ := least h
  refine bit_ext fun i hi => ?_
  rw [BitVec.getLsbD_and, lowW_bit]
  by_cases e : i < firstW w
  · rw [h3 i e]; simp
  · rw [show decide ((i : Int) < ((firstW w : Nat) : Int)) = false from decide_eq_false (by omega)]; simp
end Go.Ew
namespace Go.Ew
set_option linter.unusedVariables false
set_option linter.unusedSimpArgs false

abbrev OpL := Bool × ByteArray × Int
abbrev ItemL := Int × Int × Bool × Int × Int
abbrev HistL := List (List OpL)

/-! ### names -/
def okC (c : UInt8) : Bool := !(decide (((c.toNat : Nat) : Int) < 97)) && !(decide ((122 : Int) < ((c.toNat : Nat) : Int)))
def nameS (s : ByteArray) : Bool := s.data.toList.all okC && decide (1 ≤ s.size) && decide (s.size ≤ 8)
theorem byte_at {s : ByteArray} {j : Nat} {c : UInt8} (h : s[((j : Nat) : Int).toNat]? = some c) : s.data.toList[((j : Nat) : Int).toNat]? = some c := by
  rw [Int.toNat_natCast] at h ⊢
  rw [Array.getElem?_toList]
  have hj : j < s.size := by
    refine Classical.byContradiction fun hn => ?_
    rw [getElem?_neg s j hn] at h; cases h
  rw [getElem?_pos s j hj] at h
  rw [Array.getElem?_eq_getElem hj]
  exact h
theorem name_no {s : ByteArray} {j : Nat} {c : UInt8} (h : s[((j : Nat) : Int).toNat]? = some c) (h1 : okC c = false) : false = nameS s := by
  unfold nameS; rw [all_no (byte_at h) h1]; rfl
theorem name_end {s : ByteArray} {j : Nat} (h : (s.data.toList.take j).all okC = true) (hj : s.size ≤ j) : s.data.toList.all okC = true := by
  rwa [List.take_of_length_le (by rw [Array.length_toList]; exact hj)] at h
theorem okC_lo {c : UInt8} (h : decide (((c.toNat : Nat) : Int) < 97) = true) : okC c = false := by unfold okC; rw [h]; rfl
theorem okC_hi {c : UInt8} (h : decide ((122 : Int) < ((c.toNat : Nat) : Int)) = true) : okC c = false := by unfold okC; rw [h]; simp
theorem okC_yes {c : UInt8} (h : decide (((c.toNat : Nat) : Int) < 97) = false) (h1 : decide ((122 : Int) < ((c.toNat : Nat) : Int)) = false) : okC c = true := by unfold okC; rw [h, h1]; rfl

/-! ### flat -/
theorem flat_step {α : Type} {h : List (List α)} {j : Nat} {x : List α} (hx : h[((j : Nat) : Int).toNat]? = some x) : (h.take (j + 1)).flatten = (h.take j).flatten ++ x := by
  rw [take_at hx]; simp
theorem flat_len {α : Type} {h : List (List α)} {j : Nat} {x : List α} (hx : h[((j : Nat) : Int).toNat]? = some x) : ((h.take j).flatten).length + x.length ≤ h.flatten.length := by
  have h1 : h.flatten = (h.take (j + 1)).flatten ++ (h.drop (j + 1)).flatten := by rw [← List.flatten_append, List.take_append_drop]
  rw [h1, flat_step hx]; simp
def opName (o : OpL) : Bool := nameS o.2.1
def rightH (h : HistL) : Bool := h.flatten.all opName && decide (h.flatten.length ≤ 4096)
theorem right_no {h : HistL} {i : Nat} {x : OpL} (hx : h.flatten[i]? = some x) (h1 : nameS x.2.1 = false) : false = rightH h := by
  unfold rightH; rw [all_no hx h1]; rfl
theorem right_end {h : HistL} {j : Nat} (hs : (h.flatten.take j).all opName = true) (hj : h.flatten.length ≤ j) : decide ((h.flatten.length : Int) ≤ 4096) = rightH h := by
  unfold rightH; rw [take_end hj] at hs; rw [hs, Bool.true_and, decide_eq_decide]; omega
def opShort (o : OpL) : Bool := decide (o.2.1.size ≤ 20)
def smallH (h : HistL) (m : Int) : Bool := decide ((h.length : Int) ≤ m) && decide ((h.flatten.length : Int) ≤ m) && h.flatten.all opShort
theorem small_iff {h : HistL} {m : Int} : smallH h m = true ↔ (h.length : Int) ≤ m ∧ (h.flatten.length : Int) ≤ m ∧ ∀ o ∈ h.flatten, o.2.1.size ≤ 20 := by
  unfold smallH
  rw [Bool.and_eq_true, Bool.and_eq_true, decide_eq_true_eq, decide_eq_true_eq, List.all_eq_true, and_assoc]
  unfold opShort
  simp only [decide_eq_true_eq]
theorem small_no1 {h : HistL} {m : Int} (hm : m < (h.length : Int)) : false = smallH h m := by unfold smallH; rw [decide_eq_false (by omega)]; rfl
theorem small_no2 {h : HistL} {m : Int} (hm : m < (h.flatten.length : Int)) : false = smallH h m := by unfold smallH; rw [show decide ((h.flatten.length : Int) ≤ m) = false from decide_eq_false (by omega)]; simp
theorem small_no3 {h : HistL} {m : Int} {i : Nat} {x : OpL} (hx : h.flatten[i]? = some x) (h1 : 20 < (x.2.1.size : Int)) : false = smallH h m := by
  unfold smallH; rw [all_no hx (show opShort x = false from decide_eq_false (by omega))]; simp
theorem small_end {h : HistL} {m : Int} {j : Nat} (h1 : ¬ m < (h.length : Int)) (h2 : ¬ m < (h.flatten.length : Int)) (hs : (h.flatten.take j).all opShort = true) (hj : h.flatten.length ≤ j) : true = smallH h m := by
  unfold smallH; rw [take_end hj] at hs; rw [hs, decide_eq_true (by omega), decide_eq_true (by omega)]; rfl

/-! ### interned -/
def isS (s : ByteArray) (t : ByteArray) : Bool := decide (t = s)
def findS (l : List ByteArray) (s : ByteArray) : Int := idxF (isS s) l
def addV (vs : List ByteArray) (s : ByteArray) : List ByteArray := if findS vs s < 0 then vs ++ [s] else vs
def numV (vs : List ByteArray) (s : ByteArray) : Int := if findS vs s < 0 then (vs.length : Int) else findS vs s
abbrev StO := List ByteArray × List ItemL
def stepO (i : Nat) (st : StO) (x : OpL × Nat) : StO := (addV st.1 x.1.2.1, st.2 ++ [(((i : Nat) : Int), ((x.2 : Nat) : Int), x.1.1, numV st.1 x.1.2.1, x.1.2.2)])
def toO (i : Nat) (st : StO) (ops : List OpL) (k : Nat) : StO := ((ops.take k).zipIdx).foldl (stepO i) st
def sesO (i : Nat) (st : StO) (ops : List OpL) : StO := toO i st ops ops.length
def allO (h : HistL) (j : Nat) : StO := ((h.take j).zipIdx).foldl (fun st x => sesO x.2 st x.1) ([], [])
theorem zip_step {α : Type} {l : List α} {k : Nat} {x : α} (hx : l[((k : Nat) : Int).toNat]? = some x) : (l.take (k + 1)).zipIdx = (l.take k).zipIdx ++ [(x, k)] := by
  have hk : k < l.length := by rw [Int.toNat_natCast] at hx; exact (List.getElem?_eq_some_iff.1 hx).1
  rw [take_at hx, List.zipIdx_append]
  simp; omega
theorem toO_zero (i : Nat) (st : StO) (ops : List OpL) : toO i st ops 0 = st := rfl
theorem toO_step {i k : Nat} {st : StO} {ops : List OpL} {x : OpL} (hx : ops[((k : Nat) : Int).toNat]? = some x) : toO i st ops (k + 1) = stepO i (toO i st ops k) (x, k) := by
  unfold toO; rw [zip_step hx, List.foldl_append]; rfl
theorem allO_step {h : HistL} {j : Nat} {x : List OpL} (hx : h[((j : Nat) : Int).toNat]? = some x) : allO h (j + 1) = sesO j (allO h j) x := by
  unfold allO; rw [zip_step hx, List.foldl_append]; rfl
theorem getD_row {α : Type} {h : List (List α)} {j : Nat} {x : List α} (hx : h[((j : Nat) : Int).toNat]? = some x) : h.getD j [] = x := by
  rw [Int.toNat_natCast] at hx; rw [List.getD_eq_getElem?_getD, hx]; rfl
theorem allO_end {h : HistL} {j k : Nat} (hj : j < h.length) (hk : (h.getD j []).length ≤ k) : toO j (allO h j) (h.getD j []) k = allO h (j + 1) := by
  have hx : h[((j : Nat) : Int).toNat]? = some h[j] := by rw [Int.toNat_natCast]; exact List.getElem?_eq_getElem hj
  rw [allO_step hx, getD_row hx] at *
  unfold sesO toO
  rw [List.take_of_length_le hk, List.take_length]
theorem toO_len (i : Nat) (st : StO) (ops : List OpL) : ∀ k, k ≤ ops.length → (toO i st ops k).2.length = st.2.length + k ∧ (toO i st ops k).1.length ≤ st.1.length + k
  | 0, _ => by rw [toO_zero]; omega
  | k + 1, h => by
    have ih := toO_len i st ops k (by omega)
    have hx : ops[((k : Nat) : Int).toNat]? = some ops[k] := by rw [Int.toNat_natCast]; exact List.getElem?_eq_getElem (by omega)
    rw [toO_step hx]
    have e1 : (stepO i (toO i st ops k) (ops[k], k)).2.length = (toO i st ops k).2.length + 1 := by unfold stepO; simp
    have e2 : (stepO i (toO i st ops k) (ops[k], k)).1.length ≤ (toO i st ops k).1.length + 1 := by unfold stepO addV; simp only; split <;> simp
    omega
theorem allO_len (h : HistL) : ∀ j, j ≤ h.length → (allO h j).2.length = ((h.take j).flatten).length ∧ (allO h j).1.length ≤ ((h.take j).flatten).length
  | 0, _ => by simp [allO]
  | j + 1, hj => by
    have ih := allO_len h j (by omega)
    have hx : h[((j : Nat) : Int).toNat]? = some h[j] := by rw [Int.toNat_natCast]; exact List.getElem?_eq_getElem (by omega)
    rw [allO_step hx, flat_step hx, List.length_append]
    have := toO_len j (allO h j) h[j] h[j].length (Nat.le_refl _)
    unfold sesO
    omega
theorem of_room {h : HistL} {j k : Nat} {x : List OpL} (hx : h[((j : Nat) : Int).toNat]? = some x) (hk : k < x.length) :
    (toO j (allO h j) x k).2.length + 1 ≤ h.flatten.length ∧ (toO j (allO h j) x k).1.length + 1 ≤ h.flatten.length := by
  have hj : j < h.length := by rw [Int.toNat_natCast] at hx; exact (List.getElem?_eq_some_iff.1 hx).1
  have h1 := allO_len h j (by omega)
  have h2 := toO_len j (allO h j) x k (by omega)
  have h3 := flat_len hx
  omega
def factV (h : HistL) : List ByteArray := (allO h h.length).1
def factI (h : HistL) : List ItemL := (allO h h.length).2
theorem factI_len (h : HistL) : (factI h).length = h.flatten.length := by
  have := (allO_len h h.length (Nat.le_refl _)).1
  rwa [List.take_length] at this
def ofV (h : HistL) : List ByteArray := if rightH h then factV h else []
def ofI (h : HistL) : List ItemL := if rightH h then factI h else []
def ofE (h : HistL) : Int := if rightH h then 0 else 1
theorem of_ok {h : HistL} (hr : rightH h = true) : ofV h = factV h ∧ ofI h = factI h ∧ ofE h = 0 := by unfold ofV ofI ofE; simp [hr]
theorem of_bad {h : HistL} (hr : rightH h = false) : ofV h = [] ∧ ofI h = [] ∧ ofE h = 1 := by unfold ofV ofI ofE; simp [hr]
theorem ofI_len (h : HistL) : (ofI h).length ≤ h.flatten.length := by
  unfold ofI; split
  · rw [factI_len]; exact Nat.le_refl _
  · simp
theorem step_new {i k : Nat} {st : StO} {ops : List OpL} {x : OpL} (hx : ops[((k : Nat) : Int).toNat]? = some x) (hf : findS (toO i st ops k).1 x.2.1 < 0) :
    (toO i st ops k).1 ++ [x.2.1] = (toO i st ops (k + 1)).1 ∧ (toO i st ops k).2 ++ [(((i : Nat) : Int), ((k : Nat) : Int), x.1, ((toO i st ops k).1.length : Int), x.2.2)] = (toO i st ops (k + 1)).2 := by
  rw [toO_step hx]; unfold stepO addV numV; rw [if_pos hf, if_pos hf]; exact ⟨rfl, rfl⟩
theorem step_old {i k : Nat} {st : StO} {ops : List OpL} {x : OpL} (hx : ops[((k : Nat) : Int).toNat]? = some x) (hf : ¬ findS (toO i st ops k).1 x.2.1 < 0) :
    (toO i st ops k).1 = (toO i st ops (k + 1)).1 ∧ (toO i st ops k).2 ++ [(((i : Nat) : Int), ((k : Nat) : Int), x.1, findS (toO i st ops k).1 x.2.1, x.2.2)] = (toO i st ops (k + 1)).2 := by
  rw [toO_step hx]; unfold stepO addV numV; rw [if_neg hf, if_neg hf]; exact ⟨rfl, rfl⟩

/-! ### the first write of a value; differentiated ones -/
def isW (v val : Int) (x : ItemL) : Bool := x.2.2.1 && decide (x.2.2.2.1 = v) && decide (x.2.2.2.2 = val)
def wrI (its : List ItemL) (v val : Int) : Int := idxF (isW v val) its
def bad1 (its : List ItemL) (j : Nat) (x : ItemL) : Bool := x.2.2.1 && (decide (x.2.2.2.2 = 0) || decide (max (wrI its x.2.2.2.1 x.2.2.2.2) 0 < ((j : Nat) : Int)))
def badI (its : List ItemL) (j : Nat) : Bool := (its[j]?).any (bad1 its j)
def fbI (its : List ItemL) : Option Nat := (List.range its.length).find? (badI its)
def chkA (its : List ItemL) : Int × Int × Int := match fbI its with
  | none => (0, 0, 0)
  | some j => match its[j]? with
    | none => (0, 0, 0)
    | some x => if x.2.2.2.2 = 0 then (((j : Nat) : Int), ((j : Nat) : Int), 5) else (max (wrI its x.2.2.2.1 x.2.2.2.2) 0, ((j : Nat) : Int), 4)
theorem fb_none {its : List ItemL} {j : Nat} (h : ∀ k, k < j → badI its k = false) (hj : its.length ≤ j) : fbI its = none := by
  unfold fbI; rw [List.find?_eq_none]
  intro k hk
  rw [List.mem_range] at hk
  rw [h k (by omega)]; simp
theorem fb_some {its : List ItemL} {j : Nat} (h : ∀ k, k < j → badI its k = false) (hj : j < its.length) (hb : badI its j = true) : fbI its = some j := by
  unfold fbI
  rw [List.find?_eq_some_iff_append]
  refine ⟨hb, List.range j, (List.range (its.length - j - 1)).map (fun i => j + 1 + i), ?_, fun a ha => by rw [h a (List.mem_range.1 ha)]; rfl⟩
  have : its.length = j + (1 + (its.length - j - 1)) := by omega
  rw [this, range_add_map, range_add_map]
  simp [Nat.add_assoc]
theorem bad_at {its : List ItemL} {j : Nat} {x : ItemL} (hx : its[((j : Nat) : Int).toNat]? = some x) : badI its j = bad1 its j x := by
  rw [Int.toNat_natCast] at hx; unfold badI; rw [hx]; rfl
theorem bad_next {its : List ItemL} {j : Nat} {x : ItemL} (h : ∀ k, k < j → badI its k = false) (hx : its[((j : Nat) : Int).toNat]? = some x) (hb : bad1 its j x = false) : ∀ k, k < j + 1 → badI its k = false := by
  intro k hk
  rcases Nat.lt_succ_iff_lt_or_eq.1 hk with h1 | rfl
  · exact h k h1
  · rw [bad_at hx]; exact hb
theorem chk_end {its : List ItemL} {j : Nat} (h : ∀ k, k < j → badI its k = false) (hj : its.length ≤ j) : chkA its = (0, 0, 0) := by
  unfold chkA; rw [fb_none h hj]
theorem chk_zero {its : List ItemL} {j : Nat} {x : ItemL} (h : ∀ k, k < j → badI its k = false) (hx : its[((j : Nat) : Int).toNat]? = some x) (hw : x.2.2.1 = true) (h0 : x.2.2.2.2 = 0) : chkA its = (((j : Nat) : Int), ((j : Nat) : Int), 5) := by
  have hj : j < its.length := by rw [Int.toNat_natCast] at hx; exact (List.getElem?_eq_some_iff.1 hx).1
  have hb : badI its j = true := by rw [bad_at hx]; unfold bad1; simp [hw, h0]
  unfold chkA; rw [fb_some h hj hb]
  rw [Int.toNat_natCast] at hx
  simp only [hx, h0, if_true]
theorem chk_twice {its : List ItemL} {j : Nat} {x : ItemL} (h : ∀ k, k < j → badI its k = false) (hx : its[((j : Nat) : Int).toNat]? = some x) (hw : x.2.2.1 = true) (h0 : ¬ x.2.2.2.2 = 0)
    (h1 : max (wrI its x.2.2.2.1 x.2.2.2.2) 0 < ((j : Nat) : Int)) : chkA its = (max (wrI its x.2.2.2.1 x.2.2.2.2) 0, ((j : Nat) : Int), 4) := by
  have hj : j < its.length := by rw [Int.toNat_natCast] at hx; exact (List.getElem?_eq_some_iff.1 hx).1
  have hb : badI its j = true := by rw [bad_at hx]; unfold bad1; simp [hw, h1]
  unfold chkA; rw [fb_some h hj hb]
  rw [Int.toNat_natCast] at hx
  simp only [hx, h0, if_false]
theorem bad_read {its : List ItemL} {j : Nat} {x : ItemL} (hw : x.2.2.1 = false) : bad1 its j x = false := by unfold bad1; rw [hw]; rfl
theorem bad_good {its : List ItemL} {j : Nat} {x : ItemL} (h0 : ¬ x.2.2.2.2 = 0) (h1 : ¬ max (wrI its x.2.2.2.1 x.2.2.2.2) 0 < ((j : Nat) : Int)) : bad1 its j x = false := by
  unfold bad1; rw [decide_eq_false h0, decide_eq_false h1]; simp

theorem wr_hit {its : List ItemL} {j : Nat} {x : ItemL} {v val : Int} (hx : its[((j : Nat) : Int).toNat]? = some x) (h1 : x.2.2.1 = true) (h2 : decide (x.2.2.2.1 = v) = true) (h3 : decide (x.2.2.2.2 = val) = true) (hs : (its.take j).any (isW v val) = false) : ((j : Nat) : Int) = wrI its v val :=
  idxF_hit hx hs (by unfold isW; rw [h1, h2, h3]; rfl)
theorem wr_miss {its : List ItemL} {j : Nat} {v val : Int} (hs : (its.take j).any (isW v val) = false) (h : its.length ≤ j) : (-1 : Int) = wrI its v val := idxF_miss hs h
theorem isW_no1 {x : ItemL} {v val : Int} (h : x.2.2.1 = false) : isW v val x = false := by unfold isW; rw [h]; rfl
theorem isW_no2 {x : ItemL} {v val : Int} (h : decide (x.2.2.2.1 = v) = false) : isW v val x = false := by unfold isW; rw [h]; simp
theorem isW_no3 {x : ItemL} {v val : Int} (h : decide (x.2.2.2.2 = val) = false) : isW v val x = false := by unfold isW; rw [h]; simp
/-- What a map of first writes says of the first j. -/
def FirstM (its : List ItemL) (j : Nat) (m : KV) : Prop := ∀ p : Int × Int, getM m p = ((its.take j).findIdx? (isW p.1 p.2)).map fun i => ((i : Nat) : Int)
theorem firstM_nil (its : List ItemL) : FirstM its 0 [] := by intro p; simp [getM]
theorem idxF_take {its : List ItemL} {p : ItemL → Bool} {j i : Nat} (h : (its.take j).findIdx? p = some i) : idxF p its = ((i : Nat) : Int) := by
  unfold idxF
  have : its.findIdx? p = some i := by
    conv => lhs; rw [← List.take_append_drop j its]
    rw [List.findIdx?_append, h]; rfl
  rw [this]
theorem idxF_here {its : List ItemL} {p : ItemL → Bool} {j : Nat} {x : ItemL} (hx : its[((j : Nat) : Int).toNat]? = some x) (hp : p x = true) (h : (its.take j).findIdx? p = none) : idxF p its = ((j : Nat) : Int) := by
  refine (idxF_hit hx ?_ hp).symm
  rw [List.findIdx?_eq_none_iff] at h
  rw [List.any_eq_false]
  intro y hy; rw [h y hy]; simp
theorem find_next {its : List ItemL} {p : ItemL → Bool} {j : Nat} {x : ItemL} (hx : its[((j : Nat) : Int).toNat]? = some x) :
    (its.take (j + 1)).findIdx? p = ((its.take j).findIdx? p).or (if p x then some j else none) := by
  have hj : j < its.length := by rw [Int.toNat_natCast] at hx; exact (List.getElem?_eq_some_iff.1 hx).1
  rw [take_at hx, List.findIdx?_append, List.length_take, Nat.min_eq_left (by omega)]
  congr 1
  cases hp : p x <;> simp [List.findIdx?_cons, hp]
theorem firstM_read {its : List ItemL} {j : Nat} {m : KV} {x : ItemL} (h : FirstM its j m) (hx : its[((j : Nat) : Int).toNat]? = some x) (hw : x.2.2.1 = false) : FirstM its (j + 1) m := by
  intro p
  rw [h p, find_next hx, show isW p.1 p.2 x = false from by unfold isW; rw [hw]; rfl]
  simp
theorem firstM_put {its : List ItemL} {j : Nat} {m : KV} {x : ItemL} (h : FirstM its j m) (hx : its[((j : Nat) : Int).toNat]? = some x) (hw : x.2.2.1 = true) (hn : getM m (x.2.2.2.1, x.2.2.2.2) = none) : FirstM its (j + 1) (putM m (x.2.2.2.1, x.2.2.2.2) ((j : Nat) : Int)) := by
  intro p
  rw [getM_put, find_next hx]
  by_cases e : p = (x.2.2.2.1, x.2.2.2.2)
  · subst e
    rw [h] at hn
    have hn' : (its.take j).findIdx? (isW x.2.2.2.1 x.2.2.2.2) = none := by simpa using hn
    rw [if_pos rfl]
    simp only [hn', show isW x.2.2.2.1 x.2.2.2.2 x = true from by unfold isW; simp [hw]]
    simp
  · rw [if_neg e, h p, show isW p.1 p.2 x = false from by
      unfold isW; rw [hw]
      simp only [Bool.true_and, Bool.and_eq_false_iff, decide_eq_false_iff_not]
      by_cases e1 : x.2.2.2.1 = p.1
      · exact .inr fun e2 => e (by rw [Prod.ext_iff]; exact ⟨e1.symm, e2.symm⟩)
      · exact .inl e1]
    simp
/-- A value that was there before. -/
theorem seen_yes {its : List ItemL} {j : Nat} {m : KV} {x : ItemL} (h : FirstM its j m) (hx : its[((j : Nat) : Int).toNat]? = some x) (hs : (getM m (x.2.2.2.1, x.2.2.2.2)).isSome = true) :
    (getM m (x.2.2.2.1, x.2.2.2.2)).getD 0 = max (wrI its x.2.2.2.1 x.2.2.2.2) 0 ∧ max (wrI its x.2.2.2.1 x.2.2.2.2) 0 < ((j : Nat) : Int) := by
  rw [h] at hs ⊢
  cases hf : (its.take j).findIdx? (isW x.2.2.2.1 x.2.2.2.2) with
  | none => simp [hf] at hs
  | some i =>
    have hi : i < j := by
      have := (List.findIdx?_eq_some_iff_getElem.1 hf).1
      rw [List.length_take] at this; omega
    have := idxF_take hf
    unfold wrI
    rw [this]
    simp only [hf, Option.map_some, Option.getD_some]
    omega
theorem seen_no {its : List ItemL} {j : Nat} {m : KV} {x : ItemL} (h : FirstM its j m) (hx : its[((j : Nat) : Int).toNat]? = some x) (hw : x.2.2.1 = true) (hs : (getM m (x.2.2.2.1, x.2.2.2.2)).isSome = false) :
    getM m (x.2.2.2.1, x.2.2.2.2) = none ∧ wrI its x.2.2.2.1 x.2.2.2.2 = ((j : Nat) : Int) := by
  have h0 : getM m (x.2.2.2.1, x.2.2.2.2) = none := by simpa using hs
  refine ⟨h0, ?_⟩
  rw [h] at h0
  have h1 : (its.take j).findIdx? (isW x.2.2.2.1 x.2.2.2.2) = none := by simpa using h0
  exact idxF_here hx (by unfold isW; simp [hw]) h1
end Go.Ew
namespace Go.Ew
set_option linter.unusedVariables false
set_option linter.unusedSimpArgs false

theorem fb_cases (its : List ItemL) : (fbI its = none ∧ (∀ k, badI its k = false)) ∨ ∃ j, j < its.length ∧ fbI its = some j ∧ badI its j = true ∧ ∀ k, k < j → badI its k = false := by
  unfold fbI
  cases h : (List.range its.length).find? (badI its) with
  | none =>
    left
    refine ⟨rfl, fun k => ?_⟩
    rw [List.find?_eq_none] at h
    by_cases hk : k < its.length
    · simpa using h k (List.mem_range.2 hk)
    · unfold badI; rw [List.getElem?_eq_none (by omega)]; rfl
  | some j =>
    right
    rw [List.find?_eq_some_iff_append] at h
    obtain ⟨hb, as, bs, he, ha⟩ := h
    have hj : j < its.length := by
      have : j ∈ List.range its.length := by rw [he]; simp
      exact List.mem_range.1 this
    have hlen : as.length = j := by
      have h1 : (List.range its.length)[as.length]? = some j := by rw [he]; simp
      have h2 : as.length < its.length := by
        have := congrArg List.length he
        simp at this; omega
      rw [List.getElem?_range h2] at h1
      exact Option.some.inj h1
    refine ⟨j, hj, rfl, hb, fun k hk => ?_⟩
    have h1 : (List.range its.length)[k]? = as[k]? := by rw [he, List.getElem?_append_left (by omega)]
    rw [List.getElem?_range (by omega), List.getElem?_eq_getElem (by omega)] at h1
    have := ha as[k] (List.getElem_mem _)
    rw [← Option.some.inj h1] at this
    simpa using this
theorem chk_ok {its : List ItemL} (h : (chkA its).2.2 = 0) : fbI its = none ∧ ∀ k, badI its k = false := by
  rcases fb_cases its with h1 | ⟨j, hj, hf, hb, hl⟩
  · exact h1
  · exfalso
    unfold chkA at h
    rw [hf] at h
    simp only [List.getElem?_eq_getElem hj] at h
    split at h <;> simp at h
theorem chk_ok0 {its : List ItemL} (h : (chkA its).2.2 = 0) : (chkA its).1 = 0 ∧ (chkA its).2.1 = 0 := by
  unfold chkA; rw [(chk_ok h).1]; exact ⟨rfl, rfl⟩
theorem wr_self {its : List ItemL} {j : Nat} {x : ItemL} (hx : its[((j : Nat) : Int).toNat]? = some x) (hw : x.2.2.1 = true) : 0 ≤ wrI its x.2.2.2.1 x.2.2.2.2 ∧ wrI its x.2.2.2.1 x.2.2.2.2 ≤ ((j : Nat) : Int) := by
  have hp : isW x.2.2.2.1 x.2.2.2.2 x = true := by unfold isW; simp [hw]
  cases hf : (its.take j).findIdx? (isW x.2.2.2.1 x.2.2.2.2) with
  | none => have := idxF_here hx hp hf; unfold wrI; rw [this]; omega
  | some i =>
    have := idxF_take hf
    have hi := (List.findIdx?_eq_some_iff_getElem.1 hf).1
    rw [List.length_take] at hi
    unfold wrI; rw [this]; omega
theorem chk_good {its : List ItemL} (h : (chkA its).2.2 = 0) {j : Nat} {x : ItemL} (hx : its[((j : Nat) : Int).toNat]? = some x) (hw : x.2.2.1 = true) : x.2.2.2.2 ≠ 0 ∧ wrI its x.2.2.2.1 x.2.2.2.2 = ((j : Nat) : Int) := by
  have hb := (chk_ok h).2 j
  rw [bad_at hx] at hb
  unfold bad1 at hb
  rw [hw, Bool.true_and, Bool.or_eq_false_iff, decide_eq_false_iff_not, decide_eq_false_iff_not] at hb
  have := wr_self hx hw
  omega
theorem wr_at {its : List ItemL} {v val : Int} (h : 0 ≤ wrI its v val) : ∃ x, its[(wrI its v val).toNat]? = some x ∧ isW v val x = true := by
  unfold wrI idxF at h ⊢
  cases hf : its.findIdx? (isW v val) with
  | none => rw [hf] at h; simp at h
  | some i =>
    obtain ⟨hi, hp, -⟩ := List.findIdx?_eq_some_iff_getElem.1 hf
    exact ⟨its[i], by simp [hi], hp⟩
theorem isW_iff {v val : Int} {x : ItemL} : isW v val x = true ↔ x.2.2.1 = true ∧ x.2.2.2.1 = v ∧ x.2.2.2.2 = val := by unfold isW; simp [and_assoc]
theorem chk_bad {its : List ItemL} (h : (chkA its).2.2 ≠ 0) : ∃ x y, its[(chkA its).1.toNat]? = some x ∧ its[(chkA its).2.1.toNat]? = some y ∧ 0 ≤ (chkA its).1 ∧ (chkA its).1 ≤ (chkA its).2.1 ∧ (chkA its).2.1 < (its.length : Int) ∧
    x.2.2.1 = true ∧ y.2.2.1 = true ∧ x.2.2.2.1 = y.2.2.2.1 ∧ x.2.2.2.2 = y.2.2.2.2 ∧ ((chkA its).2.2 = 5 → (chkA its).1 = (chkA its).2.1 ∧ x.2.2.2.2 = 0) ∧ ((chkA its).2.2 ≠ 5 → (chkA its).2.2 = 4 ∧ (chkA its).1 < (chkA its).2.1 ∧ x.2.2.2.2 ≠ 0) := by
  rcases fb_cases its with ⟨h1, -⟩ | ⟨j, hj, hf, hb, hl⟩
  · exfalso; apply h; unfold chkA; rw [h1]
  · have hx : its[((j : Nat) : Int).toNat]? = some its[j] := by rw [Int.toNat_natCast]; exact List.getElem?_eq_getElem hj
    rw [bad_at hx] at hb
    unfold bad1 at hb
    simp only [Bool.and_eq_true, Bool.or_eq_true, decide_eq_true_eq] at hb
    obtain ⟨hw, hc⟩ := hb
    by_cases h0 : (its[j]).2.2.2.2 = 0
    · rw [chk_zero hl hx hw h0]
      exact ⟨its[j], its[j], hx, hx, by simp, by simp, by simp [hj], hw, hw, rfl, rfl, fun _ => ⟨rfl, h0⟩, fun h => absurd rfl h⟩
    · have hc : max (wrI its (its[j]).2.2.2.1 (its[j]).2.2.2.2) 0 < ((j : Nat) : Int) := by
        rcases hc with hc | hc
        · exact absurd hc h0
        · exact hc
      rw [chk_twice hl hx hw h0 hc]
      obtain ⟨w0, w1⟩ := wr_self hx hw
      obtain ⟨y, hy, hp⟩ := wr_at w0
      obtain ⟨p1, p2, p3⟩ := isW_iff.1 hp
      have e : max (wrI its (its[j]).2.2.2.1 (its[j]).2.2.2.2) 0 = wrI its (its[j]).2.2.2.1 (its[j]).2.2.2.2 := by omega
      refine ⟨y, its[j], by rw [e]; exact hy, hx, by simp only [e]; exact w0, by simp only [e]; exact w1, by simp [hj], p1, hw, p2, p3, fun h => (by simp at h), fun _ => ⟨rfl, hc, by rw [p3]; exact h0⟩⟩

/-! ### with more behind -/
theorem allO_more (h : HistL) : ∀ j m, ∃ r, (allO h (j + m)).2 = (allO h j).2 ++ r
  | j, 0 => ⟨[], by simp⟩
  | j, m + 1 => by
    obtain ⟨r, hr⟩ := allO_more h j m
    by_cases hj : j + m < h.length
    · have hx : h[((j + m : Nat) : Int).toNat]? = some h[j + m] := by rw [Int.toNat_natCast]; exact List.getElem?_eq_getElem hj
      have e : (allO h (j + (m + 1))).2 = (allO h (j + m)).2 ++ ((allO h (j + (m + 1))).2.drop (allO h (j + m)).2.length) := by
        rw [show j + (m + 1) = (j + m) + 1 from rfl, allO_step hx]
        unfold sesO
        have key : ∀ q, q ≤ h[j + m].length → ∃ r, (toO (j + m) (allO h (j + m)) h[j + m] q).2 = (allO h (j + m)).2 ++ r := by
          intro q
          induction q with
          | zero => intro _; exact ⟨[], by simp [toO_zero]⟩
          | succ q ih =>
            intro hq
            obtain ⟨r, hr⟩ := ih (by omega)
            have hy : h[j + m][((q : Nat) : Int).toNat]? = some h[j + m][q] := by rw [Int.toNat_natCast]; exact List.getElem?_eq_getElem (by omega)
            rw [toO_step hy]
            unfold stepO
            rw [hr]
            exact ⟨_, List.append_assoc _ _ _⟩
        obtain ⟨r', hr'⟩ := key _ (Nat.le_refl _)
        rw [hr']; simp
      rw [hr] at e
      exact ⟨_, by rw [e, List.append_assoc]⟩
    · have : allO h (j + (m + 1)) = allO h (j + m) := by
        unfold allO
        rw [List.take_of_length_le (by omega), List.take_of_length_le (by omega)]
      rw [this]; exact ⟨r, hr⟩
theorem allO_append (a b : HistL) : allO (a ++ b) a.length = allO a a.length := by
  unfold allO
  rw [List.take_left, List.take_length]
theorem factI_append (a b : HistL) : ∃ r, factI (a ++ b) = factI a ++ r := by
  obtain ⟨r, hr⟩ := allO_more (a ++ b) a.length b.length
  refine ⟨r, ?_⟩
  unfold factI
  rw [List.length_append, hr, allO_append]
theorem right_append {a b : HistL} (ha : rightH a = true) (hb : rightH b = true) (hl : (a ++ b).flatten.length ≤ 4096) : rightH (a ++ b) = true := by
  unfold rightH at *
  simp only [Bool.and_eq_true, decide_eq_true_eq] at *
  refine ⟨?_, hl⟩
  rw [List.flatten_append, List.all_append, ha.1, hb.1]; rfl
theorem wr_prefix {p r : List ItemL} {j : Nat} {x : ItemL} (hx : p[((j : Nat) : Int).toNat]? = some x) (hw : x.2.2.1 = true) : wrI (p ++ r) x.2.2.2.1 x.2.2.2.2 = wrI p x.2.2.2.1 x.2.2.2.2 := by
  have h0 := (wr_self hx hw).1
  unfold wrI idxF at *
  cases hf : p.findIdx? (isW x.2.2.2.1 x.2.2.2.2) with
  | none => rw [hf] at h0; simp at h0
  | some i => rw [List.findIdx?_append, hf]; rfl
theorem bad_prefix {p r : List ItemL} {j : Nat} (hj : j < p.length) : badI (p ++ r) j = badI p j := by
  have hx : p[((j : Nat) : Int).toNat]? = some p[j] := by rw [Int.toNat_natCast]; exact List.getElem?_eq_getElem hj
  have hx' : (p ++ r)[((j : Nat) : Int).toNat]? = some p[j] := by rw [Int.toNat_natCast, List.getElem?_append_left hj]; exact List.getElem?_eq_getElem hj
  rw [bad_at hx, bad_at hx']
  unfold bad1
  cases hw : (p[j]).2.2.1 with
  | false => rfl
  | true => rw [wr_prefix hx hw]
theorem chk_prefix {p r : List ItemL} (h : (chkA p).2.2 ≠ 0) : chkA (p ++ r) = chkA p := by
  rcases fb_cases p with ⟨h1, -⟩ | ⟨j, hj, hf, hb, hl⟩
  · exfalso; apply h; unfold chkA; rw [h1]
  · have hl' : ∀ k, k < j → badI (p ++ r) k = false := fun k hk => by rw [bad_prefix (by omega)]; exact hl k hk
    have hf' : fbI (p ++ r) = some j := fb_some hl' (by rw [List.length_append]; omega) (by rw [bad_prefix hj]; exact hb)
    have hx : p[((j : Nat) : Int).toNat]? = some p[j] := by rw [Int.toNat_natCast]; exact List.getElem?_eq_getElem hj
    have hw : (p[j]).2.2.1 = true := by
      rw [bad_at hx] at hb; unfold bad1 at hb; simp only [Bool.and_eq_true] at hb; exact hb.1
    unfold chkA
    rw [hf, hf']
    simp only [List.getElem?_append_left hj, List.getElem?_eq_getElem hj, wr_prefix hx hw]
theorem chk_behind {p r : List ItemL} (h : (chkA p).2.2 = 0) (h' : (chkA (p ++ r)).2.2 ≠ 0) : (p.length : Int) ≤ (chkA (p ++ r)).2.1 := by
  rcases fb_cases (p ++ r) with ⟨h1, -⟩ | ⟨j, hj, hf, hb, hl⟩
  · exfalso; apply h'; unfold chkA; rw [h1]
  · have hge : p.length ≤ j := by
      refine Classical.byContradiction fun hn => ?_
      rw [bad_prefix (by omega), (chk_ok h).2 j] at hb
      cases hb
    have : (chkA (p ++ r)).2.1 = ((j : Nat) : Int) := by
      unfold chkA
      rw [hf]
      simp only [List.getElem?_eq_getElem hj]
      split <;> rfl
    rw [this]; omega
theorem more_same {a b : HistL} (ha : rightH a = true) (hb : rightH b = true) (hl : (a ++ b).flatten.length ≤ 4096) (h : (chkA (ofI a)).2.2 ≠ 0) : chkA (ofI (a ++ b)) = chkA (ofI a) := by
  obtain ⟨r, hr⟩ := factI_append a b
  rw [(of_ok ha).2.1] at h ⊢
  rw [(of_ok (right_append ha hb hl)).2.1, hr]
  exact chk_prefix h
theorem more_behind {a b : HistL} (ha : rightH a = true) (hb : rightH b = true) (hl : (a ++ b).flatten.length ≤ 4096) (h : (chkA (ofI a)).2.2 = 0) (h' : (chkA (ofI (a ++ b))).2.2 ≠ 0) : ((ofI a).length : Int) ≤ (chkA (ofI (a ++ b))).2.1 := by
  obtain ⟨r, hr⟩ := factI_append a b
  rw [(of_ok ha).2.1] at h ⊢
  rw [(of_ok (right_append ha hb hl)).2.1, hr] at h' ⊢
  exact chk_behind h h'
theorem flat_two {a b : HistL} (ha : smallH a 40 = true) (hb : smallH b 40 = true) : (a ++ b).flatten.length ≤ 80 := by
  have h1 := (small_iff.1 ha).2.1
  have h2 := (small_iff.1 hb).2.1
  rw [List.flatten_append, List.length_append]; omega
end Go.Ew
namespace Go.Ew
set_option linter.unusedVariables false
set_option linter.unusedSimpArgs false

/-- What an item reads from, by the document. -/
def frI (its : List ItemL) (x : ItemL) : Int := if x.2.2.1 then -3 else if x.2.2.2.2 = 0 then -1 else if 0 ≤ wrI its x.2.2.2.1 x.2.2.2.2 then max (wrI its x.2.2.2.1 x.2.2.2.2) 0 else -2
def fromR (its : List ItemL) : List Int := its.map (frI its)
/-- .. and by a map of last writes. -/
def lastM (its : List ItemL) (j : Nat) : KV := ((its.take j).zipIdx).foldl (fun m x => if x.1.2.2.1 then putM m (x.1.2.2.2.1, x.1.2.2.2.2) ((x.2 : Nat) : Int) else m) []
def frM (m : KV) (x : ItemL) : Int := if x.2.2.1 then -3 else if x.2.2.2.2 = 0 then -1 else if (getM m (x.2.2.2.1, x.2.2.2.2)).isSome then (getM m (x.2.2.2.1, x.2.2.2.2)).getD 0 else -2
def fromM (its : List ItemL) : List Int := its.map (frM (lastM its its.length))
theorem lastM_write {its : List ItemL} {j : Nat} {x : ItemL} (hx : its[((j : Nat) : Int).toNat]? = some x) (hw : x.2.2.1 = true) : putM (lastM its j) (x.2.2.2.1, x.2.2.2.2) ((j : Nat) : Int) = lastM its (j + 1) := by
  unfold lastM; rw [zip_step hx, List.foldl_append]; simp [hw]
theorem lastM_read {its : List ItemL} {j : Nat} {x : ItemL} (hx : its[((j : Nat) : Int).toNat]? = some x) (hw : x.2.2.1 = false) : lastM its j = lastM its (j + 1) := by
  unfold lastM; rw [zip_step hx, List.foldl_append]; simp [hw]
/-- The first j told, the others still 0. -/
def frTo (m : KV) (its : List ItemL) (j : Nat) : List Int := (its.take j).map (frM m) ++ List.replicate (its.length - j) 0
theorem frTo_zero (m : KV) (its : List ItemL) : List.replicate its.length 0 = frTo m its 0 := by unfold frTo; simp
theorem frTo_len (m : KV) (its : List ItemL) {j : Nat} (hj : j ≤ its.length) : (frTo m its j).length = its.length := by unfold frTo; simp; omega
theorem frTo_set {m : KV} {its : List ItemL} {j : Nat} {x : ItemL} {v : Int} (hx : its[((j : Nat) : Int).toNat]? = some x) (hv : v = frM m x) : (frTo m its j).set j v = frTo m its (j + 1) := by
  have hj : j < its.length := by rw [Int.toNat_natCast] at hx; exact (List.getElem?_eq_some_iff.1 hx).1
  unfold frTo
  have h1 : its.length - j = (its.length - (j + 1)) + 1 := by omega
  rw [take_at hx, List.map_append, h1, List.replicate_succ, List.set_append_right _ _ (by simp; omega)]
  have h2 : j - ((its.take j).map (frM m)).length = 0 := by simp; omega
  rw [h2, List.set_cons_zero, hv]
  simp
theorem frTo_end {m : KV} {its : List ItemL} {j : Nat} (h : its.length ≤ j) : frTo m its j = its.map (frM m) := by
  unfold frTo; rw [List.take_of_length_le h, show its.length - j = 0 from by omega]; simp
theorem frM_w {m : KV} {x : ItemL} (hw : x.2.2.1 = true) : (-3 : Int) = frM m x := by unfold frM; simp [hw]
theorem frM_0 {m : KV} {x : ItemL} (hw : x.2.2.1 = false) (h0 : x.2.2.2.2 = 0) : (-1 : Int) = frM m x := by unfold frM; simp [hw, h0]
theorem frM_s {m : KV} {x : ItemL} (hw : x.2.2.1 = false) (h0 : ¬ x.2.2.2.2 = 0) (hs : (getM m (x.2.2.2.1, x.2.2.2.2)).isSome = true) : (getM m (x.2.2.2.1, x.2.2.2.2)).getD 0 = frM m x := by unfold frM; simp [hw, h0, hs]
theorem frM_n {m : KV} {x : ItemL} (hw : x.2.2.1 = false) (h0 : ¬ x.2.2.2.2 = 0) (hs : (getM m (x.2.2.2.1, x.2.2.2.2)).isSome = false) : (-2 : Int) = frM m x := by unfold frM; simp only [hw, h0, hs]; rfl
theorem frI_w {its : List ItemL} {x : ItemL} (hw : x.2.2.1 = true) : (-3 : Int) = frI its x := by unfold frI; simp [hw]
theorem frI_0 {its : List ItemL} {x : ItemL} (hw : x.2.2.1 = false) (h0 : x.2.2.2.2 = 0) : (-1 : Int) = frI its x := by unfold frI; simp [hw, h0]
theorem frI_s {its : List ItemL} {x : ItemL} (hw : x.2.2.1 = false) (h0 : ¬ x.2.2.2.2 = 0) (hs : decide (0 ≤ wrI its x.2.2.2.1 x.2.2.2.2) = true) : max (wrI its x.2.2.2.1 x.2.2.2.2) 0 = frI its x := by unfold frI; simp only [hw, h0, of_decide_eq_true hs]; rfl
theorem frI_n {its : List ItemL} {x : ItemL} (hw : x.2.2.1 = false) (h0 : ¬ x.2.2.2.2 = 0) (hs : decide (0 ≤ wrI its x.2.2.2.1 x.2.2.2.2) = false) : (-2 : Int) = frI its x := by unfold frI; simp only [hw, h0, of_decide_eq_false hs]; rfl
theorem fromR_step {its : List ItemL} {j : Nat} {x : ItemL} {v : Int} (hx : its[((j : Nat) : Int).toNat]? = some x) (hv : v = frI its x) : (its.take j).map (frI its) ++ [v] = (its.take (j + 1)).map (frI its) := by
  rw [take_at hx, List.map_append, hv]; rfl
theorem frI_range {its : List ItemL} (x : ItemL) : -3 ≤ frI its x ∧ frI its x ≤ its.length := by
  have := idxF_range (p := isW x.2.2.2.1 x.2.2.2.2) (r := its)
  unfold frI wrI
  repeat' split
  all_goals omega

/-- Of a differentiated history the last write of a value is the first one. -/
theorem last_first {its : List ItemL} (h : (chkA its).2.2 = 0) : ∀ j, j ≤ its.length → FirstM its j (lastM its j)
  | 0, _ => firstM_nil its
  | j + 1, hj => by
    have ih := last_first h j (by omega)
    have hx : its[((j : Nat) : Int).toNat]? = some its[j] := by rw [Int.toNat_natCast]; exact List.getElem?_eq_getElem (by omega)
    cases hw : (its[j]).2.2.1 with
    | false => rw [← lastM_read hx hw]; exact firstM_read ih hx hw
    | true =>
      rw [← lastM_write hx hw]
      refine firstM_put ih hx hw ?_
      rw [ih]
      have hg := (chk_good h hx hw).2
      cases hf : (its.take j).findIdx? (isW (its[j]).2.2.2.1 (its[j]).2.2.2.2) with
      | none => simp [hf]
      | some i =>
        exfalso
        have h1 := idxF_take hf
        have h2 := (List.findIdx?_eq_some_iff_getElem.1 hf).1
        rw [List.length_take] at h2
        unfold wrI at hg
        omega
theorem frM_eq {its : List ItemL} (h : (chkA its).2.2 = 0) (x : ItemL) : frM (lastM its its.length) x = frI its x := by
  have hF := last_first h its.length (Nat.le_refl _) (x.2.2.2.1, x.2.2.2.2)
  rw [List.take_length] at hF
  unfold frM frI wrI idxF
  rw [hF]
  dsimp only
  cases hf : its.findIdx? (isW x.2.2.2.1 x.2.2.2.2) with
  | none => simp
  | some i => simp
theorem from_eq {its : List ItemL} (h : (chkA its).2.2 = 0) : fromM its = fromR its := by
  unfold fromM fromR
  exact List.map_congr_left fun x _ => frM_eq h x

/-- The reads of a write. -/
def readsO (os : List Int) (t : Int) (j : Nat) : List Int := ((List.range j).filter fun i => decide (os.getD i 0 = t) && decide (0 ≤ t)).map fun i => ((i : Nat) : Int)
theorem getD_int {os : List Int} {j : Nat} {x : Int} (hx : os[((j : Nat) : Int).toNat]? = some x) : os.getD j 0 = x := by rw [Int.toNat_natCast] at hx; rw [List.getD_eq_getElem?_getD, hx]; rfl
theorem readsO_yes {os : List Int} {t : Int} {j : Nat} {x : Int} (hx : os[((j : Nat) : Int).toNat]? = some x) (h1 : x = t) (h2 : 0 ≤ t) : readsO os t j ++ [((j : Nat) : Int)] = readsO os t (j + 1) := by
  unfold readsO; rw [List.range_succ, List.filter_append, List.map_append, List.filter_cons]
  rw [if_pos (by rw [getD_int hx]; simp [h1, h2])]; rfl
theorem readsO_no {os : List Int} {t : Int} {j : Nat} {x : Int} (hx : os[((j : Nat) : Int).toNat]? = some x) (h1 : x ≠ t ∨ ¬ 0 ≤ t) : readsO os t j = readsO os t (j + 1) := by
  unfold readsO; rw [List.range_succ, List.filter_append, List.map_append, List.filter_cons]
  rw [if_neg (by rw [getD_int hx]; simp; omega)]; simp
theorem readsO_neg {os : List Int} {t : Int} (h : ¬ 0 ≤ t) : ∀ j, readsO os t j = [] := by
  intro j; unfold readsO
  rw [List.filter_eq_nil_iff.2]
  · rfl
  · intro i _; simp; omega
theorem readsO_len (os : List Int) (t : Int) (j : Nat) : (readsO os t j).length ≤ j := by
  unfold readsO; rw [List.length_map]
  have := List.length_filter_le (fun i => decide (os.getD i 0 = t) && decide (0 ≤ t)) (List.range j)
  rwa [List.length_range] at this

/-! ### the law's words: facts of a history that is looked at -/
def fOk (h : HistL) : Bool := smallH h 40 && rightH h && decide ((chkA (ofI h)).2.2 = 0)
def fLook (h : HistL) : Bool := smallH h 40 && rightH h
def fxV (h : HistL) : List ByteArray := if fLook h then ofV h else []
def fxI (h : HistL) : List ItemL := if fLook h then ofI h else []
theorem fx_no {h : HistL} (hl : fLook h = false) : fxV h = [] ∧ fxI h = [] ∧ fOk h = false := by unfold fxV fxI fOk; rw [show (smallH h 40 && rightH h) = false from hl, hl]; simp
theorem fx_yes {h : HistL} (hl : fLook h = true) : fxV h = ofV h ∧ fxI h = ofI h ∧ fOk h = decide ((chkA (ofI h)).2.2 = 0) := by unfold fxV fxI fOk; rw [show (smallH h 40 && rightH h) = true from hl, hl]; simp
theorem look_no1 {h : HistL} (h1 : smallH h 40 = false) : fLook h = false := by unfold fLook; rw [h1]; rfl
theorem look_no2 {h : HistL} (h1 : rightH h = false) : fLook h = false := by unfold fLook; rw [h1]; simp
theorem look_yes {h : HistL} (h1 : smallH h 40 = true) (h2 : rightH h = true) : fLook h = true := by unfold fLook; rw [h1, h2]; rfl
theorem fok_iff {h : HistL} : fOk h = true ↔ fLook h = true ∧ (chkA (fxI h)).2.2 = 0 := by
  cases hl : fLook h with
  | false => rw [(fx_no hl).2.2]; simp
  | true => rw [(fx_yes hl).2.2, (fx_yes hl).2.1]; simp
theorem fxI_len (h : HistL) : (fxI h).length ≤ 40 := by
  unfold fxI; split
  · rename_i hl
    unfold fLook at hl
    simp only [Bool.and_eq_true] at hl
    have h1 := (small_iff.1 hl.1).2.1
    have := ofI_len h
    omega
  · simp
theorem fx_from {h : HistL} (hk : fOk h = true) : fromM (fxI h) = fromR (fxI h) := from_eq (fok_iff.1 hk).2
end Go.Ew
namespace Go.Ew
set_option linter.unusedVariables false
set_option linter.unusedSimpArgs false

theorem fromM_len (its : List ItemL) : (fromM its).length = its.length := by unfold fromM; simp
theorem fromR_len (its : List ItemL) : (fromR its).length = its.length := by unfold fromR; simp
theorem fromR_at {its : List ItemL} {j : Nat} {x : ItemL} {t : Int} (hx : its[((j : Nat) : Int).toNat]? = some x) (ht : (fromR its)[((j : Nat) : Int).toNat]? = some t) : t = frI its x := by
  unfold fromR at ht
  rw [List.getElem?_map, hx] at ht
  exact (Option.some.inj ht).symm
theorem fx_at {h : HistL} (hk : fOk h = true) {j : Nat} {x : ItemL} {t : Int} (hx : (fxI h)[((j : Nat) : Int).toNat]? = some x) (ht : (fromM (fxI h))[((j : Nat) : Int).toNat]? = some t) : t = frI (fxI h) x := by
  rw [fx_from hk] at ht; exact fromR_at hx ht
theorem reads_facts {its : List ItemL} {x : ItemL} {t : Int} (ht : t = frI its x) : (x.2.2.1 == decide (t = -3)) = true ∧ (t = -1 → x.2.2.2.2 = 0) ∧ -3 ≤ t ∧ t < (its.length : Int) ∧
    (0 ≤ t → ∃ y, its[t.toNat]? = some y ∧ y.2.2.1 = true ∧ y.2.2.2.1 = x.2.2.2.1 ∧ y.2.2.2.2 = x.2.2.2.2 ∧ x.2.2.2.2 ≠ 0) ∧
    (t = -2 → ∀ y ∈ its, y.2.2.1 = true → y.2.2.2.1 = x.2.2.2.1 → y.2.2.2.2 ≠ x.2.2.2.2) := by
  have hr := idxF_range (p := isW x.2.2.2.1 x.2.2.2.2) (r := its)
  have hlt : 0 ≤ wrI its x.2.2.2.1 x.2.2.2.2 → wrI its x.2.2.2.1 x.2.2.2.2 < (its.length : Int) := by
    intro h0
    obtain ⟨y, hy, -⟩ := wr_at h0
    have := (List.getElem?_eq_some_iff.1 hy).1
    omega
  subst ht
  unfold frI
  by_cases hw : x.2.2.1 = true
  · simp only [hw, if_true]
    refine ⟨by simp, fun h => (by omega), by omega, by omega, fun h => (by omega), fun h => (by omega)⟩
  · have hw' : x.2.2.1 = false := by simpa using hw
    simp only [hw', Bool.false_eq_true, if_false]
    by_cases h0 : x.2.2.2.2 = 0
    · simp only [h0, if_true]
      refine ⟨by simp, fun _ => (by first | trivial | rfl), by omega, by omega, fun h => (by omega), fun h => (by omega)⟩
    · simp only [h0, if_false]
      by_cases hp : 0 ≤ wrI its x.2.2.2.1 x.2.2.2.2
      · simp only [hp, if_true]
        have hl := hlt hp
        obtain ⟨y, hy, hyp⟩ := wr_at hp
        obtain ⟨y1, y2, y3⟩ := isW_iff.1 hyp
        have e : max (wrI its x.2.2.2.1 x.2.2.2.2) 0 = wrI its x.2.2.2.1 x.2.2.2.2 := by omega
        rw [e]
        refine ⟨?_, fun h => (by omega), by omega, hl, fun _ => ⟨y, hy, y1, y2, y3, h0⟩, fun h => (by omega)⟩
        rw [decide_eq_false (by omega)]; rfl
      · simp only [hp, if_false]
        refine ⟨rfl, fun h => (by omega), by omega, by omega, fun h => (by omega), fun _ y hy hyw hyv hyn => ?_⟩
        apply hp
        unfold wrI idxF
        cases hf : its.findIdx? (isW x.2.2.2.1 x.2.2.2.2) with
        | none =>
          rw [List.findIdx?_eq_none_iff] at hf
          have := hf y hy
          rw [isW_iff.2 ⟨hyw, hyv, hyn⟩] at this
          cases this
        | some i => simp

/-- How many lie from 0 up and below c. -/
def cntB (os : List Int) (c : Int) : Nat := (os.filter fun z => decide (0 ≤ z) && decide (z < c)).length
theorem cntB_low (os : List Int) : cntB os (-3) = 0 := by
  unfold cntB; rw [List.filter_eq_nil_iff.2]
  · rfl
  · intro z _; simp; omega
theorem cntB_le (os : List Int) (c : Int) : cntB os c ≤ os.length := List.length_filter_le _ _
theorem readsO_count (os : List Int) (t : Int) : (readsO os t os.length).length = (os.filter fun z => decide (z = t) && decide (0 ≤ t)).length := by
  unfold readsO
  rw [List.length_map]
  have : os = (List.range os.length).map fun i => os.getD i 0 := by
    apply List.ext_getElem
    · simp
    · intro i h1 h2; simp [List.getD_eq_getElem?_getD, h1]
  conv => rhs; rw [this]
  rw [List.filter_map, List.length_map]
  rfl
theorem filter_two {p q r : Int → Bool} (h : ∀ z, r z = (p z || q z)) (hd : ∀ z, p z = true → q z = false) : ∀ os : List Int, (os.filter p).length + (os.filter q).length = (os.filter r).length
  | [] => rfl
  | z :: os => by
    have ih := filter_two h hd os
    have h1 := h z
    have h2 := hd z
    simp only [List.filter_cons]
    cases hp : p z <;> cases hq : q z <;> rw [hp, hq] at h1 <;> simp only [h1, Bool.or_true, Bool.or_false, Bool.false_or, Bool.true_or, if_true, if_false, List.length_cons, Bool.false_eq_true]
    · exact ih
    · omega
    · omega
    · rw [h2 hp] at hq; cases hq
theorem cntB_step (os : List Int) (t : Int) : cntB os t + (readsO os t os.length).length = cntB os (t + 1) := by
  rw [readsO_count]
  unfold cntB
  refine filter_two (fun z => ?_) (fun z hz => ?_) os
  · rw [Bool.eq_iff_iff]; simp only [Bool.and_eq_true, Bool.or_eq_true, decide_eq_true_eq]; omega
  · simp only [Bool.and_eq_true, decide_eq_true_eq] at hz
    rw [Bool.and_eq_false_iff]; simp only [decide_eq_false_iff_not]; omega
theorem cntB_top {os : List Int} {c : Int} (h : ∀ z ∈ os, z < c) : cntB os c = (os.filter fun z => decide (0 ≤ z)).length := by
  unfold cntB
  congr 1
  apply List.filter_congr
  intro z hz
  rw [decide_eq_true (h z hz), Bool.and_true]
/-- .. of the first j. -/
def posTo (os : List Int) (j : Nat) : Nat := ((os.take j).filter fun z => decide (0 ≤ z)).length
theorem posTo_yes {os : List Int} {j : Nat} {x : Int} (hx : os[((j : Nat) : Int).toNat]? = some x) (h : 0 ≤ x) : posTo os (j + 1) = posTo os j + 1 := by
  unfold posTo; rw [take_at hx, List.filter_append, List.length_append, List.filter_cons, if_pos (by simpa using h)]; rfl
theorem posTo_no {os : List Int} {j : Nat} {x : Int} (hx : os[((j : Nat) : Int).toNat]? = some x) (h : ¬ 0 ≤ x) : posTo os (j + 1) = posTo os j := by
  unfold posTo; rw [take_at hx, List.filter_append, List.length_append, List.filter_cons, if_neg (by simpa using h)]; rfl
theorem posTo_le (os : List Int) (j : Nat) : posTo os j ≤ os.length := by
  unfold posTo
  have := List.length_filter_le (fun z => decide ((0 : Int) ≤ z)) (os.take j)
  rw [List.length_take] at this; omega
theorem once_end {its : List ItemL} {j : Nat} {c : Int} (hc : (its.length : Int) < c) (hj : (fromR its).length ≤ j) : ((cntB (fromR its) c : Nat) : Int) - ((posTo (fromR its) j : Nat) : Int) = 0 := by
  have : ∀ z ∈ fromR its, z < c := by
    intro z hz
    unfold fromR at hz
    obtain ⟨x, -, rfl⟩ := List.mem_map.1 hz
    have := (reads_facts (its := its) (x := x) rfl).2.2.2.1
    omega
  rw [cntB_top this]
  unfold posTo
  rw [List.take_of_length_le hj]; omega
theorem readsO_at {os : List Int} {t : Int} {j : Nat} {x : Int} (hx : (readsO os t os.length)[j]? = some x) : 0 ≤ x ∧ x < (os.length : Int) ∧ os[x.toNat]? = some t := by
  have hm := List.mem_of_getElem? hx
  unfold readsO at hm
  obtain ⟨i, hi, rfl⟩ := List.mem_map.1 hm
  rw [List.mem_filter, List.mem_range] at hi
  obtain ⟨h1, h2⟩ := hi
  simp only [Bool.and_eq_true, decide_eq_true_eq] at h2
  refine ⟨by omega, by omega, ?_⟩
  rw [Int.toNat_natCast, ← h2.1, List.getD_eq_getElem?_getD, List.getElem?_eq_getElem h1]; rfl
theorem readsO_rise (os : List Int) (t : Int) (m : Nat) : (readsO os t m).Pairwise (· < ·) := by
  unfold readsO
  rw [List.pairwise_map]
  exact (List.Pairwise.filter _ (List.pairwise_lt_range (n := m))).imp fun h => by omega
theorem readsO_less {os : List Int} {t : Int} {j : Nat} {x y : Int} (h0 : 0 < (j : Int)) (hx : (readsO os t os.length)[((j : Nat) : Int).toNat]? = some x) (hy : (readsO os t os.length)[(((j : Nat) : Int) - 1).toNat]? = some y) : decide (x ≤ y) = false := by
  have hp := readsO_rise os t os.length
  rw [List.pairwise_iff_getElem] at hp
  obtain ⟨h1, h2⟩ := List.getElem?_eq_some_iff.1 hx
  obtain ⟨h3, h4⟩ := List.getElem?_eq_some_iff.1 hy
  have := hp _ _ h3 h1 (by omega)
  rw [h2, h4] at this
  rw [decide_eq_false_iff_not]; omega
end Go.Ew
namespace Go.Ew
set_option linter.unusedVariables false
set_option linter.unusedSimpArgs false

/-- The row of so many bits that has just those of p. -/
def rowP (n : Nat) (p : Nat → Bool) : Row := (((List.range n).filter p).map fun k => ((k : Nat) : Int)).foldl setR (newR ((n : Nat) : Int))
theorem words_nat (n : Nat) : words ((n : Nat) : Int) = (n + 63) / 64 := by unfold words; omega
theorem rowP_len (n : Nat) (p : Nat → Bool) : (rowP n p).length = words ((n : Nat) : Int) := by unfold rowP; rw [foldl_setR_length, newR_length]
theorem inR_newR {n : Nat} {i : Int} (h0 : 0 ≤ i) (h : i < ((n : Nat) : Int)) : inR (newR ((n : Nat) : Int)) i = true := inR_of h0 (by rw [newR_length, words_nat]; omega)
theorem rowP_has (n : Nat) (p : Nat → Bool) (i : Int) : hasR (rowP n p) i = (decide (0 ≤ i) && decide (i < ((n : Nat) : Int)) && p i.toNat) := by
  unfold rowP
  rw [foldl_setR_has, newR_has, Bool.false_or, Bool.eq_iff_iff]
  simp only [List.any_eq_true, List.mem_map, List.mem_filter, List.mem_range, Bool.and_eq_true, decide_eq_true_eq]
  constructor
  · rintro ⟨z, ⟨k, ⟨hk, hp⟩, rfl⟩, rfl, -⟩
    exact ⟨⟨by omega, by omega⟩, by simpa using hp⟩
  · rintro ⟨⟨h0, h1⟩, hp⟩
    exact ⟨i, ⟨i.toNat, ⟨by omega, hp⟩, by omega⟩, rfl, inR_newR h0 h1⟩
theorem row_is {r : Row} {n : Nat} {p : Nat → Bool} (hl : r.length = words ((n : Nat) : Int)) (h : ∀ k : Nat, hasR r ((k : Nat) : Int) = (decide (k < n) && p k)) : r = rowP n p := by
  refine row_ext (by rw [hl, rowP_len]) fun k => ?_
  rw [h, rowP_has]
  simp
theorem rowP_congr {n : Nat} {p q : Nat → Bool} (h : ∀ k, k < n → p k = q k) : rowP n p = rowP n q :=
  row_is (rowP_len n p) fun k => by
    rw [rowP_has]
    by_cases hk : k < n
    · simp [hk, h k hk]
    · simp [hk]
theorem rowP_eq {n : Nat} {p q : Nat → Bool} (h : rowP n p = rowP n q) : ∀ k, k < n → p k = q k := by
  intro k hk
  have := congrArg (fun r => hasR r ((k : Nat) : Int)) h
  simpa [rowP_has, hk] using this
theorem newR_rowP (n : Nat) : newR ((n : Nat) : Int) = rowP n fun _ => false := row_is (newR_length _) fun k => by rw [newR_has]; simp
theorem setR_rowP {n : Nat} {p : Nat → Bool} {j : Int} (h0 : 0 ≤ j) (h1 : j < ((n : Nat) : Int)) : setR (rowP n p) j = rowP n fun k => p k || decide (k = j.toNat) := by
  refine row_is (by rw [setR_length, rowP_len]) fun k => ?_
  rw [hasR_setR, rowP_has]
  have hin : inR (rowP n p) j = true := inR_of h0 (by rw [rowP_len, words_nat]; omega)
  rw [hin, Bool.and_true, Bool.eq_iff_iff]
  simp only [Bool.or_eq_true, Bool.and_eq_true, decide_eq_true_eq, Int.toNat_natCast]
  constructor
  · rintro (⟨⟨h2, h3⟩, h4⟩ | h2)
    · exact ⟨by omega, .inl h4⟩
    · exact ⟨by omega, .inr (by omega)⟩
  · rintro ⟨h2, h3 | h3⟩
    · exact .inl ⟨⟨by omega, by omega⟩, h3⟩
    · exact .inr (by omega)

/-- The matrix that has just the pairs of p. -/
def matP (n : Nat) (p : Nat → Nat → Bool) : Rows := (List.range n).map fun i => rowP n (p i)
theorem matP_len (n : Nat) (p : Nat → Nat → Bool) : (matP n p).length = n := by unfold matP; simp
theorem matP_at {n : Nat} {p : Nat → Nat → Bool} {i : Nat} {x : Row} (h : (matP n p)[i]? = some x) : i < n ∧ x = rowP n (p i) := by
  unfold matP at h
  rw [List.getElem?_map] at h
  cases hr : (List.range n)[i]? with
  | none => rw [hr] at h; cases h
  | some k =>
    rw [hr] at h
    obtain ⟨h1, h2⟩ := List.getElem?_eq_some_iff.1 hr
    simp at h1 h2
    subst h2
    exact ⟨h1, (Option.some.inj h).symm⟩
theorem matP_get {n : Nat} {p : Nat → Nat → Bool} {i : Nat} (h : i < n) : (matP n p)[i]? = some (rowP n (p i)) := by
  unfold matP; rw [List.getElem?_map, List.getElem?_range h]; rfl
theorem mat_is {rs : Rows} {n : Nat} {p : Nat → Nat → Bool} (hl : rs.length = n) (h : ∀ i, i < n → rs[i]? = some (rowP n (p i))) : rs = matP n p := by
  apply List.ext_getElem?
  intro i
  by_cases hi : i < n
  · rw [h i hi, matP_get hi]
  · rw [List.getElem?_eq_none (by omega), List.getElem?_eq_none (by rw [matP_len]; omega)]
theorem matP_congr {n : Nat} {p q : Nat → Nat → Bool} (h : ∀ i j, i < n → j < n → p i j = q i j) : matP n p = matP n q :=
  mat_is (matP_len n p) fun i hi => by rw [matP_get hi, rowP_congr fun j hj => h i j hi hj]
theorem matP_eq {n : Nat} {p q : Nat → Nat → Bool} (h : matP n p = matP n q) : ∀ i j, i < n → j < n → p i j = q i j := by
  intro i j hi hj
  have h1 := matP_get (p := p) hi
  rw [h, matP_get hi] at h1
  exact (rowP_eq (Option.some.inj h1) j hj).symm
theorem newM_matP (n : Nat) : newM ((n : Nat) : Int) = matP n fun _ _ => false := by
  refine mat_is (by rw [newM_length]; simp) fun i hi => ?_
  unfold newM
  rw [List.getElem?_replicate, if_pos (by simpa using hi), newR_rowP]
theorem newM_matP' {z : Int} (h : 0 ≤ z) : newM z = matP z.toNat fun _ _ => false := by
  have := newM_matP z.toNat
  rwa [Int.toNat_of_nonneg h] at this
theorem matP_set {n : Nat} {p : Nat → Nat → Bool} {i : Nat} {q : Nat → Bool} : (matP n p).set i (rowP n q) = matP n fun a b => if a = i then q b else p a b := by
  refine mat_is (by rw [List.length_set, matP_len]) fun k hk => ?_
  rw [List.getElem?_set]
  by_cases e : i = k
  · subst e
    rw [if_pos rfl, if_pos (by rw [matP_len]; exact hk)]
    congr 1
    exact rowP_congr fun j _ => by simp
  · rw [if_neg e, matP_get hk]
    congr 1
    exact rowP_congr fun j _ => by rw [if_neg fun e2 => e e2.symm]
theorem rowAt_matP {n : Nat} {p : Nat → Nat → Bool} {i : Int} (h0 : 0 ≤ i) (h : i < ((n : Nat) : Int)) : rowAt (matP n p) i = rowP n (p i.toNat) := rowAt_of (matP_get (by omega))
theorem setM_matP {n : Nat} {p : Nat → Nat → Bool} {i j : Int} (hi : inM ((n : Nat) : Int) [i, j] = true) : setM (matP n p) (i, j) = matP n fun a b => p a b || (decide (a = i.toNat) && decide (b = j.toNat)) := by
  obtain ⟨⟨h1, h2⟩, h3, h4⟩ := inM_two.1 hi
  unfold setM
  dsimp only
  rw [rowAt_matP h1 h2, setR_rowP h3 h4, matP_set]
  refine matP_congr fun a b ha hb => ?_
  by_cases e : a = i.toNat
  · subst e; simp
  · simp [e]
theorem hasM_matP {n : Nat} {p : Nat → Nat → Bool} {i j : Int} : hasM ((n : Nat) : Int) (matP n p) i j = (inM ((n : Nat) : Int) [i, j] && p i.toNat j.toNat) := by
  unfold hasM
  cases h : inM ((n : Nat) : Int) [i, j] with
  | false => rfl
  | true =>
    obtain ⟨⟨h1, h2⟩, h3, h4⟩ := inM_two.1 h
    rw [rowAt_matP h1 h2, rowP_has, decide_eq_true h3, decide_eq_true h4]; rfl
theorem setMR_matP {n : Nat} {p : Nat → Nat → Bool} {i j : Int} (hi : inM ((n : Nat) : Int) [i, j] = true) : setMR ((n : Nat) : Int) (matP n p) i j = matP n fun a b => p a b || (decide (a = i.toNat) && decide (b = j.toNat)) := by
  rw [(set_yes hi).2.1, setM_matP hi]
theorem inM_nat {n i j : Nat} : inM ((n : Nat) : Int) [((i : Nat) : Int), ((j : Nat) : Int)] = (decide (i < n) && decide (j < n)) := by
  rw [inM_eq, Bool.eq_iff_iff]
  simp only [Bool.and_eq_true, decide_eq_true_eq]
  omega
theorem hasM_nat {n : Nat} {p : Nat → Nat → Bool} {i j : Nat} (hi : i < n) (hj : j < n) : hasM ((n : Nat) : Int) (matP n p) ((i : Nat) : Int) ((j : Nat) : Int) = p i j := by
  rw [hasM_matP, inM_nat]; simp [hi, hj]
/-- Rows of the right size. -/
theorem matP_rows {n : Nat} {p : Nat → Nat → Bool} : ∀ x ∈ matP n p, x.length = words ((n : Nat) : Int) := by
  intro x hx
  obtain ⟨i, hi⟩ := List.mem_iff_getElem?.1 hx
  rw [(matP_at hi).2, rowP_len]
theorem matP_small {n : Nat} {p : Nat → Nat → Bool} (h : n ≤ 4096) : ∀ x ∈ matP n p, x.length ≤ 1000000000 := by
  intro x hx
  rw [matP_rows x hx, words_nat]; omega
end Go.Ew
namespace Go.Ew
set_option linter.unusedVariables false
set_option linter.unusedSimpArgs false

abbrev item0 : ItemL := (0, 0, false, 0, 0)
/-- The session, and the place, of item i. -/
def sesN (its : List ItemL) (i : Nat) : Int := (its.getD i item0).1
def plcN (its : List ItemL) (i : Nat) : Int := (its.getD i item0).2.1
theorem item_get {its : List ItemL} {i : Nat} {x : ItemL} (h : its[((i : Nat) : Int).toNat]? = some x) : its.getD i item0 = x := by rw [Int.toNat_natCast] at h; rw [List.getD_eq_getElem?_getD, h]; rfl
theorem item_getI {its : List ItemL} {i : Int} {x : ItemL} (h : its[i.toNat]? = some x) : its.getD i.toNat item0 = x := by rw [List.getD_eq_getElem?_getD, h]; rfl
theorem ses_at {its : List ItemL} {i : Nat} {x : ItemL} (h : its[((i : Nat) : Int).toNat]? = some x) : sesN its i = x.1 := by unfold sesN; rw [item_get h]
theorem ses_atI {its : List ItemL} {i : Int} {x : ItemL} (h : its[i.toNat]? = some x) : sesN its i.toNat = x.1 := by unfold sesN; rw [item_getI h]
theorem plc_atI {its : List ItemL} {i : Int} {x : ItemL} (h : its[i.toNat]? = some x) : plcN its i.toNat = x.2.1 := by unfold plcN; rw [item_getI h]

/-- Items as an interned history has them: session by session, place by place. -/
structure OrdI (its : List ItemL) : Prop where
  first : 0 < its.length → plcN its 0 = 0
  next : ∀ i, i + 1 < its.length → (sesN its (i + 1) = sesN its i ∧ plcN its (i + 1) = plcN its i + 1) ∨ (sesN its i < sesN its (i + 1) ∧ plcN its (i + 1) = 0)

section
variable {its : List ItemL} (o : OrdI its)
include o
theorem OrdI.le : ∀ (d i : Nat), i + d < its.length → sesN its i ≤ sesN its (i + d)
  | 0, i, h => Int.le_refl _
  | d + 1, i, h => by
    have h1 := OrdI.le d i (by omega)
    have h2 := o.next (i + d) (by omega)
    rw [show i + (d + 1) = i + d + 1 from rfl]; omega
theorem OrdI.mono {i j : Nat} (hij : i ≤ j) (h : j < its.length) : sesN its i ≤ sesN its j := by
  have := o.le (j - i) i (by omega)
  rwa [show i + (j - i) = j from by omega] at this
theorem OrdI.place : ∀ (d i : Nat), i + d < its.length → sesN its i = sesN its (i + d) → plcN its (i + d) = plcN its i + ((d : Nat) : Int)
  | 0, i, h, _ => by simp
  | d + 1, i, h, hs => by
    have h1 := o.mono (i := i) (j := i + d) (by omega) (by omega)
    have h2 := o.mono (i := i + d) (j := i + (d + 1)) (by omega) h
    have h3 := o.next (i + d) (by omega)
    have e : i + (d + 1) = i + d + 1 := rfl
    rw [e] at hs h2 ⊢
    have ih := OrdI.place d i (by omega) (by omega)
    omega
theorem OrdI.nonneg : ∀ i, i < its.length → 0 ≤ plcN its i
  | 0, h => by rw [o.first h]; exact Int.le_refl _
  | i + 1, h => by
    have := OrdI.nonneg i (by omega)
    have := o.next i h
    omega
/-- As many of its session ahead as the place says. -/
theorem OrdI.back : ∀ i, i < its.length → plcN its i ≤ ((i : Nat) : Int) ∧ ∀ k, ((i : Nat) : Int) - plcN its i ≤ ((k : Nat) : Int) → k ≤ i → sesN its k = sesN its i
  | 0, h => by
    rw [o.first h]
    exact ⟨by omega, fun k _ hk => by rw [show k = 0 from by omega]⟩
  | i + 1, h => by
    obtain ⟨h1, h2⟩ := OrdI.back i (by omega)
    have h0 := o.nonneg (i + 1) h
    rcases o.next i h with ⟨hs, hp⟩ | ⟨hs, hp⟩
    · refine ⟨by omega, fun k hk hki => ?_⟩
      by_cases e : k = i + 1
      · rw [e]
      · rw [hs]; exact h2 k (by omega) (by omega)
    · refine ⟨by omega, fun k hk hki => ?_⟩
      rw [show k = i + 1 from by omega]
theorem OrdI.ahead {i j : Nat} (hi : i < its.length) (hj : j < its.length) (hs : sesN its i = sesN its j) : (plcN its i < plcN its j ↔ i < j) := by
  rcases Nat.le_total i j with h | h
  · have := o.place (j - i) i (by omega) (by rw [show i + (j - i) = j from by omega]; exact hs)
    rw [show i + (j - i) = j from by omega] at this
    omega
  · have := o.place (i - j) j (by omega) (by rw [show j + (i - j) = i from by omega]; exact hs.symm)
    rw [show j + (i - j) = i from by omega] at this
    omega
end

/-! an interned history is so -/
theorem ord_snoc {its : List ItemL} (o : OrdI its) {x : ItemL} (h0 : its.length = 0 → x.2.1 = 0) (h : ∀ n, its.length = n + 1 → (x.1 = sesN its n ∧ x.2.1 = plcN its n + 1) ∨ (sesN its n < x.1 ∧ x.2.1 = 0)) : OrdI (its ++ [x]) := by
  have hold : ∀ i, i < its.length → (its ++ [x]).getD i item0 = its.getD i item0 := by
    intro i hi
    rw [List.getD_eq_getElem?_getD, List.getD_eq_getElem?_getD, List.getElem?_append_left hi]
  have hnew : (its ++ [x]).getD its.length item0 = x := by
    rw [List.getD_eq_getElem?_getD, List.getElem?_append_right (Nat.le_refl _)]; simp
  refine ⟨fun hl => ?_, fun i hi => ?_⟩
  · by_cases e : its.length = 0
    · have := hnew
      rw [e] at this
      unfold plcN; rw [this]; exact h0 e
    · have := o.first (by omega)
      unfold plcN at this ⊢
      rw [hold 0 (by omega)]; exact this
  · rw [List.length_append, List.length_singleton] at hi
    by_cases e : i + 1 < its.length
    · have := o.next i e
      unfold sesN plcN at this ⊢
      rw [hold i (by omega), hold (i + 1) e]; exact this
    · have e2 : its.length = i + 1 := by omega
      have := h i e2
      unfold sesN plcN at this ⊢
      rw [hold i (by omega), ← e2, hnew]
      rcases this with ⟨a, b⟩ | ⟨a, b⟩
      · exact .inl ⟨a, b⟩
      · exact .inr ⟨a, b⟩
/-- All sessions lie below j. -/
def Below_ (its : List ItemL) (j : Nat) : Prop := ∀ x ∈ its, x.1 < ((j : Nat) : Int)
theorem last_get {its : List ItemL} {n : Nat} (h : its.length = n + 1) : its.getD n item0 ∈ its := by
  rw [List.getD_eq_getElem?_getD, List.getElem?_eq_getElem (by omega)]
  exact List.getElem_mem _
theorem toO_ord {j : Nat} {st : StO} {ops : List OpL} (o : OrdI st.2) (hb : Below_ st.2 j) : ∀ k, k ≤ ops.length →
    OrdI (toO j st ops k).2 ∧ Below_ (toO j st ops k).2 (j + 1) ∧ (0 < k → ∃ n, (toO j st ops k).2.length = n + 1 ∧ sesN (toO j st ops k).2 n = ((j : Nat) : Int) ∧ plcN (toO j st ops k).2 n = ((k : Nat) : Int) - 1)
  | 0, _ => by
    rw [toO_zero]
    exact ⟨o, fun x hx => by have := hb x hx; omega, fun h => (by omega)⟩
  | k + 1, hk => by
    obtain ⟨ho, hbl, hlast⟩ := toO_ord (ops := ops) o hb k (by omega)
    have hx : ops[((k : Nat) : Int).toNat]? = some ops[k] := by rw [Int.toNat_natCast]; exact List.getElem?_eq_getElem (by omega)
    rw [toO_step hx]
    unfold stepO
    dsimp only
    refine ⟨ord_snoc ho (fun h0 => ?_) (fun n hn => ?_), ?_, fun _ => ⟨(toO j st ops k).2.length, by simp, ?_, ?_⟩⟩
    · show ((k : Nat) : Int) = 0
      by_cases hk0 : 0 < k
      · obtain ⟨n, h1, -⟩ := hlast hk0
        omega
      · omega
    · show (((j : Nat) : Int) = _ ∧ ((k : Nat) : Int) = _) ∨ (_ < ((j : Nat) : Int) ∧ ((k : Nat) : Int) = 0)
      by_cases hk0 : 0 < k
      · obtain ⟨n', h1, h2, h3⟩ := hlast hk0
        obtain rfl : n = n' := by omega
        exact .inl ⟨h2.symm, by rw [h3]; omega⟩
      · right
        have hk0 : k = 0 := by omega
        subst hk0
        rw [toO_zero] at hn ⊢
        exact ⟨hb _ (last_get hn), rfl⟩
    · intro x hxm
      rcases List.mem_append.1 hxm with h | h
      · exact hbl x h
      · rw [List.mem_singleton] at h
        subst h
        show ((j : Nat) : Int) < _
        omega
    · unfold sesN
      rw [List.getD_eq_getElem?_getD, List.getElem?_append_right (Nat.le_refl _)]; simp
    · unfold plcN
      rw [List.getD_eq_getElem?_getD, List.getElem?_append_right (Nat.le_refl _)]
      simp
theorem allO_ord (h : HistL) : ∀ j, j ≤ h.length → OrdI (allO h j).2 ∧ Below_ (allO h j).2 j
  | 0, _ => ⟨⟨fun h => (by simp [allO] at h), fun i hi => (by simp [allO] at hi)⟩, fun x hx => (by simp [allO] at hx)⟩
  | j + 1, hj => by
    obtain ⟨ho, hb⟩ := allO_ord h j (by omega)
    have hx : h[((j : Nat) : Int).toNat]? = some h[j] := by rw [Int.toNat_natCast]; exact List.getElem?_eq_getElem (by omega)
    rw [allO_step hx]
    have := toO_ord (ops := h[j]) ho hb _ (Nat.le_refl _)
    exact ⟨this.1, this.2.1⟩
theorem factI_ord (h : HistL) : OrdI (factI h) := (allO_ord h h.length (Nat.le_refl _)).1
theorem ofI_ord (h : HistL) : OrdI (ofI h) := by
  unfold ofI; split
  · exact factI_ord h
  · exact ⟨fun h => (by simp at h), fun i hi => (by simp at hi)⟩

/-! ### ahead -/
def ahN (its : List ItemL) (i j : Nat) : Bool := decide (i < j) && decide (j < its.length) && decide (sesN its i = sesN its j)
def ahA (its : List ItemL) (i j : Int) : Bool := decide (0 ≤ i) && decide (j < (its.length : Int)) && decide (i < j) && decide (sesN its i.toNat = sesN its j.toNat)
def ahB (its : List ItemL) (i j : Int) : Bool := decide (0 ≤ i) && decide (0 ≤ j) && decide (i < (its.length : Int)) && decide (j < (its.length : Int)) && decide (sesN its i.toNat = sesN its j.toNat) && decide (plcN its i.toNat < plcN its j.toNat)
theorem ahA_N (its : List ItemL) (i j : Nat) : ahA its ((i : Nat) : Int) ((j : Nat) : Int) = ahN its i j := by
  unfold ahA ahN
  rw [Bool.eq_iff_iff]
  simp only [Bool.and_eq_true, decide_eq_true_eq, Int.toNat_natCast]
  omega
theorem ahB_A {its : List ItemL} (o : OrdI its) (i j : Int) : ahB its i j = ahA its i j := by
  unfold ahA ahB
  rw [Bool.eq_iff_iff]
  simp only [Bool.and_eq_true, decide_eq_true_eq]
  constructor
  · rintro ⟨⟨⟨⟨⟨h1, h2⟩, h3⟩, h4⟩, h5⟩, h6⟩
    have := (o.ahead (i := i.toNat) (j := j.toNat) (by omega) (by omega) h5).1 h6
    exact ⟨⟨⟨h1, h4⟩, by omega⟩, h5⟩
  · rintro ⟨⟨⟨h1, h2⟩, h3⟩, h4⟩
    have := (o.ahead (i := i.toNat) (j := j.toNat) (by omega) (by omega) h4).2 (by omega)
    exact ⟨⟨⟨⟨⟨h1, by omega⟩, by omega⟩, h2⟩, h4⟩, this⟩
/-- The matrix of all. -/
def poR (its : List ItemL) : Rows := matP its.length (ahN its)
/-- .. from behind: the rows behind t are told. -/
def poTo (its : List ItemL) (t : Int) : Rows := matP its.length fun a b => decide (t < ((a : Nat) : Int)) && ahN its a b
theorem poTo_start (its : List ItemL) (t : Int) (h : (its.length : Int) - 2 = t) : newM (its.length : Int) = poTo its t := by
  rw [newM_matP]
  refine matP_congr fun a b ha hb => ?_
  unfold ahN
  rw [Bool.eq_iff_iff]
  simp only [Bool.and_eq_true, decide_eq_true_eq, Bool.false_eq_true, false_iff]
  omega
theorem poTo_end {its : List ItemL} {t : Int} (h : t < 0) : poTo its t = poR its := by
  refine matP_congr fun a b ha hb => ?_
  rw [decide_eq_true (by omega)]; rfl
theorem poTo_same {its : List ItemL} {t : Int} (h0 : 0 ≤ t) (h1 : t + 1 < (its.length : Int)) (hs : sesN its t.toNat = sesN its (t + 1).toNat) {x : Row} (hx : (poTo its t)[(t + 1).toNat]? = some x) :
    (poTo its t).set t.toNat (setR x (t + 1)) = poTo its (t - 1) := by
  unfold poTo at *
  obtain ⟨h2, rfl⟩ := matP_at hx
  rw [setR_rowP (by omega) h1, matP_set]
  refine matP_congr fun a b ha hb => ?_
  have e : (t + 1).toNat = t.toNat + 1 := by omega
  rw [e] at hs ⊢
  by_cases ea : a = t.toNat
  · subst ea
    rw [if_pos rfl]
    unfold ahN
    rw [Bool.eq_iff_iff]
    simp only [Bool.and_eq_true, Bool.or_eq_true, decide_eq_true_eq]
    constructor
    · rintro (⟨_, ⟨h3, h4⟩, h5⟩ | h3)
      · exact ⟨by omega, ⟨by omega, h4⟩, by rw [hs, h5]⟩
      · subst h3; exact ⟨by omega, ⟨by omega, by omega⟩, hs⟩
    · rintro ⟨_, ⟨h3, h4⟩, h5⟩
      by_cases e2 : b = t.toNat + 1
      · exact .inr e2
      · exact .inl ⟨by omega, ⟨by omega, h4⟩, by rw [← hs, h5]⟩
  · rw [if_neg ea, show decide (t < ((a : Nat) : Int)) = decide (t - 1 < ((a : Nat) : Int)) from by rw [decide_eq_decide]; omega]
theorem poTo_other {its : List ItemL} (o : OrdI its) {t : Int} (h0 : 0 ≤ t) (h1 : t + 1 < (its.length : Int)) (hs : ¬ sesN its t.toNat = sesN its (t + 1).toNat) : poTo its t = poTo its (t - 1) := by
  refine matP_congr fun a b ha hb => ?_
  have e : (t + 1).toNat = t.toNat + 1 := by omega
  rw [e] at hs
  by_cases ea : a = t.toNat
  · subst ea
    rw [decide_eq_false (by omega), Bool.false_and]
    symm
    unfold ahN
    rw [Bool.and_eq_false_iff]
    right
    rw [Bool.and_eq_false_iff]
    by_cases hb2 : t.toNat < b
    · right
      rw [decide_eq_false_iff_not]
      intro he
      have g1 := o.mono (i := t.toNat) (j := t.toNat + 1) (by omega) (by omega)
      have g2 := o.mono (i := t.toNat + 1) (j := b) (by omega) (by omega)
      omega
    · left
      rw [decide_eq_false (by omega)]; rfl
  · rw [show decide (t < ((a : Nat) : Int)) = decide (t - 1 < ((a : Nat) : Int)) from by rw [decide_eq_decide]; omega]
/-- .. and pair by pair. -/
def poU (its : List ItemL) (i j : Nat) : Rows := matP its.length fun a b => (decide (a < i) || (decide (a = i) && decide (b < j))) && ahN its a b
theorem poU_start (its : List ItemL) : newM (its.length : Int) = poU its 0 0 := by
  rw [newM_matP]
  exact matP_congr fun a b ha hb => by simp
theorem poU_row {its : List ItemL} {i j : Nat} (h : its.length ≤ j) : poU its i j = poU its (i + 1) 0 := by
  refine matP_congr fun a b ha hb => ?_
  congr 1
  rw [Bool.eq_iff_iff]
  simp only [Bool.or_eq_true, Bool.and_eq_true, decide_eq_true_eq]
  omega
theorem poU_end {its : List ItemL} {i : Nat} (h : its.length ≤ i) : poU its i 0 = poR its := by
  refine matP_congr fun a b ha hb => ?_
  rw [decide_eq_true (by omega)]; rfl
theorem poU_yes {its : List ItemL} {i j : Nat} (hi : i < its.length) (hj : j < its.length) (h : ahN its i j = true) : setMR (its.length : Int) (poU its i j) ((i : Nat) : Int) ((j : Nat) : Int) = poU its i (j + 1) := by
  unfold poU
  rw [setMR_matP (by rw [inM_nat]; simp [hi, hj])]
  refine matP_congr fun a b ha hb => ?_
  rw [Bool.eq_iff_iff]
  simp only [Bool.or_eq_true, Bool.and_eq_true, decide_eq_true_eq, Int.toNat_natCast]
  constructor
  · rintro (⟨h1, h2⟩ | ⟨rfl, rfl⟩)
    · exact ⟨by omega, h2⟩
    · exact ⟨.inr ⟨rfl, by omega⟩, h⟩
  · rintro ⟨h1, h2⟩
    by_cases e : a = i ∧ b = j
    · exact .inr e
    · exact .inl ⟨by omega, h2⟩
theorem poU_no {its : List ItemL} {i j : Nat} (h : ahN its i j = false) : poU its i j = poU its i (j + 1) := by
  refine matP_congr fun a b ha hb => ?_
  rw [Bool.eq_iff_iff]
  simp only [Bool.or_eq_true, Bool.and_eq_true, decide_eq_true_eq]
  constructor
  · rintro ⟨h1, h2⟩; exact ⟨by omega, h2⟩
  · rintro ⟨h1, h2⟩
    refine ⟨?_, h2⟩
    by_cases e : a = i ∧ b = j
    · rw [e.1, e.2, h] at h2; cases h2
    · omega

/-! ### up to one -/
def pastA (its : List ItemL) (t : Int) : List Int := if 0 ≤ t ∧ t < (its.length : Int) then (List.range ((plcN its t.toNat).toNat + 1)).map fun q => (t - plcN its t.toNat) + ((q : Nat) : Int) else []
def pastTo (f : Int) (q : Nat) : List Int := (List.range q).map fun k => f + ((k : Nat) : Int)
theorem pastTo_step (f : Int) (q : Nat) : pastTo f q ++ [f + ((q : Nat) : Int)] = pastTo f (q + 1) := by unfold pastTo; rw [List.range_succ, List.map_append]; rfl
theorem pastTo_len (f : Int) (q : Nat) : (pastTo f q).length = q := by unfold pastTo; simp
def pastB (its : List ItemL) (t : Int) (j : Nat) : List Int := ((List.range j).filter fun i => decide (((i : Nat) : Int) = t) || ahB its ((i : Nat) : Int) t).map fun i => ((i : Nat) : Int)
theorem pastB_yes {its : List ItemL} {t : Int} {j : Nat} (h : (decide (((j : Nat) : Int) = t) || ahB its ((j : Nat) : Int) t) = true) : pastB its t j ++ [((j : Nat) : Int)] = pastB its t (j + 1) := by
  unfold pastB; rw [List.range_succ, List.filter_append, List.map_append, List.filter_cons, if_pos h]; rfl
theorem pastB_no {its : List ItemL} {t : Int} {j : Nat} (h : (decide (((j : Nat) : Int) = t) || ahB its ((j : Nat) : Int) t) = false) : pastB its t j = pastB its t (j + 1) := by
  unfold pastB; rw [List.range_succ, List.filter_append, List.map_append, List.filter_cons, if_neg (by rw [h]; simp)]; simp
theorem pastB_len (its : List ItemL) (t : Int) (j : Nat) : (pastB its t j).length ≤ j := by
  unfold pastB; rw [List.length_map]
  have := List.length_filter_le (fun i => decide (((i : Nat) : Int) = t) || ahB its ((i : Nat) : Int) t) (List.range j)
  rwa [List.length_range] at this
theorem filter_range_between {lo hi : Nat} : ∀ n, hi ≤ n → lo ≤ hi → (List.range n).filter (fun i => decide (lo ≤ i) && decide (i < hi)) = (List.range (hi - lo)).map fun q => lo + q := by
  intro n hn hl
  have h1 : n = lo + ((hi - lo) + (n - hi)) := by omega
  rw [h1, range_add_map, range_add_map, List.filter_append, List.map_append, List.filter_append]
  have e1 : (List.range lo).filter (fun i => decide (lo ≤ i) && decide (i < hi)) = [] := by
    rw [List.filter_eq_nil_iff]; intro i hi2; have := List.mem_range.1 hi2; simp; omega
  have e2 : ((List.range (hi - lo)).map fun i => lo + i).filter (fun i => decide (lo ≤ i) && decide (i < hi)) = (List.range (hi - lo)).map fun i => lo + i := by
    rw [List.filter_eq_self]; intro i hi2
    obtain ⟨k, hk, rfl⟩ := List.mem_map.1 hi2
    have := List.mem_range.1 hk
    simp; omega
  have e3 : (((List.range (n - hi)).map fun i => hi - lo + i).map fun i => lo + i).filter (fun i => decide (lo ≤ i) && decide (i < hi)) = [] := by
    rw [List.filter_eq_nil_iff]; intro i hi2
    obtain ⟨k, hk, rfl⟩ := List.mem_map.1 hi2
    obtain ⟨k2, hk2, rfl⟩ := List.mem_map.1 hk
    simp; omega
  rw [e1, e2, e3]; simp
theorem past_eq {its : List ItemL} (o : OrdI its) (t : Int) : pastB its t its.length = pastA its t := by
  unfold pastB pastA
  split
  · rename_i ht
    obtain ⟨b1, b2⟩ := o.back t.toNat (by omega)
    have b0 := o.nonneg t.toNat (by omega)
    have key : ∀ i, i ∈ List.range its.length → (decide (((i : Nat) : Int) = t) || ahB its ((i : Nat) : Int) t) = (decide ((t - plcN its t.toNat).toNat ≤ i) && decide (i < t.toNat + 1)) := by
      intro i hi
      have hi := List.mem_range.1 hi
      rw [ahB_A o]
      unfold ahA
      rw [Bool.eq_iff_iff]
      simp only [Bool.or_eq_true, Bool.and_eq_true, decide_eq_true_eq, Int.toNat_natCast]
      constructor
      · rintro (h | ⟨⟨⟨h1, h2⟩, h3⟩, h4⟩)
        · omega
        · have := o.place (t.toNat - i) i (by omega) (by rw [show i + (t.toNat - i) = t.toNat from by omega]; exact h4)
          rw [show i + (t.toNat - i) = t.toNat from by omega] at this
          have := o.nonneg i (by omega)
          omega
      · rintro ⟨h1, h2⟩
        by_cases e : ((i : Nat) : Int) = t
        · exact .inl e
        · exact .inr ⟨⟨⟨by omega, ht.2⟩, by omega⟩, b2 i (by omega) (by omega)⟩
    rw [List.filter_congr key, filter_range_between its.length (by omega) (by omega), List.map_map]
    rw [show t.toNat + 1 - (t - plcN its t.toNat).toNat = (plcN its t.toNat).toNat + 1 from by omega]
    apply List.map_congr_left
    intro q _
    show (((t - plcN its t.toNat).toNat + q : Nat) : Int) = _
    omega
  · rename_i ht
    rw [List.filter_eq_nil_iff.2]
    · rfl
    · intro i hi
      have hi := List.mem_range.1 hi
      unfold ahB
      simp only [Bool.or_eq_true, Bool.and_eq_true, decide_eq_true_eq]
      omega

theorem ahA_no {its : List ItemL} {i j : Int} (h : ¬ (0 ≤ i ∧ j < (its.length : Int) ∧ i < j)) : false = ahA its i j := by
  unfold ahA; symm; simp only [Bool.and_eq_false_iff, decide_eq_false_iff_not]; omega
theorem ahA_yes {its : List ItemL} {i j : Int} {x y : ItemL} (h0 : 0 ≤ i) (h1 : j < (its.length : Int)) (h2 : i < j) (hx : its[i.toNat]? = some x) (hy : its[j.toNat]? = some y) : decide (x.1 = y.1) = ahA its i j := by
  unfold ahA; rw [decide_eq_true h0, decide_eq_true h1, decide_eq_true h2, ses_atI hx, ses_atI hy]; rfl
theorem ahB_no {its : List ItemL} {i j : Int} (h : ¬ (0 ≤ i ∧ 0 ≤ j ∧ i < (its.length : Int) ∧ j < (its.length : Int))) : false = ahB its i j := by
  unfold ahB; symm; simp only [Bool.and_eq_false_iff, decide_eq_false_iff_not]; omega
theorem ahB_ses {its : List ItemL} {i j : Int} {x y : ItemL} (hx : its[i.toNat]? = some x) (hy : its[j.toNat]? = some y) (hs : ¬ x.1 = y.1) : false = ahB its i j := by
  unfold ahB; rw [ses_atI hx, ses_atI hy, decide_eq_false hs]; simp
theorem ahB_yes {its : List ItemL} {i j : Int} {x y : ItemL} (h0 : 0 ≤ i) (h1 : 0 ≤ j) (h2 : i < (its.length : Int)) (h3 : j < (its.length : Int)) (hx : its[i.toNat]? = some x) (hy : its[j.toNat]? = some y) (hs : x.1 = y.1) : decide (x.2.1 < y.2.1) = ahB its i j := by
  unfold ahB; rw [decide_eq_true h0, decide_eq_true h1, decide_eq_true h2, decide_eq_true h3, ses_atI hx, ses_atI hy, plc_atI hx, plc_atI hy, decide_eq_true hs]; rfl
theorem pastA_no {its : List ItemL} {t : Int} (h : ¬ (0 ≤ t ∧ t < (its.length : Int))) : ([] : List Int) = pastA its t := by unfold pastA; rw [if_neg h]
theorem pastA_yes {its : List ItemL} {t : Int} {x : ItemL} {q : Nat} (h0 : 0 ≤ t) (h : t < (its.length : Int)) (hx : its[t.toNat]? = some x) (hp : 0 ≤ x.2.1) (hq : ((q : Nat) : Int) = x.2.1 + 1) : pastTo (t - x.2.1) q = pastA its t := by
  unfold pastA pastTo
  rw [if_pos ⟨h0, h⟩, plc_atI hx, show x.2.1.toNat + 1 = q from by omega]
theorem poR_len (its : List ItemL) : (poR its).length = its.length := matP_len _ _
theorem poTo_len (its : List ItemL) (t : Int) : (poTo its t).length = its.length := matP_len _ _
theorem poU_len (its : List ItemL) (i j : Nat) : (poU its i j).length = its.length := matP_len _ _
theorem poTo_row {its : List ItemL} {t : Int} {i : Nat} {x : Row} (h : (poTo its t)[i]? = some x) : x.length = words ((its.length : Nat) : Int) := by rw [(matP_at h).2, rowP_len]
theorem words_small {n : Nat} (h : n ≤ 4096) : words ((n : Nat) : Int) ≤ 64 := by rw [words_nat]; omega
/-- facts that a law has of its history -/
theorem sess_len {h : HistL} (hs : smallH h 40 = true) : (ofI h).length ≤ 40 := by
  have h1 := (small_iff.1 hs).2.1
  have := ofI_len h
  omega
theorem past_two (h : HistL) (t : Int) : pastB (ofI h) t (ofI h).length = pastA (ofI h) t := past_eq (ofI_ord h) t
theorem ahead_two (h : HistL) (i j : Int) : ahB (ofI h) i j = ahA (ofI h) i j := ahB_A (ofI_ord h) i j
end Go.Ew
namespace Go.Ew
set_option linter.unusedVariables false
set_option linter.unusedSimpArgs false

/-! ### may a matrix be -/
def rowOk (n : Int) (r : Row) : Bool := decide (((r.length : Nat) : Int) = ((words n : Nat) : Int)) && (List.range (64 * r.length)).all fun k => decide (((k : Nat) : Int) < n) || !hasR r ((k : Nat) : Int)
def rightS (n : Int) (rs : Rows) : Bool := okN n && decide (((rs.length : Nat) : Int) = n) && rs.all (rowOk n)
theorem rightS_no {n : Int} {rs : Rows} (h : ¬ (0 ≤ n ∧ n ≤ 4096 ∧ ((rs.length : Nat) : Int) = n)) : false = rightS n rs := by
  unfold rightS
  by_cases h1 : okN n = true
  · have := okN_iff.1 h1
    rw [show decide (((rs.length : Nat) : Int) = n) = false from decide_eq_false (by omega)]; simp
  · rw [show okN n = false from by simpa using h1]; rfl
theorem rowOk_len {n : Int} {r : Row} (h : ¬ ((r.length : Nat) : Int) = ((words n : Nat) : Int)) : rowOk n r = false := by unfold rowOk; rw [decide_eq_false h]; rfl
theorem rowOk_bit {n : Int} {r : Row} {k : Int} (h0 : 0 ≤ k) (h1 : n ≤ k) (h2 : k < 64 * ((r.length : Nat) : Int)) (hb : hasR r k = true) : rowOk n r = false := by
  unfold rowOk
  rw [Bool.and_eq_false_iff]
  right
  rw [List.all_eq_false]
  refine ⟨k.toNat, List.mem_range.2 (by omega), ?_⟩
  rw [show ((k.toNat : Nat) : Int) = k from by omega, hb, decide_eq_false (by omega)]; simp
theorem rowOk_yes {n : Int} {r : Row} {j : Int} (hl : ((r.length : Nat) : Int) = ((words n : Nat) : Int)) (h : ∀ k : Int, n ≤ k → k < j → hasR r k = false) (hj : 64 * ((r.length : Nat) : Int) ≤ j) : rowOk n r = true := by
  unfold rowOk
  rw [decide_eq_true hl, Bool.true_and, List.all_eq_true]
  intro k hk
  have := List.mem_range.1 hk
  by_cases hn : ((k : Nat) : Int) < n
  · rw [decide_eq_true hn]; rfl
  · rw [h _ (by omega) (by omega)]; simp
theorem right_row {n : Int} {rs : Rows} {i : Nat} {x : Row} (hx : rs[i]? = some x) (h : rowOk n x = false) : false = rightS n rs := by
  unfold rightS; rw [all_no hx h]; simp
theorem right_end_ {n : Int} {rs : Rows} {j : Nat} (h0 : 0 ≤ n) (h1 : n ≤ 4096) (h2 : ((rs.length : Nat) : Int) = n) (hs : (rs.take j).all (rowOk n) = true) (hj : rs.length ≤ j) : true = rightS n rs := by
  unfold rightS; rw [take_end hj] at hs; rw [okN_iff.2 ⟨h0, h1⟩, decide_eq_true h2, hs]; rfl
theorem right_matP {n : Nat} {p : Nat → Nat → Bool} (h : n ≤ 4096) : rightS ((n : Nat) : Int) (matP n p) = true := by
  refine (right_end_ (j := (matP n p).length) (by omega) (by omega) (by rw [matP_len]) ?_ (Nat.le_refl _)).symm
  rw [List.take_length, List.all_eq_true]
  intro x hx
  obtain ⟨i, hi⟩ := List.mem_iff_getElem?.1 hx
  obtain ⟨h1, rfl⟩ := matP_at hi
  refine rowOk_yes (j := 64 * (((rowP n (p i)).length : Nat) : Int)) (by rw [rowP_len]) (fun k hk hk2 => ?_) (Int.le_refl _)
  rw [rowP_has, decide_eq_false (show ¬ k < ((n : Nat) : Int) from by omega)]; simp

/-! ### the least that goes round -/
def loopF (n : Int) (rs : Rows) : Option Nat := (List.range n.toNat).find? fun i => hasM n rs ((i : Nat) : Int) ((i : Nat) : Int)
theorem find_hit {p : Nat → Bool} {n j : Nat} (hj : j < n) (hp : p j = true) (hl : ∀ k, k < j → p k = false) : (List.range n).find? p = some j := by
  rw [List.find?_eq_some_iff_append]
  refine ⟨hp, List.range j, (List.range (n - j - 1)).map (fun i => j + 1 + i), ?_, fun a ha => by rw [hl a (List.mem_range.1 ha)]; rfl⟩
  have : n = j + (1 + (n - j - 1)) := by omega
  conv => lhs; rw [this]
  rw [range_add_map, range_add_map]
  simp [Nat.add_assoc]
theorem find_miss {p : Nat → Bool} {n j : Nat} (hj : n ≤ j) (hl : ∀ k, k < j → p k = false) : (List.range n).find? p = none := by
  rw [List.find?_eq_none]
  intro k hk
  rw [hl k (by have := List.mem_range.1 hk; omega)]; simp
theorem loop_hit {n : Int} {rs : Rows} {j : Nat} (hj : ((j : Nat) : Int) < n) (hp : hasM n rs ((j : Nat) : Int) ((j : Nat) : Int) = true) (hl : ∀ k, k < j → hasM n rs ((k : Nat) : Int) ((k : Nat) : Int) = false) : loopF n rs = some j := find_hit (by omega) hp hl
theorem loop_miss {n : Int} {rs : Rows} {j : Nat} (hj : n ≤ ((j : Nat) : Int)) (hl : ∀ k, k < j → hasM n rs ((k : Nat) : Int) ((k : Nat) : Int) = false) : loopF n rs = none := find_miss (by omega) hl
theorem below_step {p : Nat → Bool} {j : Nat} (hl : ∀ k, k < j → p k = false) (h : p j = false) : ∀ k, k < j + 1 → p k = false := by
  intro k hk
  rcases Nat.lt_succ_iff_lt_or_eq.1 hk with h1 | rfl
  · exact hl k h1
  · exact h

/-! ### is it closed -/
def cl3 (n : Int) (rs : Rows) (i j k : Nat) : Bool := !(hasM n rs ((i : Nat) : Int) ((j : Nat) : Int) && hasM n rs ((j : Nat) : Int) ((k : Nat) : Int)) || hasM n rs ((i : Nat) : Int) ((k : Nat) : Int)
def cl2 (n : Int) (rs : Rows) (i j : Nat) : Bool := (List.range n.toNat).all (cl3 n rs i j)
def cl1 (n : Int) (rs : Rows) (i : Nat) : Bool := (List.range n.toNat).all (cl2 n rs i)
def closedM (n : Int) (rs : Rows) : Bool := (List.range n.toNat).all (cl1 n rs)
theorem ra_step {p : Nat → Bool} {j : Nat} (h : (List.range j).all p = true) (hp : p j = true) : (List.range (j + 1)).all p = true := by
  rw [List.range_succ, List.all_append, h]; simp [hp]
theorem ra_end {p : Nat → Bool} {j : Nat} {n : Int} (h : (List.range j).all p = true) (hj : n ≤ ((j : Nat) : Int)) : (List.range n.toNat).all p = true := by
  rw [List.all_eq_true] at h ⊢
  intro k hk
  exact h k (List.mem_range.2 (by have := List.mem_range.1 hk; omega))
theorem ra_no {p : Nat → Bool} {j : Nat} {n : Int} (hj : ((j : Nat) : Int) < n) (hp : p j = false) : (List.range n.toNat).all p = false := by
  rw [List.all_eq_false]; exact ⟨j, List.mem_range.2 (by omega), by rw [hp]; simp⟩
theorem cl2_no {n : Int} {rs : Rows} {i j : Nat} (h : hasM n rs ((i : Nat) : Int) ((j : Nat) : Int) = false) : cl2 n rs i j = true := by
  unfold cl2; rw [List.all_eq_true]; intro k _; unfold cl3; rw [h]; rfl
theorem closed_no {n : Int} {rs : Rows} {i j k : Nat} (hi : ((i : Nat) : Int) < n) (hj : ((j : Nat) : Int) < n) (hk : ((k : Nat) : Int) < n) (h1 : hasM n rs ((i : Nat) : Int) ((j : Nat) : Int) = true) (h2 : hasM n rs ((j : Nat) : Int) ((k : Nat) : Int) = true) (h3 : hasM n rs ((i : Nat) : Int) ((k : Nat) : Int) = false) : false = closedM n rs := by
  have e3 : cl3 n rs i j k = false := by unfold cl3; rw [h1, h2, h3]; rfl
  have e2 : cl2 n rs i j = false := ra_no hk e3
  have e1 : cl1 n rs i = false := ra_no hj e2
  exact (ra_no hi e1).symm
theorem cl3_yes {n : Int} {rs : Rows} {i j k : Nat} (h : hasM n rs ((j : Nat) : Int) ((k : Nat) : Int) = false ∨ hasM n rs ((i : Nat) : Int) ((k : Nat) : Int) = true) : cl3 n rs i j k = true := by
  unfold cl3; rcases h with h | h <;> rw [h] <;> simp
theorem closed_matP {n : Nat} {p : Nat → Nat → Bool} : closedM ((n : Nat) : Int) (matP n p) = true ↔ ∀ i j k, i < n → j < n → k < n → p i j = true → p j k = true → p i k = true := by
  unfold closedM cl1 cl2 cl3
  simp only [List.all_eq_true, List.mem_range, Int.toNat_natCast]
  constructor
  · intro h i j k hi hj hk h1 h2
    have := h i hi j hj k hk
    rw [hasM_nat hi hj, hasM_nat hj hk, hasM_nat hi hk, h1, h2] at this
    simpa using this
  · intro h i hi j hj k hk
    rw [hasM_nat hi hj, hasM_nat hj hk, hasM_nat hi hk]
    cases h1 : p i j <;> cases h2 : p j k <;> simp
    exact h i j k hi hj hk h1 h2

/-! ### pairs -/
def rowsP (rs : Rows) (i : Nat) : List (Int × Int) := (listR (rowAt rs ((i : Nat) : Int))).map fun j => (((i : Nat) : Int), j)
def pairsTo (rs : Rows) (i : Nat) : List (Int × Int) := (List.range i).flatMap (rowsP rs)
def pairsM (n : Int) (rs : Rows) : List (Int × Int) := pairsTo rs n.toNat
theorem pairsTo_step (rs : Rows) (i : Nat) : pairsTo rs (i + 1) = pairsTo rs i ++ rowsP rs i := by unfold pairsTo; rw [List.range_succ, List.flatMap_append]; simp
theorem listR_rowP (n : Nat) (q : Nat → Bool) : listR (rowP n q) = ((List.range n).filter q).map fun k => ((k : Nat) : Int) := by
  rw [← listN_all]
  unfold listN
  congr 1
  have hl := rowP_len n q
  rw [words_nat] at hl
  have e : 64 * (rowP n q).length = n + (64 * (rowP n q).length - n) := by omega
  rw [e, range_add_map, List.filter_append]
  have e2 : ((List.range (64 * (rowP n q).length - n)).map fun i => n + i).filter (fun k => hasR (rowP n q) ((k : Nat) : Int)) = [] := by
    rw [List.filter_eq_nil_iff]
    intro k hk
    obtain ⟨i, -, rfl⟩ := List.mem_map.1 hk
    rw [rowP_has, decide_eq_false (show ¬ (((n + i : Nat) : Nat) : Int) < ((n : Nat) : Int) from by omega)]; simp
  rw [e2, List.append_nil]
  apply List.filter_congr
  intro k hk
  have := List.mem_range.1 hk
  rw [rowP_has]
  simp [this]
theorem rowsP_matP {n : Nat} {p : Nat → Nat → Bool} {i : Nat} (h : i < n) : rowsP (matP n p) i = ((List.range n).filter (p i)).map fun j => (((i : Nat) : Int), ((j : Nat) : Int)) := by
  unfold rowsP
  rw [rowAt_matP (by omega) (by omega), Int.toNat_natCast, listR_rowP, List.map_map]; rfl
theorem mem_pairs {n : Nat} {p : Nat → Nat → Bool} {z : Int × Int} : z ∈ pairsM ((n : Nat) : Int) (matP n p) ↔ ∃ a b, a < n ∧ b < n ∧ p a b = true ∧ z = (((a : Nat) : Int), ((b : Nat) : Int)) := by
  unfold pairsM pairsTo
  rw [List.mem_flatMap]
  constructor
  · rintro ⟨a, ha, hz⟩
    have ha := List.mem_range.1 ha
    rw [Int.toNat_natCast] at ha
    rw [rowsP_matP ha] at hz
    obtain ⟨b, hb, rfl⟩ := List.mem_map.1 hz
    rw [List.mem_filter, List.mem_range] at hb
    exact ⟨a, b, ha, hb.1, hb.2, rfl⟩
  · rintro ⟨a, b, ha, hb, hp, rfl⟩
    refine ⟨a, List.mem_range.2 (by simpa using ha), ?_⟩
    rw [rowsP_matP ha]
    exact List.mem_map.2 ⟨b, List.mem_filter.2 ⟨List.mem_range.2 hb, hp⟩, rfl⟩
def rowSum (n : Nat) (p : Nat → Nat → Bool) : Nat := ((List.range n).map fun a => ((List.range n).filter (p a)).length).sum
theorem pairs_len {n : Nat} {p : Nat → Nat → Bool} : (pairsM ((n : Nat) : Int) (matP n p)).length = rowSum n p := by
  unfold pairsM pairsTo rowSum
  rw [List.length_flatMap, Int.toNat_natCast]
  congr 1
  apply List.map_congr_left
  intro a ha
  rw [rowsP_matP (List.mem_range.1 ha), List.length_map]
theorem pairs_small {n : Nat} {p : Nat → Nat → Bool} : (pairsM ((n : Nat) : Int) (matP n p)).length ≤ n * n := by
  rw [pairs_len]; unfold rowSum
  have : ∀ l : List Nat, (l.map fun a => ((List.range n).filter (p a)).length).sum ≤ l.length * n := by
    intro l
    induction l with
    | nil => simp
    | cons a l ih =>
      have h1 := List.length_filter_le (p a) (List.range n)
      rw [List.length_range] at h1
      simp only [List.map_cons, List.sum_cons, List.length_cons, Nat.add_mul, Nat.one_mul]; omega
  have h := this (List.range n)
  rwa [List.length_range] at h
theorem rowsP_len {rs : Rows} (hr : ∀ x ∈ rs, x.length ≤ 64) (i : Nat) : (rowsP rs i).length ≤ 4096 := by
  unfold rowsP
  rw [List.length_map]
  have h1 := listR_length (rowAt rs ((i : Nat) : Int))
  have : (rowAt rs ((i : Nat) : Int)).length ≤ 64 := by
    unfold rowAt
    rw [List.getD_eq_getElem?_getD]
    cases h : rs[((i : Nat) : Int).toNat]? with
    | none => simp
    | some x => exact hr x (List.mem_of_getElem? h)
  omega
theorem pairsTo_len {rs : Rows} (hr : ∀ x ∈ rs, x.length ≤ 64) : ∀ i, (pairsTo rs i).length ≤ 4096 * i
  | 0 => by simp [pairsTo]
  | i + 1 => by
    have := pairsTo_len hr i
    have := rowsP_len hr i
    rw [pairsTo_step, List.length_append]; omega
theorem rowsP_of {rs : Rows} {i : Nat} {x : Row} (hx : rs[((i : Nat) : Int).toNat]? = some x) : rowsP rs i = (listR x).map fun j => (((i : Nat) : Int), j) := by unfold rowsP; rw [rowAt_of hx]
theorem pair_step {rs : Rows} {i q : Nat} {x : Row} {y : Int} (hy : (listR x)[((q : Nat) : Int).toNat]? = some y) : (pairsTo rs i ++ ((listR x).take q).map fun j => (((i : Nat) : Int), j)) ++ [(((i : Nat) : Int), y)] = pairsTo rs i ++ ((listR x).take (q + 1)).map fun j => (((i : Nat) : Int), j) := by
  rw [take_at hy, List.map_append, List.append_assoc]; rfl
theorem pair_row {rs : Rows} {i q : Nat} {x : Row} (hx : rs[((i : Nat) : Int).toNat]? = some x) (hq : (listR x).length ≤ q) : (pairsTo rs i ++ ((listR x).take q).map fun j => (((i : Nat) : Int), j)) = pairsTo rs (i + 1) := by
  rw [take_end hq, pairsTo_step, rowsP_of hx]
theorem pairs_end {rs : Rows} {n : Int} {i : Nat} (h : n ≤ ((i : Nat) : Int)) (hi : ((i : Nat) : Int) ≤ n ∨ i = 0) : pairsTo rs i = pairsM n rs := by
  unfold pairsM; rw [show n.toNat = i from by omega]
/-- Counted by columns. -/
theorem sum_col {A B : Type} (p : A → B → Bool) (a : A) (la : List A) : ∀ lb : List B, (lb.filter (p a)).length + (lb.map fun b => (la.filter fun a => p a b).length).sum = (lb.map fun b => ((a :: la).filter fun a => p a b).length).sum
  | [] => rfl
  | b :: lb => by
    have ih := sum_col p a la lb
    rw [List.map_cons, List.sum_cons, List.map_cons, List.sum_cons, ← ih, List.filter_cons, List.filter_cons]
    cases p a b
    · simp only [Bool.false_eq_true, if_false]; omega
    · simp only [if_true, List.length_cons]; omega
theorem sum_zero {B : Type} : ∀ lb : List B, (lb.map fun _ => 0).sum = 0
  | [] => rfl
  | _ :: lb => by rw [List.map_cons, List.sum_cons, sum_zero lb]
theorem sum_swap {A B : Type} (p : A → B → Bool) (lb : List B) : ∀ la : List A, (la.map fun a => (lb.filter (p a)).length).sum = (lb.map fun b => (la.filter fun a => p a b).length).sum
  | [] => by simp only [List.map_nil, List.sum_nil, List.filter_nil, List.length_nil]; exact (sum_zero lb).symm
  | a :: la => by rw [List.map_cons, List.sum_cons, sum_swap p lb la, sum_col]
theorem col_count {its : List ItemL} (o : OrdI its) {b : Nat} (hb : b < its.length) : ((((List.range its.length).filter fun a => ahN its a b).length : Nat) : Int) = plcN its b := by
  obtain ⟨b1, b2⟩ := o.back b hb
  have b0 := o.nonneg b hb
  have key : ∀ a ∈ List.range its.length, ahN its a b = (decide ((((b : Nat) : Int) - plcN its b).toNat ≤ a) && decide (a < b)) := by
    intro a ha
    have ha := List.mem_range.1 ha
    unfold ahN
    rw [Bool.eq_iff_iff]
    simp only [Bool.and_eq_true, decide_eq_true_eq]
    constructor
    · rintro ⟨⟨h1, h2⟩, h3⟩
      have := o.place (b - a) a (by omega) (by rw [show a + (b - a) = b from by omega]; exact h3)
      rw [show a + (b - a) = b from by omega] at this
      have := o.nonneg a ha
      omega
    · rintro ⟨h1, h2⟩
      exact ⟨⟨h2, hb⟩, b2 a (by omega) (by omega)⟩
  rw [List.filter_congr key, filter_range_between its.length (by omega) (by omega), List.length_map, List.length_range]
  omega
theorem sum_cast : ∀ l : List Nat, ((l.sum : Nat) : Int) = (l.map fun x => ((x : Nat) : Int)).sum
  | [] => rfl
  | x :: l => by simp only [List.sum_cons, List.map_cons]; rw [← sum_cast l]; omega
theorem po_pairs {its : List ItemL} (o : OrdI its) : (((pairsM ((its.length : Nat) : Int) (poR its)).length : Nat) : Int) = (its.map fun x => x.2.1).sum := by
  unfold poR
  rw [pairs_len]
  unfold rowSum
  rw [sum_swap (ahN its) (List.range its.length) (List.range its.length), sum_cast, List.map_map]
  have : its.map (fun x => x.2.1) = (List.range its.length).map (plcN its) := by
    apply List.ext_getElem
    · simp
    · intro i h1 h2
      simp only [List.length_map] at h1
      simp [plcN, List.getD_eq_getElem?_getD, h1]
  rw [this]
  congr 1
  apply List.map_congr_left
  intro b hb
  exact col_count o (List.mem_range.1 hb)

/-! ### places, summed -/
def tri (n : Nat) : Int := ((n : Nat) : Int) * (((n : Nat) : Int) - 1) / 2
theorem tri_bound : ∀ n : Nat, n < 41 → 0 ≤ ((n : Nat) : Int) * (((n : Nat) : Int) - 1) ∧ ((n : Nat) : Int) * (((n : Nat) : Int) - 1) ≤ 1600 := by decide
theorem tri_succ (n : Nat) : tri (n + 1) = tri n + ((n : Nat) : Int) := by
  unfold tri
  have : (((n + 1 : Nat) : Nat) : Int) * ((((n + 1 : Nat) : Nat) : Int) - 1) = ((n : Nat) : Int) * (((n : Nat) : Int) - 1) + 2 * ((n : Nat) : Int) := by
    rw [show (((n + 1 : Nat) : Nat) : Int) = ((n : Nat) : Int) + 1 from by omega, show ((n : Nat) : Int) + 1 - 1 = ((n : Nat) : Int) from by omega, Int.add_mul, Int.mul_sub]
    omega
  rw [this]; omega
def plcSum (its : List ItemL) : Int := (its.map fun x => x.2.1).sum
theorem plcSum_snoc (its : List ItemL) (x : ItemL) : plcSum (its ++ [x]) = plcSum its + x.2.1 := by unfold plcSum; simp
theorem toO_plc (j : Nat) (st : StO) (ops : List OpL) : ∀ k, k ≤ ops.length → plcSum (toO j st ops k).2 = plcSum st.2 + tri k
  | 0, _ => by rw [toO_zero]; simp [tri]
  | k + 1, h => by
    have hx : ops[((k : Nat) : Int).toNat]? = some ops[k] := by rw [Int.toNat_natCast]; exact List.getElem?_eq_getElem (by omega)
    rw [toO_step hx]
    unfold stepO
    rw [plcSum_snoc, toO_plc j st ops k (by omega), tri_succ]
    show _ + tri k + ((k : Nat) : Int) = _
    omega
def triTo (h : HistL) (j : Nat) : Int := ((h.take j).map fun l => tri l.length).sum
theorem triTo_step {h : HistL} {j : Nat} {x : List OpL} (hx : h[((j : Nat) : Int).toNat]? = some x) : triTo h (j + 1) = triTo h j + tri x.length := by unfold triTo; rw [take_at hx]; simp
theorem allO_plc (h : HistL) : ∀ j, j ≤ h.length → plcSum (allO h j).2 = triTo h j
  | 0, _ => rfl
  | j + 1, hj => by
    have hx : h[((j : Nat) : Int).toNat]? = some h[j] := by rw [Int.toNat_natCast]; exact List.getElem?_eq_getElem (by omega)
    rw [allO_step hx, triTo_step hx, ← allO_plc h j (by omega)]
    exact toO_plc j (allO h j) h[j] _ (Nat.le_refl _)
theorem order_count {h : HistL} (hr : rightH h = true) {j : Nat} (hj : h.length ≤ j) : (((pairsM (((ofI h).length : Nat) : Int) (poR (ofI h))).length : Nat) : Int) = triTo h j := by
  rw [po_pairs (ofI_ord h), (of_ok hr).2.1]
  have := allO_plc h h.length (Nat.le_refl _)
  unfold factI
  unfold plcSum at this
  rw [this]
  unfold triTo
  rw [List.take_of_length_le hj, List.take_length]
theorem tri_le {h : HistL} {n : Nat} (hn : n ≤ 40) (hf : ∀ l ∈ h, l.length ≤ 40) : ∀ j, 0 ≤ triTo h j ∧ triTo h j ≤ 800 * ((j : Nat) : Int)
  | 0 => by simp [triTo]
  | j + 1 => by
    have ih := tri_le hn hf j
    by_cases hj : j < h.length
    · have hx : h[((j : Nat) : Int).toNat]? = some h[j] := by rw [Int.toNat_natCast]; exact List.getElem?_eq_getElem hj
      rw [triTo_step hx]
      have h1 := hf h[j] (List.getElem_mem _)
      have h2 := tri_bound (h[j]).length (by omega)
      unfold tri
      omega
    · have : triTo h (j + 1) = triTo h j := by unfold triTo; rw [List.take_of_length_le (by omega), List.take_of_length_le (by omega)]
      rw [this]; omega
theorem ses_lens {h : HistL} (hs : smallH h 40 = true) : ∀ l ∈ h, l.length ≤ 40 := by
  intro l hl
  have h1 := (small_iff.1 hs).2.1
  have : l.length ≤ h.flatten.length := by
    clear h1 hs
    induction h with
    | nil => cases hl
    | cons y h ih =>
      rw [List.flatten_cons, List.length_append]
      rcases List.mem_cons.1 hl with rfl | hl
      · omega
      · have := ih hl; omega
  omega
/-- what session order is -/
theorem po_closed (its : List ItemL) : closedM ((its.length : Nat) : Int) (poR its) = true := by
  unfold poR
  rw [closed_matP]
  intro i j k hi hj hk h1 h2
  unfold ahN at *
  simp only [Bool.and_eq_true, decide_eq_true_eq] at *
  exact ⟨⟨by omega, hk⟩, by rw [h1.2, h2.2]⟩
theorem po_noloop (its : List ItemL) : loopF ((its.length : Nat) : Int) (poR its) = none := by
  unfold loopF
  rw [List.find?_eq_none]
  intro k hk
  have hk := List.mem_range.1 hk
  rw [Int.toNat_natCast] at hk
  unfold poR
  rw [hasM_nat hk hk]
  unfold ahN; simp
theorem po_right {its : List ItemL} (h : its.length ≤ 4096) : rightS ((its.length : Nat) : Int) (poR its) = true := right_matP h
theorem po_pair {its : List ItemL} {z : Int × Int} {q : Nat} (hz : (pairsM ((its.length : Nat) : Int) (poR its))[q]? = some z) : ahA its z.1 z.2 = true ∧ ahA its z.2 z.1 = false ∧ 0 ≤ z.1 ∧ z.1 < (its.length : Int) ∧ 0 ≤ z.2 ∧ z.2 < (its.length : Int) ∧ sesN its z.1.toNat = sesN its z.2.toNat := by
  have hm := List.mem_of_getElem? hz
  unfold poR at hm
  obtain ⟨a, b, ha, hb, hp, rfl⟩ := mem_pairs.1 hm
  dsimp only
  rw [ahA_N, ahA_N]
  refine ⟨hp, ?_, by omega, by omega, by omega, by omega, ?_⟩
  · unfold ahN at *
    simp only [Bool.and_eq_true, decide_eq_true_eq] at hp
    rw [decide_eq_false (by omega)]; rfl
  · unfold ahN at hp
    simp only [Bool.and_eq_true, decide_eq_true_eq] at hp
    simpa using hp.2
/-- what a past is -/
theorem pastA_len {its : List ItemL} (o : OrdI its) {t : Int} (h0 : 0 ≤ t) (h : t < (its.length : Int)) : (((pastA its t).length : Nat) : Int) = plcN its t.toNat + 1 := by
  have := o.nonneg t.toNat (by omega)
  unfold pastA; rw [if_pos ⟨h0, h⟩]; simp; omega
theorem past_at {its : List ItemL} (o : OrdI its) {t : Int} (h0 : 0 ≤ t) (h : t < (its.length : Int)) {q : Nat} {x : Int} (hx : (pastA its t)[q]? = some x) : 0 ≤ x ∧ x ≤ t ∧ x < (its.length : Int) ∧ sesN its x.toNat = sesN its t.toNat ∧ plcN its x.toNat = ((q : Nat) : Int) ∧ x = t - plcN its t.toNat + ((q : Nat) : Int) := by
  obtain ⟨b1, b2⟩ := o.back t.toNat (by omega)
  have b0 := o.nonneg t.toNat (by omega)
  unfold pastA at hx
  rw [if_pos ⟨h0, h⟩, List.getElem?_map] at hx
  cases hr : (List.range ((plcN its t.toNat).toNat + 1))[q]? with
  | none => rw [hr] at hx; cases hx
  | some k =>
    rw [hr] at hx
    obtain ⟨h1, h2⟩ := List.getElem?_eq_some_iff.1 hr
    simp only [List.length_range] at h1
    rw [List.getElem_range] at h2
    subst h2
    have hx : (t - plcN its t.toNat) + ((q : Nat) : Int) = x := Option.some.inj hx
    have hs := b2 x.toNat (by omega) (by omega)
    refine ⟨by omega, by omega, by omega, hs, ?_, hx.symm⟩
    have := o.place (t.toNat - x.toNat) x.toNat (by omega) (by rw [show x.toNat + (t.toNat - x.toNat) = t.toNat from by omega]; exact hs)
    rw [show x.toNat + (t.toNat - x.toNat) = t.toNat from by omega] at this
    omega
theorem matP_64 {n : Nat} {p : Nat → Nat → Bool} (h : n ≤ 4096) : ∀ x ∈ matP n p, x.length ≤ 64 := by
  intro x hx
  obtain ⟨i, hi⟩ := List.getElem?_of_mem hx
  obtain ⟨-, rfl⟩ := matP_at hi
  have h1 := rowP_len n (p i)
  have := words_le (n := ((n : Nat) : Int)) (by omega)
  omega
end Go.Ew
namespace Go.Ew
set_option linter.unusedVariables false
set_option linter.unusedSimpArgs false

theorem rowOk_is {n : Nat} {r : Row} (h : rowOk ((n : Nat) : Int) r = true) : r = rowP n fun k => hasR r ((k : Nat) : Int) := by
  unfold rowOk at h
  rw [Bool.and_eq_true, decide_eq_true_eq, List.all_eq_true] at h
  refine row_is (by omega) fun k => ?_
  by_cases hk : k < n
  · simp [hk]
  · rw [decide_eq_false hk, Bool.false_and]
    by_cases h2 : k < 64 * r.length
    · have := h.2 k (List.mem_range.2 h2)
      rw [decide_eq_false (show ¬ ((k : Nat) : Int) < ((n : Nat) : Int) from by omega), Bool.false_or] at this
      simpa using this
    · exact (hasR_out (by unfold inR; exact decide_eq_false (by omega))).symm
/-- What is right is told by what it has. -/
theorem right_is {n : Int} {rs : Rows} (h : rightS n rs = true) : ∃ (m : Nat) (p : Nat → Nat → Bool), n = ((m : Nat) : Int) ∧ m ≤ 4096 ∧ rs = matP m p := by
  unfold rightS at h
  rw [Bool.and_eq_true, Bool.and_eq_true, decide_eq_true_eq, List.all_eq_true] at h
  obtain ⟨⟨h1, h2⟩, h3⟩ := h
  have h1 := okN_iff.1 h1
  refine ⟨n.toNat, fun i j => hasR (rs.getD i []) ((j : Nat) : Int), by omega, by omega, mat_is (by omega) fun i hi => ?_⟩
  have hx : rs[i]? = some rs[i] := List.getElem?_eq_getElem (by omega)
  have e : rs.getD i [] = rs[i] := by rw [List.getD_eq_getElem?_getD, hx]; rfl
  rw [hx, e]
  have := rowOk_is (n := n.toNat) (r := rs[i]) (by rw [show ((n.toNat : Nat) : Int) = n from by omega]; exact h3 _ (List.getElem_mem _))
  rw [← this]
theorem right_sq {n : Int} {rs : Rows} (h : rightS n rs = true) : ((rs.length : Nat) : Int) = n ∧ (∀ x ∈ rs, x.length ≤ 1000000000) ∧ n ≤ 4096 ∧ 0 ≤ n ∧ ∀ x ∈ rs, x.length ≤ 64 := by
  obtain ⟨m, p, rfl, hm, rfl⟩ := right_is h
  exact ⟨by rw [matP_len], matP_small hm, by omega, by omega, matP_64 hm⟩

/-! ### together -/
def orRs (a b : Rows) (n : Nat) : Rows := (List.range n).map fun i => orR (rowAt a ((i : Nat) : Int)) (rowAt b ((i : Nat) : Int))
theorem orRs_len (a b : Rows) (n : Nat) : (orRs a b n).length = n := by unfold orRs; simp
theorem orRs_step (a b : Rows) (n : Nat) : orRs a b (n + 1) = orRs a b n ++ [orR (rowAt a ((n : Nat) : Int)) (rowAt b ((n : Nat) : Int))] := by unfold orRs; rw [List.range_succ, List.map_append]; rfl
def orMN (an bn : Int) : Int := if an = bn then an else 0
def orMR (an : Int) (ar : Rows) (bn : Int) (br : Rows) : Rows := if an = bn then orRs ar br an.toNat else []
def orME (an bn : Int) : Int := if an = bn then 0 else 1
theorem orM_no {an bn : Int} {ar br : Rows} (h : ¬ an = bn) : orMN an bn = 0 ∧ orMR an ar bn br = [] ∧ orME an bn = 1 := by unfold orMN orMR orME; simp [h]
theorem orM_yes {an bn : Int} {ar br : Rows} (h : an = bn) : orMN an bn = an ∧ orMR an ar bn br = orRs ar br an.toNat ∧ orME an bn = 0 := by unfold orMN orMR orME; simp [h]
/-- filled one by one -/
def orFill (a b : Rows) (n j : Nat) : Rows := orRs a b j ++ List.replicate (n - j) []
theorem orFill_zero (a b : Rows) (n : Nat) : List.replicate n [] = orFill a b n 0 := by unfold orFill orRs; simp
theorem orFill_set {a b : Rows} {n j : Nat} {x y : Row} (hj : j < n) (hx : a[((j : Nat) : Int).toNat]? = some x) (hy : b[((j : Nat) : Int).toNat]? = some y) : (orFill a b n j).set j (orR x y) = orFill a b n (j + 1) := by
  unfold orFill
  rw [orRs_step, rowAt_of hx, rowAt_of hy]
  have hl := orRs_len a b j
  rw [List.set_append_right _ _ (by omega), hl, Nat.sub_self, show n - j = n - (j + 1) + 1 from by omega, List.replicate_succ, List.set_cons_zero]
  simp
theorem orFill_end {a b : Rows} {n j : Nat} (hj : n ≤ j) (h : j ≤ n) : orFill a b n j = orRs a b n := by
  obtain rfl : n = j := by omega
  unfold orFill; simp
theorem or_rowP {n : Nat} (p q : Nat → Bool) : orR (rowP n p) (rowP n q) = rowP n fun k => p k || q k := by
  refine row_is (by rw [orR_length, rowP_len, rowP_len]; omega) fun k => ?_
  rw [hasR_or, rowP_has, rowP_has]
  by_cases hk : k < n <;> simp [hk]
theorem orRs_matP {n : Nat} (p q : Nat → Nat → Bool) : orRs (matP n p) (matP n q) n = matP n fun a b => p a b || q a b := by
  refine mat_is (orRs_len _ _ _) fun i hi => ?_
  unfold orRs
  rw [List.getElem?_map, List.getElem?_range hi]
  simp only [Option.map_some]
  rw [rowAt_matP (by omega) (by omega), rowAt_matP (by omega) (by omega), Int.toNat_natCast, or_rowP]

/-! ### parts -/
def subRs (a b : Rows) (n : Nat) : Bool := (List.range n).all fun i => subR (rowAt a ((i : Nat) : Int)) (rowAt b ((i : Nat) : Int))
def subM (an : Int) (ar : Rows) (bn : Int) (br : Rows) : Bool := decide (an = bn) && subRs ar br an.toNat
theorem subM_ne {an bn : Int} {ar br : Rows} (h : ¬ an = bn) : false = subM an ar bn br := by unfold subM; rw [decide_eq_false h]; rfl
theorem subM_no {an bn : Int} {ar br : Rows} {i : Nat} {x y : Row} (hi : ((i : Nat) : Int) < an) (hx : ar[((i : Nat) : Int).toNat]? = some x) (hy : br[((i : Nat) : Int).toNat]? = some y) (h : subR x y = false) : false = subM an ar bn br := by
  unfold subM
  symm
  rw [Bool.and_eq_false_iff]
  right
  unfold subRs
  rw [List.all_eq_false]
  exact ⟨i, List.mem_range.2 (by omega), by rw [rowAt_of hx, rowAt_of hy, h]; simp⟩
theorem subRs_step {a b : Rows} {i : Nat} {x y : Row} (h : subRs a b i = true) (hx : a[((i : Nat) : Int).toNat]? = some x) (hy : b[((i : Nat) : Int).toNat]? = some y) (hs : subR x y = true) : subRs a b (i + 1) = true := by
  unfold subRs at *
  rw [List.range_succ, List.all_append, h]
  simp only [List.all_cons, List.all_nil, Bool.and_true, Bool.true_and]
  rw [rowAt_of hx, rowAt_of hy, hs]
theorem subM_yes {an bn : Int} {ar br : Rows} {i : Nat} (h : an = bn) (hi : an ≤ ((i : Nat) : Int)) (hi2 : ((i : Nat) : Int) ≤ an ∨ i = 0) (hs : subRs ar br i = true) : true = subM an ar bn br := by
  unfold subM
  rw [decide_eq_true h, show an.toNat = i from by omega, hs]; rfl
theorem sub_rowP {n : Nat} {p q : Nat → Bool} : subR (rowP n p) (rowP n q) = true ↔ ∀ k, k < n → p k = true → q k = true := by
  rw [subR_iff]
  constructor
  · intro h k hk hp
    have := h ((k : Nat) : Int) (by rw [rowP_has]; simp [hk, hp])
    rw [rowP_has] at this
    simpa [hk] using this
  · intro h i hi
    rw [rowP_has] at hi ⊢
    simp only [Bool.and_eq_true, decide_eq_true_eq] at hi ⊢
    exact ⟨hi.1, h _ (by omega) hi.2⟩
theorem subM_matP {n : Nat} {p q : Nat → Nat → Bool} : subM ((n : Nat) : Int) (matP n p) ((n : Nat) : Int) (matP n q) = true ↔ ∀ i j, i < n → j < n → p i j = true → q i j = true := by
  unfold subM subRs
  rw [decide_eq_true rfl, Bool.true_and, List.all_eq_true]
  simp only [List.mem_range, Int.toNat_natCast]
  constructor
  · intro h i j hi hj
    have := h i hi
    rw [rowAt_matP (by omega) (by omega), rowAt_matP (by omega) (by omega), Int.toNat_natCast, sub_rowP] at this
    exact this j hj
  · intro h i hi
    rw [rowAt_matP (by omega) (by omega), rowAt_matP (by omega) (by omega), Int.toNat_natCast, sub_rowP]
    exact fun j hj => h i j hi hj
def sameM (an : Int) (ar : Rows) (bn : Int) (br : Rows) : Bool := decide (an = bn) && decide (ar = br)
theorem sameM_refl (n : Int) (rs : Rows) : sameM n rs n rs = true := by unfold sameM; simp
/-! ### small ones -/
def smallM (rs : Rows) (m : Int) : Bool := decide (((rs.length : Nat) : Int) ≤ m) && rs.all fun r => decide (r.length ≤ 4)
theorem smallM_big {rs : Rows} {m : Int} (h : m < ((rs.length : Nat) : Int)) : false = smallM rs m := by unfold smallM; rw [decide_eq_false (by omega)]; rfl
theorem smallM_row {rs : Rows} {m : Int} {i : Nat} {x : Row} (hx : rs[i]? = some x) (h : 4 < x.length) : false = smallM rs m := by unfold smallM; rw [all_no hx (decide_eq_false (by omega))]; simp
theorem smallM_end {rs : Rows} {m : Int} {j : Nat} (h : ¬ m < ((rs.length : Nat) : Int)) (hs : (rs.take j).all (fun r => decide (r.length ≤ 4)) = true) (hj : rs.length ≤ j) : true = smallM rs m := by
  unfold smallM; rw [take_end hj] at hs; rw [decide_eq_true (by omega), hs]; rfl
theorem smallM_iff {rs : Rows} {m : Int} : smallM rs m = true ↔ ((rs.length : Nat) : Int) ≤ m ∧ ∀ r ∈ rs, r.length ≤ 4 := by
  unfold smallM; rw [Bool.and_eq_true, decide_eq_true_eq, List.all_eq_true]
  simp only [decide_eq_true_eq]

/-! ### the two ways to say 'right' -/
theorem spareW_bit {n : Int} {i : Nat} (hi : i < 64) : (spareW n).getLsbD i = (decide (n % 64 = 0) || decide (((i : Nat) : Int) < n % 64)) := by
  unfold spareW
  split
  · rw [lowW_bit, decide_eq_true hi, decide_eq_false (show ¬ n % 64 = 0 from by omega)]; simp
  · rw [decide_eq_true (show n % 64 = 0 from by omega), Bool.true_or, show (18446744073709551615#64 : BitVec 64) = BitVec.allOnes 64 from by decide, BitVec.getLsbD_allOnes]
    exact decide_eq_true hi
theorem spare_zero {x sp : BitVec 64} : x &&& ~~~sp = 0#64 ↔ ∀ i, i < 64 → sp.getLsbD i = false → x.getLsbD i = false := by
  constructor
  · intro h i hi hs
    have := congrArg (fun y => y.getLsbD i) h
    simp only [BitVec.getLsbD_and, BitVec.getLsbD_not, hs, hi, BitVec.getLsbD_zero] at this
    simpa using this
  · intro h
    apply BitVec.eq_of_getLsbD_eq
    intro i hi
    rw [BitVec.getLsbD_and, BitVec.getLsbD_not, BitVec.getLsbD_zero]
    cases hs : sp.getLsbD i with
    | true => simp
    | false => rw [h i hi hs]; rfl
theorem badRow_ok {n : Nat} {r : Row} (h0 : 1 ≤ n) : badRow ((words ((n : Nat) : Int) : Nat) : Int) (spareW ((n : Nat) : Int)) r = !rowOk ((n : Nat) : Int) r := by
  by_cases hl : ((r.length : Nat) : Int) = ((words ((n : Nat) : Int) : Nat) : Int)
  · unfold badRow
    rw [decide_eq_true hl, Bool.not_true, Bool.false_or]
    congr 1
    rw [Bool.eq_iff_iff, decide_eq_true_eq, spare_zero]
    unfold rowOk
    rw [decide_eq_true hl, Bool.true_and, List.all_eq_true]
    rw [words_nat] at hl ⊢
    have e1 : ((((n + 63) / 64 : Nat) : Int) - 1).toNat = (n + 63) / 64 - 1 := by omega
    rw [e1]
    constructor
    · intro h k hk
      have hk := List.mem_range.1 hk
      by_cases hn : k < n
      · rw [decide_eq_true (by omega)]; rfl
      · rw [hasR_nat, show k / 64 = (n + 63) / 64 - 1 from by omega, h (k % 64) (by omega) (by
          rw [spareW_bit (by omega), decide_eq_false (by omega), decide_eq_false (by omega)]; rfl)]
        simp
    · intro h i hi hs
      rw [spareW_bit hi] at hs
      simp only [Bool.or_eq_false_iff, decide_eq_false_iff_not] at hs
      have := h (64 * ((n + 63) / 64 - 1) + i) (List.mem_range.2 (by omega))
      rw [decide_eq_false (by omega), Bool.false_or, hasR_nat, show (64 * ((n + 63) / 64 - 1) + i) / 64 = (n + 63) / 64 - 1 from by omega, show (64 * ((n + 63) / 64 - 1) + i) % 64 = i from by omega] at this
      simpa using this
  · rw [rowOk_len hl]
    unfold badRow
    rw [decide_eq_false hl]; rfl
theorem right_two (n : Int) (rs : Rows) : rightM n rs = rightS n rs := by
  unfold rightM rightS
  by_cases h1 : okN n = true
  · by_cases h2 : ((rs.length : Nat) : Int) = n
    · rw [h1, decide_eq_true h2, Bool.true_and, Bool.true_and]
      by_cases h3 : rs = []
      · rw [h3]; rfl
      · have hp := List.length_pos_iff.2 h3
        obtain ⟨m, rfl⟩ : ∃ m : Nat, n = ((m : Nat) : Int) := ⟨rs.length, h2.symm⟩
        have : badRow ((words ((m : Nat) : Int) : Nat) : Int) (spareW ((m : Nat) : Int)) = fun r => !rowOk ((m : Nat) : Int) r := by
          funext r; exact badRow_ok (by omega)
        rw [this, List.not_any_eq_all_not]
        simp
    · rw [decide_eq_false h2]; simp
  · rw [show okN n = false from by simpa using h1]; simp

/-! ### turned about -/
theorem pairs_mem {n : Nat} {p : Nat → Nat → Bool} {z : Int × Int} {q : Nat} (h : (pairsM ((n : Nat) : Int) (matP n p))[q]? = some z) : 0 ≤ z.1 ∧ z.1 < ((n : Nat) : Int) ∧ 0 ≤ z.2 ∧ z.2 < ((n : Nat) : Int) ∧ p z.1.toNat z.2.toNat = true := by
  obtain ⟨a, b, ha, hb, hp, rfl⟩ := mem_pairs.1 (List.mem_of_getElem? h)
  exact ⟨by omega, by omega, by omega, by omega, by simpa using hp⟩

/-! ### a law of two, element by element -/
def allTo {A : Type} (q : A → A → Bool) (a b : List A) (j : Nat) : Bool := ((a.take j).zip (b.take j)).all fun x => q x.1 x.2
def allQ {A : Type} (q : A → A → Bool) (a b : List A) : Bool := decide (a.length = b.length) && allTo q a b a.length
theorem allQ_len {A : Type} {q : A → A → Bool} {a b : List A} (h : ¬ ((a.length : Nat) : Int) = ((b.length : Nat) : Int)) : false = allQ q a b := by unfold allQ; rw [decide_eq_false (by omega)]; rfl
theorem zip_snoc {A B : Type} : ∀ (a : List A) (b : List B) (x : A) (y : B), a.length = b.length → (a ++ [x]).zip (b ++ [y]) = a.zip b ++ [(x, y)] := by
  intro a b x y h
  rw [List.zip_append h]; rfl
theorem allTo_next {A : Type} {q : A → A → Bool} {a b : List A} {j : Nat} {x y : A} (hx : a[((j : Nat) : Int).toNat]? = some x) (hy : b[((j : Nat) : Int).toNat]? = some y) : allTo q a b (j + 1) = (allTo q a b j && q x y) := by
  have h1 := (List.getElem?_eq_some_iff.1 hx).1
  have h2 := (List.getElem?_eq_some_iff.1 hy).1
  unfold allTo
  rw [take_at hx, take_at hy, zip_snoc _ _ _ _ (by rw [List.length_take, List.length_take]; omega), List.all_append]
  simp
theorem allTo_step {A : Type} {q : A → A → Bool} {a b : List A} {j : Nat} {x y : A} (h : allTo q a b j = true) (hx : a[((j : Nat) : Int).toNat]? = some x) (hy : b[((j : Nat) : Int).toNat]? = some y) (hq : q x y = true) : allTo q a b (j + 1) = true := by
  rw [allTo_next hx hy, h, hq]; rfl
theorem allQ_end {A : Type} {q : A → A → Bool} {a b : List A} {j : Nat} (hl : ((a.length : Nat) : Int) = ((b.length : Nat) : Int)) (h : allTo q a b j = true) (hj : a.length ≤ j) : true = allQ q a b := by
  unfold allQ
  rw [decide_eq_true (by omega)]
  unfold allTo at *
  rw [List.take_of_length_le hj, List.take_of_length_le (by omega)] at h
  rw [List.take_length, List.take_of_length_le (by omega), h]; rfl
theorem allQ_no {A : Type} {q : A → A → Bool} {a b : List A} {j : Nat} {x y : A} (hx : a[((j : Nat) : Int).toNat]? = some x) (hy : b[((j : Nat) : Int).toNat]? = some y) (hq : q x y = false) : false = allQ q a b := by
  symm
  unfold allQ
  rw [Bool.and_eq_false_iff]
  by_cases hl : a.length = b.length
  · right
    unfold allTo
    rw [List.all_eq_false]
    refine ⟨(x, y), ?_, by simp [hq]⟩
    rw [List.take_length, List.take_of_length_le (by omega)]
    rw [List.mem_iff_getElem?]
    exact ⟨((j : Nat) : Int).toNat, by rw [List.getElem?_zip_eq_some]; exact ⟨hx, hy⟩⟩
  · left; exact decide_eq_false hl
theorem allQ_eq {A : Type} [DecidableEq A] (a b : List A) : (allQ (fun x y => decide (x = y)) a b) = decide (a = b) := by
  by_cases h : a = b
  · subst h
    rw [decide_eq_true rfl]
    unfold allQ allTo
    rw [decide_eq_true rfl, Bool.true_and, List.all_eq_true]
    intro z hz
    obtain ⟨i, hi⟩ := List.mem_iff_getElem?.1 hz
    rw [List.getElem?_zip_eq_some] at hi
    exact decide_eq_true (Option.some.inj (hi.1.symm.trans hi.2))
  · rw [decide_eq_false h]
    cases hq : allQ (fun x y => decide (x = y)) a b with
    | false => rfl
    | true =>
      exfalso
      apply h
      unfold allQ at hq
      rw [Bool.and_eq_true, decide_eq_true_eq] at hq
      apply List.ext_getElem hq.1
      intro i h1 h2
      have := hq.2
      unfold allTo at this
      rw [List.all_eq_true, List.take_length, List.take_of_length_le (by omega)] at this
      have := this (a[i], b[i]) (by
        rw [List.mem_iff_getElem?]
        exact ⟨i, by rw [List.getElem?_zip_eq_some]; exact ⟨List.getElem?_eq_getElem h1, List.getElem?_eq_getElem h2⟩⟩)
      simpa using this
end Go.Ew
namespace Go.Ew
set_option linter.unusedVariables false
set_option linter.unusedSimpArgs false
set_option linter.unusedSectionVars false

theorem inM_mod {n i j : Int} (h : 0 < n) : inM n [i % n, j % n] = true := inM_two.2 ⟨⟨Int.emod_nonneg _ (by omega), Int.emod_lt_of_pos _ h⟩, Int.emod_nonneg _ (by omega), Int.emod_lt_of_pos _ h⟩
theorem right_pos {n : Int} {rs : Rows} (h : rightS n rs = true) : 0 ≤ n := (right_sq h).2.2.2.1
section
variable {n : Int} {rs : Rows} {i j : Int} (h : rightS n rs = true) (hi : inM n [i, j] = true)
include h hi
theorem set_right : rightS (setMN n i j) (setMR n rs i j) = true := by
  obtain ⟨m, p, rfl, hm, rfl⟩ := right_is h
  rw [(set_yes (rs := matP m p) hi).1, setMR_matP hi]
  exact right_matP hm
theorem or_set_right : rightS (orMN n (setMN n i j)) (orMR n rs (setMN n i j) (setMR n rs i j)) = true := by
  obtain ⟨m, p, rfl, hm, rfl⟩ := right_is h
  rw [(set_yes (rs := matP m p) hi).1, setMR_matP hi, (orM_yes (ar := matP m p) (br := matP m p) rfl).1, (orM_yes rfl).2.1, Int.toNat_natCast, orRs_matP]
  exact right_matP hm
theorem or_set_e : orME n (setMN n i j) = 0 := by rw [(set_yes (rs := rs) hi).1]; exact (orM_yes (ar := rs) (br := rs) rfl).2.2
theorem set_e : setME n i j = 0 := (set_yes (rs := rs) hi).2.2
theorem set_has : hasM (setMN n i j) (setMR n rs i j) i j = true := by
  obtain ⟨m, p, rfl, hm, rfl⟩ := right_is h
  rw [(set_yes (rs := matP m p) hi).1, setMR_matP hi, hasM_matP, hi]
  simp
theorem set_sub : subM n rs (setMN n i j) (setMR n rs i j) = true := by
  obtain ⟨m, p, rfl, hm, rfl⟩ := right_is h
  rw [(set_yes (rs := matP m p) hi).1, setMR_matP hi, subM_matP]
  intro a b _ _ hp
  simp [hp]
theorem set_or_same : sameM (orMN n (setMN n i j)) (orMR n rs (setMN n i j) (setMR n rs i j)) (setMN n i j) (setMR n rs i j) = true := by
  obtain ⟨m, p, rfl, hm, rfl⟩ := right_is h
  rw [(set_yes (rs := matP m p) hi).1, setMR_matP hi, (orM_yes (ar := matP m p) (br := matP m p) rfl).1, (orM_yes rfl).2.1, Int.toNat_natCast, orRs_matP]
  have : (matP m fun a b => p a b || (p a b || (decide (a = i.toNat) && decide (b = j.toNat)))) = matP m fun a b => p a b || (decide (a = i.toNat) && decide (b = j.toNat)) :=
    matP_congr fun a b _ _ => by cases p a b <;> simp
  rw [this]
  exact sameM_refl _ _
theorem set_right2 : rightM (setMN n i j) (setMR n rs i j) = true := by rw [right_two]; exact set_right h hi
omit h hi in
theorem filter_one {A : Type} [DecidableEq A] (p : A → Bool) (x : A) : ∀ l : List A, x ∈ l → l.Nodup → (l.filter fun y => p y || decide (y = x)).length = (l.filter p).length + (if p x = true then 0 else 1)
  | [], h, _ => by cases h
  | y :: l, h, hn => by
    obtain ⟨h1, h2⟩ := List.nodup_cons.1 hn
    by_cases e : y = x
    · subst e
      have : (l.filter fun z => p z || decide (z = y)) = l.filter p := by
        apply List.filter_congr
        intro z hz
        have : ¬ z = y := fun e => h1 (e ▸ hz)
        simp [this]
      rw [List.filter_cons, List.filter_cons, this]
      cases hp : p y <;> simp
    · have hx : x ∈ l := by
        rcases List.mem_cons.1 h with h | h
        · exact absurd h.symm e
        · exact h
      have ih := filter_one p x l hx h2
      rw [List.filter_cons, List.filter_cons]
      cases hp : p y <;> simp [e, ih]
      omega
omit h hi in
theorem sum_one {A : Type} [DecidableEq A] (f g : A → Nat) (x : A) (d : Nat) (hf : ∀ y, y ≠ x → f y = g y) (hx : f x = g x + d) : ∀ l : List A, x ∈ l → l.Nodup → (l.map f).sum = (l.map g).sum + d
  | [], h, _ => by cases h
  | y :: l, h, hn => by
    obtain ⟨h1, h2⟩ := List.nodup_cons.1 hn
    simp only [List.map_cons, List.sum_cons]
    by_cases e : y = x
    · subst e
      have : l.map f = l.map g := List.map_congr_left fun z hz => hf z fun e => h1 (e ▸ hz)
      rw [this, hx]; omega
    · have hx' : x ∈ l := by
        rcases List.mem_cons.1 h with h | h
        · exact absurd h.symm e
        · exact h
      rw [hf y e, sum_one f g x d hf hx l hx' h2]; omega
theorem set_len : (((pairsM (setMN n i j) (setMR n rs i j)).length : Nat) : Int) = (((pairsM n rs).length : Nat) : Int) + (if hasM n rs i j = true then 0 else 1) := by
  obtain ⟨m, p, rfl, hm, rfl⟩ := right_is h
  have hr := inM_two.1 hi
  rw [(set_yes (rs := matP m p) hi).1, setMR_matP hi, pairs_len, pairs_len]
  have hh : hasM ((m : Nat) : Int) (matP m p) i j = p i.toNat j.toNat := by rw [hasM_matP, hi, Bool.true_and]
  rw [hh]
  have key := sum_one (fun a => ((List.range m).filter fun b => p a b || (decide (a = i.toNat) && decide (b = j.toNat))).length) (fun a => ((List.range m).filter (p a)).length) i.toNat (if p i.toNat j.toNat = true then 0 else 1)
    (fun a ha => by
      have : (fun b => p a b || (decide (a = i.toNat) && decide (b = j.toNat))) = p a := by funext b; simp [ha]
      simp only [this])
    (by
      have := filter_one (p i.toNat) j.toNat (List.range m) (List.mem_range.2 (by omega)) List.nodup_range
      simpa using this)
    (List.range m) (List.mem_range.2 (by omega)) List.nodup_range
  unfold rowSum
  rw [key]
  split <;> omega
end
theorem right_pairs {n : Int} {rs : Rows} (h : rightS n rs = true) : (pairsM n rs).length ≤ 16777216 := by
  obtain ⟨m, p, rfl, hm, rfl⟩ := right_is h
  have h1 := pairs_small (n := m) (p := p)
  have h2 : m * m ≤ 4096 * 4096 := Nat.mul_le_mul hm hm
  omega
end Go.Ew
namespace Go.Ew
set_option linter.unusedVariables false
set_option linter.unusedSimpArgs false
set_option linter.unusedSectionVars false

/-- What is read of the row that is joined, while the other one is written (they may be one and the same). -/
theorem join_from {l : List Item} {i j : Nat} {B e : Nat} {iv fv : Value} {a b xs : Row} {q : Nat} (hj : l[j]? = some (own B e fv b)) (hi : i < l.length) (hne : i ≠ j ∨ (iv = fv ∧ b = a)) (hxl : xs.length = a.length) (hxs : xs = orTo a.length a b a q) (hq : q ≤ b.length) (hlen : b.length ≤ a.length) :
    ∃ ys : Row, (l.set i (own B e iv xs))[j]? = some (own B e fv ys) ∧ ys.length = b.length ∧ ∀ x, ys[((q : Nat) : Int).toNat]? = some x → b.getD q 0#64 = x := by
  by_cases h : i = j
  · subst h
    rcases hne with h | ⟨rfl, rfl⟩
    · exact absurd rfl h
    · refine ⟨xs, by rw [List.getElem?_set_self hi], hxl, fun x hx => ?_⟩
      rw [hxs] at hx
      exact (orTo_get hx).symm
  · exact ⟨b, by rw [List.getElem?_set_ne h, hj], rfl, fun x hx => getD_at hx⟩
theorem join_step {a b xs : Row} {q : Nat} {x y : BitVec 64} (hs : xs = orTo a.length a b a q) (hx : b.getD q 0#64 = x) (hy : xs[((q : Nat) : Int).toNat]? = some y) : xs.set ((q : Nat) : Int).toNat (y ||| x) = orTo a.length a b a (q + 1) := by
  subst hs
  have e1 := orTo_get hy
  rw [Int.toNat_natCast]
  exact orTo_set (by rw [e1]; unfold orAt; rw [hx])
theorem join_end {a b xs : Row} {q : Nat} (hs : xs = orTo a.length a b a q) (hlen : b.length ≤ a.length) (hq : b.length ≤ q) : xs = orR a b := by
  rw [hs]
  refine orTo_all (by omega) (fun i h1 h2 => ?_)
  unfold orAt
  rw [getD_out (show b.length ≤ i by omega)]; simp
theorem set_at {l : List Item} {i : Nat} {it : Item} (hi : i < l.length) : (l.set i it)[i]? = some it := List.getElem?_set_self hi
theorem set_set {l : List Item} {i : Nat} {x y : Item} : (l.set i x).set i y = l.set i y := List.set_set ..
theorem set_own {l : List Item} {i : Nat} {x : Item} (h : l[i]? = some x) : l.set i x = l := by
  apply List.ext_getElem?
  intro m
  rw [List.getElem?_set]
  split
  · rename_i e
    subst e
    split
    · exact h.symm
    · rename_i hl
      rw [List.getElem?_eq_none (by omega)]
  · rfl

/-! ### turned about -/
def swapP (z : Int × Int) : Int × Int := (z.2, z.1)
def turnM (n : Int) (rs : Rows) : Rows := foldM n ((pairsM n rs).map swapP)
theorem right_pair {n : Int} {rs : Rows} (h : rightS n rs = true) {q : Nat} {z : Int × Int} (hz : (pairsM n rs)[q]? = some z) : 0 ≤ z.1 ∧ z.1 < n ∧ 0 ≤ z.2 ∧ z.2 < n := by
  obtain ⟨m, p, rfl, hm, rfl⟩ := right_is h
  obtain ⟨h1, h2, h3, h4, -⟩ := pairs_mem hz
  exact ⟨h1, h2, h3, h4⟩
theorem turn_row {n : Int} {ps : List (Int × Int)} {i : Nat} {x : Row} (h : (foldM n ps)[i]? = some x) {k : Int} (h0 : 0 ≤ k) (h1 : k < n) : 0 ≤ k / 64 ∧ k / 64 < ((x.length : Nat) : Int) ∧ (k / 64).toNat < x.length ∧ inR x k = true := by
  have hr := foldM_row h
  have hw : x.length = (n.toNat + 63) / 64 := by rw [hr, ← words_nat, show ((n.toNat : Nat) : Int) = n from by omega]
  refine ⟨by omega, by omega, by omega, inR_of h0 (by omega)⟩
theorem turn_step {n : Int} {l : List (Int × Int)} {j : Nat} {z : Int × Int} {xs : Rows} {x : Row} {u : BitVec 64} (hs : xs = foldM n ((l.map swapP).take j)) (hz : l[((j : Nat) : Int).toNat]? = some z) (hx : xs[z.2.toNat]? = some x) (hu : x[(z.1 / 64).toNat]? = some u) (h0 : 0 ≤ z.1) (h1 : z.1 < n) :
    xs.set z.2.toNat (x.set (z.1 / 64).toNat (u ||| bitB (z.1 % 64))) = foldM n ((l.map swapP).take (j + 1)) := by
  have hr := (turn_row (hs ▸ hx) h0 h1).2.2.2
  rw [foldM_step (p := (z.2, z.1)) (by rw [List.getElem?_map, hz]; rfl), ← hs, setR_in hr hu]
  exact setM_of hx
theorem turn_end {n : Int} {rs xs : Rows} {j : Nat} (hs : xs = foldM n (((pairsM n rs).map swapP).take j)) (hj : (pairsM n rs).length ≤ j) : xs = turnM n rs := by
  rw [hs, take_end (by rw [List.length_map]; exact hj)]; rfl
theorem turn_zero (n : Int) (l : List (Int × Int)) : List.replicate n.toNat (newR n) = foldM n ((l.map swapP).take 0) := rfl
theorem turnM_len (n : Int) (rs : Rows) : (turnM n rs).length = n.toNat := foldM_length _ _
theorem turn_set {n : Int} {rs0 : Rows} {j : Nat} {z : Int × Int} {rs : Rows} (h : rightS n rs0 = true) (hs : rs = foldM n (((pairsM n rs0).map swapP).take j)) (hz : (pairsM n rs0)[((j : Nat) : Int).toNat]? = some z) :
    setMN n z.2 z.1 = n ∧ setMR n rs z.2 z.1 = foldM n (((pairsM n rs0).map swapP).take (j + 1)) ∧ setME n z.2 z.1 = 0 := by
  obtain ⟨g1, g2, g3, g4⟩ := right_pair h hz
  have hin : inM n [z.2, z.1] = true := inM_two.2 ⟨⟨g3, g4⟩, g1, g2⟩
  refine ⟨(set_yes (rs := rs) hin).1, ?_, (set_yes (rs := rs) hin).2.2⟩
  rw [(set_yes hin).2.1, foldM_step (p := (z.2, z.1)) (by rw [List.getElem?_map, hz]; rfl), ← hs]
theorem right_ok {n : Int} {rs : Rows} (h : rightS n rs = true) : okN n = true := okN_iff.2 ⟨right_pos h, (right_sq h).2.2.1⟩
theorem fold_sq {n : Int} {rs0 : Rows} (h : rightS n rs0 = true) (ps : List (Int × Int)) : (((foldM n ps).length : Nat) : Int) = n ∧ ∀ x ∈ foldM n ps, x.length ≤ 1000000000 := by
  have h0 := right_pos h
  have h4 := (right_sq h).2.2.1
  refine ⟨by rw [foldM_length]; omega, fun x hx => ?_⟩
  obtain ⟨i, hi⟩ := List.mem_iff_getElem?.1 hx
  rw [foldM_row hi]
  have := words_le h4
  omega
end Go.Ew
namespace Go.Ew
set_option linter.unusedVariables false
set_option linter.unusedSimpArgs false

theorem foldl_matP {m : Nat} : ∀ (l : List (Int × Int)) (p : Nat → Nat → Bool), (∀ z ∈ l, inM ((m : Nat) : Int) [z.1, z.2] = true) → l.foldl setM (matP m p) = matP m fun a b => p a b || l.any fun z => decide (a = z.1.toNat) && decide (b = z.2.toNat)
  | [], p, _ => by
    show matP m p = _
    exact matP_congr fun a b _ _ => by simp
  | z :: l, p, h => by
    rw [List.foldl_cons, show z = (z.1, z.2) from rfl, setM_matP (h z List.mem_cons_self), foldl_matP l _ fun y hy => h y (List.mem_cons_of_mem _ hy)]
    exact matP_congr fun a b _ _ => by simp [Bool.or_assoc]
theorem foldM_matP {m : Nat} {l : List (Int × Int)} (h : ∀ z ∈ l, inM ((m : Nat) : Int) [z.1, z.2] = true) : foldM ((m : Nat) : Int) l = matP m fun a b => l.any fun z => decide (a = z.1.toNat) && decide (b = z.2.toNat) := by
  unfold foldM
  rw [newM_matP, foldl_matP l _ h]
  exact matP_congr fun a b _ _ => by simp
theorem pairs_in {m : Nat} {p : Nat → Nat → Bool} : ∀ z ∈ pairsM ((m : Nat) : Int) (matP m p), inM ((m : Nat) : Int) [z.1, z.2] = true := by
  intro z hz
  obtain ⟨a, b, ha, hb, -, rfl⟩ := mem_pairs.1 hz
  exact inM_two.2 ⟨⟨by omega, by omega⟩, by omega, by omega⟩
theorem any_pairs {m : Nat} {p : Nat → Nat → Bool} {a b : Nat} (ha : a < m) (hb : b < m) : ((pairsM ((m : Nat) : Int) (matP m p)).any fun z => decide (a = z.1.toNat) && decide (b = z.2.toNat)) = p a b := by
  rw [Bool.eq_iff_iff, List.any_eq_true]
  constructor
  · rintro ⟨z, hz, h⟩
    obtain ⟨c, d, hc, hd, hp, rfl⟩ := mem_pairs.1 hz
    simp only [Int.toNat_natCast, Bool.and_eq_true, decide_eq_true_eq] at h
    rw [h.1, h.2]; exact hp
  · intro hp
    exact ⟨_, mem_pairs.2 ⟨a, b, ha, hb, hp, rfl⟩, by simp⟩
theorem of_pairs {m : Nat} {p : Nat → Nat → Bool} : foldM ((m : Nat) : Int) (pairsM ((m : Nat) : Int) (matP m p)) = matP m p := by
  rw [foldM_matP pairs_in]
  exact matP_congr fun a b ha hb => any_pairs ha hb
theorem turn_matP {m : Nat} {p : Nat → Nat → Bool} : turnM ((m : Nat) : Int) (matP m p) = matP m fun a b => p b a := by
  unfold turnM
  rw [foldM_matP]
  · refine matP_congr fun a b ha hb => ?_
    rw [List.any_map, ← any_pairs (p := p) hb ha]
    congr 1
    funext z
    simp only [Function.comp, swapP]
    exact Bool.and_comm _ _
  · intro z hz
    obtain ⟨y, hy, rfl⟩ := List.mem_map.1 hz
    have := inM_two.1 (pairs_in y hy)
    exact inM_two.2 ⟨this.2, this.1⟩
section
variable {n : Int} {rs : Rows} (h : rightS n rs = true)
include h
theorem back_ok : ofOk n (pairsM n rs) = true := by
  obtain ⟨m, p, rfl, hm, rfl⟩ := right_is h
  unfold ofOk
  rw [okN_iff.2 ⟨by omega, by omega⟩, Bool.true_and, List.all_eq_true]
  intro z hz
  exact pairs_in z hz
theorem back_of : eqM (ofMN n (pairsM n rs)) (ofMR n (pairsM n rs)) n rs = true := by
  obtain ⟨e1, e2, -⟩ := of_yes (back_ok h)
  rw [e1, e2]
  obtain ⟨m, p, rfl, hm, rfl⟩ := right_is h
  rw [of_pairs]; exact eqM_refl _ _
theorem back_e : ofME n (pairsM n rs) = 0 := (of_yes (back_ok h)).2.2
theorem turn_right : rightS n (turnM n rs) = true := by
  obtain ⟨m, p, rfl, hm, rfl⟩ := right_is h
  rw [turn_matP]; exact right_matP hm
theorem turn_turn : turnM n (turnM n rs) = rs := by
  obtain ⟨m, p, rfl, hm, rfl⟩ := right_is h
  rw [turn_matP, turn_matP]
theorem turn_has (i j : Int) : hasM n (turnM n rs) j i = hasM n rs i j := by
  obtain ⟨m, p, rfl, hm, rfl⟩ := right_is h
  rw [turn_matP, hasM_matP, hasM_matP]
  congr 1
  rw [Bool.eq_iff_iff, inM_two, inM_two]; exact And.comm
theorem turn_len : (pairsM n (turnM n rs)).length = (pairsM n rs).length := by
  obtain ⟨m, p, rfl, hm, rfl⟩ := right_is h
  rw [turn_matP, pairs_len, pairs_len]
  unfold rowSum
  exact (sum_swap p (List.range m) (List.range m)).symm
theorem same_two {br : Rows} {bn : Int} (hb : rightS bn br = true) : sameM n rs bn br = (subM n rs bn br && subM bn br n rs) := by
  obtain ⟨m, p, rfl, hm, rfl⟩ := right_is h
  obtain ⟨m', p', rfl, hm', rfl⟩ := right_is hb
  by_cases e : m = m'
  · subst e
    rw [Bool.eq_iff_iff, Bool.and_eq_true, subM_matP, subM_matP]
    unfold sameM
    rw [decide_eq_true rfl, Bool.true_and, decide_eq_true_eq]
    constructor
    · intro he
      have := matP_eq he
      exact ⟨fun i j hi hj hp => by rw [← this i j hi hj]; exact hp, fun i j hi hj hp => by rw [this i j hi hj]; exact hp⟩
    · rintro ⟨h1, h2⟩
      refine matP_congr fun i j hi hj => ?_
      rw [Bool.eq_iff_iff]
      exact ⟨h1 i j hi hj, h2 i j hi hj⟩
  · unfold sameM subM
    rw [decide_eq_false (show ¬ ((m : Nat) : Int) = ((m' : Nat) : Int) from by omega)]; rfl
end
end Go.Ew
namespace Go.Ew
set_option linter.unusedVariables false
set_option linter.unusedSimpArgs false

/-! ### rows of its own -/
theorem right_row_len {n : Int} {mr : Rows} (h : rightS n mr = true) {i : Nat} {x : Row} (hx : mr[i]? = some x) : x.length = words n := by
  obtain ⟨m, p, rfl, hm, rfl⟩ := right_is h
  rw [(matP_at hx).2, rowP_len]
theorem own_new {n : Int} {mr xs : Rows} (h : rightS n mr = true) {j : Nat} {x : Row} (hs : xs = mr.take j ++ List.replicate (n.toNat - j) (newR n)) (hj : j < mr.length) (hx : xs[((j : Nat) : Int).toNat]? = some x) : x = newR n := by
  rw [Int.toNat_natCast, hs, List.getElem?_append_right (by rw [List.length_take]; omega), List.length_take, Nat.min_eq_left (by omega), Nat.sub_self] at hx
  have := List.mem_of_getElem? hx
  exact (List.mem_replicate.1 this).2
theorem own_len {n : Int} {mr xs : Rows} (h : rightS n mr = true) {j : Nat} {x y : Row} (hs : xs = mr.take j ++ List.replicate (n.toNat - j) (newR n)) (hy : mr[((j : Nat) : Int).toNat]? = some y) (hx : xs[((j : Nat) : Int).toNat]? = some x) : y.length = x.length := by
  have hj := (List.getElem?_eq_some_iff.1 hy).1
  rw [own_new h hs (by simpa using hj) hx, newR_length, right_row_len h hy]
theorem own_pos {n : Int} {mr xs : Rows} (h : rightS n mr = true) {j : Nat} {x y : Row} (hs : xs = mr.take j ++ List.replicate (n.toNat - j) (newR n)) (hy : mr[((j : Nat) : Int).toNat]? = some y) (hx : xs[((j : Nat) : Int).toNat]? = some x) : 0 < x.length := by
  have hj := (List.getElem?_eq_some_iff.1 hy).1
  have hl := (right_sq h).1
  rw [own_new h hs (by simpa using hj) hx, newR_length]
  have h0 : 1 ≤ n := by rw [Int.toNat_natCast] at hj; omega
  unfold words; omega
theorem own_step {n : Int} {mr xs : Rows} (h : rightS n mr = true) {j : Nat} {y : Row} (hs : xs = mr.take j ++ List.replicate (n.toNat - j) (newR n)) (hy : mr[((j : Nat) : Int).toNat]? = some y) : xs.set ((j : Nat) : Int).toNat y = mr.take (j + 1) ++ List.replicate (n.toNat - (j + 1)) (newR n) := by
  have hj := (List.getElem?_eq_some_iff.1 hy).1
  have hl := (right_sq h).1
  rw [take_at hy]
  rw [Int.toNat_natCast] at hj ⊢
  have hlt : (mr.take j).length = j := by rw [List.length_take]; omega
  rw [hs, List.set_append_right _ _ (by omega), hlt, Nat.sub_self, show n.toNat - j = n.toNat - (j + 1) + 1 from by omega, List.replicate_succ, List.set_cons_zero]
  simp
theorem own_end {n : Int} {mr xs : Rows} {j : Nat} (h : rightS n mr = true) (hs : xs = mr.take j ++ List.replicate (n.toNat - j) (newR n)) (hj : mr.length ≤ j) : xs = mr := by
  have hl := (right_sq h).1
  rw [hs, take_end hj, show n.toNat - j = 0 from by omega]; simp

/-! ### the hull, round by round -/
def relM (rs : Rows) (i j : Nat) : Bool := hasR (rs.getD i []) ((j : Nat) : Int)
theorem right_rel {n : Int} {rs : Rows} (h : rightS n rs = true) : rs = matP n.toNat (relM rs) := by
  obtain ⟨m, p, rfl, hm, rfl⟩ := right_is h
  rw [Int.toNat_natCast]
  refine matP_congr fun i j hi hj => ?_
  unfold relM
  rw [List.getD_eq_getElem?_getD, matP_get hi]
  show p i j = hasR (rowP m (p i)) _
  rw [rowP_has]; simp [hj]
/-- Over what lies below k. -/
def wM (p : Nat → Nat → Bool) : Nat → Nat → Nat → Bool
  | 0, a, b => p a b
  | k + 1, a, b => wM p k a b || (wM p k a k && wM p k k b)
/-- .. within a round. -/
def wR (p : Nat → Nat → Bool) (k i a b : Nat) : Bool := if a < i then wM p (k + 1) a b else wM p k a b
theorem wM_self (p : Nat → Nat → Bool) (k b : Nat) : wM p (k + 1) k b = wM p k k b := by
  show (wM p k k b || (wM p k k k && wM p k k b)) = wM p k k b
  cases wM p k k b <;> simp
theorem wR_zero (p : Nat → Nat → Bool) (n k : Nat) : matP n (wM p k) = matP n (wR p k 0) := matP_congr fun a b _ _ => by unfold wR; simp
theorem wR_end (p : Nat → Nat → Bool) {n k i : Nat} (h : n ≤ i) : matP n (wR p k i) = matP n (wM p (k + 1)) := matP_congr fun a b ha _ => by unfold wR; rw [if_pos (by omega)]
theorem wR_row {p : Nat → Nat → Bool} {n k i : Nat} {x : Row} (hx : (matP n (wR p k i))[i]? = some x) : x = rowP n (wM p k i) := by
  rw [(matP_at hx).2]
  exact rowP_congr fun b _ => by unfold wR; rw [if_neg (by omega)]
theorem wR_rowk {p : Nat → Nat → Bool} {n k i : Nat} {y : Row} (hy : (matP n (wR p k i))[k]? = some y) : y = rowP n (wM p k k) := by
  rw [(matP_at hy).2]
  exact rowP_congr fun b _ => by
    unfold wR; split
    · exact wM_self p k b
    · rfl
theorem wR_yes {p : Nat → Nat → Bool} {n k i : Nat} {xs : Rows} {x y : Row} (hs : xs = matP n (wR p k i)) (hx : xs[i]? = some x) (hy : xs[k]? = some y) (hk : k < n) (h : hasR x ((k : Nat) : Int) = true) : xs.set i (orR x y) = matP n (wR p k (i + 1)) := by
  subst hs
  rw [wR_row hx] at h ⊢
  rw [wR_rowk hy, or_rowP, matP_set]
  rw [rowP_has] at h
  have hik : wM p k i k = true := by simpa [hk] using h
  refine matP_congr fun a b _ _ => ?_
  by_cases e : a = i
  · subst e
    rw [if_pos rfl]
    unfold wR
    rw [if_pos (by omega)]
    show _ = (wM p k a b || (wM p k a k && wM p k k b))
    rw [hik, Bool.true_and]
  · rw [if_neg e]
    unfold wR
    by_cases h2 : a < i
    · rw [if_pos h2, if_pos (by omega)]
    · rw [if_neg h2, if_neg (by omega)]
theorem wR_no {p : Nat → Nat → Bool} {n k i : Nat} {xs : Rows} {x : Row} (hs : xs = matP n (wR p k i)) (hx : xs[i]? = some x) (hk : k < n) (h : hasR x ((k : Nat) : Int) = false) : xs = matP n (wR p k (i + 1)) := by
  subst hs
  rw [wR_row hx, rowP_has] at h
  have hik : wM p k i k = false := by simpa [hk] using h
  refine matP_congr fun a b _ _ => ?_
  unfold wR
  by_cases h2 : a < i
  · rw [if_pos h2, if_pos (by omega)]
  · by_cases e : a = i
    · subst e
      rw [if_neg h2, if_pos (by omega)]
      show _ = (wM p k a b || (wM p k a k && wM p k k b))
      rw [hik]; simp
    · rw [if_neg h2, if_neg (by omega)]
def closeM (n : Int) (rs : Rows) : Rows := matP n.toNat (wM (relM rs) n.toNat)
theorem closeM_len (n : Int) (rs : Rows) : (closeM n rs).length = n.toNat := matP_len _ _
theorem wR_len {p : Nat → Nat → Bool} {n k i q : Nat} {x : Row} (hx : (matP n (wR p k i))[q]? = some x) : x.length = words ((n : Nat) : Int) := by rw [(matP_at hx).2, rowP_len]
end Go.Ew
