/- Engine, part C: how data lies in memory (GT), and the list of what is known of the heap (HI). -/
import Derived.Test.YtmhopljngkgidaaDoorEngB
namespace Go.Ew
open Go.RowKit
set_option linter.unusedVariables false
set_option linter.unusedSimpArgs false

/-- From w to w' no block outside M turned, and none of these lies in M'. -/
def Up (M : Nat → Prop) (w : World) (M' : Nat → Prop) (w' : World) : Prop :=
  w.heap.size ≤ w'.heap.size ∧ ∀ b, b < w.heap.size → ¬ M b → w'.heap[b]? = w.heap[b]? ∧ ¬ M' b
theorem Up.refl (M : Nat → Prop) (w : World) : Up M w M w := ⟨Nat.le_refl _, fun _ _ h => ⟨rfl, h⟩⟩
theorem Up.trans {M M' M'' : Nat → Prop} {w w' w'' : World} (h : Up M w M' w') (k : Up M' w' M'' w'') : Up M w M'' w'' :=
  ⟨Nat.le_trans h.1 k.1, fun b hb hM => by
    have h1 := h.2 b hb hM
    have h2 := k.2 b (Nat.lt_of_lt_of_le hb h.1) h1.2
    exact ⟨h2.1.trans h1.1, h2.2⟩⟩
theorem Up.ext {M : Nat → Prop} {w w' : World} (h : Ext w w') : Up M w M w' := ⟨h.size, fun b hb hM => ⟨h.block b hb, hM⟩⟩
theorem Up.less {M M' : Nat → Prop} {w : World} (h : ∀ b, b < w.heap.size → M' b → M b) : Up M w M' w := ⟨Nat.le_refl _, fun b hb hM => ⟨rfl, fun h' => hM (h b hb h')⟩⟩

theorem block_lt_cell {w : World} {ad : Addr} {v : Value} (h : w.cell? ad = some v) : ad.block < w.heap.size := World.block_lt_of_cell? w ad h
theorem Up.cell {M M' : Nat → Prop} {w w' : World} (h : Up M w M' w') {ad : Addr} {v : Value} (hM : ¬ M ad.block) (hc : w.cell? ad = some v) : w'.cell? ad = some v :=
  (World.cell?_of_block (h.2 _ (block_lt_cell hc) hM).1).trans hc
theorem add_block (a : Addr) (j : Nat) : (a.add j).block = a.block := by unfold Addr.add; split <;> rfl
theorem add_add (a : Addr) (i j : Nat) : (a.add i).add j = a.add (i + j) := by
  unfold Addr.add
  by_cases hi : i = 0
  · subst hi; simp
  · by_cases hj : j = 0
    · subst hj; simp
    · simp [hi, hj, Nat.add_assoc]

/-- A kind of data, and how it lies in cells; M: blocks that it doesn't lie in. -/
class GT (α : Type) where
  size : Nat
  agg : Bool
  rep : (Nat → Prop) → World → List Value → α → Prop
  len : ∀ {M w cs x}, rep M w cs x → cs.length = size
  one : ∀ {M w cs x}, rep M w cs x → ∀ c ∈ cs, c.oneCell' = true
  single : agg = false → size = 1
  pos : 0 < size
  lift : ∀ {M w M' w' cs x}, rep M w cs x → Up M w M' w' → rep M' w' cs x

/-- Cells as a value. -/
def mkv (agg : Bool) (cs : List Value) : Value := bif agg then .agg cs.toArray else cs.headD undef
theorem cells_mkv {agg : Bool} {cs : List Value} (h : agg = false → cs.length = 1) (h1 : ∀ c ∈ cs, c.oneCell' = true) : (mkv agg cs).cells = cs.toArray := by
  cases agg with
  | true => rfl
  | false =>
    match cs, h rfl with
    | [c], _ =>
      have := h1 c (by simp)
      cases c <;> first | rfl | cases this

/-- The value v is x. -/
def RV {α : Type} [GT α] (M : Nat → Prop) (w : World) (v : Value) (x : α) : Prop := ∃ cs, GT.rep M w cs x ∧ v = mkv (GT.agg α) cs
/-- x lies at ad. -/
def At {α : Type} [GT α] (M : Nat → Prop) (w : World) (ad : Addr) (x : α) : Prop := ∃ cs, GT.rep M w cs x ∧ ¬ M ad.block ∧ ∀ j v, cs[j]? = some v → w.cell? (ad.add j) = some v
theorem RV.lift {α : Type} [GT α] {M M' : Nat → Prop} {w w' : World} {v : Value} {x : α} (h : RV M w v x) (u : Up M w M' w') : RV M' w' v x :=
  let ⟨cs, h1, h2⟩ := h; ⟨cs, GT.lift h1 u, h2⟩
theorem At.lift {α : Type} [GT α] {M M' : Nat → Prop} {w w' : World} {ad : Addr} {x : α} (h : At M w ad x) (u : Up M w M' w') : At M' w' ad x := by
  obtain ⟨cs, h1, h2, h3⟩ := h
  have hne : 0 < cs.length := by rw [GT.len h1]; exact GT.pos
  have hlt : ad.block < w.heap.size := by
    have := h3 0 cs[0] (List.getElem?_eq_getElem hne)
    have := block_lt_cell this
    rwa [add_block] at this
  exact ⟨cs, GT.lift h1 u, (u.2 _ hlt h2).2, fun j v hv => u.cell (by rw [add_block]; exact h2) (h3 j v hv)⟩

instance gInt : GT Int where
  size := 1
  agg := false
  rep _ _ cs x := cs = [.int .i64 x] ∧ I64 x
  len h := by rw [h.1]; rfl
  one h := by rw [h.1]; simp [Value.oneCell']
  single _ := rfl
  pos := by decide
  lift h _ := h
instance gBV : GT (BitVec 64) where
  size := 1
  agg := false
  rep _ _ cs x := cs = [U x]
  len h := by rw [h]; rfl
  one h := by rw [h]; simp [Value.oneCell']
  single _ := rfl
  pos := by decide
  lift h _ := h
/-- A byte as a value. -/
abbrev U8 (x : BitVec 8) : Value := .int .u8 (x.toNat : Int)
instance gB8 : GT (BitVec 8) where
  size := 1
  agg := false
  rep _ _ cs x := cs = [U8 x]
  len h := by rw [h]; rfl
  one h := by rw [h]; simp [Value.oneCell']
  single _ := rfl
  pos := by decide
  lift h _ := h
instance gBool : GT Bool where
  size := 1
  agg := false
  rep _ _ cs x := cs = [.bool x]
  len h := by rw [h]; rfl
  one h := by rw [h]; simp [Value.oneCell']
  single _ := rfl
  pos := by decide
  lift h _ := h
instance gStr : GT ByteArray where
  size := 1
  agg := false
  rep _ _ cs x := cs = [.string x] ∧ x.size ≤ maxLen
  len h := by rw [h.1]; rfl
  one h := by rw [h.1]; simp [Value.oneCell']
  single _ := rfl
  pos := by decide
  lift h _ := h
instance gProd {α β : Type} [GT α] [GT β] : GT (α × β) where
  size := GT.size α + GT.size β
  agg := true
  rep M w cs x := ∃ c1 c2, cs = c1 ++ c2 ∧ GT.rep M w c1 x.1 ∧ GT.rep M w c2 x.2
  len := by
    rintro M w cs x ⟨c1, c2, rfl, h1, h2⟩
    rw [List.length_append, GT.len h1, GT.len h2]
  one := by
    rintro M w cs x ⟨c1, c2, rfl, h1, h2⟩ c hc
    rcases List.mem_append.1 hc with h | h
    · exact GT.one h1 c h
    · exact GT.one h2 c h
  single h := by cases h
  pos := by have := GT.pos (α := α); omega
  lift := by
    rintro M w M' w' cs x ⟨c1, c2, rfl, h1, h2⟩ u
    exact ⟨c1, c2, rfl, GT.lift h1 u, GT.lift h2 u⟩

/-- The elements of a row lie one behind the other from ad on. -/
def Seg {α : Type} [GT α] (M : Nat → Prop) (w : World) (ad : Addr) (xs : List α) : Prop :=
  ∀ i x, xs[i]? = some x → At M w (ad.add (i * GT.size α)) x
/-- A slice: nil, empty or not; what is behind its end is not told. -/
def RS {α : Type} [GT α] (M : Nat → Prop) (w : World) (v : Value) (xs : List α) : Prop :=
  ∃ a n c, v = .slice a n c ∧ xs.length = n ∧ n ≤ c ∧ c ≤ maxLen ∧ (n = 0 ∨ ∃ ad, a = some ad ∧ Seg M w ad xs)
theorem RS.lift {α : Type} [GT α] {M M' : Nat → Prop} {w w' : World} {v : Value} {xs : List α} (h : RS M w v xs) (u : Up M w M' w') : RS M' w' v xs := by
  obtain ⟨a, n, c, h1, h2, h3, h4, h5⟩ := h
  refine ⟨a, n, c, h1, h2, h3, h4, ?_⟩
  rcases h5 with h5 | ⟨ad, h5, h6⟩
  · exact .inl h5
  · exact .inr ⟨ad, h5, fun i x hx => (h6 i x hx).lift u⟩
instance gList {α : Type} [GT α] : GT (List α) where
  size := 1
  agg := false
  rep M w cs xs := ∃ v, cs = [v] ∧ RS M w v xs
  len := by rintro M w cs x ⟨v, rfl, _⟩; rfl
  one := by
    rintro M w cs x ⟨v, rfl, a, n, c, rfl, _⟩ c hc
    simp at hc; subst hc; rfl
  single _ := rfl
  pos := by decide
  lift := by
    rintro M w M' w' cs x ⟨v, rfl, h⟩ u
    exact ⟨v, rfl, h.lift u⟩

theorem RV.int {M : Nat → Prop} {w : World} {v : Value} {x : Int} : RV M w v x ↔ v = .int .i64 x ∧ I64 x := by
  constructor
  · rintro ⟨cs, ⟨rfl, h⟩, rfl⟩; exact ⟨rfl, h⟩
  · rintro ⟨rfl, h⟩; exact ⟨_, ⟨rfl, h⟩, rfl⟩
theorem RV.bv {M : Nat → Prop} {w : World} {v : Value} {x : BitVec 64} : RV M w v x ↔ v = U x := by
  constructor
  · rintro ⟨cs, rfl, rfl⟩; rfl
  · rintro rfl; exact ⟨_, rfl, rfl⟩
theorem RV.b8 {M : Nat → Prop} {w : World} {v : Value} {x : BitVec 8} : RV M w v x ↔ v = U8 x := by
  constructor
  · rintro ⟨cs, rfl, rfl⟩; rfl
  · rintro rfl; exact ⟨_, rfl, rfl⟩
theorem RV.bool {M : Nat → Prop} {w : World} {v : Value} {x : Bool} : RV M w v x ↔ v = .bool x := by
  constructor
  · rintro ⟨cs, rfl, rfl⟩; rfl
  · rintro rfl; exact ⟨_, rfl, rfl⟩
theorem RV.str {M : Nat → Prop} {w : World} {v : Value} {x : ByteArray} : RV M w v x ↔ v = .string x ∧ x.size ≤ maxLen := by
  constructor
  · rintro ⟨cs, ⟨rfl, h⟩, rfl⟩; exact ⟨rfl, h⟩
  · rintro ⟨rfl, h⟩; exact ⟨_, ⟨rfl, h⟩, rfl⟩
theorem RV.list {α : Type} [GT α] {M : Nat → Prop} {w : World} {v : Value} {xs : List α} : RV M w v xs ↔ RS M w v xs := by
  constructor
  · rintro ⟨cs, ⟨u, rfl, h⟩, rfl⟩; exact h
  · intro h; exact ⟨[v], ⟨v, rfl, h⟩, rfl⟩

/-! ### Items of the heap -/
structure Item where
  blk : Option Nat
  holds : (Nat → Prop) → World → Prop
  lift : ∀ {M M' w w'}, holds M w → Up M w M' w' → (∀ b, blk = some b → w'.heap[b]? = w.heap[b]?) → holds M' w'

def imm {α : Type} [GT α] (v : Value) (x : α) : Item := ⟨none, fun M w => RV M w v x, fun h u _ => h.lift u⟩
def atI {α : Type} [GT α] (ad : Addr) (x : α) : Item := ⟨none, fun M w => At M w ad x, fun h u _ => h.lift u⟩
def box (b : Nat) (cs : Array Value) (t : TypeId) : Item := ⟨some b, fun M w => w.heap[b]? = some (.cells cs t (0, 0)), fun h u hb => (hb b rfl).trans h⟩

/-- Cells of elements, one behind the other. -/
def Chunks {α : Type} [GT α] (M : Nat → Prop) (w : World) : List Value → List α → Prop
  | cs, [] => cs = []
  | cs, x :: xs => ∃ c1 c2, cs = c1 ++ c2 ∧ GT.rep M w c1 x ∧ Chunks M w c2 xs
theorem Chunks.lift {α : Type} [GT α] {M M' : Nat → Prop} {w w' : World} (u : Up M w M' w') : ∀ {xs : List α} {cs : List Value}, Chunks M w cs xs → Chunks M' w' cs xs
  | [], _, h => h
  | x :: xs, cs, ⟨c1, c2, h1, h2, h3⟩ => ⟨c1, c2, h1, GT.lift h2 u, Chunks.lift u h3⟩
theorem Chunks.length {α : Type} [GT α] {M : Nat → Prop} {w : World} : ∀ {xs : List α} {cs : List Value}, Chunks M w cs xs → cs.length = xs.length * GT.size α
  | [], _, h => by rw [show _ = [] from h]; simp
  | x :: xs, cs, ⟨c1, c2, h1, h2, h3⟩ => by rw [h1, List.length_append, GT.len h2, Chunks.length h3, List.length_cons, Nat.add_mul]; omega
theorem Chunks.append {α : Type} [GT α] {M : Nat → Prop} {w : World} : ∀ {xs ys : List α} {cs ds : List Value}, Chunks M w cs xs → Chunks M w ds ys → Chunks M w (cs ++ ds) (xs ++ ys)
  | [], ys, cs, ds, h, k => by rw [show cs = [] from h]; exact k
  | x :: xs, ys, cs, ds, ⟨c1, c2, h1, h2, h3⟩, k => ⟨c1, c2 ++ ds, by rw [h1, List.append_assoc], h2, Chunks.append h3 k⟩
theorem Chunks.oneC {α : Type} [GT α] {M : Nat → Prop} {w : World} : ∀ {xs : List α} {cs : List Value}, Chunks M w cs xs → ∀ c ∈ cs, c.oneCell' = true
  | [], _, h, c, hc => by rw [show _ = [] from h] at hc; cases hc
  | x :: xs, cs, ⟨c1, c2, h1, h2, h3⟩, c, hc => by
    rw [h1] at hc
    rcases List.mem_append.1 hc with h | h
    · exact GT.one h2 c h
    · exact Chunks.oneC h3 c h
theorem Chunks.at_ {α : Type} [GT α] {M : Nat → Prop} {w : World} : ∀ {xs : List α} {cs : List Value}, Chunks M w cs xs → ∀ i x, xs[i]? = some x → ∃ c, GT.rep M w c x ∧ ∀ j v, c[j]? = some v → cs[i * GT.size α + j]? = some v
  | [], _, _, i, x, hx => by simp at hx
  | y :: xs, cs, ⟨c1, c2, h1, h2, h3⟩, i, x, hx => by
    cases i with
    | zero =>
      simp at hx; subst hx
      refine ⟨c1, h2, fun j v hv => ?_⟩
      have hj : j < c1.length := (List.getElem?_eq_some_iff.1 hv).1
      rw [h1, Nat.zero_mul, Nat.zero_add, List.getElem?_append_left hj]; exact hv
    | succ i =>
      simp at hx
      obtain ⟨c, hc1, hc2⟩ := Chunks.at_ h3 i x hx
      refine ⟨c, hc1, fun j v hv => ?_⟩
      have hl := GT.len h2
      rw [h1, List.getElem?_append_right (by rw [hl, Nat.add_mul]; omega), hl]
      have := hc2 j v hv
      rw [show (i + 1) * GT.size α + j - GT.size α = i * GT.size α + j from by rw [Nat.add_mul]; omega]
      exact this

/-- A slice that the call itself made, and that it may still write. e: the elements' type. -/
def own {α : Type} [GT α] (B : Nat) (e : TypeId) (v : Value) (xs : List α) : Item :=
  ⟨v.ownBlock, fun M w => ∃ cs, w.ownsRow B e (GT.size α) v xs.length cs ∧ Chunks M w cs xs, fun {M M' w w'} h u hb => by
    obtain ⟨cs, h1, h2⟩ := h
    refine ⟨cs, ⟨h1.1, ?_⟩, Chunks.lift u h2⟩
    rcases h1.2 with h3 | ⟨g, cap, cur, rfl, h4, h5, h6⟩
    · exact .inl h3
    · exact .inr ⟨g, cap, cur, rfl, h4, (hb g rfl).trans h5, h6⟩⟩

/-- The blocks that may still be written: those of the caller, and those of the items. -/
def MS (M0 : Nat → Prop) (l : List Item) (b : Nat) : Prop := M0 b ∨ ∃ it ∈ l, it.blk = some b

structure HI (M0 : Nat → Prop) (w0 w : World) (l : List Item) : Prop where
  below : Ext w0 w
  m0 : ∀ b, M0 b → b < w0.heap.size
  blks : ∀ it ∈ l, ∀ b, it.blk = some b → w0.heap.size ≤ b ∧ b < w.heap.size
  nodup : (l.filterMap (·.blk)).Nodup
  all : ∀ it ∈ l, it.holds (MS M0 l) w

section
variable {M0 : Nat → Prop} {w0 w w' : World} {l : List Item} {it it' : Item}
theorem HI.at_ (h : HI M0 w0 w l) (i : Nat) (hi : l[i]? = some it) : it.holds (MS M0 l) w := h.all it (List.mem_of_getElem? hi)
theorem HI.mb (h : HI M0 w0 w l) : ∀ b, MS M0 l b → b < w.heap.size := by
  rintro b (hb | ⟨it, hit, hb⟩)
  · exact Nat.lt_of_lt_of_le (h.m0 b hb) h.below.size
  · exact (h.blks it hit b hb).2
theorem HI.start (hM : ∀ b, M0 b → b < w.heap.size) : HI M0 w w [] :=
  ⟨Ext.refl w, hM, fun _ h => (by cases h), List.nodup_nil, fun _ h => (by cases h)⟩
theorem HI.ext (h : HI M0 w0 w l) (x : Ext w w') : HI M0 w0 w' l :=
  ⟨h.below.trans x, h.m0, fun it hit b hb => ⟨(h.blks it hit b hb).1, Nat.lt_of_lt_of_le (h.blks it hit b hb).2 x.size⟩, h.nodup,
    fun it hit => it.lift (h.all it hit) (Up.ext x) fun b hb => x.block b (h.blks it hit b hb).2⟩
theorem MS_cons_none (hn : it.blk = none) : MS M0 (it :: l) = MS M0 l := by
  funext b
  simp only [MS, List.mem_cons, eq_iff_iff]
  constructor
  · rintro (h | ⟨i, rfl | hi, hb⟩)
    · exact .inl h
    · rw [hn] at hb; cases hb
    · exact .inr ⟨i, hi, hb⟩
  · rintro (h | ⟨i, hi, hb⟩)
    · exact .inl h
    · exact .inr ⟨i, .inr hi, hb⟩
/-- One more fact that turns no more. -/
theorem HI.put (h : HI M0 w0 w l) (hn : it.blk = none) (hh : it.holds (MS M0 l) w) : HI M0 w0 w (it :: l) := by
  refine ⟨h.below, h.m0, ?_, by simpa [List.filterMap_cons, hn] using h.nodup, ?_⟩
  · intro i hi b hb
    rcases List.mem_cons.1 hi with rfl | hi
    · rw [hn] at hb; cases hb
    · exact h.blks i hi b hb
  · rw [MS_cons_none hn]
    intro i hi
    rcases List.mem_cons.1 hi with rfl | hi
    · exact hh
    · exact h.all i hi
/-- A new block. -/
theorem HI.new (h : HI M0 w0 w l) (x : Ext w w') (b : Nat) (hn : it.blk = some b) (hb : w.heap.size ≤ b) (hb' : b < w'.heap.size) (hh : it.holds (MS M0 (it :: l)) w') : HI M0 w0 w' (it :: l) := by
  refine ⟨h.below.trans x, h.m0, ?_, ?_, ?_⟩
  · intro i hi c hc
    rcases List.mem_cons.1 hi with rfl | hi
    · rw [hn] at hc; cases hc; exact ⟨Nat.le_trans h.below.size hb, hb'⟩
    · exact ⟨(h.blks i hi c hc).1, Nat.lt_of_lt_of_le (h.blks i hi c hc).2 x.size⟩
  · rw [List.filterMap_cons, hn]
    refine List.nodup_cons.2 ⟨?_, h.nodup⟩
    intro hm
    obtain ⟨i, hi, hib⟩ := List.mem_filterMap.1 hm
    have := (h.blks i hi b hib).2
    omega
  · intro i hi
    rcases List.mem_cons.1 hi with rfl | hi
    · exact hh
    · refine i.lift (h.all i hi) ⟨x.size, fun c hc hM => ⟨x.block c hc, ?_⟩⟩ fun c hc => x.block c (h.blks i hi c hc).2
      rintro (hc' | ⟨j, hj, hjc⟩)
      · exact hM (.inl hc')
      · rcases List.mem_cons.1 hj with rfl | hj
        · rw [hn] at hjc; cases hjc; omega
        · exact hM (.inr ⟨j, hj, hjc⟩)

/-- Only the block of item i has turned; it' stands in its place (in the same block, a new one, or none). -/
theorem HI.turn (h : HI M0 w0 w l) (i : Nat) (hi : l[i]? = some it) (hos : w'.os = w.os) (hta : w'.tape = w.tape) (hou : w'.output = w.output) (hs : w.heap.size ≤ w'.heap.size)
    (hk : ∀ c, c < w.heap.size → it.blk ≠ some c → w'.heap[c]? = w.heap[c]?)
    (hb : ∀ b, it'.blk = some b → b < w'.heap.size ∧ (it.blk = some b ∨ w.heap.size ≤ b))
    (hh : it'.holds (MS M0 (l.set i it')) w') : HI M0 w0 w' (l.set i it') := by
  have hil : i < l.length := (List.getElem?_eq_some_iff.1 hi).1
  have hit : it ∈ l := List.mem_of_getElem? hi
  have hmem : ∀ j, j ∈ l.set i it' → j = it' ∨ ∃ m, m ≠ i ∧ l[m]? = some j := by
    intro j hj
    obtain ⟨m, hm, rfl⟩ := List.mem_iff_getElem.1 hj
    rw [List.getElem_set]
    split
    · exact .inl rfl
    · rename_i hne
      exact .inr ⟨m, fun e => hne e.symm, List.getElem?_eq_getElem (by simpa using hm)⟩
  -- blocks of the others differ from that of item i
  have hdis : ∀ m j b, m ≠ i → l[m]? = some j → j.blk = some b → it.blk ≠ some b := by
    intro m j b hm hj hjb hib
    exact hm (filterMap_inj (·.blk) l h.nodup m i j it hj hi (by rw [hjb]; rfl) (by rw [hjb, hib]))
  refine ⟨⟨hos.trans h.below.os, hta.trans h.below.tape, hou.trans h.below.output, Nat.le_trans h.below.size hs, fun c hc => ?_⟩, h.m0, ?_, ?_, ?_⟩
  · rw [hk c (Nat.lt_of_lt_of_le hc h.below.size) (fun e => by have := (h.blks it hit c e).1; omega)]
    exact h.below.block c hc
  · intro j hj b hjb
    rcases hmem j hj with rfl | ⟨m, hm, hjm⟩
    · obtain ⟨h1, h2⟩ := hb b hjb
      refine ⟨?_, h1⟩
      rcases h2 with h2 | h2
      · exact (h.blks it hit b h2).1
      · exact Nat.le_trans h.below.size h2
    · have := h.blks j (List.mem_of_getElem? hjm) b hjb
      exact ⟨this.1, Nat.lt_of_lt_of_le this.2 hs⟩
  · -- no two have one block
    have hsplit : l = l.take i ++ it :: l.drop (i + 1) := by
      have h1 := List.take_append_drop i l
      rw [List.drop_eq_getElem_cons hil] at h1
      have h2 : l[i] = it := by
        have := List.getElem?_eq_getElem hil
        rw [hi] at this
        exact (Option.some.inj this).symm
      rw [h2] at h1
      exact h1.symm
    have hset : l.set i it' = l.take i ++ it' :: l.drop (i + 1) := by
      rw [List.set_eq_take_append_cons_drop, if_pos hil]
    have hnd := h.nodup
    rw [hsplit] at hnd
    rw [hset]
    simp only [List.filterMap_append, List.filterMap_cons] at hnd ⊢
    have hsub : ((l.take i).filterMap (·.blk) ++ (l.drop (i + 1)).filterMap (·.blk)).Nodup := by
      refine List.Nodup.sublist ?_ hnd
      refine List.Sublist.append (List.Sublist.refl _) ?_
      cases it.blk with
      | none => exact List.Sublist.refl _
      | some b => exact List.sublist_cons_self _ _
    cases hbl : it'.blk with
    | none => simpa [hbl] using hsub
    | some b =>
      simp only []
      have hnot : ∀ j, (j ∈ l.take i ∨ j ∈ l.drop (i + 1)) → j.blk ≠ some b := by
        intro j hj hjb
        have hjm : ∃ m, m ≠ i ∧ l[m]? = some j := by
          rcases hj with hj | hj
          · obtain ⟨m, hm, rfl⟩ := List.mem_iff_getElem.1 hj
            simp only [List.length_take] at hm
            exact ⟨m, by omega, by rw [List.getElem_take]; exact List.getElem?_eq_getElem (by omega)⟩
          · obtain ⟨m, hm, rfl⟩ := List.mem_iff_getElem.1 hj
            simp only [List.length_drop] at hm
            exact ⟨i + 1 + m, by omega, by rw [List.getElem_drop]; exact List.getElem?_eq_getElem (by omega)⟩
        obtain ⟨m, hm, hjm⟩ := hjm
        rcases (hb b hbl).2 with h2 | h2
        · exact hdis m j b hm hjm hjb h2
        · have := (h.blks j (List.mem_of_getElem? hjm) b hjb).2
          omega
      have : ((l.take i).filterMap (·.blk) ++ b :: (l.drop (i + 1)).filterMap (·.blk)).Nodup := by
        rw [List.nodup_append] at hsub ⊢
        refine ⟨hsub.1, List.nodup_cons.2 ⟨?_, hsub.2.1⟩, ?_⟩
        · intro hm
          obtain ⟨j, hj, hjb⟩ := List.mem_filterMap.1 hm
          exact hnot j (.inr hj) hjb
        · intro c hc c' hc' he
          subst he
          rcases List.mem_cons.1 hc' with rfl | hc'
          · obtain ⟨j, hj, hjb⟩ := List.mem_filterMap.1 hc
            exact hnot j (.inl hj) hjb
          · exact hsub.2.2 c hc c hc' rfl
      exact this
  · intro j hj
    rcases hmem j hj with rfl | ⟨m, hm, hjm⟩
    · exact hh
    · have hjl := List.mem_of_getElem? hjm
      refine j.lift (h.all j hjl) ⟨hs, fun c hc hM => ?_⟩ fun c hc => hk c (h.blks j hjl c hc).2 (hdis m j c hm hjm hc)
      refine ⟨hk c hc fun e => hM (.inr ⟨it, hit, e⟩), ?_⟩
      rintro (h1 | ⟨q, hq, hqc⟩)
      · exact hM (.inl h1)
      · rcases hmem q hq with rfl | ⟨m', hm', hqm⟩
        · rcases (hb c hqc).2 with h2 | h2
          · exact hM (.inr ⟨it, hit, h2⟩)
          · omega
        · exact hM (.inr ⟨q, List.mem_of_getElem? hqm, hqc⟩)

/-- Fewer items. -/
theorem HI.pick (h : HI M0 w0 w l) (l' : List Item) (hs : ∀ it ∈ l', it ∈ l) (hn : (l'.filterMap (·.blk)).Nodup) : HI M0 w0 w l' :=
  ⟨h.below, h.m0, fun it hit => h.blks it (hs it hit), hn, fun it hit => it.lift (h.all it (hs it hit)) (Up.less fun b _ hb => by
    rcases hb with hb | ⟨j, hj, hjb⟩
    · exact .inl hb
    · exact .inr ⟨j, hs j hj, hjb⟩) fun _ _ => rfl⟩
/-- Without item i. -/
theorem HI.drop (h : HI M0 w0 w l) (i : Nat) : HI M0 w0 w (l.eraseIdx i) :=
  h.pick _ (fun it hit => List.mem_of_mem_eraseIdx hit) (h.nodup.sublist ((List.eraseIdx_sublist l i).filterMap _))
theorem HI.tail (h : HI M0 w0 w (it :: l)) : HI M0 w0 w l := h.drop 0
/-- Seen from outside. -/
theorem HI.out (h : HI M0 w0 w l) : Up (MS M0 l) w M0 w := Up.less fun b _ hb => .inl hb
end

/-- What a call gives: data that shares with what was handed in (outside M) and with nothing that may be written. -/
def Gives {α : Type} [GT α] (M : Nat → Prop) (w0 : World) (x : α) (v : Value) (w : World) : Prop := Ext w0 w ∧ RV M w v x
/-- .. new data: it shares with nothing that lay there before. -/
def News {α : Type} [GT α] (w0 : World) (x : α) (v : Value) (w : World) : Prop := Ext w0 w ∧ RV (fun b => b < w0.heap.size) w v x
/-- .. a slice of its own, that may be written. -/
def Owns {α : Type} [GT α] (e : TypeId) (w0 : World) (xs : List α) (v : Value) (w : World) : Prop :=
  Ext w0 w ∧ (∀ b, v.ownBlock = some b → b < w.heap.size) ∧ (own w0.heap.size e v xs).holds (fun b => b < w0.heap.size ∨ v.ownBlock = some b) w
end Go.Ew
