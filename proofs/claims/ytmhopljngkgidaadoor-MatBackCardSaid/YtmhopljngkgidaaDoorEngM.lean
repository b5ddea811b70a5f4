/- Engine, part M: operations on memory. -/
import Derived.Test.YtmhopljngkgidaaDoorEngC
namespace Go.Ew
open Go.RowKit Go.IntWalk
set_option linter.unusedVariables false
set_option linter.unusedSimpArgs false

/-- Is a type one of structs or arrays? -/
def aggT (P : Program) (t : TypeId) : Option Bool := (P.underlying t).map fun | .struct _ | .array _ _ => true | _ => false
/-- What the table says of a type. -/
structure TyF (P : Program) (t : TypeId) (k : Nat) (agg : Bool) (bytes : Nat) (z : Value) : Prop where
  i : (P.info? t).map (fun i => (i.zero, i.size, i.bytes)) = some (some z, k, bytes)
  a : aggT P t = some agg

section
variable {P : Program} {t e : TypeId} {k bytes : Nat} {agg : Bool} {z : Value} {w : World}
theorem TyF.info (F : TyF P t k agg bytes z) : ∃ i, P.info? t = some i ∧ i.zero = some z ∧ i.size = k ∧ i.bytes = bytes := info_parts F.i
theorem TyF.run_isAgg (F : TyF P t k agg bytes z) (w : World) : (isAgg t).run P w = .ok agg w := by
  have h := F.a
  unfold aggT at h
  cases hu : P.underlying t with
  | none => rw [hu] at h; cases h
  | some d =>
    rw [hu] at h
    simp only [Option.map_some, Option.some.injEq] at h
    subst h
    cases d <;> simp [isAgg, underlying, hu]
theorem TyF.run_size (F : TyF P t k agg bytes z) (w : World) : (sizeOf t).run P w = .ok k w := by
  obtain ⟨i, h1, _, h2, _⟩ := F.info
  simp [sizeOf, typeInfo, h1, h2]
theorem TyF.run_zero (F : TyF P t k agg bytes z) (w : World) : (zeroValue t).run P w = .ok z w := by
  obtain ⟨i, h1, h2, _⟩ := F.info
  simp [zeroValue, typeInfo, h1, h2]
theorem TyF.run_info (F : TyF P t k agg bytes z) (w : World) : ∃ i, (typeInfo t).run P w = .ok i w ∧ i.bytes = bytes := by
  obtain ⟨i, h1, _, _, h2⟩ := F.info
  exact ⟨i, by simp [typeInfo, h1], h2⟩
theorem run_und {d : TypeDesc} (h : P.underlying t = some d) (w : World) : (underlying t).run P w = .ok d w := by simp [underlying, h]

/-- A whole variable is read. -/
theorem run_loadVar (F : TyF P t k agg bytes z) (hk : agg = false → k = 1) {ad : Addr} {cs : List Value} (hl : cs.length = k) (hc : ∀ j v, cs[j]? = some v → w.cell? (ad.add j) = some v) :
    (loadVar t ad).run P w = .ok (mkv agg cs) w := by
  cases agg with
  | true =>
    subst hl
    simp [loadVar, F.run_isAgg, F.run_size, run_loadCells_list w ad cs hc, mkv]
  | false =>
    match cs, hl, hc with
    | [c], _, hc =>
      have h0 : w.cell? ad = some c := by
        have := hc 0 c rfl
        rwa [show ad.add 0 = ad from by simp [Addr.add]] at this
      simp [loadVar, F.run_isAgg, h0, mkv]
    | [], hl, _ => simp at hl; have := hk rfl; omega
    | _ :: _ :: _, hl, _ => simp at hl; have := hk rfl; omega
end

/-- As At, but it may lie in what is written. -/
def AtW {α : Type} [GT α] (M : Nat → Prop) (w : World) (ad : Addr) (x : α) : Prop := ∃ cs, GT.rep M w cs x ∧ ∀ j v, cs[j]? = some v → w.cell? (ad.add j) = some v
theorem At.w {α : Type} [GT α] {M : Nat → Prop} {w : World} {ad : Addr} {x : α} (h : At M w ad x) : AtW M w ad x := let ⟨cs, h1, _, h3⟩ := h; ⟨cs, h1, h3⟩
theorem At.fst {α β : Type} [GT α] [GT β] {M : Nat → Prop} {w : World} {ad : Addr} {x : α × β} (h : At M w ad x) : At M w ad x.1 := by
  obtain ⟨_, ⟨c1, c2, rfl, h1, h2⟩, hM, hc⟩ := h
  exact ⟨c1, h1, hM, fun j v hv => hc j v (by rw [List.getElem?_append_left (List.getElem?_eq_some_iff.1 hv).1]; exact hv)⟩
theorem At.snd {α β : Type} [GT α] [GT β] {M : Nat → Prop} {w : World} {ad : Addr} {x : α × β} (h : At M w ad x) : At M w (ad.add (GT.size α)) x.2 := by
  obtain ⟨_, ⟨c1, c2, rfl, h1, h2⟩, hM, hc⟩ := h
  refine ⟨c2, h2, by rw [add_block]; exact hM, fun j v hv => ?_⟩
  rw [add_add]
  refine hc _ v ?_
  rw [List.getElem?_append_right (by rw [GT.len h1]; omega), GT.len h1]
  rw [show GT.size α + j - GT.size α = j from by omega]
  exact hv
theorem AtW.fst {α β : Type} [GT α] [GT β] {M : Nat → Prop} {w : World} {ad : Addr} {x : α × β} (h : AtW M w ad x) : AtW M w ad x.1 := by
  obtain ⟨_, ⟨c1, c2, rfl, h1, h2⟩, hc⟩ := h
  exact ⟨c1, h1, fun j v hv => hc j v (by rw [List.getElem?_append_left (List.getElem?_eq_some_iff.1 hv).1]; exact hv)⟩
theorem AtW.snd {α β : Type} [GT α] [GT β] {M : Nat → Prop} {w : World} {ad : Addr} {x : α × β} (h : AtW M w ad x) : AtW M w (ad.add (GT.size α)) x.2 := by
  obtain ⟨_, ⟨c1, c2, rfl, h1, h2⟩, hc⟩ := h
  refine ⟨c2, h2, fun j v hv => ?_⟩
  rw [add_add]
  refine hc _ v ?_
  rw [List.getElem?_append_right (by rw [GT.len h1]; omega), GT.len h1]
  rw [show GT.size α + j - GT.size α = j from by omega]
  exact hv

section
variable {P : Program} {n : Nat} {ops : Array Oper} {f : Slots} {w : World} {K : Slots → World → Prop} {x y c : Operand} {d : Nat} {ty T T2 e : TypeId} {ps : String} {af : Array Edge} {v v2 : Value} {a b : Int} {M M0 : Nat → Prop} {w0 : World} {l : List Item} {kk : IntKind} {bytes : Nat} {z : Value} {ad : Addr} {size : Nat} {agg : Bool}

/-! #### Loads -/
theorem ldW {α : Type} [GT α] {xv : α} (hA : AtW M w ad xv) (F : TyF P T (GT.size α) (GT.agg α) bytes z) (ox : okT n x = true) (hx : ev f x = .pointer (some ad))
    (h : ∀ v, RV M w v xv → K (upd f d v) w) : SO P n ops ⟨some d, .load T x, ty, ps, af, none⟩ f w K := by
  obtain ⟨cs, h1, h2⟩ := hA
  exact SO.value (v := mkv (GT.agg α) cs) (by
    simp [execOp, eval_acts ox, hx, Instr.loadAt, Instr.sureAddr, run_loadVar F GT.single (GT.len h1) h2]) (h _ ⟨cs, h1, rfl⟩)
theorem ldI {i : Int} (hA : AtW M w ad i) (F : TyF P T 1 false bytes z) (ox : okT n x = true) (hx : ev f x = .pointer (some ad)) (h : I64 i → K (upd f d (.int .i64 i)) w) :
    SO P n ops ⟨some d, .load T x, ty, ps, af, none⟩ f w K := ldW hA F ox hx fun v hv => by obtain ⟨rfl, hi⟩ := RV.int.1 hv; exact h hi
theorem ldU {u : BitVec 64} (hA : AtW M w ad u) (F : TyF P T 1 false bytes z) (ox : okT n x = true) (hx : ev f x = .pointer (some ad)) (h : K (upd f d (U u)) w) :
    SO P n ops ⟨some d, .load T x, ty, ps, af, none⟩ f w K := ldW hA F ox hx fun v hv => by rw [RV.bv.1 hv]; exact h
theorem ld8 {u : BitVec 8} (hA : AtW M w ad u) (F : TyF P T 1 false bytes z) (ox : okT n x = true) (hx : ev f x = .pointer (some ad)) (h : K (upd f d (U8 u)) w) :
    SO P n ops ⟨some d, .load T x, ty, ps, af, none⟩ f w K := ldW hA F ox hx fun v hv => by rw [RV.b8.1 hv]; exact h
theorem ldB {u : Bool} (hA : AtW M w ad u) (F : TyF P T 1 false bytes z) (ox : okT n x = true) (hx : ev f x = .pointer (some ad)) (h : K (upd f d (.bool u)) w) :
    SO P n ops ⟨some d, .load T x, ty, ps, af, none⟩ f w K := ldW hA F ox hx fun v hv => by rw [RV.bool.1 hv]; exact h
theorem ldS {u : ByteArray} (hA : AtW M w ad u) (F : TyF P T 1 false bytes z) (ox : okT n x = true) (hx : ev f x = .pointer (some ad)) (h : u.size ≤ maxLen → K (upd f d (.string u)) w) :
    SO P n ops ⟨some d, .load T x, ty, ps, af, none⟩ f w K := ldW hA F ox hx fun v hv => by obtain ⟨rfl, hi⟩ := RV.str.1 hv; exact h hi
theorem RS.explicit {α : Type} [GT α] {xs : List α} (h : RS M w v xs) : ∃ a c, v = .slice a xs.length c ∧ RV M w (.slice a xs.length c) xs := by
  obtain ⟨a, n, c, rfl, rfl, h3⟩ := h
  exact ⟨a, c, rfl, RV.list.2 ⟨a, _, c, rfl, rfl, h3⟩⟩
/-- A slice is read out of memory: its address and its room get names. -/
theorem ldL {α : Type} [GT α] {xs : List α} (hA : AtW M w ad xs) (F : TyF P T 1 false bytes z) (ox : okT n x = true) (hx : ev f x = .pointer (some ad))
    (h : ∀ a c, RV M w (.slice a xs.length c) xs → K (upd f d (.slice a xs.length c)) w) : SO P n ops ⟨some d, .load T x, ty, ps, af, none⟩ f w K :=
  ldW hA F ox hx fun v hv => by obtain ⟨a, c, rfl, hr⟩ := (RV.list.1 hv).explicit; exact h a c hr

/-- Out of a block of the call's own, cell by cell. -/
theorem ldX {bb off : Nat} {cs : Array Value} {t : TypeId} {k : Nat} (H : HI M0 w0 w l) (i : Nat) (hi : l[i]? = some (box bb cs t)) (F : TyF P T k agg bytes z) (ox : okT n x = true) (hx : ev f x = .pointer (some ⟨bb, off, none⟩))
    (hk : agg = false → k = 1) (hl : ((cs.toList.drop off).take k).length = k) (h : K (upd f d (mkv agg ((cs.toList.drop off).take k))) w) : SO P n ops ⟨some d, .load T x, ty, ps, af, none⟩ f w K := by
  have hb : w.heap[bb]? = some (.cells cs t (0, 0)) := H.at_ i hi
  refine SO.value (v := mkv agg ((cs.toList.drop off).take k)) ?_ h
  have hc : ∀ j u, ((cs.toList.drop off).take k)[j]? = some u → w.cell? ((⟨bb, off, none⟩ : Addr).add j) = some u := by
    intro j u hu
    rw [show (⟨bb, off, none⟩ : Addr).add j = ⟨bb, off + j, none⟩ from by unfold Addr.add; split <;> simp_all, cell_of_row w bb (off + j) cs t (0, 0) hb]
    have hj : j < k := by
      have := (List.getElem?_eq_some_iff.1 hu).1
      omega
    rw [List.getElem?_take, if_pos hj, List.getElem?_drop] at hu
    simpa using hu
  simp [execOp, eval_acts ox, hx, Instr.loadAt, Instr.sureAddr, run_loadVar F hk hl hc]

/-! #### Stores into a block of the call's own -/
def wr (cs : Array Value) (off : Nat) (vs : List Value) : Array Value := (cs.toList.take off ++ vs ++ cs.toList.drop (off + vs.length)).toArray
theorem run_storeVar (F : TyF P T size agg bytes z) {g o : Nat} {cs : Array Value} {t : TypeId} (hg : w.heap[g]? = some (.cells cs t (0, 0))) (hs : v.cells.size = size) (hf : o + v.cells.toList.length ≤ cs.size) (h1 : ∀ u ∈ v.cells.toList, u.oneCell' = true) :
    (storeVar T ⟨g, o, none⟩ v).run P w = .ok () (w.setRow g (wr cs o v.cells.toList)) := by
  have hst := run_storeCells_at P g o t v.cells.toList 0 cs w hg (by simpa using hf) h1
  simp only [Nat.add_zero] at hst
  simp [storeVar, F.run_size, hs, hst, wr]
theorem setRow_facts (w : World) (g : Nat) (cs : Array Value) : (w.setRow g cs).os = w.os ∧ (w.setRow g cs).tape = w.tape ∧ (w.setRow g cs).output = w.output := ⟨rfl, rfl, rfl⟩
theorem HI.wrote {g : Nat} {cs cs' : Array Value} {t : TypeId} (H : HI M0 w0 w l) (i : Nat) (hi : l[i]? = some (box g cs t)) : HI M0 w0 (w.setRow g cs') (l.set i (box g cs' t)) := by
  have hb : w.heap[g]? = some (.cells cs t (0, 0)) := H.at_ i hi
  refine H.turn i hi rfl rfl rfl (by simp) (fun c hc hne => setRow_other w g c _ (fun e => hne (by rw [e]; rfl))) (fun b hb' => ?_) (setRow_heap w g cs _ t _ hb)
  refine ⟨?_, .inl hb'⟩
  rw [size_setRow]
  exact (H.blks _ (List.mem_of_getElem? hi) b hb').2
theorem stX {dd : Option Nat} {bb off : Nat} {cs : Array Value} {t : TypeId} (H : HI M0 w0 w l) (i : Nat) (hi : l[i]? = some (box bb cs t)) (F : TyF P T size agg bytes z) (ox : okT n x = true) (oy : okT n y = true) (hx : ev f x = .pointer (some ⟨bb, off, none⟩)) (hy : ev f y = v)
    (hs : v.cells.size = size) (hf : Nat.ble (off + v.cells.toList.length) cs.size = true) (h1 : v.cells.toList.all Value.oneCell' = true)
    (h : ∀ w', HI M0 w0 w' (l.set i (box bb (wr cs off v.cells.toList) t)) → K (updO f dd undef) w') : SO P n ops ⟨dd, .store T x y, ty, ps, af, none⟩ f w K := by
  have hb : w.heap[bb]? = some (.cells cs t (0, 0)) := H.at_ i hi
  refine SO.skip ?_ (h _ (H.wrote i hi))
  simp [execOp, eval_acts ox, eval_acts oy, hx, hy, Instr.storeAt, Instr.sureAddr, run_storeVar F hb hs (by simpa using hf) (fun u hu => List.all_eq_true.1 h1 u hu)]

/-! #### New blocks -/
theorem newVar_run (t : TypeId) (v : Value) (w : World) : (newVar t v).run P w = .ok ⟨w.heap.size, 0, none⟩ (w.alloc (.cells v.cells t)) := by simp [newVar, newRow]
theorem HI.box_ (H : HI M0 w0 w l) (cs : Array Value) (t : TypeId) : HI M0 w0 (w.alloc (.cells cs t)) (box w.heap.size cs t :: l) :=
  H.new (Ext.alloc w _) w.heap.size rfl (Nat.le_refl _) (by simp) (heap_alloc_new w _)
/-- var x T -/
theorem al (H : HI M0 w0 w l) (F : TyF P T size agg bytes z) (h : ∀ b w', Ext w w' → HI M0 w0 w' (box b z.cells T :: l) → K (upd f d (.pointer (some ⟨b, 0, none⟩))) w') :
    SO P n ops ⟨some d, .alloc T, ty, ps, af, none⟩ f w K :=
  SO.value (v := .pointer (some ⟨w.heap.size, 0, none⟩)) (w' := w.alloc (.cells z.cells T)) (by simp [execOp, Instr.alloc, F.run_zero, newVar_run]) (h _ _ (Ext.alloc w _) (H.box_ z.cells T))
/-- a value that gets a place -/
theorem bx (H : HI M0 w0 w l) (ox : okT n x = true) (hx : ev f x = v) (h : ∀ b w', Ext w w' → HI M0 w0 w' (box b v.cells T :: l) → K (upd f d (.pointer (some ⟨b, 0, none⟩))) w') :
    SO P n ops ⟨some d, .box T x, ty, ps, af, none⟩ f w K :=
  SO.value (v := .pointer (some ⟨w.heap.size, 0, none⟩)) (w' := w.alloc (.cells v.cells T)) (by simp [execOp, Instr.box, eval_acts ox, hx, newVar_run]) (h _ _ (Ext.alloc w _) (H.box_ v.cells T))

/-! #### Addresses -/
structure FldF (P : Program) (s : TypeId) (j : Nat) (off : Nat) : Prop where
  h : ∃ fs fd, P.underlying s = some (.struct fs) ∧ fs[j]? = some fd ∧ fd.offset = off ∧ ((P.info? fd.type).map fun i => Nat.beq i.size 0) = some false
theorem fa {j off : Nat} (F : FldF P T j off) (ox : okT n x = true) (hx : ev f x = .pointer (some ad)) (h : K (upd f d (.pointer (some (ad.add off)))) w) : SO P n ops ⟨some d, .fieldAddr T x j, ty, ps, af, none⟩ f w K := by
  obtain ⟨fs, fd, h1, h2, rfl, h3⟩ := F.h
  obtain ⟨i, h4, h6⟩ := Option.map_eq_some_iff.1 h3
  have h5 : i.size ≠ 0 := by
    intro e
    rw [e] at h6
    cases h6
  exact SO.value (v := .pointer (some (ad.add fd.offset))) (by
    simp [execOp, eval_acts ox, hx, Instr.fieldAt, run_und h1, h2, Instr.sureAddr, fieldPlace, sizeOf, typeInfo, h4, h5]) h

/-- &xs[i] of a slice that is read. -/
theorem ia {α : Type} [GT α] {xs : List α} {i : Int} (hR : RV M w v xs) (ox : okT n x = true) (oy : okT n y = true) (hx : ev f x = v) (hy : ev f y = .int kk i) (hi : 0 ≤ i ∧ i < xs.length) (hu : P.underlying T = some (.slice e)) (F : TyF P e (GT.size α) agg bytes z)
    (h : ∀ ad xv, xs[i.toNat]? = some xv → At M w ad xv → K (upd f d (.pointer (some ad))) w) : SO P n ops ⟨some d, .indexAddr T x y, ty, ps, af, none⟩ f w K := by
  obtain ⟨a, m, c, rfl, h1, h2, h3, h4⟩ := RV.list.1 hR
  rcases h4 with h4 | ⟨ad, rfl, hs⟩
  · omega
  · have hlt : i.toNat < xs.length := by omega
    refine SO.value (v := .pointer (some (ad.add (i.toNat * GT.size α)))) ?_ (h _ xs[i.toNat] (List.getElem?_eq_getElem hlt) (hs _ _ (List.getElem?_eq_getElem hlt)))
    have hb : 0 ≤ i ∧ i < (m : Int) := by omega
    simp [execOp, eval_acts ox, eval_acts oy, hx, hy, Instr.indexAt, asIntOf, run_und hu, hb, F.run_size]
/-- &xs[i] of a slice of the call's own. -/
theorem iaO {α : Type} [GT α] {xs : List α} {B : Nat} {i : Int} (hO : (own B e v xs).holds M w) (ox : okT n x = true) (oy : okT n y = true) (hx : ev f x = v) (hy : ev f y = .int kk i) (hi : 0 ≤ i ∧ i < xs.length) (hu : P.underlying T = some (.slice e)) (F : TyF P e (GT.size α) agg bytes z)
    (h : ∀ g xv, v.ownBlock = some g → xs[i.toNat]? = some xv → AtW M w ⟨g, i.toNat * GT.size α, none⟩ xv → K (upd f d (.pointer (some ⟨g, i.toNat * GT.size α, none⟩))) w) : SO P n ops ⟨some d, .indexAddr T x y, ty, ps, af, none⟩ f w K := by
  obtain ⟨cs, h1, h2⟩ := hO
  rcases h1.2 with ⟨_, h3⟩ | ⟨g, cap, cur, rfl, h3, h4, h5, h6, h7, h8⟩
  · omega
  · have hlt : i.toNat < xs.length := by omega
    have hadd : (⟨g, 0, none⟩ : Addr).add (i.toNat * GT.size α) = ⟨g, i.toNat * GT.size α, none⟩ := by unfold Addr.add; split <;> simp_all
    refine SO.value (v := .pointer (some ⟨g, i.toNat * GT.size α, none⟩)) ?_ (h g xs[i.toNat] rfl (List.getElem?_eq_getElem hlt) ?_)
    · have hb : 0 ≤ i ∧ i < (xs.length : Int) := by omega
      simp [execOp, eval_acts ox, eval_acts oy, hx, hy, Instr.indexAt, asIntOf, run_und hu, hb, F.run_size, hadd]
    · obtain ⟨c, hc1, hc2⟩ := Chunks.at_ h2 i.toNat xs[i.toNat] (List.getElem?_eq_getElem hlt)
      refine ⟨c, hc1, fun j u hu => ?_⟩
      have hcell := h1.cells (g := g) rfl (i.toNat * GT.size α + j) u (hc2 j u hu)
      rwa [← add_add, hadd] at hcell

theorem Chunks.set {α : Type} [GT α] {M : Nat → Prop} {w : World} {y : α} {c : List Value} (hy : GT.rep M w c y) : ∀ {xs : List α} {cs : List Value} (i : Nat), i < xs.length → Chunks M w cs xs →
    Chunks M w (cs.take (i * GT.size α) ++ c ++ cs.drop (i * GT.size α + c.length)) (xs.set i y)
  | x :: xs, cs, 0, _, ⟨c1, c2, h1, h2, h3⟩ => by
    refine ⟨c, c2, ?_, hy, h3⟩
    rw [h1, Nat.zero_mul, List.take_zero, List.nil_append, Nat.zero_add, GT.len hy, ← GT.len h2, List.drop_left]
  | x :: xs, cs, i + 1, hi, ⟨c1, c2, h1, h2, h3⟩ => by
    have := Chunks.set hy i (by simpa using hi) h3
    refine ⟨c1, _, ?_, h2, this⟩
    have hl := GT.len h2
    rw [h1, show (i + 1) * GT.size α = c1.length + i * GT.size α from by rw [hl, Nat.add_mul]; omega, Nat.add_assoc]
    rw [List.take_append, List.drop_append, List.take_of_length_le (by omega), List.drop_eq_nil_of_le (by omega)]
    rw [show c1.length + i * GT.size α - c1.length = i * GT.size α from by omega, show c1.length + (i * GT.size α + c.length) - c1.length = i * GT.size α + c.length from by omega]
    simp [List.append_assoc]

theorem take_splice {β : Type} (cur cy : List β) (o n : Nat) (h : o + cy.length ≤ n) (hn : n ≤ cur.length) :
    (cur.take o ++ cy ++ cur.drop (o + cy.length)).take n = (cur.take n).take o ++ cy ++ (cur.take n).drop (o + cy.length) := by
  rw [List.take_append, List.take_append, List.drop_take, List.take_take, List.take_take, List.length_append, List.length_take]
  rw [show min n o = o from by omega, show min o n = o from by omega, show min o cur.length = o from by omega, List.take_of_length_le (l := cy) (by omega)]

/-- xs[i] = y, xs the call's own. -/
theorem stO {dd : Option Nat} {α : Type} [GT α] {xs : List α} {yv : α} {B : Nat} {j g : Nat} {u : Value} (H : HI M0 w0 w l) (i : Nat) (hi : l[i]? = some (own B e v xs)) (hg : v.ownBlock = some g) (hB : B = w0.heap.size) (hj : j < xs.length) (F : TyF P T (GT.size α) agg bytes z) (ox : okT n x = true) (oy : okT n y = true)
    (hx : ev f x = .pointer (some ⟨g, j * GT.size α, none⟩)) (hy : ev f y = u) (hR : RV (MS M0 l) w u yv)
    (h : ∀ w', HI M0 w0 w' (l.set i (own B e v (xs.set j yv))) → K (updO f dd undef) w') : SO P n ops ⟨dd, .store T x y, ty, ps, af, none⟩ f w K := by
  subst hB
  obtain ⟨cs, h1, h2⟩ := H.at_ i hi
  rcases h1.2 with ⟨rfl, h3⟩ | ⟨g', cap, cur, rfl, h3, h4, h5, h6, h7, h8⟩
  · cases hg
  · have hgg : g' = g := by simpa [Value.ownBlock] using hg
    subst hgg
    obtain ⟨cy, hy1, rfl⟩ := hR
    have hcells := cells_mkv (agg := GT.agg α) (cs := cy) (fun h => by rw [GT.len hy1]; exact GT.single h) (GT.one hy1)
    have hclen := GT.len hy1
    have hfit : j * GT.size α + cy.length ≤ cur.size := by
      rw [h7, hclen]
      have : (j + 1) * GT.size α ≤ cap * GT.size α := Nat.mul_le_mul_right _ (by omega)
      rw [Nat.add_mul] at this
      omega
    have hrun := run_storeVar (P := P) (w := w) F (g := g') (o := j * GT.size α) (v := mkv (GT.agg α) cy) h4 (by rw [hcells]; simpa using hclen) (by rw [hcells]; simpa using hfit) (by rw [hcells]; simpa using GT.one hy1)
    rw [hcells] at hrun
    simp only [List.toList_toArray] at hrun
    refine SO.skip (w' := w.setRow g' (wr cur (j * GT.size α) cy)) ?_ (h _ ?_)
    · simp [execOp, eval_acts ox, eval_acts oy, hx, hy, Instr.storeAt, Instr.sureAddr, hrun]
    · have hother : ∀ c, c < w.heap.size → (own w0.heap.size e (Value.slice (some ⟨g', 0, none⟩) xs.length cap) xs).blk ≠ some c → (w.setRow g' (wr cur (j * GT.size α) cy)).heap[c]? = w.heap[c]? :=
        fun c hc hne => setRow_other w g' c _ (fun e => hne (by rw [e]; rfl))
      have hblk : ∀ b, (own w0.heap.size e (Value.slice (some ⟨g', 0, none⟩) xs.length cap) (xs.set j yv)).blk = some b → b < (w.setRow g' (wr cur (j * GT.size α) cy)).heap.size ∧ ((own w0.heap.size e (Value.slice (some ⟨g', 0, none⟩) xs.length cap) xs).blk = some b ∨ w.heap.size ≤ b) := by
        intro b hb
        refine ⟨?_, .inl hb⟩
        rw [size_setRow]
        exact (H.blks _ (List.mem_of_getElem? hi) b hb).2
      refine H.turn i hi rfl rfl rfl (by simp) hother hblk ?_
      refine ⟨cs.take (j * GT.size α) ++ cy ++ cs.drop (j * GT.size α + cy.length), ?_, ?_⟩
      · rw [List.length_set]
        have hlen : (cs.take (j * GT.size α) ++ cy ++ cs.drop (j * GT.size α + cy.length)).length = xs.length * GT.size α := by
          have hcl := h1.1
          have : (j + 1) * GT.size α ≤ xs.length * GT.size α := Nat.mul_le_mul_right _ (by omega)
          rw [Nat.add_mul] at this
          simp only [List.length_append, List.length_take, List.length_drop]
          omega
        refine ⟨hlen, .inr ⟨g', cap, wr cur (j * GT.size α) cy, rfl, h3, setRow_heap w g' cur _ e _ h4, h5, h6, ?_, ?_⟩⟩
        · simp only [wr, List.size_toArray, List.length_append, List.length_take, List.length_drop, Array.length_toList]
          omega
        · have hle : (j + 1) * GT.size α ≤ xs.length * GT.size α := Nat.mul_le_mul_right _ (by omega)
          rw [Nat.add_mul] at hle
          have hcl := h1.1
          have hsz : xs.length * GT.size α ≤ cur.size := by rw [h7]; exact Nat.mul_le_mul_right _ h5
          simp only [wr]
          rw [← h8]
          exact take_splice cur.toList cy (j * GT.size α) (xs.length * GT.size α) (by omega) (by simpa using hsz)
      · -- the elements
        have hup : Up (MS M0 l) w (MS M0 (l.set i (own w0.heap.size e (Value.slice (some ⟨g', 0, none⟩) xs.length cap) (xs.set j yv)))) (w.setRow g' (wr cur (j * GT.size α) cy)) := by
          refine ⟨by simp, fun b hb hM => ⟨setRow_other w g' b _ (fun e => hM (.inr ⟨_, List.mem_of_getElem? hi, by rw [e]; rfl⟩)), ?_⟩⟩
          rintro (hM' | ⟨it, hit, hitb⟩)
          · exact hM (.inl hM')
          · rcases List.mem_or_eq_of_mem_set hit with hit | rfl
            · exact hM (.inr ⟨it, hit, hitb⟩)
            · exact hM (.inr ⟨_, List.mem_of_getElem? hi, hitb⟩)
        exact Chunks.lift hup (Chunks.set hy1 j hj h2)

/-! #### len -/
theorem lnS {ao : Option Addr} {m cc : Nat} (ox : okT n x = true) (hx : ev f x = .slice ao m cc) (hu : P.underlying T = some (.slice e)) (h : K (upd f d (.int .i64 (m : Int))) w) :
    SO P n ops ⟨some d, .call { callee := .builtin .len, args := #[x], argTypes := #[T] }, ty, ps, af, none⟩ f w K :=
  SO.value (v := .int .i64 (m : Int)) (by simp [execOp, resolve, invoke, builtin, Builtin.len_, eval_acts ox, hx, run_und hu, goInt]) h
theorem lnT {s : ByteArray} (ox : okT n x = true) (hx : ev f x = .string s) (hu : P.underlying T = some .string) (h : K (upd f d (.int .i64 (s.size : Int))) w) :
    SO P n ops ⟨some d, .call { callee := .builtin .len, args := #[x], argTypes := #[T] }, ty, ps, af, none⟩ f w K :=
  SO.value (v := .int .i64 (s.size : Int)) (by simp [execOp, resolve, invoke, builtin, Builtin.len_, eval_acts ox, hx, run_und hu, goInt]) h

/-! #### nil -/
theorem run_eqN {ao : Option Addr} {m cc : Nat} (hu : P.underlying T = some (.slice e)) : (binOp .eql T (.slice ao m cc) (.slice none 0 0)).run P w = .ok (.bool ao.isNone) w := by
  show ((Op.equal T (.slice ao m cc) (.slice none 0 0) >>= fun b => pure (Value.bool b)) : Sem Value).run P w = _
  have h : (Op.equal T (.slice ao m cc) (.slice none 0 0)).run P w = .ok ao.isNone w := by
    rw [show Op.equal T (.slice ao m cc) (.slice none 0 0) = Op.equalIn (9999 + 1) T (.slice ao m cc) (.slice none 0 0) from rfl]
    unfold Op.equalIn
    rw [Sem.run_bind, run_und hu]
    cases ao <;> rfl
  rw [Sem.run_bind, h]; rfl
theorem eqN {ao : Option Addr} {m cc : Nat} (ox : okT n x = true) (oy : okT n y = true) (hx : ev f x = .slice ao m cc) (hy : ev f y = .slice none 0 0) (hu : P.underlying T = some (.slice e)) (h : K (upd f d (.bool ao.isNone)) w) :
    SO P n ops ⟨some d, .binOp .eql T x y T2, ty, ps, af, none⟩ f w K :=
  SO.value (v := .bool ao.isNone) (by
    have hg : (eqGuard .eql T x y (.slice ao m cc) (.slice none 0 0)).run P w = .ok () w := by unfold eqGuard; rfl
    have hr := run_eqN (P := P) (w := w) (ao := ao) (m := m) (cc := cc) hu
    simp only [execOp, eval_acts ox, eval_acts oy, hx, hy, Sem.run_bind, hg, hr, Result.andThen_ok, Sem.run_pure]) h
end
end Go.Ew
