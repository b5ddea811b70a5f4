/- Engine, part R: structs and pairs held against each other; maps of the call's own whose keys are pairs of numbers. -/
import Derived.Test.YtmhopljngkgidaaDoorEngP
import Derived.Laws.StructEq
import Derived.ChangeKeysEq
import Derived.MapKept
namespace Go.Ew
open Go.RowKit
set_option linter.unusedVariables false
set_option linter.unusedSimpArgs false

/-- A guarded operation whose guard was itself passed over is passed over. -/
theorem gu {P : Program} {n : Nat} {ops : Array Oper} {f : Slots} {w : World} {K : Slots → World → Prop} {d : Option Nat} {op : Op} {ty : TypeId} {ps : String} {af : Array Edge} {j t : Nat} {want : Bool}
    (hj : gdst ops j = some t) (ht : Nat.blt t n = true) (hv : f t = undef)
    (h : K (updO f d undef) w) : SO P n ops ⟨d, op, ty, ps, af, some (j, want)⟩ f w K := by
  intro Q rest hk
  have hy : yielded ops (acts n f).tmps j = none := by
    simp only [Nat.blt_eq] at ht
    unfold gdst at hj
    simp [yielded, hj, acts, ht, hv, undef]
  unfold wpList
  rw [if_neg (by simp [Region.wanted, hy])]
  rw [put_acts]
  exact hk _ _ h

/-! Fields further behind. -/
theorem At.s1 {α β : Type} [GT α] [GT β] {M : Nat → Prop} {w : World} {ad : Addr} {x : α × β} (h : At M w ad x) : At M w (ad.add (GT.size α)) x.2 := h.snd
theorem At.s2 {α β γ : Type} [GT α] [GT β] [GT γ] {M : Nat → Prop} {w : World} {ad : Addr} {x : α × β × γ} (h : At M w ad x) : At M w (ad.add (GT.size α + GT.size β)) x.2.2 := by have h_ := h.s1.snd; rwa [add_add] at h_
theorem At.s3 {α β γ δ : Type} [GT α] [GT β] [GT γ] [GT δ] {M : Nat → Prop} {w : World} {ad : Addr} {x : α × β × γ × δ} (h : At M w ad x) : At M w (ad.add (GT.size α + GT.size β + GT.size γ)) x.2.2.2 := by have h_ := h.s2.snd; rwa [add_add] at h_
theorem At.s4 {α β γ δ ε : Type} [GT α] [GT β] [GT γ] [GT δ] [GT ε] {M : Nat → Prop} {w : World} {ad : Addr} {x : α × β × γ × δ × ε} (h : At M w ad x) : At M w (ad.add (GT.size α + GT.size β + GT.size γ + GT.size δ)) x.2.2.2.2 := by have h_ := h.s3.snd; rwa [add_add] at h_
theorem At.s5 {α β γ δ ε ζ : Type} [GT α] [GT β] [GT γ] [GT δ] [GT ε] [GT ζ] {M : Nat → Prop} {w : World} {ad : Addr} {x : α × β × γ × δ × ε × ζ} (h : At M w ad x) : At M w (ad.add (GT.size α + GT.size β + GT.size γ + GT.size δ + GT.size ε)) x.2.2.2.2.2 := by have h_ := h.s4.snd; rwa [add_add] at h_
theorem At.s6 {α β γ δ ε ζ η : Type} [GT α] [GT β] [GT γ] [GT δ] [GT ε] [GT ζ] [GT η] {M : Nat → Prop} {w : World} {ad : Addr} {x : α × β × γ × δ × ε × ζ × η} (h : At M w ad x) : At M w (ad.add (GT.size α + GT.size β + GT.size γ + GT.size δ + GT.size ε + GT.size ζ)) x.2.2.2.2.2.2 := by have h_ := h.s5.snd; rwa [add_add] at h_
theorem AtW.s1 {α β : Type} [GT α] [GT β] {M : Nat → Prop} {w : World} {ad : Addr} {x : α × β} (h : AtW M w ad x) : AtW M w (ad.add (GT.size α)) x.2 := h.snd
theorem AtW.s2 {α β γ : Type} [GT α] [GT β] [GT γ] {M : Nat → Prop} {w : World} {ad : Addr} {x : α × β × γ} (h : AtW M w ad x) : AtW M w (ad.add (GT.size α + GT.size β)) x.2.2 := by have h_ := h.s1.snd; rwa [add_add] at h_
theorem AtW.s3 {α β γ δ : Type} [GT α] [GT β] [GT γ] [GT δ] {M : Nat → Prop} {w : World} {ad : Addr} {x : α × β × γ × δ} (h : AtW M w ad x) : AtW M w (ad.add (GT.size α + GT.size β + GT.size γ)) x.2.2.2 := by have h_ := h.s2.snd; rwa [add_add] at h_
theorem AtW.s4 {α β γ δ ε : Type} [GT α] [GT β] [GT γ] [GT δ] [GT ε] {M : Nat → Prop} {w : World} {ad : Addr} {x : α × β × γ × δ × ε} (h : AtW M w ad x) : AtW M w (ad.add (GT.size α + GT.size β + GT.size γ + GT.size δ)) x.2.2.2.2 := by have h_ := h.s3.snd; rwa [add_add] at h_
theorem AtW.s5 {α β γ δ ε ζ : Type} [GT α] [GT β] [GT γ] [GT δ] [GT ε] [GT ζ] {M : Nat → Prop} {w : World} {ad : Addr} {x : α × β × γ × δ × ε × ζ} (h : AtW M w ad x) : AtW M w (ad.add (GT.size α + GT.size β + GT.size γ + GT.size δ + GT.size ε)) x.2.2.2.2.2 := by have h_ := h.s4.snd; rwa [add_add] at h_
theorem AtW.s6 {α β γ δ ε ζ η : Type} [GT α] [GT β] [GT γ] [GT δ] [GT ε] [GT ζ] [GT η] {M : Nat → Prop} {w : World} {ad : Addr} {x : α × β × γ × δ × ε × ζ × η} (h : AtW M w ad x) : AtW M w (ad.add (GT.size α + GT.size β + GT.size γ + GT.size δ + GT.size ε + GT.size ζ)) x.2.2.2.2.2.2 := by have h_ := h.s5.snd; rwa [add_add] at h_

section
variable {P : Program}

/-- A type of one cell, and what '==' says of two values of it. -/
def Leaf (P : Program) (t : TypeId) (v u : Value) (r : Bool) : Prop := (∀ w, (isAgg t).run P w = .ok false w) ∧ ∀ d w, (Op.equalIn (d + 1) t v u).run P w = .ok r w
theorem noAgg {t : TypeId} {d : TypeDesc} (h : P.underlying t = some d) (hd : (match d with | .struct _ | .array _ _ => false | _ => true) = true) (w : World) : (isAgg t).run P w = .ok false w := by
  cases d <;> first | (cases hd; done) | simp [isAgg, underlying, h]
theorem leafI {t : TypeId} {k kk : IntKind} {a b : Int} (h : P.underlying t = some (.int k)) : Leaf P t (.int kk a) (.int kk b) (decide (a = b)) :=
  ⟨noAgg h rfl, fun d w => by rw [run_equalIn_int w d t kk k a b h]; congr 1⟩
theorem leafB {t : TypeId} {a b : Bool} (h : P.underlying t = some .bool) : Leaf P t (.bool a) (.bool b) (decide (a = b)) :=
  ⟨noAgg h rfl, fun d w => by rw [run_equalIn_bool' w d t a b h]; congr 1⟩
theorem leafS {t : TypeId} {a b : ByteArray} (h : P.underlying t = some .string) : Leaf P t (.string a) (.string b) (decide (a = b)) :=
  ⟨noAgg h rfl, fun d w => by
    have e : (a.toList == b.toList) = decide (a = b) := by
      rw [← beq_toListBytes, Bool.eq_iff_iff]
      rcases a with ⟨x⟩
      rcases b with ⟨y⟩
      show (x == y) = true ↔ _
      simp
    rw [run_equalIn_string w d t a b h, e]⟩
theorem part_leaf {t : TypeId} {cs : Array Value} {off : Nat} {v : Value} (h : ∀ w, (isAgg t).run P w = .ok false w) (hc : cs[off]? = some v) (w : World) : (part t cs off).run P w = .ok v w := by
  simp [part, h w, hc]

/-- What kind of leaf a type is. -/
def leafKind (P : Program) (t : TypeId) : Option Nat := match P.underlying t with | some (.int _) => some 0 | some .bool => some 1 | some .string => some 2 | _ => none
/-- A struct's fields: where each lies, and its kind. -/
def fldsK (P : Program) (T : TypeId) : List (Option (Nat × Nat)) := (P.fieldsOf T).toList.map fun f => if f.name = "_" then none else (leafKind P f.type).map fun k => (f.offset, k)
/-- The cells of two structs, kind by kind, and what is said of each. -/
def KEq (xs ys : Array Value) : List (Option (Nat × Nat)) → List Bool → Prop
  | [], [] => True
  | some (o, 0) :: ks, r :: rs => (∃ kk a b, xs[o]? = some (.int kk a) ∧ ys[o]? = some (.int kk b) ∧ r = decide (a = b)) ∧ KEq xs ys ks rs
  | some (o, 1) :: ks, r :: rs => (∃ a b, xs[o]? = some (.bool a) ∧ ys[o]? = some (.bool b) ∧ r = decide (a = b)) ∧ KEq xs ys ks rs
  | some (o, 2) :: ks, r :: rs => (∃ a b, xs[o]? = some (.string a) ∧ ys[o]? = some (.string b) ∧ r = decide (a = b)) ∧ KEq xs ys ks rs
  | _, _ => False
theorem leafKind_0 {t : TypeId} (h : leafKind P t = some 0) : ∃ k, P.underlying t = some (.int k) := by
  unfold leafKind at h; split at h <;> simp_all
theorem leafKind_1 {t : TypeId} (h : leafKind P t = some 1) : P.underlying t = some .bool := by
  unfold leafKind at h; split at h <;> simp_all
theorem leafKind_2 {t : TypeId} (h : leafKind P t = some 2) : P.underlying t = some .string := by
  unfold leafKind at h; split at h <;> simp_all

theorem eqFlds {xs ys : Array Value} : ∀ {fs : List Field} {rs : List Bool} (d : Nat) (w : World), KEq xs ys (fs.map fun f => if f.name = "_" then none else (leafKind P f.type).map fun k => (f.offset, k)) rs → (Op.eqFields (d + 1) xs ys fs).run P w = .ok (rs.all id) w
  | [], [], d, w, _ => by simp [Op.eqFields]
  | [], _ :: _, d, w, h => by simp [KEq] at h
  | f :: fs, rs, d, w, h => by
    rw [List.map_cons] at h
    by_cases hn : f.name = "_"
    · rw [if_pos hn] at h; cases rs <;> simp [KEq] at h
    · rw [if_neg hn] at h
      have key : ∀ (a b : Value) (r : Bool) (rs' : List Bool), Leaf P f.type a b r → xs[f.offset]? = some a → ys[f.offset]? = some b →
          KEq xs ys (fs.map fun f => if f.name = "_" then none else (leafKind P f.type).map fun k => (f.offset, k)) rs' → (Op.eqFields (d + 1) xs ys (f :: fs)).run P w = .ok ((r :: rs').all id) w := by
        intro a b r rs' hl ha hb ht
        have ih := eqFlds d w ht
        simp only [Op.eqFields, ne_eq, hn, not_false_eq_true, if_true, Sem.run_bind, part_leaf hl.1 ha w, part_leaf hl.1 hb w, hl.2 d w, Result.andThen_ok]
        cases r
        · simp
        · simp [ih]
      cases hk : leafKind P f.type with
      | none => rw [hk] at h; cases rs <;> simp [KEq] at h
      | some k =>
        rw [hk, Option.map_some] at h
        cases rs with
        | nil => simp [KEq] at h
        | cons r rs' =>
          match k, hk, h with
          | 0, hk, ⟨⟨kk, a, b, ha, hb, hr⟩, ht⟩ =>
            obtain ⟨q, hq⟩ := leafKind_0 hk
            rw [hr]; exact key _ _ _ _ (leafI hq) ha hb ht
          | 1, hk, ⟨⟨a, b, ha, hb, hr⟩, ht⟩ => rw [hr]; exact key _ _ _ _ (leafB (leafKind_1 hk)) ha hb ht
          | 2, hk, ⟨⟨a, b, ha, hb, hr⟩, ht⟩ => rw [hr]; exact key _ _ _ _ (leafS (leafKind_2 hk)) ha hb ht
          | (n + 3), hk, h => simp [KEq] at h

/-- What the table says of a struct whose values can be held against each other. -/
structure StF (P : Program) (T : TypeId) (ks : List (Option (Nat × Nat))) : Prop where
  u : P.underlying T = some (.struct (P.fieldsOf T))
  s : P.stoodInHeld T = false
  g : P.eqGuardType P.depth T = false
  k : fldsK P T = ks
theorem StF.eq {T : TypeId} {ks : List (Option (Nat × Nat))} (F : StF P T ks) {xs ys : Array Value} {rs : List Bool} (h : KEq xs ys ks rs) (d : Nat) (w : World) : (Op.equalIn (d + 2) T (.agg xs) (.agg ys)).run P w = .ok (rs.all id) w := by
  rw [run_equalIn_agg w (d + 1) T xs ys F.u F.s]
  exact eqFlds d w (by rw [← F.k] at h; exact h)

/-- What the table says of an array of two numbers. -/
structure ArF (P : Program) (T : TypeId) : Prop where
  h : ∃ e k i, P.underlying T = some (.array 2 e) ∧ P.underlying e = some (.int k) ∧ P.info? e = some i ∧ P.cellsOf e = 1
  g : P.eqGuardType P.depth T = false
theorem arF {T e : TypeId} {k : IntKind} (h1 : P.underlying T = some (.array 2 e)) (h2 : P.underlying e = some (.int k)) (h3 : (P.info? e).isSome = true) (h4 : P.cellsOf e = 1) (g : P.eqGuardType P.depth T = false) : ArF P T := by
  obtain ⟨i, hi⟩ := Option.isSome_iff_exists.1 h3
  exact ⟨⟨e, k, i, h1, h2, hi, h4⟩, g⟩
theorem ArF.eq {T : TypeId} (F : ArF P T) {k1 k2 : IntKind} {a b c d : Int} (m : Nat) (w : World) : (Op.equalIn (m + 2) T (.agg #[.int k1 a, .int k2 b]) (.agg #[.int k1 c, .int k2 d])).run P w = .ok (decide (a = c) && decide (b = d)) w := by
  obtain ⟨e, k, i, h1, h2, h3, h4⟩ := F.h
  have l1 : Leaf P e (.int k1 a) (.int k1 c) (decide (a = c)) := leafI h2
  have l2 : Leaf P e (.int k2 b) (.int k2 d) (decide (b = d)) := leafI h2
  have p1 : (part e #[.int k1 a, .int k2 b] 0).run P w = .ok (.int k1 a) w := part_leaf l1.1 rfl w
  have p2 : (part e #[.int k1 c, .int k2 d] 0).run P w = .ok (.int k1 c) w := part_leaf l1.1 rfl w
  have p3 : (part e #[.int k1 a, .int k2 b] 1).run P w = .ok (.int k2 b) w := part_leaf l1.1 rfl w
  have p4 : (part e #[.int k1 c, .int k2 d] 1).run P w = .ok (.int k2 d) w := part_leaf l1.1 rfl w
  rw [run_equalIn_array w (m + 1) _ _ h1 h3, h4, show List.range 2 = [0, 1] from rfl]
  simp only [Op.eqItems, Sem.run_bind, Sem.run_ite, Sem.run_pure, Nat.mul_one, p1, p2, p3, p4, l1.2 m w, l2.2 m w, Result.andThen_ok]
  by_cases e1 : a = c <;> by_cases e2 : b = d <;> simp [e1, e2]

section
variable {n : Nat} {ops : Array Oper} {f : Slots} {w : World} {K : Slots → World → Prop} {x y c : Operand} {d : Nat} {ty T T2 : TypeId} {ps : String} {af : Array Edge}
theorem eqG {ks : List (Option (Nat × Nat))} {xs ys : Array Value} {rs : List Bool} {q : Bool} (F : StF P T ks) (ox : okT n x = true) (oy : okT n y = true) (hx : ev f x = .agg xs) (hy : ev f y = .agg ys) (hk : KEq xs ys ks rs) (hq : rs.all id = q)
    (h : K (upd f d (.bool q)) w) : SO P n ops ⟨some d, .binOp .eql T x y T2, ty, ps, af, none⟩ f w K :=
  op_ ox oy hx hy (run_eqGuard_agg w .eql T x y xs ys F.g) (by rw [run_eql_struct, F.eq hk 9998 w, hq]; rfl) h
theorem neG {ks : List (Option (Nat × Nat))} {xs ys : Array Value} {rs : List Bool} {q : Bool} (F : StF P T ks) (ox : okT n x = true) (oy : okT n y = true) (hx : ev f x = .agg xs) (hy : ev f y = .agg ys) (hk : KEq xs ys ks rs) (hq : rs.all id = q)
    (h : K (upd f d (.bool (!q))) w) : SO P n ops ⟨some d, .binOp .neq T x y T2, ty, ps, af, none⟩ f w K :=
  op_ ox oy hx hy (run_eqGuard_agg w .neq T x y xs ys F.g) (by rw [run_neq_struct, F.eq hk 9998 w, hq]; rfl) h
theorem eqA {k1 k2 : IntKind} {a b a' b' : Int} {q : Bool} (F : ArF P T) (ox : okT n x = true) (oy : okT n y = true) (hx : ev f x = .agg #[.int k1 a, .int k2 b]) (hy : ev f y = .agg #[.int k1 a', .int k2 b']) (hq : (decide (a = a') && decide (b = b')) = q)
    (h : K (upd f d (.bool q)) w) : SO P n ops ⟨some d, .binOp .eql T x y T2, ty, ps, af, none⟩ f w K :=
  op_ ox oy hx hy (run_eqGuard_agg w .eql T x y _ _ F.g) (by rw [run_eql_struct, F.eq 9998 w, hq]; rfl) h
theorem neA {k1 k2 : IntKind} {a b a' b' : Int} {q : Bool} (F : ArF P T) (ox : okT n x = true) (oy : okT n y = true) (hx : ev f x = .agg #[.int k1 a, .int k2 b]) (hy : ev f y = .agg #[.int k1 a', .int k2 b']) (hq : (decide (a = a') && decide (b = b')) = q)
    (h : K (upd f d (.bool (!q))) w) : SO P n ops ⟨some d, .binOp .neq T x y T2, ty, ps, af, none⟩ f w K :=
  op_ ox oy hx hy (run_eqGuard_agg w .neq T x y _ _ F.g) (by rw [run_neq_struct, F.eq 9998 w, hq]; rfl) h
end

/-! ### Maps whose keys are pairs of numbers -/
/-- A pair of numbers as a key. -/
abbrev K2 (p : Int × Int) : Value := .agg #[.int .i64 p.1, .int .i64 p.2]
abbrev KV := List ((Int × Int) × Int)
/-- Keys of a type are held against each other as pairs are. -/
structure Key2 (P : Program) (kt : TypeId) : Prop where
  u : ∃ d, P.underlying kt = some d
  eq : ∀ a b w, (Op.equal kt (K2 a) (K2 b)).run P w = .ok (decide (a = b)) w
  chk : ∀ e a w, (Instr.checkKey e 10000 kt (K2 a)).run P w = .ok () w
theorem pair_dec (a b : Int × Int) : (decide (a.1 = b.1) && decide (a.2 = b.2)) = decide (a = b) := by
  rw [Bool.eq_iff_iff]; simp [Prod.ext_iff]
theorem chk_leaf {t : TypeId} {k kk : IntKind} {a : Int} (h : P.underlying t = some (.int k)) (e : Bool) (m : Nat) (w : World) : (Instr.checkKey e (m + 1) t (.int kk a)).run P w = .ok () w := by
  simp [Instr.checkKey, underlying, h]
theorem flds2 {T : TypeId} (h : fldsK P T = [some (0, 0), some (1, 0)]) : ∃ f g, (P.fieldsOf T).toList = [f, g] ∧ f.name ≠ "_" ∧ g.name ≠ "_" ∧ f.offset = 0 ∧ g.offset = 1 ∧ (∃ k, P.underlying f.type = some (.int k)) ∧ ∃ k, P.underlying g.type = some (.int k) := by
  unfold fldsK at h
  rcases hl : (P.fieldsOf T).toList with _ | ⟨f, _ | ⟨g, _ | ⟨q, r⟩⟩⟩
  · rw [hl] at h; simp at h
  · rw [hl] at h; simp at h
  · rw [hl] at h
    simp only [List.map_cons, List.map_nil, List.cons.injEq, and_true] at h
    obtain ⟨h1, h2⟩ := h
    have side : ∀ (q : Field) (o : Nat), (if q.name = "_" then none else (leafKind P q.type).map fun k => (q.offset, k)) = some (o, 0) → q.name ≠ "_" ∧ q.offset = o ∧ ∃ k, P.underlying q.type = some (.int k) := by
      intro q o hq
      split at hq
      · cases hq
      · rename_i hn
        obtain ⟨k, hk, he⟩ := Option.map_eq_some_iff.1 hq
        simp only [Prod.mk.injEq] at he
        obtain ⟨rfl, rfl⟩ := he
        exact ⟨hn, rfl, leafKind_0 hk⟩
    obtain ⟨a1, a2, a3⟩ := side f 0 h1
    obtain ⟨b1, b2, b3⟩ := side g 1 h2
    exact ⟨f, g, rfl, a1, b1, a2, b2, a3, b3⟩
  · rw [hl] at h; simp at h
theorem key2_struct {kt : TypeId} (F : StF P kt [some (0, 0), some (1, 0)]) : Key2 P kt where
  u := ⟨_, F.u⟩
  eq a b w := by
    have h := F.eq (xs := #[.int .i64 a.1, .int .i64 a.2]) (ys := #[.int .i64 b.1, .int .i64 b.2]) (rs := [decide (a.1 = b.1), decide (a.2 = b.2)]) ⟨⟨_, _, _, rfl, rfl, rfl⟩, ⟨_, _, _, rfl, rfl, rfl⟩, trivial⟩ 9998 w
    rw [show Op.equal kt (K2 a) (K2 b) = Op.equalIn (9998 + 2) kt (K2 a) (K2 b) from rfl, h, ← pair_dec]
    simp
  chk e a w := by
    obtain ⟨f, g, hl, h1, h2, h3, h4, ⟨k1, h5⟩, ⟨k2, h6⟩⟩ := flds2 F.k
    have p1 : (part f.type #[.int .i64 a.1, .int .i64 a.2] 0).run P w = .ok (.int .i64 a.1) w := part_leaf (noAgg h5 rfl) rfl w
    have p2 : (part g.type #[.int .i64 a.1, .int .i64 a.2] 1).run P w = .ok (.int .i64 a.2) w := part_leaf (noAgg h6 rfl) rfl w
    have c1 := chk_leaf (P := P) (kk := .i64) (a := a.1) h5 e 9998 w
    have c2 := chk_leaf (P := P) (kk := .i64) (a := a.2) h6 e 9998 w
    show (Instr.checkKey e (9999 + 1) kt (.agg #[.int .i64 a.1, .int .i64 a.2])).run P w = _
    rw [show (9999 : Nat) = 9998 + 1 from rfl]
    generalize 9998 = q at c1 c2 ⊢
    unfold Instr.checkKey
    simp only [Sem.run_bind, run_underlying F.u, Result.andThen_ok]
    rw [← Array.forIn_toList, hl]
    simp only [List.forIn_cons, List.forIn_nil, ne_eq, h1, h2, h3, h4, not_false_eq_true, if_true, Sem.run_bind, p1, p2, Result.andThen_ok, Sem.run_pure, c1, c2]
theorem key2_array {kt : TypeId} (F : ArF P kt) : Key2 P kt where
  u := by obtain ⟨e, k, i, h1, _⟩ := F.h; exact ⟨_, h1⟩
  eq a b w := by rw [show Op.equal kt (K2 a) (K2 b) = Op.equalIn (9998 + 2) kt (K2 a) (K2 b) from rfl, F.eq 9998 w, pair_dec]
  chk e a w := by
    obtain ⟨t, k, i, h1, h2, h3, h4⟩ := F.h
    have p1 : (part t #[.int .i64 a.1, .int .i64 a.2] 0).run P w = .ok (.int .i64 a.1) w := part_leaf (noAgg h2 rfl) rfl w
    have p2 : (part t #[.int .i64 a.1, .int .i64 a.2] 1).run P w = .ok (.int .i64 a.2) w := part_leaf (noAgg h2 rfl) rfl w
    have c1 := chk_leaf (P := P) (kk := .i64) (a := a.1) h2 e 9998 w
    have c2 := chk_leaf (P := P) (kk := .i64) (a := a.2) h2 e 9998 w
    show (Instr.checkKey e (9999 + 1) kt (.agg #[.int .i64 a.1, .int .i64 a.2])).run P w = _
    have hs : (sizeOf t).run P w = .ok 1 w := by rw [run_sizeOf w h3, h4]
    rw [show (9999 : Nat) = 9998 + 1 from rfl]
    generalize 9998 = q at c1 c2 ⊢
    unfold Instr.checkKey
    simp only [Sem.run_bind, run_underlying h1, Result.andThen_ok, Std.Legacy.Range.forIn_eq_forIn_range', Std.Legacy.Range.size, Nat.sub_zero, Nat.add_one_sub_one, Nat.div_one]
    rw [show List.range' 0 2 = [0, 1] from rfl]
    simp only [List.forIn_cons, List.forIn_nil, Sem.run_bind, hs, p1, p2, Nat.zero_mul, Nat.one_mul, Result.andThen_ok, Sem.run_pure, c1, c2]

theorem get_map {w : World} {r : Nat} {es : Array MapEntry} {clock : Nat} (hb : w.heap[r]? = some (.map es clock)) : (getObj r).run P w = .ok (.map es clock) w := by
  simp [getObj, Sem.run, hb]
theorem set_map {w : World} {r : Nat} {es : Array MapEntry} {clock : Nat} (o : Obj) (hb : w.heap[r]? = some (.map es clock)) : (setObj r o).run P w = .ok () { w with heap := w.heap.setIfInBounds r o } := by
  simp [setObj, Sem.run, hb]
theorem set_heap {w : World} {r : Nat} {o o' : Obj} (hb : w.heap[r]? = some o) : (w.heap.setIfInBounds r o')[r]? = some o' ∧ ∀ r', r' ≠ r → (w.heap.setIfInBounds r o')[r']? = w.heap[r']? := by
  have hlt : r < w.heap.size := (Array.getElem?_eq_some_iff.1 hb).1
  exact ⟨by simp [hlt], fun r' hne => by simp [Ne.symm hne]⟩
/-- What a map says of a key. -/
def getM : KV → Int × Int → Option Int
  | [], _ => none
  | x :: xs, k => if k = x.1 then some x.2 else getM xs k
/-- .. with a key. -/
def putM : KV → Int × Int → Int → KV
  | [], k, v => [(k, v)]
  | x :: xs, k, v => if k = x.1 then (k, v) :: xs else x :: putM xs k v
theorem getM_put (m : KV) (k k' : Int × Int) (v : Int) : getM (putM m k v) k' = if k' = k then some v else getM m k' := by
  induction m with
  | nil => simp [putM, getM]
  | cons x xs ih =>
    unfold putM
    by_cases h : k = x.1
    · subst h
      simp only [if_true, getM]
      by_cases h' : k' = x.1 <;> simp [h']
    · rw [if_neg h]
      simp only [getM, ih]
      by_cases h' : k' = x.1
      · rw [if_pos h', if_pos h', if_neg (by rw [h']; exact fun e => h e.symm)]
      · rw [if_neg h', if_neg h']
def findM : KV → Int × Int → Nat → Option (Nat × Value)
  | [], _, _ => none
  | x :: xs, k, i => if k = x.1 then some (i, .int .i64 x.2) else findM xs k (i + 1)
theorem findM_get : ∀ (m : KV) (k : Int × Int) (i : Nat), (findM m k i).map (·.2) = (getM m k).map fun v => Value.int .i64 v
  | [], _, _ => rfl
  | x :: xs, k, i => by
    unfold findM getM
    split
    · rfl
    · exact findM_get xs k (i + 1)
def MapRep (es : List MapEntry) (m : KV) : Prop := es.map (fun e => (e.key, e.val)) = m.map fun x => (K2 x.1, Value.int .i64 x.2)
theorem ask_run {kt : TypeId} (F : Key2 P kt) (k : Int × Int) (w : World) : ∀ (m : KV) (es : List MapEntry) (i : Nat), MapRep es m → (Instr.findAsking kt (K2 k) es i).run P w = .ok (findM m k i) w
  | [], es, i, h => by
    have : es = [] := by simpa [MapRep] using h
    subst this; simp [Instr.findAsking, findM]
  | x :: xs, es, i, h => by
    match es, h with
    | e :: es, h =>
      simp only [MapRep, List.map_cons, List.cons.injEq, Prod.mk.injEq] at h
      obtain ⟨⟨h1, h2⟩, h3⟩ := h
      have ih := ask_run F k w xs es (i + 1) h3
      by_cases hk : k = x.1
      · simp [Instr.findAsking, findM, h1, h2, F.eq, hk]
      · simp [Instr.findAsking, findM, h1, h2, F.eq, hk, ih]
    | [], h => simp [MapRep] at h
theorem findNow_agg (d : TypeDesc) (cs : Array Value) (e : MapEntry) (es : List MapEntry) (i : Nat) : Instr.findNow d (.agg cs) (e :: es) i = none := by
  have : Instr.sameNow d (.agg cs) e.key = none := by
    cases d <;> cases e.key <;> rfl
  simp [Instr.findNow, this]
theorem find_run {kt : TypeId} (F : Key2 P kt) (k : Int × Int) (w : World) {m : KV} {es : List MapEntry} (h : MapRep es m) : (Instr.findKey kt (K2 k) es).run P w = .ok (findM m k 0) w := by
  obtain ⟨d, hd⟩ := F.u
  cases es with
  | nil =>
    have : m = [] := by simpa [MapRep] using h.symm
    subst this
    simp [Instr.findKey, run_underlying hd, Result.andThen, Instr.findNow, findM]
  | cons e es =>
    have h0 : Instr.findNow d (K2 k) (e :: es) 0 = none := findNow_agg d _ e es 0
    simp [Instr.findKey, run_underlying hd, Result.andThen, h0, ask_run F k w m _ 0 h]
theorem findM_some : ∀ (m : KV) (es : List MapEntry) (k : Int × Int) (i j : Nat) (v : Value), MapRep es m → findM m k i = some (j, v) → ∃ q e, j = i + q ∧ es[q]? = some e ∧ e.key = K2 k ∧ ∀ (c : Nat) (u : Int), MapRep (es.modify q fun e => { e with key := K2 k, val := .int .i64 u }) (putM m k u)
  | [], _, _, _, _, _, _, h => by cases h
  | x :: xs, es, k, i, j, v, hr, h => by
    match es, hr with
    | [], hr => simp [MapRep] at hr
    | e :: es, hr =>
      simp only [MapRep, List.map_cons, List.cons.injEq, Prod.mk.injEq] at hr
      obtain ⟨⟨h1, h2⟩, h3⟩ := hr
      unfold findM at h
      split at h
      · rename_i hk
        simp only [Option.some.injEq, Prod.mk.injEq] at h
        refine ⟨0, e, h.1.symm, rfl, by rw [h1, hk], fun c u => ?_⟩
        unfold putM
        rw [if_pos hk]
        simp [MapRep, h3]
      · rename_i hk
        obtain ⟨q, e', hq1, hq2, hq3, hq4⟩ := findM_some xs es k (i + 1) j v h3 h
        refine ⟨q + 1, e', by omega, by simpa using hq2, hq3, fun c u => ?_⟩
        have := hq4 c u
        unfold putM
        rw [if_neg hk]
        simp only [MapRep, List.modify_succ_cons, List.map_cons, List.cons.injEq, Prod.mk.injEq]
        exact ⟨⟨h1, h2⟩, this⟩
theorem findM_none : ∀ (m : KV) (es : List MapEntry) (k : Int × Int) (i : Nat), MapRep es m → findM m k i = none → ∀ (c : Nat) (u : Int), MapRep (es ++ [⟨K2 k, .int .i64 u, c⟩]) (putM m k u)
  | [], es, k, _, hr, _, c, u => by
    have : es = [] := by simpa [MapRep] using hr
    subst this; simp [MapRep, putM]
  | x :: xs, es, k, i, hr, h, c, u => by
    match es, hr with
    | [], hr => simp [MapRep] at hr
    | e :: es, hr =>
      simp only [MapRep, List.map_cons, List.cons.injEq, Prod.mk.injEq] at hr
      obtain ⟨⟨h1, h2⟩, h3⟩ := hr
      unfold findM at h
      split at h
      · cases h
      · rename_i hk
        have := findM_none xs es k (i + 1) h3 h c u
        unfold putM
        rw [if_neg hk]
        simp only [MapRep, List.cons_append, List.map_cons, List.cons.injEq, Prod.mk.injEq]
        exact ⟨⟨h1, h2⟩, this⟩

/-- A map of the call's own. -/
def mapI (b : Nat) (m : KV) : Item :=
  ⟨some b, fun _ w => ∃ es clock, w.heap[b]? = some (.map es clock) ∧ MapRep es.toList m ∧ ∀ x ∈ m, I64 x.2, fun h _ hb => by
    obtain ⟨es, c, h1, h2⟩ := h
    exact ⟨es, c, (hb b rfl).trans h1, h2⟩⟩
theorem getM_in {m : KV} (h : ∀ x ∈ m, I64 x.2) {k : Int × Int} {v : Int} (hv : getM m k = some v) : I64 v := by
  induction m with
  | nil => cases hv
  | cons x xs ih =>
    unfold getM at hv
    split at hv
    · cases hv; exact h x (by simp)
    · exact ih (fun y hy => h y (by simp [hy])) hv
theorem putM_in {m : KV} (h : ∀ x ∈ m, I64 x.2) (k : Int × Int) {v : Int} (hv : I64 v) : ∀ x ∈ putM m k v, I64 x.2 := by
  induction m with
  | nil => intro x hx; simp [putM] at hx; subst hx; exact hv
  | cons y ys ih =>
    intro x hx
    unfold putM at hx
    split at hx
    · rcases List.mem_cons.1 hx with rfl | hx
      · exact hv
      · exact h x (by simp [hx])
    · rcases List.mem_cons.1 hx with rfl | hx
      · exact h x (by simp)
      · exact ih (fun z hz => h z (by simp [hz])) x hx

/-- What the table says of a map's type. -/
structure MapF (P : Program) (T : TypeId) : Prop where
  h : ∃ kt et, P.underlying T = some (.map kt et) ∧ Key2 P kt ∧ ∀ w, (zeroValue et).run P w = .ok (.int .i64 0) w
theorem mapF {T kt et : TypeId} {k b : Nat} {a : Bool} (h : P.underlying T = some (.map kt et)) (K : Key2 P kt) (F : TyF P et k a b (.int .i64 0)) : MapF P T := ⟨kt, et, h, K, F.run_zero⟩

section
variable {n : Nat} {ops : Array Oper} {f : Slots} {w : World} {K : Slots → World → Prop} {x y c : Operand} {d : Nat} {ty T T2 : TypeId} {ps : String} {af : Array Edge} {M0 : Nat → Prop} {w0 : World} {l : List Item} {m : KV} {b : Nat}
/-- make(map..) -/
theorem mm (H : HI M0 w0 w l) (h : ∀ b w', Ext w w' → HI M0 w0 w' (mapI b [] :: l) → K (upd f d (.map (some b))) w') : SO P n ops ⟨some d, .makeMap T none, ty, ps, af, none⟩ f w K :=
  SO.value (v := .map (some w.heap.size)) (w' := w.alloc (.map #[] 0)) (by simp [execOp, run_makeMap]) (h _ _ (Ext.alloc w _)
    (H.new (Ext.alloc w _) w.heap.size rfl (Nat.le_refl _) (by simp) ⟨#[], 0, heap_alloc_new w _, rfl, fun _ h => (by cases h)⟩))
/-- v, ok := m[k] -/
theorem mlk {k : Int × Int} (F : MapF P T) (H : HI M0 w0 w l) (i : Nat) (hi : l[i]? = some (mapI b m)) (ox : okT n x = true) (oy : okT n y = true) (hx : ev f x = .map (some b)) (hy : ev f y = K2 k)
    (h : I64 ((getM m k).getD 0) → K (upd f d (.tuple #[.int .i64 ((getM m k).getD 0), .bool (getM m k).isSome])) w) : SO P n ops ⟨some d, .lookup T x y true, ty, ps, af, none⟩ f w K := by
  obtain ⟨kt, et, h1, h2, h3⟩ := F.h
  obtain ⟨es, clock, g1, g2, g3⟩ := H.at_ i hi
  have hI : I64 ((getM m k).getD 0) := by
    cases hg : getM m k with
    | none => unfold I64; simp
    | some v => exact getM_in g3 hg
  refine SO.value (v := .tuple #[.int .i64 ((getM m k).getD 0), .bool (getM m k).isSome]) (w' := w) ?_ (h hI)
  have hf := findM_get m k 0
  have hr := find_run h2 k w g2
  simp only [execOp, eval_acts ox, eval_acts oy, hx, hy, Instr.lookup, Sem.run_bind, run_underlying h1, get_map g1, h2.chk, hr, Result.andThen_ok, Sem.run_pure]
  cases hq : findM m k 0 with
  | none =>
    have hg : getM m k = none := by rw [hq] at hf; simpa using hf.symm
    simp [hq, hg, h3 w]
  | some p =>
    obtain ⟨j, v⟩ := p
    rw [hq] at hf
    cases hg : getM m k with
    | none => rw [hg] at hf; cases hf
    | some u =>
      rw [hg] at hf
      simp only [Option.map_some, Option.some.injEq] at hf
      subst hf
      simp
/-- m[k] = v -/
theorem mup {dd : Option Nat} {k : Int × Int} {v : Int} (F : MapF P T) (H : HI M0 w0 w l) (i : Nat) (hi : l[i]? = some (mapI b m)) (ox : okT n x = true) (oy : okT n y = true) (oc : okT n c = true) (hx : ev f x = .map (some b)) (hy : ev f y = K2 k) (hc : ev f c = .int .i64 v) (hv : I64 v)
    (h : ∀ w', HI M0 w0 w' (l.set i (mapI b (putM m k v))) → K (updO f dd undef) w') : SO P n ops ⟨dd, .mapUpdate T x y c, ty, ps, af, none⟩ f w K := by
  obtain ⟨kt, et, h1, h2, h3⟩ := F.h
  obtain ⟨es, clock, g1, g2, g3⟩ := H.at_ i hi
  have hr := find_run h2 k w g2
  have hlt : b < w.heap.size := (Array.getElem?_eq_some_iff.1 g1).1
  have fin : ∀ (o : Obj), (∀ M w', w'.heap[b]? = some o → (mapI b (putM m k v)).holds M w') →
      HI M0 w0 { w with heap := w.heap.setIfInBounds b o } (l.set i (mapI b (putM m k v))) := by
    intro o ho
    refine H.turn i hi rfl rfl rfl (by simp) (fun q hq hne => ?_) (fun q hq => ?_) (ho _ _ (set_heap g1).1)
    · exact (set_heap g1).2 q fun e => hne (by rw [e]; rfl)
    · cases hq
      exact ⟨by simpa using hlt, .inl rfl⟩
  cases hq : findM m k 0 with
  | none =>
    refine SO.skip (w' := { w with heap := w.heap.setIfInBounds b (.map (es.push ⟨K2 k, .int .i64 v, clock⟩) (clock + 1)) }) ?_ (h _ (fin _ ?_))
    · simp [execOp, eval_acts ox, eval_acts oy, eval_acts oc, hx, hy, hc, Instr.mapUpdate, run_underlying h1, get_map g1, h2.chk, hr, hq, set_map _ g1]
    · intro M w' hw
      exact ⟨_, _, hw, by rw [Array.toList_push]; exact findM_none m es.toList k 0 g2 hq clock v, putM_in g3 k hv⟩
  | some p =>
    obtain ⟨j, u⟩ := p
    obtain ⟨q, e, hq1, hq2, hq3, hq4⟩ := findM_some m es.toList k 0 j u g2 hq
    obtain rfl : j = q := by omega
    have he : es[j]? = some e := by simpa using hq2
    have hsb : (Instr.keyThatStays e.key (K2 k)).run P w = .ok (K2 k) w := by
      rw [hq3]; simp [Instr.keyThatStays, Instr.sameBits]
    refine SO.skip (w' := { w with heap := w.heap.setIfInBounds b (.map (es.modify j fun e => { e with key := K2 k, val := .int .i64 v }) clock) }) ?_ (h _ (fin _ ?_))
    · simp [execOp, eval_acts ox, eval_acts oy, eval_acts oc, hx, hy, hc, Instr.mapUpdate, run_underlying h1, get_map g1, h2.chk, hr, hq, he, hsb, set_map _ g1]
    · intro M w' hw
      exact ⟨_, _, hw, by rw [Array.toList_modify]; exact hq4 clock v, putM_in g3 k hv⟩
end
end
end Go.Ew
