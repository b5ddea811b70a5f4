/- Engine, part R: structs and pairs held against each other; maps of the call's own whose keys are pairs of numbers. -/
import Derived.Test.YtmhopljngkgidaaDoorOwnA
import Derived.Laws.StructEq
import Derived.ChangeKeysEq
import Derived.MapKept
import Derived.Laws.CopyRow
import Derived.JoinedCond
namespace Go.Ew
open Go.RowKit
set_option linter.unusedVariables false
set_option linter.unusedSimpArgs false
theorem gu {P : Program} {n : Nat} {ops : Array Oper} {f : Slots} {w : World} {K : Slots → World → Prop} {d : Option Nat} {op : Op} {ty : TypeId} {ps : String} {af : Array Edge} {j t : Nat} {want : Bool}
    (hj : gdst ops j = some t) (ht : Nat.blt t n = true) (hv : f t = undef)
    (h : K (updO f d undef) w) : SO P n ops ⟨d, op, ty, ps, af, some (j, want)⟩ f w K := by
  intro Q rest hk
  have hy : yielded ops (acts n f).tmps j = none := by
    simp only [Nat.blt_eq] at ht
    unfold gdst at hj
    simp [yielded, hj, acts, ht, hv, undef]
  unfold wpList
  rw [if_neg (by simp [Region.wanted, hy])]
  rw [put_acts]
  exact hk _ _ h
theorem At.s1 {α β : Type} [GT α] [GT β] {M : Nat → Prop} {w : World} {ad : Addr} {x : α × β} (h : At M w ad x) : At M w (ad.add (GT.size α)) x.2 := h.snd
theorem At.s2 {α β γ : Type} [GT α] [GT β] [GT γ] {M : Nat → Prop} {w : World} {ad : Addr} {x : α × β × γ} (h : At M w ad x) : At M w (ad.add (GT.size α + GT.size β)) x.2.2 := by have h_ := h.s1.snd; rwa [add_add] at h_
theorem At.s3 {α β γ δ : Type} [GT α] [GT β] [GT γ] [GT δ] {M : Nat → Prop} {w : World} {ad : Addr} {x : α × β × γ × δ} (h : At M w ad x) : At M w (ad.add (GT.size α + GT.size β + GT.size γ)) x.2.2.2 := by have h_ := h.s2.snd; rwa [add_add] at h_
theorem At.s4 {α β γ δ ε : Type} [GT α] [GT β] [GT γ] [GT δ] [GT ε] {M : Nat → Prop} {w : World} {ad : Addr} {x : α × β × γ × δ × ε} (h : At M w ad x) : At M w (ad.add (GT.size α + GT.size β + GT.size γ + GT.size δ)) x.2.2.2.2 := by have h_ := h.s3.snd; rwa [add_add] at h_
theorem At.s5 {α β γ δ ε ζ : Type} [GT α] [GT β] [GT γ] [GT δ] [GT ε] [GT ζ] {M : Nat → Prop} {w : World} {ad : Addr} {x : α × β × γ × δ × ε × ζ} (h : At M w ad x) : At M w (ad.add (GT.size α + GT.size β + GT.size γ + GT.size δ + GT.size ε)) x.2.2.2.2.2 := by have h_ := h.s4.snd; rwa [add_add] at h_
theorem At.s6 {α β γ δ ε ζ η : Type} [GT α] [GT β] [GT γ] [GT δ] [GT ε] [GT ζ] [GT η] {M : Nat → Prop} {w : World} {ad : Addr} {x : α × β × γ × δ × ε × ζ × η} (h : At M w ad x) : At M w (ad.add (GT.size α + GT.size β + GT.size γ + GT.size δ + GT.size ε + GT.size ζ)) x.2.2.2.2.2.2 := by have h_ := h.s5.snd; rwa [add_add] at h_
theorem AtW.s1 {α β : Type} [GT α] [GT β] {M : Nat → Prop} {w : World} {ad : Addr} {x : α × β} (h : AtW M w ad x) : AtW M w (ad.add (GT.size α)) x.2 := h.snd
theorem AtW.s2 {α β γ : Type} [GT α] [GT β] [GT γ] {M : Nat → Prop} {w : World} {ad : Addr} {x : α × β × γ} (h : AtW M w ad x) : AtW M w (ad.add (GT.size α + GT.size β)) x.2.2 := by have h_ := h.s1.snd; rwa [add_add] at h_
theorem AtW.s3 {α β γ δ : Type} [GT α] [GT β] [GT γ] [GT δ] {M : Nat → Prop} {w : World} {ad : Addr} {x : α × β × γ × δ} (h : AtW M w ad x) : AtW M w (ad.add (GT.size α + GT.size β + GT.size γ)) x.2.2.2 := by have h_ := h.s2.snd; rwa [add_add] at h_
theorem AtW.s4 {α β γ δ ε : Type} [GT α] [GT β] [GT γ] [GT δ] [GT ε] {M : Nat → Prop} {w : World} {ad : Addr} {x : α × β × γ × δ × ε} (h : AtW M w ad x) : AtW M w (ad.add (GT.size α + GT.size β + GT.size γ + GT.size δ)) x.2.2.2.2 := by have h_ := h.s3.snd; rwa [add_add] at h_
theorem AtW.s5 {α β γ δ ε ζ : Type} [GT α] [GT β] [GT γ] [GT δ] [GT ε] [GT ζ] {M : Nat → Prop} {w : World} {ad : Addr} {x : α × β × γ × δ × ε × ζ} (h : AtW M w ad x) : AtW M w (ad.add (GT.size α + GT.size β + GT.size γ + GT.size δ + GT.size ε)) x.2.2.2.2.2 := by have h_ := h.s4.snd; rwa [add_add] at h_
theorem AtW.s6 {α β γ δ ε ζ η : Type} [GT α] [GT β] [GT γ] [GT δ] [GT ε] [GT ζ] [GT η] {M : Nat → Prop} {w : World} {ad : Addr} {x : α × β × γ × δ × ε × ζ × η} (h : AtW M w ad x) : AtW M w (ad.add (GT.size α + GT.size β + GT.size γ + GT.size δ + GT.size ε + GT.size ζ)) x.2.2.2.2.2.2 := by have h_ := h.s5.snd; rwa [add_add] at h_
section
variable {P : Program}
def Leaf (P : Program) (t : TypeId) (v u : Value) (r : Bool) : Prop := (∀ w, (isAgg t).run P w = .ok false w) ∧ ∀ d w, (Op.equalIn (d + 1) t v u).run P w = .ok r w
theorem noAgg {t : TypeId} {d : TypeDesc} (h : P.underlying t = some d) (hd : (match d with | .struct _ | .array _ _ => false | _ => true) = true) (w : World) : (isAgg t).run P w = .ok false w := by
  cases d <;> first | (cases hd; done) | simp [isAgg, underlying, h]
theorem leafI {t : TypeId} {k kk : IntKind} {a b : Int} (h : P.underlying t = some (.int k)) : Leaf P t (.int kk a) (.int kk b) (decide (a = b)) :=
  ⟨noAgg h rfl, fun d w => by rw [run_equalIn_int w d t kk k a b h]; congr 1⟩
theorem leafB {t : TypeId} {a b : Bool} (h : P.underlying t = some .bool) : Leaf P t (.bool a) (.bool b) (decide (a = b)) :=
  ⟨noAgg h rfl, fun d w => by rw [run_equalIn_bool' w d t a b h]; congr 1⟩
theorem leafS {t : TypeId} {a b : ByteArray} (h : P.underlying t = some .string) : Leaf P t (.string a) (.string b) (decide (a = b)) :=
  ⟨noAgg h rfl, fun d w => by
    have e : (a.toList == b.toList) = decide (a = b) := by
      rw [← beq_toListBytes, Bool.eq_iff_iff]
      rcases a with ⟨x⟩
      rcases b with ⟨y⟩
      show (x == y) = true ↔ _
      simp
    rw [run_equalIn_string w d t a b h, e]⟩
theorem part_leaf {t : TypeId} {cs : Array Value} {off : Nat} {v : Value} (h : ∀ w, (isAgg t).run P w = .ok false w) (hc : cs[off]? = some v) (w : World) : (part t cs off).run P w = .ok v w := by
  simp [part, h w, hc]
def leafKind (P : Program) (t : TypeId) : Option Nat := match P.underlying t with | some (.int _) => some 0 | some .bool => some 1 | some .string => some 2 | _ => none
def fldsK (P : Program) (T : TypeId) : List (Option (Nat × Nat)) := (P.fieldsOf T).toList.map fun f => if f.name = "_" then none else (leafKind P f.type).map fun k => (f.offset, k)
def KEq (xs ys : Array Value) : List (Option (Nat × Nat)) → List Bool → Prop
  | [], [] => True
  | some (o, 0) :: ks, r :: rs => (∃ kk a b, xs[o]? = some (.int kk a) ∧ ys[o]? = some (.int kk b) ∧ r = decide (a = b)) ∧ KEq xs ys ks rs
  | some (o, 1) :: ks, r :: rs => (∃ a b, xs[o]? = some (.bool a) ∧ ys[o]? = some (.bool b) ∧ r = decide (a = b)) ∧ KEq xs ys ks rs
  | some (o, 2) :: ks, r :: rs => (∃ a b, xs[o]? = some (.string a) ∧ ys[o]? = some (.string b) ∧ r = decide (a = b)) ∧ KEq xs ys ks rs
  | _, _ => False
theorem leafKind_0 {t : TypeId} (h : leafKind P t = some 0) : ∃ k, P.underlying t = some (.int k) := by
  unfold leafKind at h; split at h <;> simp_all
theorem leafKind_1 {t : TypeId} (h : leafKind P t = some 1) : P.underlying t = some .bool := by
  unfold leafKind at h; split at h <;> simp_all
theorem leafKind_2 {t : TypeId} (h : leafKind P t = some 2) : P.underlying t = some .string := by
  unfold leafKind at h; split at h <;> simp_all
theorem eqFlds {xs ys : Array Value} : ∀ {fs : List Field} {rs : List Bool} (d : Nat) (w : World), KEq xs ys (fs.map fun f => if f.name = "_" then none else (leafKind P f.type).map fun k => (f.offset, k)) rs → (Op.eqFields (d + 1) xs ys fs).run P w = .ok (rs.all id) w
  | [], [], d, w, _ => by simp [Op.eqFields]
  | [], _ :: _, d, w, h => by simp [KEq] at h
  | f :: fs, rs, d, w, h => by
    rw [List.map_cons] at h
    by_cases hn : f.name = "_"
    · rw [if_pos hn] at h; cases rs <;> simp [KEq] at h
    · rw [if_neg hn] at h
      have key : ∀ (a b : Value) (r : Bool) (rs' : List Bool), Leaf P f.type a b r → xs[f.offset]? = some a → ys[f.offset]? = some b →
          KEq xs ys (fs.map fun f => if f.name = "_" then none else (leafKind P f.type).map fun k => (f.offset, k)) rs' → (Op.eqFields (d + 1) xs ys (f :: fs)).run P w = .ok ((r :: rs').all id) w := by
        intro a b r rs' hl ha hb ht
        have ih := eqFlds d w ht
        simp only [Op.eqFields, ne_eq, hn, not_false_eq_true, if_true, Sem.run_bind, part_leaf hl.1 ha w, part_leaf hl.1 hb w, hl.2 d w, Result.andThen_ok]
        cases r
        · simp
        · simp [ih]
      cases hk : leafKind P f.type with
      | none => rw [hk] at h; cases rs <;> simp [KEq] at h
      | some k =>
        rw [hk, Option.map_some] at h
        cases rs with
        | nil => simp [KEq] at h
        | cons r rs' =>
          match k, hk, h with
          | 0, hk, ⟨⟨kk, a, b, ha, hb, hr⟩, ht⟩ =>
            obtain ⟨q, hq⟩ := leafKind_0 hk
            rw [hr]; exact key _ _ _ _ (leafI hq) ha hb ht
          | 1, hk, ⟨⟨a, b, ha, hb, hr⟩, ht⟩ => rw [hr]; exact key _ _ _ _ (leafB (leafKind_1 hk)) ha hb ht
          | 2, hk, ⟨⟨a, b, ha, hb, hr⟩, ht⟩ => rw [hr]; exact key _ _ _ _ (leafS (leafKind_2 hk)) ha hb ht
          | (n + 3), hk, h => simp [KEq] at h
structure StF (P : Program) (T : TypeId) (ks : List (Option (Nat × Nat))) : Prop where
  u : P.underlying T = some (.struct (P.fieldsOf T))
  s : P.stoodInHeld T = false
  g : P.eqGuardType P.depth T = false
  k : fldsK P T = ks
theorem StF.eq {T : TypeId} {ks : List (Option (Nat × Nat))} (F : StF P T ks) {xs ys : Array Value} {rs : List Bool} (h : KEq xs ys ks rs) (d : Nat) (w : World) : (Op.equalIn (d + 2) T (.agg xs) (.agg ys)).run P w = .ok (rs.all id) w := by
  rw [run_equalIn_agg w (d + 1) T xs ys F.u F.s]
  exact eqFlds d w (by rw [← F.k] at h; exact h)
structure ArF (P : Program) (T : TypeId) : Prop where
  h : ∃ e k i, P.underlying T = some (.array 2 e) ∧ P.underlying e = some (.int k) ∧ P.info? e = some i ∧ P.cellsOf e = 1
  g : P.eqGuardType P.depth T = false
theorem ArF.eq {T : TypeId} (F : ArF P T) {k1 k2 : IntKind} {a b c d : Int} (m : Nat) (w : World) : (Op.equalIn (m + 2) T (.agg #[.int k1 a, .int k2 b]) (.agg #[.int k1 c, .int k2 d])).run P w = .ok (decide (a = c) && decide (b = d)) w := by
  obtain ⟨e, k, i, h1, h2, h3, h4⟩ := F.h
  have l1 : Leaf P e (.int k1 a) (.int k1 c) (decide (a = c)) := leafI h2
  have l2 : Leaf P e (.int k2 b) (.int k2 d) (decide (b = d)) := leafI h2
  have p1 : (part e #[.int k1 a, .int k2 b] 0).run P w = .ok (.int k1 a) w := part_leaf l1.1 rfl w
  have p2 : (part e #[.int k1 c, .int k2 d] 0).run P w = .ok (.int k1 c) w := part_leaf l1.1 rfl w
  have p3 : (part e #[.int k1 a, .int k2 b] 1).run P w = .ok (.int k2 b) w := part_leaf l1.1 rfl w
  have p4 : (part e #[.int k1 c, .int k2 d] 1).run P w = .ok (.int k2 d) w := part_leaf l1.1 rfl w
  rw [run_equalIn_array w (m + 1) _ _ h1 h3, h4, show List.range 2 = [0, 1] from rfl]
  simp only [Op.eqItems, Sem.run_bind, Sem.run_ite, Sem.run_pure, Nat.mul_one, p1, p2, p3, p4, l1.2 m w, l2.2 m w, Result.andThen_ok]
  by_cases e1 : a = c <;> by_cases e2 : b = d <;> simp [e1, e2]
section
variable {n : Nat} {ops : Array Oper} {f : Slots} {w : World} {K : Slots → World → Prop} {x y c : Operand} {d : Nat} {ty T T2 : TypeId} {ps : String} {af : Array Edge}
end
abbrev K2 (p : Int × Int) : Value := .agg #[.int .i64 p.1, .int .i64 p.2]
abbrev KV := List ((Int × Int) × Int)
structure Key2 (P : Program) (kt : TypeId) : Prop where
  u : ∃ d, P.underlying kt = some d
  eq : ∀ a b w, (Op.equal kt (K2 a) (K2 b)).run P w = .ok (decide (a = b)) w
  chk : ∀ e a w, (Instr.checkKey e 10000 kt (K2 a)).run P w = .ok () w
structure MapF (P : Program) (T : TypeId) : Prop where
  h : ∃ kt et, P.underlying T = some (.map kt et) ∧ Key2 P kt ∧ ∀ w, (zeroValue et).run P w = .ok (.int .i64 0) w
section
variable {n : Nat} {ops : Array Oper} {f : Slots} {w : World} {K : Slots → World → Prop} {x y c : Operand} {d : Nat} {ty T T2 : TypeId} {ps : String} {af : Array Edge} {M0 : Nat → Prop} {w0 : World} {l : List Item} {m : KV} {b : Nat}
end
end
end Go.Ew
namespace Go.Ew
set_option linter.unusedVariables false
set_option linter.unusedSimpArgs false
end Go.Ew
namespace Go.Ew
set_option linter.unusedVariables false
set_option linter.unusedSimpArgs false
abbrev ItemL := Int × Int × Bool × Int × Int
theorem getD_row {α : Type} {h : List (List α)} {j : Nat} {x : List α} (hx : h[((j : Nat) : Int).toNat]? = some x) : h.getD j [] = x := by
  rw [Int.toNat_natCast] at hx; rw [List.getD_eq_getElem?_getD, hx]; rfl
end Go.Ew
namespace Go.Ew
set_option linter.unusedVariables false
set_option linter.unusedSimpArgs false
end Go.Ew
namespace Go.Ew
set_option linter.unusedVariables false
set_option linter.unusedSimpArgs false
end Go.Ew
namespace Go.Ew
set_option linter.unusedVariables false
set_option linter.unusedSimpArgs false
end Go.Ew
namespace Go.Ew
set_option linter.unusedVariables false
set_option linter.unusedSimpArgs false
def rowP (n : Nat) (p : Nat → Bool) : Row := (((List.range n).filter p).map fun k => ((k : Nat) : Int)).foldl setR (newR ((n : Nat) : Int))
theorem words_nat (n : Nat) : words ((n : Nat) : Int) = (n + 63) / 64 := by unfold words; omega
theorem rowP_len (n : Nat) (p : Nat → Bool) : (rowP n p).length = words ((n : Nat) : Int) := by unfold rowP; rw [foldl_setR_length, newR_length]
theorem inR_newR {n : Nat} {i : Int} (h0 : 0 ≤ i) (h : i < ((n : Nat) : Int)) : inR (newR ((n : Nat) : Int)) i = true := inR_of h0 (by rw [newR_length, words_nat]; omega)
theorem rowP_has (n : Nat) (p : Nat → Bool) (i : Int) : hasR (rowP n p) i = (decide (0 ≤ i) && decide (i < ((n : Nat) : Int)) && p i.toNat) := by
  unfold rowP
  rw [foldl_setR_has, newR_has, Bool.false_or, Bool.eq_iff_iff]
  simp only [List.any_eq_true, List.mem_map, List.mem_filter, List.mem_range, Bool.and_eq_true, decide_eq_true_eq]
  constructor
  · rintro ⟨z, ⟨k, ⟨hk, hp⟩, rfl⟩, rfl, -⟩
    exact ⟨⟨by omega, by omega⟩, by simpa using hp⟩
  · rintro ⟨⟨h0, h1⟩, hp⟩
    exact ⟨i, ⟨i.toNat, ⟨by omega, hp⟩, by omega⟩, rfl, inR_newR h0 h1⟩
theorem row_is {r : Row} {n : Nat} {p : Nat → Bool} (hl : r.length = words ((n : Nat) : Int)) (h : ∀ k : Nat, hasR r ((k : Nat) : Int) = (decide (k < n) && p k)) : r = rowP n p := by
  refine row_ext (by rw [hl, rowP_len]) fun k => ?_
  rw [h, rowP_has]
  simp
theorem rowP_congr {n : Nat} {p q : Nat → Bool} (h : ∀ k, k < n → p k = q k) : rowP n p = rowP n q :=
  row_is (rowP_len n p) fun k => by
    rw [rowP_has]
    by_cases hk : k < n
    · simp [hk, h k hk]
    · simp [hk]
def matP (n : Nat) (p : Nat → Nat → Bool) : Rows := (List.range n).map fun i => rowP n (p i)
theorem matP_len (n : Nat) (p : Nat → Nat → Bool) : (matP n p).length = n := by unfold matP; simp
theorem matP_at {n : Nat} {p : Nat → Nat → Bool} {i : Nat} {x : Row} (h : (matP n p)[i]? = some x) : i < n ∧ x = rowP n (p i) := by
  unfold matP at h
  rw [List.getElem?_map] at h
  cases hr : (List.range n)[i]? with
  | none => rw [hr] at h; cases h
  | some k =>
    rw [hr] at h
    obtain ⟨h1, h2⟩ := List.getElem?_eq_some_iff.1 hr
    simp at h1 h2
    subst h2
    exact ⟨h1, (Option.some.inj h).symm⟩
theorem matP_get {n : Nat} {p : Nat → Nat → Bool} {i : Nat} (h : i < n) : (matP n p)[i]? = some (rowP n (p i)) := by
  unfold matP; rw [List.getElem?_map, List.getElem?_range h]; rfl
theorem mat_is {rs : Rows} {n : Nat} {p : Nat → Nat → Bool} (hl : rs.length = n) (h : ∀ i, i < n → rs[i]? = some (rowP n (p i))) : rs = matP n p := by
  apply List.ext_getElem?
  intro i
  by_cases hi : i < n
  · rw [h i hi, matP_get hi]
  · rw [List.getElem?_eq_none (by omega), List.getElem?_eq_none (by rw [matP_len]; omega)]
theorem matP_congr {n : Nat} {p q : Nat → Nat → Bool} (h : ∀ i j, i < n → j < n → p i j = q i j) : matP n p = matP n q :=
  mat_is (matP_len n p) fun i hi => by rw [matP_get hi, rowP_congr fun j hj => h i j hi hj]
theorem rowAt_matP {n : Nat} {p : Nat → Nat → Bool} {i : Int} (h0 : 0 ≤ i) (h : i < ((n : Nat) : Int)) : rowAt (matP n p) i = rowP n (p i.toNat) := rowAt_of (matP_get (by omega))
theorem hasM_matP {n : Nat} {p : Nat → Nat → Bool} {i j : Int} : hasM ((n : Nat) : Int) (matP n p) i j = (inM ((n : Nat) : Int) [i, j] && p i.toNat j.toNat) := by
  unfold hasM
  cases h : inM ((n : Nat) : Int) [i, j] with
  | false => rfl
  | true =>
    obtain ⟨⟨h1, h2⟩, h3, h4⟩ := inM_two.1 h
    rw [rowAt_matP h1 h2, rowP_has, decide_eq_true h3, decide_eq_true h4]; rfl
theorem inM_nat {n i j : Nat} : inM ((n : Nat) : Int) [((i : Nat) : Int), ((j : Nat) : Int)] = (decide (i < n) && decide (j < n)) := by
  rw [inM_eq, Bool.eq_iff_iff]
  simp only [Bool.and_eq_true, decide_eq_true_eq]
  omega
theorem hasM_nat {n : Nat} {p : Nat → Nat → Bool} {i j : Nat} (hi : i < n) (hj : j < n) : hasM ((n : Nat) : Int) (matP n p) ((i : Nat) : Int) ((j : Nat) : Int) = p i j := by
  rw [hasM_matP, inM_nat]; simp [hi, hj]
theorem matP_rows {n : Nat} {p : Nat → Nat → Bool} : ∀ x ∈ matP n p, x.length = words ((n : Nat) : Int) := by
  intro x hx
  obtain ⟨i, hi⟩ := List.mem_iff_getElem?.1 hx
  rw [(matP_at hi).2, rowP_len]
theorem matP_small {n : Nat} {p : Nat → Nat → Bool} (h : n ≤ 4096) : ∀ x ∈ matP n p, x.length ≤ 1000000000 := by
  intro x hx
  rw [matP_rows x hx, words_nat]; omega
end Go.Ew
namespace Go.Ew
set_option linter.unusedVariables false
set_option linter.unusedSimpArgs false
abbrev item0 : ItemL := (0, 0, false, 0, 0)
def sesN (its : List ItemL) (i : Nat) : Int := (its.getD i item0).1
def plcN (its : List ItemL) (i : Nat) : Int := (its.getD i item0).2.1
structure OrdI (its : List ItemL) : Prop where
  first : 0 < its.length → plcN its 0 = 0
  next : ∀ i, i + 1 < its.length → (sesN its (i + 1) = sesN its i ∧ plcN its (i + 1) = plcN its i + 1) ∨ (sesN its i < sesN its (i + 1) ∧ plcN its (i + 1) = 0)
section
variable {its : List ItemL} (o : OrdI its)
include o
theorem OrdI.le : ∀ (d i : Nat), i + d < its.length → sesN its i ≤ sesN its (i + d)
  | 0, i, h => Int.le_refl _
  | d + 1, i, h => by
    have h1 := OrdI.le d i (by omega)
    have h2 := o.next (i + d) (by omega)
    rw [show i + (d + 1) = i + d + 1 from rfl]; omega
theorem OrdI.mono {i j : Nat} (hij : i ≤ j) (h : j < its.length) : sesN its i ≤ sesN its j := by
  have := o.le (j - i) i (by omega)
  rwa [show i + (j - i) = j from by omega] at this
end
end Go.Ew
namespace Go.Ew
set_option linter.unusedVariables false
set_option linter.unusedSimpArgs false
def rowOk (n : Int) (r : Row) : Bool := decide (((r.length : Nat) : Int) = ((words n : Nat) : Int)) && (List.range (64 * r.length)).all fun k => decide (((k : Nat) : Int) < n) || !hasR r ((k : Nat) : Int)
def rightS (n : Int) (rs : Rows) : Bool := okN n && decide (((rs.length : Nat) : Int) = n) && rs.all (rowOk n)
theorem rightS_no {n : Int} {rs : Rows} (h : ¬ (0 ≤ n ∧ n ≤ 4096 ∧ ((rs.length : Nat) : Int) = n)) : false = rightS n rs := by
  unfold rightS
  by_cases h1 : okN n = true
  · have := okN_iff.1 h1
    rw [show decide (((rs.length : Nat) : Int) = n) = false from decide_eq_false (by omega)]; simp
  · rw [show okN n = false from by simpa using h1]; rfl
theorem rowOk_len {n : Int} {r : Row} (h : ¬ ((r.length : Nat) : Int) = ((words n : Nat) : Int)) : rowOk n r = false := by unfold rowOk; rw [decide_eq_false h]; rfl
theorem rowOk_bit {n : Int} {r : Row} {k : Int} (h0 : 0 ≤ k) (h1 : n ≤ k) (h2 : k < 64 * ((r.length : Nat) : Int)) (hb : hasR r k = true) : rowOk n r = false := by
  unfold rowOk
  rw [Bool.and_eq_false_iff]
  right
  rw [List.all_eq_false]
  refine ⟨k.toNat, List.mem_range.2 (by omega), ?_⟩
  rw [show ((k.toNat : Nat) : Int) = k from by omega, hb, decide_eq_false (by omega)]; simp
theorem rowOk_yes {n : Int} {r : Row} {j : Int} (hl : ((r.length : Nat) : Int) = ((words n : Nat) : Int)) (h : ∀ k : Int, n ≤ k → k < j → hasR r k = false) (hj : 64 * ((r.length : Nat) : Int) ≤ j) : rowOk n r = true := by
  unfold rowOk
  rw [decide_eq_true hl, Bool.true_and, List.all_eq_true]
  intro k hk
  have := List.mem_range.1 hk
  by_cases hn : ((k : Nat) : Int) < n
  · rw [decide_eq_true hn]; rfl
  · rw [h _ (by omega) (by omega)]; simp
theorem right_row {n : Int} {rs : Rows} {i : Nat} {x : Row} (hx : rs[i]? = some x) (h : rowOk n x = false) : false = rightS n rs := by
  unfold rightS; rw [all_no hx h]; simp
theorem right_end_ {n : Int} {rs : Rows} {j : Nat} (h0 : 0 ≤ n) (h1 : n ≤ 4096) (h2 : ((rs.length : Nat) : Int) = n) (hs : (rs.take j).all (rowOk n) = true) (hj : rs.length ≤ j) : true = rightS n rs := by
  unfold rightS; rw [take_end hj] at hs; rw [okN_iff.2 ⟨h0, h1⟩, decide_eq_true h2, hs]; rfl
theorem listR_rowP (n : Nat) (q : Nat → Bool) : listR (rowP n q) = ((List.range n).filter q).map fun k => ((k : Nat) : Int) := by
  rw [← listN_all]
  unfold listN
  congr 1
  have hl := rowP_len n q
  rw [words_nat] at hl
  have e : 64 * (rowP n q).length = n + (64 * (rowP n q).length - n) := by omega
  rw [e, range_add_map, List.filter_append]
  have e2 : ((List.range (64 * (rowP n q).length - n)).map fun i => n + i).filter (fun k => hasR (rowP n q) ((k : Nat) : Int)) = [] := by
    rw [List.filter_eq_nil_iff]
    intro k hk
    obtain ⟨i, -, rfl⟩ := List.mem_map.1 hk
    rw [rowP_has, decide_eq_false (show ¬ (((n + i : Nat) : Nat) : Int) < ((n : Nat) : Int) from by omega)]; simp
  rw [e2, List.append_nil]
  apply List.filter_congr
  intro k hk
  have := List.mem_range.1 hk
  rw [rowP_has]
  simp [this]
theorem matP_64 {n : Nat} {p : Nat → Nat → Bool} (h : n ≤ 4096) : ∀ x ∈ matP n p, x.length ≤ 64 := by
  intro x hx
  obtain ⟨i, hi⟩ := List.getElem?_of_mem hx
  obtain ⟨-, rfl⟩ := matP_at hi
  have h1 := rowP_len n (p i)
  have := words_le (n := ((n : Nat) : Int)) (by omega)
  omega
end Go.Ew
namespace Go.Ew
set_option linter.unusedVariables false
set_option linter.unusedSimpArgs false
theorem rowOk_is {n : Nat} {r : Row} (h : rowOk ((n : Nat) : Int) r = true) : r = rowP n fun k => hasR r ((k : Nat) : Int) := by
  unfold rowOk at h
  rw [Bool.and_eq_true, decide_eq_true_eq, List.all_eq_true] at h
  refine row_is (by omega) fun k => ?_
  by_cases hk : k < n
  · simp [hk]
  · rw [decide_eq_false hk, Bool.false_and]
    by_cases h2 : k < 64 * r.length
    · have := h.2 k (List.mem_range.2 h2)
      rw [decide_eq_false (show ¬ ((k : Nat) : Int) < ((n : Nat) : Int) from by omega), Bool.false_or] at this
      simpa using this
    · exact (hasR_out (by unfold inR; exact decide_eq_false (by omega))).symm
theorem right_is {n : Int} {rs : Rows} (h : rightS n rs = true) : ∃ (m : Nat) (p : Nat → Nat → Bool), n = ((m : Nat) : Int) ∧ m ≤ 4096 ∧ rs = matP m p := by
  unfold rightS at h
  rw [Bool.and_eq_true, Bool.and_eq_true, decide_eq_true_eq, List.all_eq_true] at h
  obtain ⟨⟨h1, h2⟩, h3⟩ := h
  have h1 := okN_iff.1 h1
  refine ⟨n.toNat, fun i j => hasR (rs.getD i []) ((j : Nat) : Int), by omega, by omega, mat_is (by omega) fun i hi => ?_⟩
  have hx : rs[i]? = some rs[i] := List.getElem?_eq_getElem (by omega)
  have e : rs.getD i [] = rs[i] := by rw [List.getD_eq_getElem?_getD, hx]; rfl
  rw [hx, e]
  have := rowOk_is (n := n.toNat) (r := rs[i]) (by rw [show ((n.toNat : Nat) : Int) = n from by omega]; exact h3 _ (List.getElem_mem _))
  rw [← this]
theorem right_sq {n : Int} {rs : Rows} (h : rightS n rs = true) : ((rs.length : Nat) : Int) = n ∧ (∀ x ∈ rs, x.length ≤ 1000000000) ∧ n ≤ 4096 ∧ 0 ≤ n ∧ ∀ x ∈ rs, x.length ≤ 64 := by
  obtain ⟨m, p, rfl, hm, rfl⟩ := right_is h
  exact ⟨by rw [matP_len], matP_small hm, by omega, by omega, matP_64 hm⟩
def smallM (rs : Rows) (m : Int) : Bool := decide (((rs.length : Nat) : Int) ≤ m) && rs.all fun r => decide (r.length ≤ 4)
theorem smallM_big {rs : Rows} {m : Int} (h : m < ((rs.length : Nat) : Int)) : false = smallM rs m := by unfold smallM; rw [decide_eq_false (by omega)]; rfl
theorem smallM_row {rs : Rows} {m : Int} {i : Nat} {x : Row} (hx : rs[i]? = some x) (h : 4 < x.length) : false = smallM rs m := by unfold smallM; rw [all_no hx (decide_eq_false (by omega))]; simp
theorem smallM_end {rs : Rows} {m : Int} {j : Nat} (h : ¬ m < ((rs.length : Nat) : Int)) (hs : (rs.take j).all (fun r => decide (r.length ≤ 4)) = true) (hj : rs.length ≤ j) : true = smallM rs m := by
  unfold smallM; rw [take_end hj] at hs; rw [decide_eq_true (by omega), hs]; rfl
end Go.Ew
namespace Go.Ew
set_option linter.unusedVariables false
set_option linter.unusedSimpArgs false
set_option linter.unusedSectionVars false
theorem right_pos {n : Int} {rs : Rows} (h : rightS n rs = true) : 0 ≤ n := (right_sq h).2.2.2.1
section
variable {n : Int} {rs : Rows} {i j : Int} (h : rightS n rs = true) (hi : inM n [i, j] = true)
include h hi
end
end Go.Ew
namespace Go.Ew
set_option linter.unusedVariables false
set_option linter.unusedSimpArgs false
set_option linter.unusedSectionVars false
end Go.Ew
namespace Go.Ew
set_option linter.unusedVariables false
set_option linter.unusedSimpArgs false
section
variable {n : Int} {rs : Rows} (h : rightS n rs = true)
include h
end
end Go.Ew
namespace Go.Ew
set_option linter.unusedVariables false
set_option linter.unusedSimpArgs false
def relM (rs : Rows) (i j : Nat) : Bool := hasR (rs.getD i []) ((j : Nat) : Int)
theorem right_rel {n : Int} {rs : Rows} (h : rightS n rs = true) : rs = matP n.toNat (relM rs) := by
  obtain ⟨m, p, rfl, hm, rfl⟩ := right_is h
  rw [Int.toNat_natCast]
  refine matP_congr fun i j hi hj => ?_
  unfold relM
  rw [List.getD_eq_getElem?_getD, matP_get hi]
  show p i j = hasR (rowP m (p i)) _
  rw [rowP_has]; simp [hj]
end Go.Ew
namespace Go.Ew
set_option linter.unusedVariables false
set_option linter.unusedSimpArgs false
set_option linter.unusedSectionVars false
inductive TC (n : Nat) (p : Nat → Nat → Bool) : Nat → Nat → Prop
  | one {a b : Nat} : a < n → b < n → p a b = true → TC n p a b
  | cons {a b c : Nat} : a < n → b < n → p a b = true → TC n p b c → TC n p a c
section
variable {n : Nat} {p q : Nat → Nat → Bool} {a b c : Nat}
theorem TC.lt (h : TC n p a b) : a < n ∧ b < n := by
  induction h with
  | one h1 h2 _ => exact ⟨h1, h2⟩
  | cons h1 _ _ _ ih => exact ⟨h1, ih.2⟩
theorem TC.trans (h : TC n p a b) (k : TC n p b c) : TC n p a c := by
  induction h with
  | one h1 h2 h3 => exact .cons h1 h2 h3 k
  | cons h1 h2 h3 _ ih => exact .cons h1 h2 h3 (ih k)
theorem TC.mono (h : TC n p a b) (hpq : ∀ x y, x < n → y < n → p x y = true → q x y = true) : TC n q a b := by
  induction h with
  | one h1 h2 h3 => exact .one h1 h2 (hpq _ _ h1 h2 h3)
  | cons h1 h2 h3 _ ih => exact .cons h1 h2 (hpq _ _ h1 h2 h3) ih
theorem TC.least {R : Nat → Nat → Prop} (h : TC n p a b) (h1 : ∀ x y, x < n → y < n → p x y = true → R x y) (h2 : ∀ x y z, x < n → y < n → z < n → R x y → R y z → R x z) : R a b := by
  induction h with
  | one k1 k2 k3 => exact h1 _ _ k1 k2 k3
  | cons k1 k2 k3 k4 ih => exact h2 _ _ _ k1 k2 k4.lt.2 (h1 _ _ k1 k2 k3) ih
theorem TC.last (h : TC n p a c) : p a c = true ∨ ∃ b, TC n p a b ∧ p b c = true := by
  induction h with
  | one _ _ h3 => exact .inl h3
  | cons h1 h2 h3 _ ih =>
    rcases ih with h | ⟨b, h4, h5⟩
    · exact .inr ⟨_, .one h1 h2 h3, h⟩
    · exact .inr ⟨b, .cons h1 h2 h3 h4, h5⟩
end
theorem relM_matP {n : Nat} {p : Nat → Nat → Bool} {a b : Nat} (ha : a < n) (hb : b < n) : relM (matP n p) a b = p a b := by
  unfold relM
  rw [List.getD_eq_getElem?_getD, matP_get ha]
  show hasR (rowP n (p a)) _ = _
  rw [rowP_has]; simp [hb]
def natL (l : List Nat) : List Int := l.map fun k => ((k : Nat) : Int)
def lst (n : Nat) (f : Nat → Bool) : List Int := natL ((List.range n).filter f)
theorem mem_lst {n : Nat} {f : Nat → Bool} {z : Int} : z ∈ lst n f ↔ ∃ k, k < n ∧ f k = true ∧ z = ((k : Nat) : Int) := by
  unfold lst natL
  simp only [List.mem_map, List.mem_filter, List.mem_range]
  constructor
  · rintro ⟨k, ⟨h1, h2⟩, rfl⟩; exact ⟨k, h1, h2, rfl⟩
  · rintro ⟨k, h1, h2, rfl⟩; exact ⟨k, ⟨h1, h2⟩, rfl⟩
theorem listR_lst (n : Nat) (f : Nat → Bool) : listR (rowP n f) = lst n f := listR_rowP n f
end Go.Ew
namespace Go.Ew
set_option linter.unusedVariables false
set_option linter.unusedSimpArgs false
set_option linter.unusedSectionVars false
def wlk (n : Nat) (p : Nat → Nat → Bool) : Nat → Nat → Nat → List Nat → Prop
  | 0, a, b, w => a = b ∧ w = [a]
  | L + 1, a, b, w => ∃ k v, k < n ∧ p a k = true ∧ wlk n p L k b v ∧ w = a :: v
def llt : List Nat → List Nat → Prop
  | a :: x, b :: y => a < b ∨ (a = b ∧ llt x y)
  | _, _ => False
def slt (x y : List Nat) : Prop := x.length < y.length ∨ (x.length = y.length ∧ llt x y)
def sle (x y : List Nat) : Prop := x = y ∨ slt x y
section
variable {n : Nat} {p : Nat → Nat → Bool}
theorem llt_irrefl : ∀ x, ¬ llt x x
  | [], h => h
  | a :: x, h => by
    rcases h with h | ⟨-, h⟩
    · exact Nat.lt_irrefl _ h
    · exact llt_irrefl x h
theorem llt_trans : ∀ {x y z : List Nat}, llt x y → llt y z → llt x z
  | a :: x, b :: y, c :: z, h, k => by
    rcases h with h | ⟨rfl, h⟩
    · rcases k with k | ⟨rfl, k⟩
      · exact .inl (Nat.lt_trans h k)
      · exact .inl h
    · rcases k with k | ⟨rfl, k⟩
      · exact .inl k
      · exact .inr ⟨rfl, llt_trans h k⟩
  | [], _, _, h, _ => h.elim
  | _ :: _, [], _, h, _ => h.elim
  | _ :: _, _ :: _, [], _, k => k.elim
theorem llt_snoc : ∀ {x y : List Nat} {a b : Nat}, x.length = y.length → (llt x y ∨ (x = y ∧ a < b)) → llt (x ++ [a]) (y ++ [b])
  | [], [], a, b, _, h => by
    rcases h with h | ⟨-, h⟩
    · exact h.elim
    · exact .inl h
  | c :: x, d :: y, a, b, hl, h => by
    have hl' : x.length = y.length := by simpa using hl
    rcases h with (h | ⟨rfl, h⟩) | ⟨h, k⟩
    · exact .inl h
    · exact .inr ⟨rfl, llt_snoc hl' (.inl h)⟩
    · cases h; exact .inr ⟨rfl, llt_snoc hl' (.inr ⟨rfl, k⟩)⟩
theorem slt_irrefl (x : List Nat) : ¬ slt x x := by
  rintro (h | ⟨-, h⟩)
  · exact Nat.lt_irrefl _ h
  · exact llt_irrefl x h
theorem slt_trans {x y z : List Nat} (h : slt x y) (k : slt y z) : slt x z := by
  rcases h with h | ⟨h1, h2⟩ <;> rcases k with k | ⟨k1, k2⟩
  · exact .inl (by omega)
  · exact .inl (by omega)
  · exact .inl (by omega)
  · exact .inr ⟨by omega, llt_trans h2 k2⟩
theorem sle_trans {x y z : List Nat} (h : sle x y) (k : sle y z) : sle x z := by
  rcases h with rfl | h
  · exact k
  · rcases k with rfl | k
    · exact .inr h
    · exact .inr (slt_trans h k)
theorem sle_antisymm {x y : List Nat} (h : sle x y) (k : sle y x) : x = y := by
  rcases h with rfl | h
  · rfl
  · rcases k with rfl | k
    · rfl
    · exact absurd (slt_trans h k) (slt_irrefl _)
theorem slt_snoc {x y : List Nat} (a b : Nat) (h : slt x y) : slt (x ++ [a]) (y ++ [b]) := by
  rcases h with h | ⟨h1, h2⟩
  · exact .inl (by simp; omega)
  · exact .inr ⟨by simp; omega, llt_snoc h1 (.inl h2)⟩
theorem slt_last {x : List Nat} {a b : Nat} (h : a < b) : slt (x ++ [a]) (x ++ [b]) := .inr ⟨by simp, llt_snoc rfl (.inr ⟨rfl, h⟩)⟩
theorem sle_snoc {x y : List Nat} (a : Nat) (h : sle x y) : sle (x ++ [a]) (y ++ [a]) := by
  rcases h with rfl | h
  · exact .inl rfl
  · exact .inr (slt_snoc a a h)
theorem sle_len {x y : List Nat} (h : sle x y) : x.length ≤ y.length := by
  rcases h with rfl | h | ⟨h, -⟩ <;> omega
theorem sle_cons {x y : List Nat} (a : Nat) (h : sle x y) : sle (a :: x) (a :: y) := by
  rcases h with rfl | h | ⟨h1, h2⟩
  · exact .inl rfl
  · exact .inr (.inl (by simp; omega))
  · exact .inr (.inr ⟨by simp; omega, .inr ⟨rfl, h2⟩⟩)
theorem wlk_len : ∀ {L a b : Nat} {w : List Nat}, wlk n p L a b w → w.length = L + 1
  | 0, a, b, w, h => by rw [h.2]; rfl
  | L + 1, a, b, w, h => by
    obtain ⟨k, v, _, _, h, rfl⟩ := h
    rw [List.length_cons, wlk_len h]
theorem wlk_head : ∀ {L a b : Nat} {w : List Nat}, wlk n p L a b w → w[0]? = some a
  | 0, a, b, w, h => by rw [h.2]; rfl
  | L + 1, a, b, w, h => by
    obtain ⟨k, v, _, _, h, rfl⟩ := h
    rfl
theorem wlk_last : ∀ {L a b : Nat} {w : List Nat}, wlk n p L a b w → w[L]? = some b
  | 0, a, b, w, h => by rw [h.2, h.1]; rfl
  | L + 1, a, b, w, h => by
    obtain ⟨k, v, _, _, h, rfl⟩ := h
    have := wlk_last h
    simpa using this
theorem wlk_snoc : ∀ {L a b c : Nat} {w : List Nat}, wlk n p L a b w → c < n → p b c = true → wlk n p (L + 1) a c (w ++ [c])
  | 0, a, b, c, w, h, hc, hp => by
    obtain ⟨rfl, rfl⟩ := h
    exact ⟨c, [c], hc, hp, ⟨rfl, rfl⟩, rfl⟩
  | L + 1, a, b, c, w, h, hc, hp => by
    obtain ⟨k, v, h1, h2, h, rfl⟩ := h
    exact ⟨k, v ++ [c], h1, h2, wlk_snoc h hc hp, rfl⟩
theorem wlk_unsnoc : ∀ {L a c : Nat} {w : List Nat}, wlk n p (L + 1) a c w → ∃ b v, wlk n p L a b v ∧ p b c = true ∧ c < n ∧ w = v ++ [c]
  | 0, a, c, w, h => by
    obtain ⟨k, v, h1, h2, ⟨rfl, rfl⟩, rfl⟩ := h
    exact ⟨a, [a], ⟨rfl, rfl⟩, h2, h1, rfl⟩
  | L + 1, a, c, w, h => by
    obtain ⟨k, v, h1, h2, h, rfl⟩ := h
    obtain ⟨b, u, h3, h4, h5, rfl⟩ := wlk_unsnoc h
    exact ⟨b, a :: u, ⟨k, u, h1, h2, h3, rfl⟩, h4, h5, rfl⟩
theorem wlk_mem {L a b : Nat} {w : List Nat} (h : wlk n p L a b w) (ha : a < n) : ∀ x ∈ w, x < n := by
  induction L generalizing a w with
  | zero => obtain ⟨rfl, rfl⟩ := h; simpa using ha
  | succ L ih =>
    obtain ⟨k, v, h1, h2, h, rfl⟩ := h
    intro x hx
    rcases List.mem_cons.1 hx with rfl | hx
    · exact ha
    · exact ih h h1 x hx
theorem wlk_split : ∀ {L a b t : Nat} {w : List Nat} {x : Nat}, wlk n p L a b w → w[t]? = some x → (∃ u, wlk n p t a x u) ∧ ∃ v, wlk n p (L - t) x b v
  | L, a, b, 0, w, x, h, hx => by
    rw [wlk_head h] at hx; cases hx
    exact ⟨⟨[a], rfl, rfl⟩, w, h⟩
  | 0, a, b, t + 1, w, x, h, hx => by obtain ⟨rfl, rfl⟩ := h; simp at hx
  | L + 1, a, b, t + 1, w, x, h, hx => by
    obtain ⟨k, v, h1, h2, h, rfl⟩ := h
    obtain ⟨⟨u, hu⟩, v', hv⟩ := wlk_split h (by simpa using hx)
    exact ⟨⟨a :: u, k, u, h1, h2, hu, rfl⟩, v', by rwa [show L + 1 - (t + 1) = L - t from by omega]⟩
theorem wlk_join : ∀ {L M a b c : Nat} {u v : List Nat}, wlk n p L a b u → wlk n p M b c v → ∃ w, wlk n p (L + M) a c w
  | 0, M, a, b, c, u, v, h, k => by obtain ⟨rfl, rfl⟩ := h; exact ⟨v, by rwa [Nat.zero_add]⟩
  | L + 1, M, a, b, c, u, v, h, k => by
    obtain ⟨x, u', h1, h2, h, rfl⟩ := h
    obtain ⟨w, hw⟩ := wlk_join h k
    exact ⟨a :: w, by rw [show L + 1 + M = (L + M) + 1 from by omega]; exact ⟨x, w, h1, h2, hw, rfl⟩⟩
def fo {α : Type} (f : Nat → Option α) : Nat → Option α
  | 0 => none
  | k + 1 => match fo f k with
    | some x => some x
    | none => f k
theorem fo_some {α : Type} {f : Nat → Option α} {x : α} : ∀ {n : Nat}, fo f n = some x → ∃ k, k < n ∧ f k = some x ∧ ∀ j, j < k → f j = none
  | k + 1, h => by
    unfold fo at h
    have hall : ∀ m, fo f m = none → ∀ j, j < m → f j = none := by
      intro m
      induction m with
      | zero => intro _ j hj; omega
      | succ m ih =>
        intro hm j hj
        unfold fo at hm
        cases h1 : fo f m with
        | some y => rw [h1] at hm; cases hm
        | none =>
          rw [h1] at hm
          rcases Nat.lt_succ_iff_lt_or_eq.1 hj with hj | rfl
          · exact ih h1 j hj
          · exact hm
    cases h1 : fo f k with
    | some y =>
      rw [h1] at h; cases h
      obtain ⟨j, h2, h3, h4⟩ := fo_some h1
      exact ⟨j, by omega, h3, h4⟩
    | none => rw [h1] at h; exact ⟨k, by omega, h, hall k h1⟩
theorem fo_none {α : Type} {f : Nat → Option α} : ∀ {n : Nat}, fo f n = none → ∀ j, j < n → f j = none
  | m + 1, hm, j, hj => by
    unfold fo at hm
    cases h1 : fo f m with
    | some y => rw [h1] at hm; cases hm
    | none =>
      rw [h1] at hm
      rcases Nat.lt_succ_iff_lt_or_eq.1 hj with hj | rfl
      · exact fo_none h1 j hj
      · exact hm
theorem fo_is {α : Type} {f : Nat → Option α} {x : α} {n k : Nat} (hk : k < n) (h : f k = some x) (hj : ∀ j, j < k → f j = none) : fo f n = some x := by
  cases h1 : fo f n with
  | none => rw [fo_none h1 k hk] at h; cases h
  | some y =>
    obtain ⟨m, _, h3, h4⟩ := fo_some h1
    rcases Nat.lt_trichotomy m k with hm | rfl | hm
    · rw [hj m hm] at h3; cases h3
    · rw [h3] at h; rw [h]
    · rw [h4 k hm] at h; cases h
theorem fo_no {α : Type} {f : Nat → Option α} {n : Nat} (h : ∀ j, j < n → f j = none) : fo f n = none := by
  cases h1 : fo f n with
  | none => rfl
  | some y => obtain ⟨m, h2, h3, _⟩ := fo_some h1; rw [h m h2] at h3; cases h3
def wl (n : Nat) (p : Nat → Nat → Bool) : Nat → Nat → Nat → Option (List Nat)
  | 0, a, b => if a = b then some [a] else none
  | L + 1, a, b => fo (fun k => if p a k = true then (wl n p L k b).map (a :: ·) else none) n
theorem wl_none : ∀ {L a b : Nat}, wl n p L a b = none → ∀ w, ¬ wlk n p L a b w
  | 0, a, b, h, w, hw => by obtain ⟨rfl, rfl⟩ := hw; unfold wl at h; simp at h
  | L + 1, a, b, h, w, hw => by
    obtain ⟨k, v, h1, h2, h3, rfl⟩ := hw
    have h4 := fo_none h k h1
    rw [if_pos h2, Option.map_eq_none_iff] at h4
    exact wl_none h4 v h3
theorem wl_some : ∀ {L a b : Nat} {w : List Nat}, wl n p L a b = some w → wlk n p L a b w ∧ ∀ v, wlk n p L a b v → sle w v
  | 0, a, b, w, h => by
    unfold wl at h
    split at h
    · rename_i e; cases h; exact ⟨⟨e, rfl⟩, fun v hv => .inl hv.2.symm⟩
    · cases h
  | L + 1, a, b, w, h => by
    obtain ⟨k, h1, h2, h3⟩ := fo_some h
    have hp : p a k = true := by
      cases hp : p a k with
      | true => rfl
      | false => rw [hp] at h2; simp at h2
    rw [if_pos hp, Option.map_eq_some_iff] at h2
    obtain ⟨u, h2, rfl⟩ := h2
    obtain ⟨h4, h5⟩ := wl_some h2
    refine ⟨⟨k, u, h1, hp, h4, rfl⟩, ?_⟩
    rintro v ⟨m, v, k1, k2, k3, rfl⟩
    rcases Nat.lt_trichotomy m k with hm | rfl | hm
    · have := h3 m hm
      rw [if_pos k2, Option.map_eq_none_iff] at this
      exact absurd k3 (wl_none this v)
    · exact sle_cons a (h5 v k3)
    · refine .inr (.inr ⟨by simp [wlk_len h4, wlk_len k3], .inr ⟨rfl, ?_⟩⟩)
      have e1 := wlk_head h4; have e2 := wlk_head k3
      cases u with
      | nil => simp at e1
      | cons x u =>
        cases v with
        | nil => simp at e2
        | cons y v =>
          simp at e1 e2
          subst e1; subst e2
          exact .inl hm
def bfP (n : Nat) (p : Nat → Nat → Bool) (a b : Nat) : Option (List Nat) := fo (fun L => wl n p (L + 1) a b) n
def Best (n : Nat) (p : Nat → Nat → Bool) (a b : Nat) (w : List Nat) : Prop := (∃ L, wlk n p (L + 1) a b w) ∧ ∀ L v, wlk n p (L + 1) a b v → sle w v
theorem nodup_le : ∀ {n : Nat} {l : List Nat}, l.Nodup → (∀ x ∈ l, x < n) → l.length ≤ n
  | 0, l, _, h => by
    cases l with
    | nil => simp
    | cons x l => exact absurd (h x List.mem_cons_self) (by omega)
  | n + 1, l, hd, h => by
    have h1 : (l.filter (fun x => decide (x ≠ n))).length ≤ n := nodup_le (List.Nodup.sublist List.filter_sublist hd) fun x hx => by
      have := List.mem_filter.1 hx
      have h2 := h x this.1
      have h3 := of_decide_eq_true this.2
      omega
    have h2 : ∀ l : List Nat, l.Nodup → l.length ≤ (l.filter (fun x => decide (x ≠ n))).length + 1 := by
      intro l
      induction l with
      | nil => simp
      | cons a l ih =>
        intro hd
        have hd := List.nodup_cons.1 hd
        by_cases ha : a = n
        · subst ha
          have hf : l.filter (fun x => decide (x ≠ a)) = l := List.filter_eq_self.2 (fun x hx => decide_eq_true (fun (e : x = a) => hd.1 (by rw [← e]; exact hx)))
          rw [List.filter_cons_of_neg (by simp), hf]
          simp
        · rw [List.filter_cons_of_pos (by simpa using ha)]
          have := ih hd.2
          simp only [List.length_cons]; omega
    have := h2 l hd
    omega
theorem best_cut {a b : Nat} {w : List Nat} (h : Best n p a b w) {s t x : Nat} (hst : s < t) (hs : w[s]? = some x) (ht : w[t]? = some x) : s = 0 ∧ t + 1 = w.length := by
  obtain ⟨⟨L, hw⟩, hl⟩ := h
  have hlen := wlk_len hw
  have htl : t < w.length := (List.getElem?_eq_some_iff.1 ht).1
  obtain ⟨⟨u, hu⟩, -⟩ := wlk_split hw hs
  obtain ⟨-, v, hv⟩ := wlk_split hw ht
  obtain ⟨y, hy⟩ := wlk_join hu hv
  refine Classical.byContradiction fun hc => ?_
  have hpos : ∃ M, s + (L + 1 - t) = M + 1 := ⟨s + (L + 1 - t) - 1, by omega⟩
  obtain ⟨M, hM⟩ := hpos
  rw [hM] at hy
  have h1 := sle_len (hl _ _ hy)
  have h2 := wlk_len hy
  omega
theorem best_len {a b : Nat} {w : List Nat} (h : Best n p a b w) (ha : a < n) : w.length ≤ n + 1 := by
  have h0 := h
  obtain ⟨⟨L, hw⟩, hl⟩ := h
  have hlen := wlk_len hw
  have hm := wlk_mem hw ha
  have hd : w.dropLast.Nodup := by
    rw [List.nodup_iff_pairwise_ne, List.pairwise_iff_getElem]
    intro i j hi hj hij e
    rw [List.length_dropLast] at hi hj
    rw [List.getElem_dropLast, List.getElem_dropLast] at e
    have := best_cut h0 hij (List.getElem?_eq_getElem (by omega)) (by rw [e]; exact List.getElem?_eq_getElem (by omega))
    omega
  have := nodup_le hd fun x hx => hm x (List.dropLast_subset _ hx)
  rw [List.length_dropLast] at this
  omega
theorem best_bfP {a b : Nat} {w : List Nat} (h : Best n p a b w) (ha : a < n) : bfP n p a b = some w := by
  have hlen := best_len h ha
  have h0 := h
  obtain ⟨⟨L, hw⟩, hl⟩ := h
  have hwl := wlk_len hw
  have hsome : wl n p (L + 1) a b = some w := by
    cases h1 : wl n p (L + 1) a b with
    | none => exact absurd hw (wl_none h1 w)
    | some v =>
      obtain ⟨h2, h3⟩ := wl_some h1
      rw [sle_antisymm (h3 _ hw) (hl _ _ h2)]
  refine fo_is (k := L) (by omega) hsome fun j hj => ?_
  cases h1 : wl n p (j + 1) a b with
  | none => rfl
  | some v =>
    have h2 := sle_len (hl _ _ (wl_some h1).1)
    have h3 := wlk_len (wl_some h1).1
    omega
theorem bfP_best {a b : Nat} {w : List Nat} (h : bfP n p a b = some w) : Best n p a b w := by
  obtain ⟨L, h1, h2, h3⟩ := fo_some h
  obtain ⟨h4, h5⟩ := wl_some h2
  refine ⟨⟨L, h4⟩, fun M v hv => ?_⟩
  rcases Nat.lt_trichotomy M L with hm | rfl | hm
  · exact absurd hv (wl_none (h3 M hm) v)
  · exact h5 v hv
  · exact .inr (.inl (by rw [wlk_len h4, wlk_len hv]; omega))
theorem best_is {L a b : Nat} {w : List Nat} (h : wlk n p (L + 1) a b w) : ∃ v, Best n p a b v := by
  have key : ∀ L, (∃ w, wlk n p (L + 1) a b w) → ∃ v, Best n p a b v := by
    intro L
    induction L using Nat.strongRecOn with
    | ind L ih =>
      rintro ⟨w, hw⟩
      by_cases hc : ∃ M, M < L ∧ ∃ v, wlk n p (M + 1) a b v
      · obtain ⟨M, hM, hv⟩ := hc
        exact ih M hM hv
      · cases h1 : wl n p (L + 1) a b with
        | none => exact absurd hw (wl_none h1 w)
        | some u =>
          obtain ⟨h2, h3⟩ := wl_some h1
          refine ⟨u, ⟨L, h2⟩, fun M v hv => ?_⟩
          rcases Nat.lt_trichotomy M L with hm | rfl | hm
          · exact absurd ⟨M, hm, v, hv⟩ hc
          · exact h3 v hv
          · exact .inr (.inl (by rw [wlk_len h2, wlk_len hv]; omega))
  exact key L ⟨w, h⟩
theorem bfP_no {a b : Nat} (h : ∀ L w, ¬ wlk n p (L + 1) a b w) : bfP n p a b = none := by
  cases h1 : bfP n p a b with
  | none => rfl
  | some w => obtain ⟨⟨L, h2⟩, _⟩ := bfP_best h1; exact absurd h2 (h L w)
end
end Go.Ew
namespace Go.Ew
set_option linter.unusedVariables false
set_option linter.unusedSimpArgs false
set_option linter.unusedSectionVars false
section
variable {n : Int} {rs : Rows} (h : rightS n rs = true)
include h
theorem has_rel {a b : Nat} (ha : ((a : Nat) : Int) < n) (hb : ((b : Nat) : Int) < n) : hasM n rs ((a : Nat) : Int) ((b : Nat) : Int) = relM rs a b := by
  obtain ⟨m, p, rfl, hm, rfl⟩ := right_is h
  rw [hasM_nat (by omega) (by omega), relM_matP (by omega) (by omega)]
theorem has_relI {a b : Int} (ha : 0 ≤ a ∧ a < n) (hb : 0 ≤ b ∧ b < n) : hasM n rs a b = relM rs a.toNat b.toNat := by
  have := has_rel h (a := a.toNat) (b := b.toNat) (by omega) (by omega)
  rwa [Int.toNat_of_nonneg ha.1, Int.toNat_of_nonneg hb.1] at this
theorem right_rowP {i : Nat} {x : Row} (hx : rs[i]? = some x) : x = rowP n.toNat (relM rs i) := by
  have h1 := right_rel h
  have h2 : (matP n.toNat (relM rs))[i]? = some x := by rw [← h1]; exact hx
  exact (matP_at h2).2
theorem right_bit {i : Nat} {x : Row} {q : Nat} {j : Int} (hx : rs[i]? = some x) (hj : (listR x)[q]? = some j) : 0 ≤ j ∧ j < n ∧ j < ((rs.length : Nat) : Int) := by
  rw [right_rowP h hx, listR_lst] at hj
  obtain ⟨k, hk, -, rfl⟩ := mem_lst.1 (List.mem_of_getElem? hj)
  have := (right_sq h).1
  omega
end
section
variable {n : Int} {rs xs : Rows} {i j : Int} (h : rightS n rs = true)
include h
end
section
variable {n : Int} {rs xs : Rows} {l : List Int} {mk : Row} {k : Nat} (h : rightS n rs = true)
include h
end
end Go.Ew
namespace Go.Ew
set_option linter.unusedVariables false
set_option linter.unusedSimpArgs false
set_option linter.unusedSectionVars false
structure Rch (n : Nat) (p : Nat → Nat → Bool) (i : Nat) (sn : List Bool) (td : List Int) (at_ : Int) (j : Nat) : Prop where
  len : sn.length = n
  snd : ∀ k, sn.getD k false = true → TC n p i k
  tdo : ∀ t ∈ td, ∃ k, t = ((k : Nat) : Int) ∧ k < n ∧ (k = i ∨ sn.getD k false = true)
  don : ∀ x, x < n → (x = i ∨ sn.getD x false = true) → ((x : Nat) : Int) ∈ td ∨ (((x : Nat) : Int) = at_ ∧ ∀ y, y < j → p x y = true → sn.getD y false = true) ∨ ∀ y, y < n → p x y = true → sn.getD y false = true
section
variable {n : Nat} {p : Nat → Nat → Bool} {i j : Nat} {sn : List Bool} {td : List Int} {at_ : Int}
theorem count_set {l : List Bool} {k : Nat} (h : l[k]? = some false) : (l.set k true).count false + 1 = l.count false := by
  induction l generalizing k with
  | nil => simp at h
  | cons b l ih =>
    cases k with
    | zero => simp at h; subst h; simp
    | succ k =>
      simp at h
      have := ih h
      rw [List.set_cons_succ, List.count_cons, List.count_cons]
      omega
end
theorem td_none {td : List Int} (h : ¬ (0 : Int) < ((td.length : Nat) : Int)) : td = [] := List.eq_nil_of_length_eq_zero (by omega)
section
variable {n : Int} {rs : Rows} {i a j : Nat} {sn : List Bool} {td : List Int} {x : Int} (rt : rightS n rs = true) (e : x = ((a : Nat) : Int)) (h : Rch n.toNat (relM rs) i sn td x j) (han : a < n.toNat) (hj : j < n.toNat)
include rt e h han hj
end
section
variable {k : Int} {l : List (BitVec 8 × BitVec 8)} {z : BitVec 8 × BitVec 8} (hk : 0 < k) (h4 : k ≤ 4096)
include hk h4
end
end Go.Ew
namespace Go.Ew
set_option linter.unusedVariables false
set_option linter.unusedSimpArgs false
set_option linter.unusedSectionVars false
structure Bk (bs : List Int) (i j : Int) (w : List Int) : Prop where
  head : w[0]? = some i
  last : w[w.length - 1]? = some j
  len : 2 ≤ w.length
  by_ : ∀ t x y, w[t]? = some x → w[t + 1]? = some y → bs[y.toNat]? = some x
  ne : ∀ t, 1 ≤ t → t + 1 < w.length → w[t]? ≠ some i
  rng : ∀ x ∈ w, 0 ≤ x ∧ x < (bs.length : Int)
theorem bk_eq {bs : List Int} {i j : Int} {w v : List Int} (h : Bk bs i j w) (k : Bk bs i j v) : w = v := by
  have key : ∀ s, s < w.length → s < v.length → w[w.length - 1 - s]? = v[v.length - 1 - s]? := by
    intro s
    induction s with
    | zero => intro _ _; rw [Nat.sub_zero, Nat.sub_zero, h.last, k.last]
    | succ s ih =>
      intro h1 h2
      have e := ih (by omega) (by omega)
      have a1 : w[w.length - 1 - (s + 1)]? = some w[w.length - 1 - (s + 1)] := List.getElem?_eq_getElem (by omega)
      have a2 : v[v.length - 1 - (s + 1)]? = some v[v.length - 1 - (s + 1)] := List.getElem?_eq_getElem (by omega)
      have b1 : w[w.length - 1 - s]? = some w[w.length - 1 - s] := List.getElem?_eq_getElem (by omega)
      have b2 : v[v.length - 1 - s]? = some v[v.length - 1 - s] := List.getElem?_eq_getElem (by omega)
      have c1 := h.by_ _ _ _ a1 (by rw [show w.length - 1 - (s + 1) + 1 = w.length - 1 - s from by omega]; exact b1)
      have c2 := k.by_ _ _ _ a2 (by rw [show v.length - 1 - (s + 1) + 1 = v.length - 1 - s from by omega]; exact b2)
      rw [b1, b2] at e
      rw [Option.some.inj e, c2] at c1
      rw [a1, a2, c1]
  have hl : w.length = v.length := by
    refine Classical.byContradiction fun hne => ?_
    have l1 := h.len; have l2 := k.len
    rcases Nat.lt_or_gt_of_ne hne with hc | hc
    · have := key (w.length - 1) (by omega) (by omega)
      rw [Nat.sub_self, h.head] at this
      exact k.ne _ (by omega) (by omega) this.symm
    · have := key (v.length - 1) (by omega) (by omega)
      rw [Nat.sub_self, k.head] at this
      exact h.ne _ (by omega) (by omega) this
  apply List.ext_getElem?
  intro s
  by_cases hs : s < w.length
  · have := key (w.length - 1 - s) (by omega) (by omega)
    rwa [show w.length - 1 - (w.length - 1 - s) = s from by omega, show v.length - 1 - (w.length - 1 - s) = s from by omega] at this
  · rw [List.getElem?_eq_none (by omega), List.getElem?_eq_none (by omega)]
open Classical in
noncomputable def bkW (bs : List Int) (i j : Int) : List Int := if h : ∃ w, Bk bs i j w then Classical.choose h else []
theorem bkW_eq {bs : List Int} {i j : Int} {w : List Int} (h : Bk bs i j w) : bkW bs i j = w := by
  have hh : ∃ w, Bk bs i j w := ⟨w, h⟩
  unfold bkW
  rw [dif_pos hh]
  exact bk_eq (Classical.choose_spec hh) h
section
variable {bs : List Int} {i j : Int} {w : List Int} (h : Bk bs i j w)
include h
theorem bk_start {x : Int} (hx : bs[j.toNat]? = some x) : w[w.length - 1 - 1]? = some x := by
  have l1 := h.len
  have a1 : w[w.length - 1 - 1]? = some w[w.length - 1 - 1] := List.getElem?_eq_getElem (by omega)
  have := h.by_ _ _ _ a1 (by rw [show w.length - 1 - 1 + 1 = w.length - 1 from by omega]; exact h.last)
  rw [hx] at this
  rw [a1, Option.some.inj this]
theorem bk_ones : [j] = (w.drop (w.length - 1)).reverse := by
  have l1 := h.len
  have h2 := h.last
  rw [List.getElem?_eq_getElem (by omega)] at h2
  rw [List.drop_eq_getElem_cons (by omega), show w.length - 1 + 1 = w.length from by omega, List.drop_length, Option.some.inj h2]; rfl
theorem bk_more {t : Nat} {x : Int} {l : List Int} (ht : 1 ≤ t) (htl : t < w.length) (hx : w[t - 1]? = some x) (hl : l = (w.drop t).reverse) : l ++ [x] = (w.drop (t - 1)).reverse := by
  have h1 : t - 1 < w.length := by omega
  rw [List.getElem?_eq_getElem h1] at hx
  rw [List.drop_eq_getElem_cons h1, show t - 1 + 1 = t from by omega, List.reverse_cons, ← hl, Option.some.inj hx]
theorem bk_stop {t : Nat} {x : Int} (ht : 1 ≤ t) (htl : t < w.length) (hx : w[t - 1]? = some x) (e : x = i) : t = 1 := by
  refine Classical.byContradiction fun hne => ?_
  exact h.ne (t - 1) (by omega) (by omega) (by rw [hx, e])
theorem bk_end {t : Nat} {x : Int} {l : List Int} (ht : 1 ≤ t) (htl : t < w.length) (hx : w[t - 1]? = some x) (e : x = i) (hl : l = (w.drop t).reverse) : (l ++ [x]).reverse = w := by
  have h1 := bk_stop h ht htl hx e
  rw [bk_more h ht htl hx hl, List.reverse_reverse, h1]; rfl
theorem bk_go {t : Nat} {x : Int} (ht : 1 ≤ t) (hx : w[t - 1]? = some x) (e : ¬ x = i) : 1 ≤ t - 1 := by
  refine Classical.byContradiction fun hne => ?_
  rw [show t - 1 = 0 from by omega, h.head] at hx
  exact e (Option.some.inj hx).symm
theorem bk_next {t : Nat} {x y : Int} (ht : 1 ≤ t) (htl : t < w.length) (hx : w[t - 1]? = some x) (e : ¬ x = i) (hy : bs[x.toNat]? = some y) : w[t - 1 - 1]? = some y := by
  have h1 := bk_go h ht hx e
  have a1 : w[t - 1 - 1]? = some w[t - 1 - 1] := List.getElem?_eq_getElem (by omega)
  have := h.by_ _ _ _ a1 (by rw [show t - 1 - 1 + 1 = t - 1 from by omega]; exact hx)
  rw [hy] at this
  rw [a1, Option.some.inj this]
theorem bk_rng {t : Nat} {x : Int} (hx : w[t]? = some x) : 0 ≤ x ∧ x < (bs.length : Int) := h.rng x (List.mem_of_getElem? hx)
end
def sucP (n : Nat) (p : Nat → Nat → Bool) (a : Nat) : List Nat := (List.range n).filter (p a)
def lastI (w : List Nat) (k : Nat) : Prop := w.getLast? = some k
def Dn (n : Nat) (p : Nat → Nat → Bool) (E : List (List Nat)) (c t : Nat) (u : List Nat) (k : Nat) : Prop :=
  ∃ a, lastI u a ∧ k ∈ sucP n p a ∧ ((∃ s, s < c ∧ E[s]? = some u) ∨ (E[c]? = some u ∧ k ∈ (sucP n p a).take t))
structure Tr (n : Nat) (p : Nat → Nat → Bool) (i : Nat) (bs : List Int) (w : List Nat) : Prop where
  wk : ∃ L b, wlk n p L i b w
  by_ : ∀ s x y, w[s]? = some x → w[s + 1]? = some y → bs[y]? = some ((x : Nat) : Int)
  ne : ∀ s x, 1 ≤ s → w[s]? = some x → x ≠ i
structure Bfs (n : Nat) (p : Nat → Nat → Bool) (i j : Nat) (bs : List Int) (E : List (List Nat)) (c t : Nat) : Prop where
  len : bs.length = n
  hd : E[0]? = some [i]
  cle : c ≤ E.length
  inc : ∀ (s u : Nat) (a b : List Nat), s < u → E[s]? = some a → E[u]? = some b → slt a b
  tr : ∀ w ∈ E, Tr n p i bs w
  dn : ∀ w ∈ E, w = [i] ∨ ∃ u k, w = u ++ [k] ∧ Dn n p E c t u k
  al : ∀ u k, Dn n p E c t u k → k ≠ j ∧ (k ≠ i → ∃ w ∈ E, lastI w k ∧ sle w (u ++ [k]))
  byS : ∀ k v, bs[k]? = some v → v ≠ -1 → k ≠ j ∧ (k ≠ i → ∃ w ∈ E, lastI w k)
section
variable {n : Nat} {p : Nat → Nat → Bool} {i j : Nat} {bs : List Int} {E : List (List Nat)} {c t : Nat}
theorem mem_suc {a k : Nat} : k ∈ sucP n p a ↔ k < n ∧ p a k = true := by unfold sucP; simp [List.mem_filter]
theorem suc_inc {a s u x y : Nat} (hsu : s < u) (hx : (sucP n p a)[s]? = some x) (hy : (sucP n p a)[u]? = some y) : x < y := by
  have h0 : (sucP n p a).Pairwise (· < ·) := List.Pairwise.filter _ List.pairwise_lt_range
  have h1 := (List.getElem?_eq_some_iff.1 hx); have h2 := (List.getElem?_eq_some_iff.1 hy)
  have := (List.pairwise_iff_getElem.1 h0) s u h1.1 h2.1 hsu
  rw [h1.2, h2.2] at this; exact this
theorem lastI_snoc (u : List Nat) (k : Nat) : lastI (u ++ [k]) k := by unfold lastI; simp
theorem lastI_wlk {L a b : Nat} {w : List Nat} (h : wlk n p L a b w) : lastI w b := by
  unfold lastI
  rw [List.getLast?_eq_getElem?, wlk_len h]
  exact wlk_last h
theorem lastI_inj {w : List Nat} {a b : Nat} (h : lastI w a) (k : lastI w b) : a = b := by unfold lastI at h k; rw [h] at k; exact Option.some.inj k
theorem bfs_start (hi : i < n) : Bfs n p i j (List.replicate n (-1)) [[i]] 0 0 where
  len := by simp
  hd := rfl
  cle := by simp
  inc := by
    intro s u a b hsu ha hb
    have h2 := (List.getElem?_eq_some_iff.1 hb).1
    simp at h2; omega
  tr := by
    intro w hw
    rw [List.mem_singleton.1 hw]
    refine ⟨⟨0, i, rfl, rfl⟩, ?_, ?_⟩
    · intro s x y _ hy; simp at hy
    · intro s x hs hx
      have h2 := (List.getElem?_eq_some_iff.1 hx).1
      simp at h2; omega
  dn := by intro w hw; exact .inl (List.mem_singleton.1 hw)
  al := by
    rintro u k ⟨a, _, _, ⟨s, hs, _⟩ | ⟨_, hk⟩⟩
    · omega
    · simp at hk
  byS := by
    intro k v hk hv
    have h2 := List.getElem?_eq_some_iff.1 hk
    obtain ⟨h3, h4⟩ := h2
    simp at h4
    exact absurd h4.symm hv
theorem bfs_next {u : List Nat} {a : Nat} (h : Bfs n p i j bs E c t) (hu : E[c]? = some u) (ha : lastI u a) (ht : (sucP n p a).length ≤ t) : Bfs n p i j bs E (c + 1) 0 := by
  have hD : ∀ v k, Dn n p E (c + 1) 0 v k ↔ Dn n p E c t v k := by
    intro v k
    constructor
    · rintro ⟨b, h1, h2, ⟨s, hs, h3⟩ | ⟨_, h3⟩⟩
      · rcases Nat.lt_succ_iff_lt_or_eq.1 hs with hs | rfl
        · exact ⟨b, h1, h2, .inl ⟨s, hs, h3⟩⟩
        · rw [hu] at h3; cases h3
          obtain rfl := lastI_inj ha h1
          exact ⟨a, h1, h2, .inr ⟨hu, by rwa [List.take_of_length_le ht]⟩⟩
      · simp at h3
    · rintro ⟨b, h1, h2, ⟨s, hs, h3⟩ | ⟨h3, _⟩⟩
      · exact ⟨b, h1, h2, .inl ⟨s, by omega, h3⟩⟩
      · exact ⟨b, h1, h2, .inl ⟨c, by omega, h3⟩⟩
  refine ⟨h.len, h.hd, (List.getElem?_eq_some_iff.1 hu).1, h.inc, h.tr, ?_, ?_, h.byS⟩
  · intro w hw
    rcases h.dn w hw with e | ⟨v, k, e, hd⟩
    · exact .inl e
    · exact .inr ⟨v, k, e, (hD v k).2 hd⟩
  · intro v k hd
    exact h.al v k ((hD v k).1 hd)
theorem bfs_lt {u w : List Nat} {a k : Nat} (h : Bfs n p i j bs E c t) (hu : E[c]? = some u) (ha : lastI u a) (hk : (sucP n p a)[t]? = some k) (hw : w ∈ E) : slt w (u ++ [k]) := by
  have hul : 0 < u.length := by
    cases u with
    | nil => unfold lastI at ha; simp at ha
    | cons x u => simp
  rcases h.dn w hw with rfl | ⟨v, m, rfl, b, h1, h2, ⟨s, hs, h3⟩ | ⟨h3, h4⟩⟩
  · exact .inl (by simp; omega)
  · exact slt_snoc _ _ (h.inc s c v u hs h3 hu)
  · rw [hu] at h3; cases h3
    obtain rfl := lastI_inj ha h1
    obtain ⟨s, hs⟩ := List.mem_iff_getElem?.1 h4
    have hst : s < t := by
      have := (List.getElem?_eq_some_iff.1 hs).1
      rw [List.length_take] at this; omega
    rw [List.getElem?_take, if_pos hst] at hs
    exact slt_last (suc_inc hst hs hk)
theorem dn_succ {u v : List Nat} {a k m : Nat} (hu : E[c]? = some u) (ha : lastI u a) (hk : (sucP n p a)[t]? = some k) (h : Dn n p E c (t + 1) v m) : Dn n p E c t v m ∨ (v = u ∧ m = k) := by
  obtain ⟨b, h1, h2, h3 | ⟨h3, h4⟩⟩ := h
  · exact .inl ⟨b, h1, h2, .inl h3⟩
  · rw [hu] at h3; cases h3
    obtain rfl := lastI_inj ha h1
    rw [List.take_add_one, hk] at h4
    rcases List.mem_append.1 h4 with h4 | h4
    · exact .inl ⟨a, h1, h2, .inr ⟨hu, h4⟩⟩
    · exact .inr ⟨rfl, by simpa using h4⟩
theorem dn_up {u : List Nat} {m : Nat} (h : Dn n p E c t u m) : Dn n p E c (t + 1) u m := by
  obtain ⟨b, h1, h2, h3 | ⟨h3, h4⟩⟩ := h
  · exact ⟨b, h1, h2, .inl h3⟩
  · exact ⟨b, h1, h2, .inr ⟨h3, by
      obtain ⟨s, hs⟩ := List.mem_iff_getElem?.1 h4
      have hst : s < t := by
        have := (List.getElem?_eq_some_iff.1 hs).1
        rw [List.length_take] at this; omega
      rw [List.getElem?_take, if_pos hst] at hs
      exact List.mem_iff_getElem?.2 ⟨s, by rw [List.getElem?_take, if_pos (by omega)]; exact hs⟩⟩⟩
theorem bfs_skip {u : List Nat} {a k : Nat} {v : Int} (h : Bfs n p i j bs E c t) (hu : E[c]? = some u) (ha : lastI u a) (hk : (sucP n p a)[t]? = some k) (hv : bs[k]? = some v) (hv1 : v ≠ -1) : Bfs n p i j bs E c (t + 1) := by
  refine ⟨h.len, h.hd, h.cle, h.inc, h.tr, ?_, ?_, h.byS⟩
  · intro w hw
    rcases h.dn w hw with e | ⟨v, m, e, hd⟩
    · exact .inl e
    · exact .inr ⟨v, m, e, dn_up hd⟩
  · intro v' m hd
    rcases dn_succ hu ha hk hd with hd | ⟨rfl, rfl⟩
    · exact h.al v' m hd
    · obtain ⟨h1, h2⟩ := h.byS m v hv hv1
      refine ⟨h1, fun hi => ?_⟩
      obtain ⟨w, hw, hwl⟩ := h2 hi
      exact ⟨w, hw, hwl, .inr (bfs_lt h hu ha hk hw)⟩
theorem tr_set {k : Nat} {x : Int} {w : List Nat} (h : Tr n p i bs w) (hk : bs[k]? = some (-1)) : Tr n p i (bs.set k x) w := by
  refine ⟨h.wk, ?_, h.ne⟩
  intro s a b ha hb
  have h1 := h.by_ s a b ha hb
  rw [List.getElem?_set]
  split
  · rename_i e; subst e
    rw [hk] at h1
    have := Option.some.inj h1
    omega
  · exact h1
theorem bfs_i {u : List Nat} {a : Nat} (h : Bfs n p i j bs E c t) (hij : i ≠ j) (hu : E[c]? = some u) (ha : lastI u a) (hk : (sucP n p a)[t]? = some i) (hv : bs[i]? = some (-1)) : Bfs n p i j (bs.set i ((a : Nat) : Int)) E c (t + 1) := by
  refine ⟨by rw [List.length_set]; exact h.len, h.hd, h.cle, h.inc, fun w hw => tr_set (h.tr w hw) hv, ?_, ?_, ?_⟩
  · intro w hw
    rcases h.dn w hw with e | ⟨v, m, e, hd⟩
    · exact .inl e
    · exact .inr ⟨v, m, e, dn_up hd⟩
  · intro v m hd
    rcases dn_succ hu ha hk hd with hd | ⟨rfl, rfl⟩
    · exact h.al v m hd
    · exact ⟨hij, fun hi => absurd rfl hi⟩
  · intro m v hm hv1
    by_cases e : m = i
    · exact ⟨by rw [e]; exact hij, fun hi => absurd e hi⟩
    · rw [List.getElem?_set_ne (by omega)] at hm
      exact h.byS m v hm hv1
theorem tr_snoc {u : List Nat} {a k : Nat} (h : Tr n p i bs u) (ha : lastI u a) (hk : k ∈ sucP n p a) (hv : bs[k]? = some (-1)) (hki : k ≠ i) : Tr n p i (bs.set k ((a : Nat) : Int)) (u ++ [k]) := by
  obtain ⟨L, b, hw⟩ := h.wk
  obtain rfl := lastI_inj ha (lastI_wlk hw)
  obtain ⟨hk1, hk2⟩ := mem_suc.1 hk
  have hlen := wlk_len hw
  have h2 := tr_set (x := ((a : Nat) : Int)) h hv
  refine ⟨⟨L + 1, k, wlk_snoc hw hk1 hk2⟩, ?_, ?_⟩
  · intro s x y hx hy
    have hs : s + 1 < (u ++ [k]).length := (List.getElem?_eq_some_iff.1 hy).1
    rw [List.length_append, List.length_singleton] at hs
    rw [List.getElem?_append_left (by omega)] at hx
    by_cases hs2 : s + 1 < u.length
    · rw [List.getElem?_append_left hs2] at hy
      exact h2.by_ s x y hx hy
    · rw [List.getElem?_append_right (by omega), show s + 1 - u.length = 0 from by omega] at hy
      simp at hy; subst hy
      rw [show s = L from by omega, wlk_last hw] at hx
      cases hx
      rw [List.getElem?_set_self (by have := (List.getElem?_eq_some_iff.1 hv).1; omega)]
  · intro s x hs hx
    by_cases hs2 : s < u.length
    · rw [List.getElem?_append_left hs2] at hx
      exact h.ne s x hs hx
    · rw [List.getElem?_append_right (by omega)] at hx
      have := (List.getElem?_eq_some_iff.1 hx).1
      simp at this
      rw [show s - u.length = 0 from by omega] at hx
      simp at hx; rw [← hx]; exact hki
theorem bfs_push {u : List Nat} {a k : Nat} (h : Bfs n p i j bs E c t) (hu : E[c]? = some u) (ha : lastI u a) (hk : (sucP n p a)[t]? = some k) (hv : bs[k]? = some (-1)) (hki : k ≠ i) (hkj : k ≠ j) :
    Bfs n p i j (bs.set k ((a : Nat) : Int)) (E ++ [u ++ [k]]) c (t + 1) := by
  have hcl : c < E.length := (List.getElem?_eq_some_iff.1 hu).1
  have hE : ∀ s v, s ≤ c → ((E ++ [u ++ [k]])[s]? = some v ↔ E[s]? = some v) := fun s v hs => by rw [List.getElem?_append_left (by omega)]
  have hD : ∀ v m tt, Dn n p (E ++ [u ++ [k]]) c tt v m ↔ Dn n p E c tt v m := by
    intro v m tt
    constructor
    · rintro ⟨b, h1, h2, ⟨s, hs, h3⟩ | ⟨h3, h4⟩⟩
      · exact ⟨b, h1, h2, .inl ⟨s, hs, (hE s v (by omega)).1 h3⟩⟩
      · exact ⟨b, h1, h2, .inr ⟨(hE c v (by omega)).1 h3, h4⟩⟩
    · rintro ⟨b, h1, h2, ⟨s, hs, h3⟩ | ⟨h3, h4⟩⟩
      · exact ⟨b, h1, h2, .inl ⟨s, hs, (hE s v (by omega)).2 h3⟩⟩
      · exact ⟨b, h1, h2, .inr ⟨(hE c v (by omega)).2 h3, h4⟩⟩
  have hks : k ∈ sucP n p a := List.mem_of_getElem? hk
  refine ⟨by rw [List.length_set]; exact h.len, by rw [List.getElem?_append_left (by omega)]; exact h.hd, by rw [List.length_append]; omega, ?_, ?_, ?_, ?_, ?_⟩
  · intro s m x y hsm hx hy
    by_cases hm : m < E.length
    · rw [List.getElem?_append_left (by omega)] at hx
      rw [List.getElem?_append_left hm] at hy
      exact h.inc s m x y hsm hx hy
    · have h1 := (List.getElem?_eq_some_iff.1 hy).1
      rw [List.length_append, List.length_singleton] at h1
      rw [List.getElem?_append_right (by omega), show m - E.length = 0 from by omega] at hy
      simp at hy; subst hy
      rw [List.getElem?_append_left (by omega)] at hx
      exact bfs_lt h hu ha hk (List.mem_of_getElem? hx)
  · intro w hw
    rcases List.mem_append.1 hw with hw | hw
    · exact tr_set (h.tr w hw) hv
    · rw [List.mem_singleton.1 hw]
      exact tr_snoc (h.tr u (List.mem_of_getElem? hu)) ha hks hv hki
  · intro w hw
    rcases List.mem_append.1 hw with hw | hw
    · rcases h.dn w hw with e | ⟨v, m, e, hd⟩
      · exact .inl e
      · exact .inr ⟨v, m, e, (hD _ _ _).2 (dn_up hd)⟩
    · refine .inr ⟨u, k, List.mem_singleton.1 hw, (hD _ _ _).2 ⟨a, ha, hks, .inr ⟨hu, ?_⟩⟩⟩
      exact List.mem_iff_getElem?.2 ⟨t, by rw [List.getElem?_take, if_pos (by omega)]; exact hk⟩
  · intro v m hd
    rcases dn_succ hu ha hk ((hD _ _ _).1 hd) with hd | ⟨rfl, rfl⟩
    · obtain ⟨h1, h2⟩ := h.al v m hd
      refine ⟨h1, fun hi => ?_⟩
      obtain ⟨w, hw, hw2⟩ := h2 hi
      exact ⟨w, List.mem_append_left _ hw, hw2⟩
    · exact ⟨hkj, fun _ => ⟨v ++ [m], List.mem_append_right _ (List.mem_singleton.2 rfl), lastI_snoc _ _, .inl rfl⟩⟩
  · intro m v hm hv1
    by_cases e : m = k
    · subst e
      exact ⟨hkj, fun _ => ⟨u ++ [m], List.mem_append_right _ (List.mem_singleton.2 rfl), lastI_snoc _ _⟩⟩
    · rw [List.getElem?_set_ne (by omega)] at hm
      obtain ⟨h1, h2⟩ := h.byS m v hm hv1
      refine ⟨h1, fun hi => ?_⟩
      obtain ⟨w, hw, hw2⟩ := h2 hi
      exact ⟨w, List.mem_append_left _ hw, hw2⟩
theorem bfs_walk {u : List Nat} (h : Bfs n p i j bs E c t) (hu : E[c]? = some u) : ∀ L b w, wlk n p L i b w → sle u w ∨ ∃ s v, s < c ∧ E[s]? = some v ∧ lastI v b ∧ sle v w
  | 0, b, w, hw => by
    obtain ⟨rfl, rfl⟩ := hw
    rcases Nat.eq_zero_or_pos c with rfl | hc
    · rw [h.hd] at hu; cases hu
      exact .inl (.inl rfl)
    · exact .inr ⟨0, [i], hc, h.hd, rfl, .inl rfl⟩
  | L + 1, b, w, hw => by
    obtain ⟨d, x, h1, h2, h3, rfl⟩ := wlk_unsnoc hw
    have hlt : slt x (x ++ [b]) := .inl (by simp)
    rcases bfs_walk h hu L d x h1 with h4 | ⟨s, v, hs, hv, hvl, hvx⟩
    · exact .inl (sle_trans h4 (.inr hlt))
    · obtain ⟨h5, h6⟩ := h.al v b ⟨d, hvl, mem_suc.2 ⟨h3, h2⟩, .inl ⟨s, hs, hv⟩⟩
      by_cases hbi : b = i
      · subst hbi
        exact .inr ⟨0, [b], by omega, h.hd, rfl, .inr (.inl (by simp [wlk_len h1]))⟩
      · obtain ⟨y, hy, hyl, hyv⟩ := h6 hbi
        have hyx : sle y (x ++ [b]) := sle_trans hyv (sle_snoc b hvx)
        obtain ⟨m, hm⟩ := List.mem_iff_getElem?.1 hy
        rcases Nat.lt_trichotomy m c with hmc | rfl | hmc
        · exact .inr ⟨m, y, hmc, hm, hyl, hyx⟩
        · rw [hu] at hm; cases hm
          exact .inl hyx
        · exact .inl (sle_trans (.inr (h.inc c m u y hmc hu hm)) hyx)
theorem bfs_found {u : List Nat} {a : Nat} (h : Bfs n p i j bs E c t) (hu : E[c]? = some u) (ha : lastI u a) (hk : (sucP n p a)[t]? = some j) : Best n p i j (u ++ [j]) := by
  obtain ⟨L, b, hw⟩ := (h.tr u (List.mem_of_getElem? hu)).wk
  obtain rfl := lastI_inj ha (lastI_wlk hw)
  obtain ⟨h1, h2⟩ := mem_suc.1 (List.mem_of_getElem? hk)
  refine ⟨⟨L, wlk_snoc hw h1 h2⟩, fun M v hv => ?_⟩
  obtain ⟨d, x, k1, k2, k3, rfl⟩ := wlk_unsnoc hv
  rcases bfs_walk h hu M d x k1 with h4 | ⟨s, y, hs, hy, hyl, hyx⟩
  · exact sle_snoc j h4
  · exact absurd rfl (h.al y j ⟨d, hyl, mem_suc.2 ⟨k3, k2⟩, .inl ⟨s, hs, hy⟩⟩).1
theorem bfs_all (h : Bfs n p i j bs E E.length 0) : ∀ L b w, wlk n p L i b w → ∃ v ∈ E, lastI v b
  | 0, b, w, hw => by obtain ⟨rfl, rfl⟩ := hw; exact ⟨[i], List.mem_of_getElem? h.hd, rfl⟩
  | L + 1, b, w, hw => by
    obtain ⟨d, x, h1, h2, h3, rfl⟩ := wlk_unsnoc hw
    obtain ⟨v, hv, hvl⟩ := bfs_all h L d x h1
    obtain ⟨s, hs⟩ := List.mem_iff_getElem?.1 hv
    obtain ⟨h5, h6⟩ := h.al v b ⟨d, hvl, mem_suc.2 ⟨h3, h2⟩, .inl ⟨s, (List.getElem?_eq_some_iff.1 hs).1, hs⟩⟩
    by_cases hbi : b = i
    · subst hbi; exact ⟨[b], List.mem_of_getElem? h.hd, rfl⟩
    · obtain ⟨y, hy, hyl, _⟩ := h6 hbi
      exact ⟨y, hy, hyl⟩
theorem bfs_none (h : Bfs n p i j bs E E.length 0) : bfP n p i j = none := bfP_no fun L w hw => by
  obtain ⟨d, x, h1, h2, h3, rfl⟩ := wlk_unsnoc hw
  obtain ⟨v, hv, hvl⟩ := bfs_all h L d x h1
  obtain ⟨s, hs⟩ := List.mem_iff_getElem?.1 hv
  exact (h.al v j ⟨d, hvl, mem_suc.2 ⟨h3, h2⟩, .inl ⟨s, (List.getElem?_eq_some_iff.1 hs).1, hs⟩⟩).1 rfl
end
end Go.Ew
namespace Go.Ew
open Go.RowKit
set_option linter.unusedVariables false
set_option linter.unusedSimpArgs false
def cutA (a : Option Addr) (c lo : Nat) : Option Addr := if c = lo then a else a.map (·.add (lo * 1))
def cpyL (xs : List Int) (k : Nat) : List Int := xs.take k ++ ((xs.take k).take (xs.length - k) ++ xs.drop (k + min k (xs.length - k)))
theorem add0 (g j : Nat) : (⟨g, 0, none⟩ : Addr).add j = ⟨g, j, none⟩ := by unfold Addr.add; split <;> simp_all
theorem chunks_cut {M : Nat → Prop} {w : World} : ∀ (k : Nat) {xs : List Int} {cs : List Value}, Chunks M w cs xs → Chunks M w (cs.take k) (xs.take k) ∧ Chunks M w (cs.drop k) (xs.drop k)
  | 0, xs, cs, h => ⟨by rw [List.take_zero, List.take_zero]; rfl, by simpa using h⟩
  | k + 1, [], cs, h => by
    rw [show cs = [] from h]
    exact ⟨rfl, rfl⟩
  | k + 1, x :: xs, cs, h => by
    obtain ⟨c1, c2, rfl, h2, h3⟩ := h
    obtain ⟨i1, i2⟩ := chunks_cut k h3
    obtain ⟨e, hx⟩ := h2
    subst e
    exact ⟨⟨[.int .i64 x], c2.take k, rfl, ⟨rfl, hx⟩, i1⟩, i2⟩
section
variable {P : Program} {n : Nat} {ops : Array Oper} {f : Slots} {w : World} {K : Slots → World → Prop} {x y : Operand} {d : Nat} {ty T e : TypeId} {ps : String} {af : Array Edge} {v u : Value} {M M0 : Nat → Prop} {w0 : World} {l : List Item} {bytes : Nat} {z : Value} {B : Nat} {kk : IntKind} {agg : Bool} {xs ys : List Int} {a : Option Addr} {k c : Nat}
theorem own_shape (hO : (own B e (.slice a k c) xs).holds M w) : k = xs.length ∧ xs.length ≤ c := by
  obtain ⟨cs, h1, h2⟩ := hO
  rcases h1.2 with ⟨h3, h4⟩ | ⟨g, cap, cur, h3, h4, h5, h6, h7⟩
  · cases h3; omega
  · cases h3; exact ⟨rfl, h6⟩
theorem own_klen {α : Type} [GT α] {xs : List α} (hO : (own B e (.slice a k c) xs).holds M w) : k = xs.length := by
  obtain ⟨cs, h1, h2⟩ := hO
  rcases h1.2 with ⟨h3, h4⟩ | ⟨g, cap, cur, h3, h4, h5, h6, h7⟩
  · cases h3; omega
  · cases h3; rfl
theorem slOl {lo : Int} {ylo : Operand} (hO : (own B e (.slice a k c) xs).holds M w) (ox : okT n x = true) (ol : okT n ylo = true) (hx : ev f x = .slice a k c) (hl : ev f ylo = .int kk lo) (hb : 0 ≤ lo ∧ lo ≤ xs.length) (hu : P.underlying T = some (.slice e)) (F : TyF P e 1 agg bytes z)
    (h : K (upd f d (.slice (cutA a c lo.toNat) (k - lo.toNat) (c - lo.toNat))) w) :
    SO P n ops ⟨some d, .slice T x (some ylo) none none, ty, ps, af, none⟩ f w K := by
  obtain ⟨hk, hc⟩ := own_shape hO
  refine SO.value (v := .slice (cutA a c lo.toNat) (k - lo.toNat) (c - lo.toNat)) (w' := w) ?_ h
  have hel : P.underlying T = some (.slice (P.elem T)) := by rw [hu]; simp [Program.elem, hu]
  have hel2 : P.elem T = e := by simp [Program.elem, hu]
  simp [execOp, eval_acts ox, eval_acts ol, hx, hl, Instr.sliceAt, run_und hu]
  have := run_slice_l (P := P) (w := w) T a k c hel kk lo hb.1 (by omega)
  rw [hel2, F.run_size] at this
  simp [this, sliced, cutA]
theorem slOh {hi : Int} {yhi : Operand} (hO : (own B e (.slice a k c) xs).holds M w) (ox : okT n x = true) (oh : okT n yhi = true) (hx : ev f x = .slice a k c) (hh : ev f yhi = .int kk hi) (hb : 0 ≤ hi ∧ hi ≤ xs.length) (hu : P.underlying T = some (.slice e)) (F : TyF P e 1 agg bytes z)
    (h : K (upd f d (.slice (cutA a c 0) hi.toNat c)) w) :
    SO P n ops ⟨some d, .slice T x none (some yhi) none, ty, ps, af, none⟩ f w K := by
  obtain ⟨hk, hc⟩ := own_shape hO
  refine SO.value (v := .slice (cutA a c 0) hi.toNat c) (w' := w) ?_ h
  have hel : P.underlying T = some (.slice (P.elem T)) := by rw [hu]; simp [Program.elem, hu]
  have hel2 : P.elem T = e := by simp [Program.elem, hu]
  simp [execOp, eval_acts ox, eval_acts oh, hx, hh, Instr.sliceAt, run_und hu]
  have := run_slice_h (P := P) (w := w) T a k c hel kk hi hb.1 (by omega)
  rw [hel2, F.run_size] at this
  simp [this, sliced, cutA]
theorem HI.putSeg (H : HI M0 w0 w l) (i : Nat) {g cap : Nat} {cur : Array Value} {cs ds : List Value} {o : Nat} (hi : l[i]? = some (own w0.heap.size e (.slice (some ⟨g, 0, none⟩) xs.length cap) xs))
    (h3 : w0.heap.size ≤ g) (h4 : w.heap[g]? = some (.cells cur e (0, 0))) (h5 : xs.length ≤ cap) (h6 : cap ≤ maxLen) (h7 : cur.size = cap) (h8 : cur.toList.take xs.length = cs)
    (hc : Chunks (MS M0 l) w cs xs) (hd : Chunks (MS M0 l) w ds ys) (ho : o + ys.length ≤ xs.length) :
    HI M0 w0 (w.setRow g (cur.toList.take o ++ ds ++ cur.toList.drop (o + ds.length)).toArray) (l.set i (own w0.heap.size e (.slice (some ⟨g, 0, none⟩) xs.length cap) (xs.take o ++ (ys ++ xs.drop (o + ys.length))))) := by
  have hdl : ds.length = ys.length := by have := Chunks.length hd; simpa [GT.size] using this
  have hcl : cs.length = xs.length := by have := Chunks.length hc; simpa [GT.size] using this
  have hnl : (xs.take o ++ (ys ++ xs.drop (o + ys.length))).length = xs.length := by simp; omega
  have hcur : cur.toList.length = cap := by simpa using h7
  have hother : ∀ q, q < w.heap.size → (own w0.heap.size e (Value.slice (some ⟨g, 0, none⟩) xs.length cap) xs).blk ≠ some q → (w.setRow g (cur.toList.take o ++ ds ++ cur.toList.drop (o + ds.length)).toArray).heap[q]? = w.heap[q]? :=
    fun q hq hne => setRow_other w g q _ (fun e => hne (by rw [e]; rfl))
  refine H.turn i hi rfl rfl rfl (by simp) hother ?_ ?_
  · intro b hb
    refine ⟨?_, .inl hb⟩
    rw [size_setRow]
    exact (H.blks _ (List.mem_of_getElem? hi) b hb).2
  · have hup : Up (MS M0 l) w (MS M0 (l.set i (own w0.heap.size e (Value.slice (some ⟨g, 0, none⟩) xs.length cap) (xs.take o ++ (ys ++ xs.drop (o + ys.length)))))) (w.setRow g (cur.toList.take o ++ ds ++ cur.toList.drop (o + ds.length)).toArray) := by
      refine ⟨by simp, fun b hb hM => ⟨setRow_other w g b _ (fun e => hM (.inr ⟨_, List.mem_of_getElem? hi, by rw [e]; rfl⟩)), ?_⟩⟩
      rintro (hM' | ⟨it, hit, hitb⟩)
      · exact hM (.inl hM')
      · rcases List.mem_or_eq_of_mem_set hit with hit | rfl
        · exact hM (.inr ⟨it, hit, hitb⟩)
        · exact hM (.inr ⟨_, List.mem_of_getElem? hi, hitb⟩)
    refine ⟨cs.take o ++ (ds ++ cs.drop (o + ds.length)), ⟨by simp [GT.size]; omega, .inr ⟨g, cap, _, by rw [hnl], h3, setRow_heap w g cur _ e _ h4, by omega, h6, ?_, ?_⟩⟩, ?_⟩
    · simp only [List.size_toArray, List.length_append, List.length_take, List.length_drop, GT.size]
      omega
    · rw [hnl]
      show (cur.toList.take o ++ ds ++ cur.toList.drop (o + ds.length)).take (xs.length * 1) = _
      rw [← h8, Nat.mul_one, List.append_assoc, List.take_append, List.take_append, List.length_take, Nat.min_eq_left (by omega), List.take_take, List.take_take, List.drop_take, List.take_of_length_le (by omega : ds.length ≤ xs.length - o), Nat.min_comm o xs.length,
        show xs.length - o - ds.length = xs.length - (o + ds.length) from by omega]
    · have e9 : xs.drop (o + ys.length) = xs.drop (o + ds.length) := by rw [hdl]
      have q := Chunks.lift hup (chunks_cut (o + ds.length) hc).2
      exact Chunks.append (Chunks.lift hup (chunks_cut o hc).1) (Chunks.append (Chunks.lift hup hd) ((congrArg (fun r => Chunks _ _ _ r) e9).mpr q))
theorem cpOw (H : HI M0 w0 w l) (i : Nat) (hi : l[i]? = some (own B e (.slice a k c) xs)) (hB : B = w0.heap.size) (ox : okT n x = true) (oy : okT n y = true) (hx : ev f x = .slice a k c) (hy : ev f y = u)
    (hs : Src (MS M0 l) w u ys) (hu : P.underlying T = some (.slice e)) (F : TyF P e 1 agg bytes z) (hl : ys.length ≤ xs.length) (hp : 0 < ys.length)
    (h : ∀ w', HI M0 w0 w' (l.set i (own B e (.slice a k c) (ys ++ xs.drop ys.length))) → K (upd f d (.int .i64 (ys.length : Int))) w') :
    SO P n ops ⟨some d, .call { callee := .builtin .copy, args := #[x, y], argTypes := #[T, T] }, ty, ps, af, none⟩ f w K := by
  subst hB
  obtain ⟨cs, h1, h2⟩ := H.at_ i hi
  obtain ⟨a0, c0, rfl, hsrc⟩ := hs
  obtain ⟨inf, hi1, hi2, hi3, hi4⟩ := F.info
  rcases h1.2 with ⟨h0, h3⟩ | ⟨g', c1, cur, h0, h3, h4, h5, h6, h7, h8⟩
  · omega
  · cases h0
    rcases hsrc with h0 | ⟨ad, rfl, ds, hd1, hd2⟩
    · omega
    · have hdl : ds.length = ys.length := by have := Chunks.length hd1; simpa [GT.size] using this
      have hsz : cur.size = c := by rw [h7]; simp [GT.size]
      have hrun := run_copy_row (P := P) w T T ty e g' 0 xs.length c ad ys.length c0 cur e ds hu (by rw [hi1]; simp [hi3]) h4 (by rw [hdl]; simp [Nat.min_eq_left hl]) hd2 (by omega) (Chunks.oneC hd1)
      refine SO.value (v := .int .i64 (ys.length : Int)) (w' := w.setRow g' (cur.toList.take 0 ++ ds ++ cur.toList.drop (0 + ds.length)).toArray) ?_ (h _ ?_)
      · have hr2 : (Builtin.copy_ #[T, T] ty #[.slice (some ⟨g', 0, none⟩) xs.length c, .slice (some ad) ys.length c0]).run P w = .ok (.int .i64 (ys.length : Int)) (w.setRow g' (cur.toList.take 0 ++ ds ++ cur.toList.drop (0 + ds.length)).toArray) := by
          rw [hrun, ← hdl]; rfl
        simp [execOp, resolve, invoke, builtin, eval_acts ox, eval_acts oy, hx, hy, hr2]
      · rw [show ys ++ xs.drop ys.length = xs.take 0 ++ (ys ++ xs.drop (0 + ys.length)) from by simp]
        exact HI.putSeg (ys := ys) (ds := ds) (o := 0) H i hi h3 h4 h5 h6 hsz (by simpa [GT.size] using h8) h2 hd1 (by omega)
theorem cpOs (H : HI M0 w0 w l) (i : Nat) (hi : l[i]? = some (own B e (.slice a k c) xs)) (hB : B = w0.heap.size) (ox : okT n x = true) (oy : okT n y = true) {q : Nat} (hx : ev f x = .slice (cutA a c q) (k - q) (c - q)) (hy : ev f y = .slice (cutA a c 0) q c)
    (hu : P.underlying T = some (.slice e)) (F : TyF P e 1 agg bytes z) (hq : 0 < q ∧ q < xs.length)
    (h : ∀ w', HI M0 w0 w' (l.set i (own B e (.slice a k c) (cpyL xs q))) → K (upd f d (.int .i64 ((min q (xs.length - q) : Nat) : Int))) w') :
    SO P n ops ⟨some d, .call { callee := .builtin .copy, args := #[x, y], argTypes := #[T, T] }, ty, ps, af, none⟩ f w K := by
  subst hB
  obtain ⟨cs, h1, h2⟩ := H.at_ i hi
  obtain ⟨inf, hi1, hi2, hi3, hi4⟩ := F.info
  rcases h1.2 with ⟨h0, h3⟩ | ⟨g', c1, cur, h0, h3, h4, h5, h6, h7, h8⟩
  · omega
  · cases h0
    have hsz : cur.size = c := by rw [h7]; simp [GT.size]
    have hadd : ∀ j, (⟨g', 0, none⟩ : Addr).add j = ⟨g', j, none⟩ := add0 g'
    have hcA : cutA (some ⟨g', 0, none⟩) c q = some ⟨g', q, none⟩ := by unfold cutA; rw [if_neg (by omega), Nat.mul_one]; show some (Addr.add _ q) = _; rw [hadd]
    have hcB : cutA (some ⟨g', 0, none⟩) c 0 = some ⟨g', 0, none⟩ := by unfold cutA; rw [if_neg (by omega)]; show some (Addr.add _ (0 * 1)) = _; rw [hadd]
    rw [hcA] at hx; rw [hcB] at hy
    have hcl : cs.length = xs.length := by have := Chunks.length h2; simpa [GT.size] using this
    have hd : Chunks (MS M0 l) w ((cs.take q).take (xs.length - q)) ((xs.take q).take (xs.length - q)) := (chunks_cut _ (chunks_cut q h2).1).1
    have hdn : ((cs.take q).take (xs.length - q)).length = min q (xs.length - q) := by simp; omega
    have hrun := run_copy_row (P := P) w T T ty e g' q (xs.length - q) (c - q) ⟨g', 0, none⟩ q c cur e ((cs.take q).take (xs.length - q)) hu (by rw [hi1]; simp [hi3]) h4 (by rw [hdn]) (by
      intro j v hv
      have hjl := (List.getElem?_eq_some_iff.1 hv).1
      rw [hdn] at hjl
      rw [List.getElem?_take_of_lt (by omega), List.getElem?_take_of_lt (by omega), ← h8, List.getElem?_take_of_lt (by simp [GT.size]; omega)] at hv
      rw [hadd, cell_of_row w g' _ cur e (0, 0) h4, ← hv, Array.getElem?_toList]) (by rw [hdn]; omega) (Chunks.oneC hd)
    refine SO.value (v := .int .i64 ((min q (xs.length - q) : Nat) : Int)) (w' := w.setRow g' (cur.toList.take q ++ (cs.take q).take (xs.length - q) ++ cur.toList.drop (q + ((cs.take q).take (xs.length - q)).length)).toArray) ?_ (h _ ?_)
    · have hr2 : (Builtin.copy_ #[T, T] ty #[.slice (some ⟨g', q, none⟩) (xs.length - q) (c - q), .slice (some ⟨g', 0, none⟩) q c]).run P w = .ok (.int .i64 ((min q (xs.length - q) : Nat) : Int)) (w.setRow g' (cur.toList.take q ++ (cs.take q).take (xs.length - q) ++ cur.toList.drop (q + ((cs.take q).take (xs.length - q)).length)).toArray) := by
        rw [hrun, hdn]; rfl
      simp [execOp, resolve, invoke, builtin, eval_acts ox, eval_acts oy, hx, hy, hr2]
    · have := HI.putSeg (ys := (xs.take q).take (xs.length - q)) (o := q) H i hi h3 h4 h5 h6 hsz (by simpa [GT.size] using h8) h2 hd (by simp; omega)
      rw [show ((xs.take q).take (xs.length - q)).length = min q (xs.length - q) from by simp; omega] at this
      exact this
end
end Go.Ew
namespace Go.Ew
set_option linter.unusedVariables false
set_option linter.unusedSimpArgs false
set_option linter.unusedSectionVars false
theorem cpyL_len {ys : List Int} {q : Nat} (h : q ≤ ys.length) : (cpyL ys q).length = ys.length := by unfold cpyL; simp; omega
theorem rep_start {xs zs : List Int} {m : Nat} (hx : xs.length = 1) (hm : 1 ≤ m) (hz : zs.length = m) : (xs ++ zs.drop xs.length).length = m ∧ (xs ++ zs.drop xs.length).take 1 = List.replicate 1 (xs.headD 0) := by
  obtain ⟨a, rfl⟩ := List.length_eq_one_iff.1 hx
  exact ⟨by simp; omega, by simp⟩
theorem rep_step {ys : List Int} {q m : Nat} {v : Int} (h : ys.take q = List.replicate q v) (hl : ys.length = m) (hq : q < m) : (cpyL ys q).take (q + min q (ys.length - q)) = List.replicate (q + min q (ys.length - q)) v := by
  unfold cpyL
  rw [h, List.take_replicate, ← List.append_assoc, List.replicate_append_replicate, show min (ys.length - q) q = min q (ys.length - q) from Nat.min_comm _ _]
  exact List.take_left' (by simp)
theorem rep_end {ys : List Int} {q m : Nat} {v : Int} (h : ys.take q = List.replicate q v) (hl : ys.length = m) (hq : q ≤ m) (hm : m ≤ q) : ys = List.replicate m v := by
  rw [List.take_of_length_le (by omega)] at h
  rw [h, show q = m from by omega]
theorem u64_big {n : Int} (h0 : 0 ≤ n) (h1 : n ≤ 4096) : (BitVec.ofInt 64 n).toNat = n.toNat := by
  rw [BitVec.toNat_ofInt]
  congr 1
  exact Int.emod_eq_of_lt h0 (by show n < 18446744073709551616; omega)
theorem mul1_hi {x y : BitVec 64} (h : x = 1#64) :
    (x >>> 32) * (y >>> 32) + (((x >>> 32) * (y &&& 4294967295#64) + ((x &&& 4294967295#64) * (y &&& 4294967295#64)) >>> 32) >>> 32) + (((((x >>> 32) * (y &&& 4294967295#64) + ((x &&& 4294967295#64) * (y &&& 4294967295#64)) >>> 32) &&& 4294967295#64) + (x &&& 4294967295#64) * (y >>> 32)) >>> 32) = 0#64 := by
  subst h
  have e1 : (1#64 : BitVec 64) &&& 4294967295#64 = 1#64 := by decide
  have e2 : (1#64 : BitVec 64) >>> 32 = 0#64 := by decide
  have e3 : ∀ z : BitVec 64, 1#64 * z = z := fun z => BitVec.one_mul z
  have e4 : ∀ z : BitVec 64, 0#64 * z = 0#64 := fun z => BitVec.zero_mul
  have e5 : (y &&& 4294967295#64) >>> 32 = 0#64 := by
    apply BitVec.eq_of_toNat_eq
    rw [BitVec.toNat_ushiftRight, BitVec.toNat_and, Nat.shiftRight_eq_div_pow]
    have := Nat.and_lt_two_pow y.toNat (show (4294967295#64).toNat < 2 ^ 32 by decide)
    rw [Nat.div_eq_of_lt this]; rfl
  have e6 : (y >>> 32) >>> 32 = 0#64 := by
    apply BitVec.eq_of_toNat_eq
    rw [BitVec.toNat_ushiftRight, BitVec.toNat_ushiftRight, Nat.shiftRight_eq_div_pow, Nat.shiftRight_eq_div_pow]
    have := y.isLt
    show y.toNat / 4294967296 / 4294967296 = 0
    omega
  have e7 : (0#64 : BitVec 64) >>> 32 = 0#64 := by decide
  have e8 : (0#64 : BitVec 64) &&& 4294967295#64 = 0#64 := by decide
  have e9 : ∀ z : BitVec 64, 0#64 + z = z := fun z => BitVec.zero_add z
  rw [e1, e2, e4, e4, e3, e3, e5, e9, e9, e7, e8, e9, e9, e6]
def qL (E : List (List Nat)) (c : Nat) : List Int := (E.drop c).map fun w => ((w.getLastD 0 : Nat) : Int)
def Bfh (n : Nat) (p : Nat → Nat → Bool) (i j : Int) (bs td : List Int) : Prop := ∃ E c, Bfs n p i.toNat j.toNat bs E c 0 ∧ td = qL E c
def Bfq (n : Nat) (p : Nat → Nat → Bool) (i j : Int) (bs td : List Int) (x : Int) (q : Nat) : Prop :=
  ∃ E c u a, Bfs n p i.toNat j.toNat bs E c q ∧ E[c]? = some u ∧ lastI u a ∧ x = ((a : Nat) : Int) ∧ td = qL E (c + 1)
section
variable {n : Nat} {p : Nat → Nat → Bool} {i j : Int} {bs td : List Int} {x k v : Int} {q : Nat}
theorem qL_at {E : List (List Nat)} {c : Nat} (h : (qL E c)[0]? = some x) : ∃ u, E[c]? = some u ∧ x = ((u.getLastD 0 : Nat) : Int) := by
  unfold qL at h
  rw [List.getElem?_map, List.getElem?_drop, Nat.add_zero, Option.map_eq_some_iff] at h
  obtain ⟨u, h1, h2⟩ := h
  exact ⟨u, h1, h2.symm⟩
theorem lastI_D {w : List Nat} {a : Nat} (h : lastI w a) : w.getLastD 0 = a := by
  unfold lastI at h
  rw [List.getLastD_eq_getLast?, h]; rfl
theorem bfs_last {c t : Nat} {E : List (List Nat)} {u : List Nat} {i j : Nat} (hi : i < n) (h : Bfs n p i j bs E c t) (hu : u ∈ E) : ∃ a, lastI u a ∧ a < n := by
  obtain ⟨L, b, hw⟩ := (h.tr u hu).wk
  exact ⟨b, lastI_wlk hw, wlk_mem hw hi b (List.mem_of_getElem? (wlk_last hw))⟩
theorem bfh_start (h0 : 0 ≤ i) (h1 : i.toNat < n) : Bfh n p i j (List.replicate n (-1)) [i] := ⟨[[i.toNat]], 0, bfs_start h1, by simp [qL, Int.toNat_of_nonneg h0]⟩
theorem bfh_at (hi : i.toNat < n) (h : Bfh n p i j bs td) (hx : td[0]? = some x) : 0 ≤ x ∧ x.toNat < n := by
  obtain ⟨E, c, hb, rfl⟩ := h
  obtain ⟨u, hu, rfl⟩ := qL_at hx
  obtain ⟨a, ha, han⟩ := bfs_last hi hb (List.mem_of_getElem? hu)
  rw [lastI_D ha]
  exact ⟨by omega, by omega⟩
theorem bfh_pop (hi : i.toNat < n) (h : Bfh n p i j bs td) (hx : td[0]? = some x) : Bfq n p i j bs (td.drop 1) x 0 := by
  obtain ⟨E, c, hb, rfl⟩ := h
  obtain ⟨u, hu, rfl⟩ := qL_at hx
  obtain ⟨a, ha, han⟩ := bfs_last hi hb (List.mem_of_getElem? hu)
  exact ⟨E, c, u, a, hb, hu, ha, by rw [lastI_D ha], by unfold qL; rw [← List.map_drop, List.drop_drop]⟩
theorem lst_suc {x : Int} (hk : (lst n (p x.toNat))[q]? = some k) : (sucP n p x.toNat)[q]? = some k.toNat ∧ 0 ≤ k ∧ k.toNat < n := by
  unfold lst natL at hk
  rw [List.getElem?_map, Option.map_eq_some_iff] at hk
  obtain ⟨m, h1, rfl⟩ := hk
  refine ⟨by simpa [sucP] using h1, by omega, ?_⟩
  have := (mem_suc.1 (show m ∈ sucP n p x.toNat from List.mem_of_getElem? h1)).1
  omega
theorem bfq_skip (h : Bfq n p i j bs td x q) (hk : (lst n (p x.toNat))[q]? = some k) (hv : bs[k.toNat]? = some v) (hv1 : ¬ v = -1) : Bfq n p i j bs td x (q + 1) := by
  obtain ⟨E, c, u, a, hb, hu, ha, rfl, ht⟩ := h
  obtain ⟨h1, h2, h3⟩ := lst_suc hk
  rw [Int.toNat_natCast] at h1
  exact ⟨E, c, u, a, bfs_skip hb hu ha h1 hv hv1, hu, ha, rfl, ht⟩
theorem bfq_i (h : Bfq n p i j bs td x q) (hk : (lst n (p x.toNat))[q]? = some k) (hv : bs[k.toNat]? = some v) (hv1 : v = -1) (hkj : ¬ k = j) (hki : k = i) (hj : 0 ≤ j) : Bfq n p i j (bs.set k.toNat x) td x (q + 1) := by
  obtain ⟨E, c, u, a, hb, hu, ha, rfl, ht⟩ := h
  obtain ⟨h1, h2, h3⟩ := lst_suc hk
  rw [Int.toNat_natCast] at h1
  subst hki; subst hv1
  exact ⟨E, c, u, a, bfs_i hb (by omega) hu ha h1 hv, hu, ha, rfl, ht⟩
theorem bfq_push (h : Bfq n p i j bs td x q) (hk : (lst n (p x.toNat))[q]? = some k) (hv : bs[k.toNat]? = some v) (hv1 : v = -1) (hkj : ¬ k = j) (hki : ¬ k = i) (hj : 0 ≤ j) (hi : 0 ≤ i) : Bfq n p i j (bs.set k.toNat x) (td ++ [k]) x (q + 1) := by
  obtain ⟨E, c, u, a, hb, hu, ha, rfl, ht⟩ := h
  obtain ⟨h1, h2, h3⟩ := lst_suc hk
  rw [Int.toNat_natCast] at h1
  subst hv1
  have hcl := (List.getElem?_eq_some_iff.1 hu).1
  refine ⟨E ++ [u ++ [k.toNat]], c, u, a, bfs_push hb hu ha h1 hv (by omega) (by omega), by rw [List.getElem?_append_left hcl]; exact hu, ha, rfl, ?_⟩
  unfold qL at ht ⊢
  rw [List.drop_append_of_le_length (by omega), List.map_append, ← ht]
  simp only [List.map_cons, List.map_nil, List.getLastD_concat]
  rw [Int.toNat_of_nonneg h2]
theorem bfq_next (h : Bfq n p i j bs td x q) (hq : (lst n (p x.toNat)).length ≤ q) : Bfh n p i j bs td := by
  obtain ⟨E, c, u, a, hb, hu, ha, rfl, ht⟩ := h
  refine ⟨E, c + 1, bfs_next hb hu ha ?_, ht⟩
  rw [Int.toNat_natCast] at hq
  unfold lst natL at hq
  rw [List.length_map] at hq
  exact hq
theorem bfh_end (h : Bfh n p i j bs td) (ht : td = []) : bfP n p i.toNat j.toNat = none := by
  obtain ⟨E, c, hb, rfl⟩ := h
  unfold qL at ht
  rw [List.map_eq_nil_iff, List.drop_eq_nil_iff] at ht
  have hc : c = E.length := Nat.le_antisymm hb.cle ht
  subst hc
  exact bfs_none hb
theorem natL_at {w : List Nat} {t : Nat} : (natL w)[t]? = some x ↔ ∃ m, w[t]? = some m ∧ x = ((m : Nat) : Int) := by
  unfold natL
  rw [List.getElem?_map, Option.map_eq_some_iff]
  exact ⟨fun ⟨m, h1, h2⟩ => ⟨m, h1, h2.symm⟩, fun ⟨m, h1, h2⟩ => ⟨m, h1, h2.symm⟩⟩
theorem bfq_found (hi : 0 ≤ i ∧ i.toNat < n) (h : Bfq n p i j bs td x q) (hk : (lst n (p x.toNat))[q]? = some k) (hv : bs[k.toNat]? = some v) (hv1 : v = -1) (hkj : k = j) (hj : 0 ≤ j) :
    ∃ w, Bk (bs.set k.toNat x) i j (natL w) ∧ bfP n p i.toNat j.toNat = some w := by
  obtain ⟨E, c, u, a, hb, hu, ha, rfl, ht⟩ := h
  obtain ⟨h1, h2, h3⟩ := lst_suc hk
  rw [Int.toNat_natCast] at h1
  subst hv1; subst hkj
  have hB := bfs_found hb hu ha h1
  refine ⟨u ++ [k.toNat], ?_, best_bfP hB hi.2⟩
  have hT := hb.tr u (List.mem_of_getElem? hu)
  obtain ⟨L, b, hw⟩ := hT.wk
  obtain rfl := lastI_inj ha (lastI_wlk hw)
  have hT2 := tr_set (x := ((a : Nat) : Int)) hT hv
  have hlen := wlk_len hw
  have hkl := (List.getElem?_eq_some_iff.1 hv).1
  have hnl : (natL (u ++ [k.toNat])).length = L + 2 := by unfold natL; simp [hlen]
  refine ⟨?_, ?_, by omega, ?_, ?_, ?_⟩
  · rw [natL_at]
    exact ⟨i.toNat, by rw [List.getElem?_append_left (by omega)]; exact wlk_head hw, (Int.toNat_of_nonneg hi.1).symm⟩
  · rw [hnl, natL_at]
    exact ⟨k.toNat, by rw [List.getElem?_append_right (by omega), show L + 2 - 1 - u.length = 0 from by omega]; rfl, (Int.toNat_of_nonneg h2).symm⟩
  · intro t y z hy hz
    obtain ⟨m, hm, rfl⟩ := natL_at.1 hy
    obtain ⟨r, hr, rfl⟩ := natL_at.1 hz
    rw [Int.toNat_natCast]
    have hs : t + 1 < (u ++ [k.toNat]).length := (List.getElem?_eq_some_iff.1 hr).1
    rw [List.length_append, List.length_singleton] at hs
    rw [List.getElem?_append_left (by omega)] at hm
    by_cases hs2 : t + 1 < u.length
    · rw [List.getElem?_append_left hs2] at hr
      exact hT2.by_ t m r hm hr
    · rw [List.getElem?_append_right (by omega), show t + 1 - u.length = 0 from by omega] at hr
      simp only [List.getElem?_cons_zero, Option.some.injEq] at hr; subst hr
      rw [show t = L from by omega, wlk_last hw] at hm
      cases hm
      rw [List.getElem?_set_self hkl]
  · intro t ht1 ht2 hc
    rw [hnl] at ht2
    obtain ⟨m, hm, e⟩ := natL_at.1 hc
    rw [List.getElem?_append_left (by omega)] at hm
    exact hT.ne t m ht1 hm (by omega)
  · intro z hz
    obtain ⟨t, ht⟩ := List.mem_iff_getElem?.1 hz
    obtain ⟨m, hm, rfl⟩ := natL_at.1 ht
    obtain ⟨L2, hw2⟩ := hB.1
    have := wlk_mem hw2 hi.2 m (List.mem_of_getElem? hm)
    rw [List.length_set, hb.len]
    omega
theorem neg_count {k : Nat} (hv : bs[k]? = some v) (hv1 : v = -1) (hx : 0 ≤ x) : (bs.set k x).count (-1) + 1 = bs.count (-1) := by
  subst hv1
  obtain ⟨h1, h2⟩ := List.getElem?_eq_some_iff.1 hv
  have hpos : 0 < bs.count (-1) := List.count_pos_iff.2 (List.mem_of_getElem? hv)
  rw [List.count_set h1, h2]
  have hne : (x == (-1 : Int)) = false := by rw [beq_eq_false_iff_ne]; omega
  rw [hne]
  simp
  omega
end
theorem row_lst {n : Int} {rs : Rows} (h : rightS n rs = true) {x : Nat} {r : Row} (hx : rs[x]? = some r) : listR r = lst n.toNat (relM rs x) := by rw [right_rowP h hx, listR_lst]
theorem neg_countI {bs td : List Int} {k v x : Int} {z : Nat} (hv : bs[k.toNat]? = some v) (hv1 : v = -1) (hx : 0 ≤ x) (hz : bs.count (-1) + td.length ≤ z) : (bs.set k.toNat x).count (-1) + td.length ≤ z ∧ (bs.set k.toNat x).count (-1) + (td ++ [k]).length ≤ z := by
  have h := neg_count hv hv1 hx
  exact ⟨by omega, by rw [List.length_append, List.length_singleton]; omega⟩
def pathM (n : Int) (rs : Rows) (i j : Int) : Option (List Int) := if 0 ≤ i ∧ i < n ∧ 0 ≤ j ∧ j < n then (bfP n.toNat (relM rs) i.toNat j.toNat).map natL else none
theorem path_no {n : Int} {rs : Rows} {i j : Int} (h : i < 0 ∨ n ≤ i ∨ j < 0 ∨ n ≤ j) : pathM n rs i j = none := by unfold pathM; rw [if_neg (by omega)]
theorem path_in {n : Int} {rs : Rows} {i j : Int} (h : 0 ≤ i ∧ i < n ∧ 0 ≤ j ∧ j < n) : pathM n rs i j = (bfP n.toNat (relM rs) i.toNat j.toNat).map natL := by unfold pathM; rw [if_pos h]
end Go.Ew
namespace Go.Ew
set_option linter.unusedVariables false
set_option linter.unusedSimpArgs false
set_option linter.unusedSectionVars false
section
variable {n : Nat} {p : Nat → Nat → Bool} {j k s t q i : Nat} {d : List Int} {x y : Int}
variable {a : Nat} {b : Int}
variable {out : List Int} {at_ : Int}
end
def isM (n : Int) (rs : Rows) (l : List Int) : Bool := decide (2 ≤ l.length) && (List.range (l.length - 1)).all fun k => hasM n rs (l.getD k 0) (l.getD (k + 1) 0)
def isTo (n : Int) (rs : Rows) (l : List Int) (q : Nat) : Prop := ∀ k, k < q → hasM n rs (l.getD k 0) (l.getD (k + 1) 0) = true
section
variable {n : Int} {rs : Rows} {l : List Int} {q : Nat} {x y : Int}
theorem getI_at {l : List Int} {k : Nat} (h : l[k]? = some x) : l.getD k 0 = x := by rw [List.getD_eq_getElem?_getD, h]; rfl
theorem is_zero : isTo n rs l 0 := fun k hk => by omega
theorem is_step {a b : Nat} (h : isTo n rs l q) (hx : l[a]? = some x) (hy : l[b]? = some y) (ha : a = q) (hb0 : b = q + 1) (hb : hasM n rs x y = true) : isTo n rs l (q + 1) := by
  subst ha; subst hb0
  intro k hk
  rcases Nat.lt_succ_iff_lt_or_eq.1 hk with hk | rfl
  · exact h k hk
  · rw [getI_at hx, getI_at hy]; exact hb
theorem is_end (h : isTo n rs l q) (hq : l.length ≤ q + 1) : isM n rs l = decide (2 ≤ l.length) := by
  unfold isM
  rw [List.all_eq_true.2 fun k hk => h k (by have := List.mem_range.1 hk; omega), Bool.and_true]
theorem is_no {a b : Nat} (hx : l[a]? = some x) (hy : l[b]? = some y) (ha : a = q) (hb0 : b = q + 1) (hb : hasM n rs x y = false) : isM n rs l = false := by
  subst ha; subst hb0
  have hl := (List.getElem?_eq_some_iff.1 hy).1
  unfold isM
  rw [show ((List.range (l.length - 1)).all fun k => hasM n rs (l.getD k 0) (l.getD (k + 1) 0)) = false from by
    rw [List.all_eq_false]
    exact ⟨a, List.mem_range.2 (by omega), by rw [getI_at hx, getI_at hy, hb]; decide⟩, Bool.and_false]
end
def roundM (n : Int) (rs : Rows) : Option (List Int) := fo (fun i => pathM n rs ((i : Nat) : Int) ((i : Nat) : Int)) n.toNat
theorem round_hit {n : Int} {rs : Rows} {q : Nat} (hq : q < n.toNat) (h : (pathM n rs ((q : Nat) : Int) ((q : Nat) : Int)).isSome = true) (hs : ∀ k, k < q → pathM n rs ((k : Nat) : Int) ((k : Nat) : Int) = none) : roundM n rs = pathM n rs ((q : Nat) : Int) ((q : Nat) : Int) := by
  obtain ⟨l, hl⟩ := Option.isSome_iff_exists.1 h
  rw [hl]
  exact fo_is hq hl hs
theorem round_miss {n : Int} {rs : Rows} {q : Nat} (hq : n.toNat ≤ q) (hs : ∀ k, k < q → pathM n rs ((k : Nat) : Int) ((k : Nat) : Int) = none) : roundM n rs = none := fo_no fun k hk => hs k (by omega)
theorem round_step {n : Int} {rs : Rows} {q : Nat} (h : (pathM n rs ((q : Nat) : Int) ((q : Nat) : Int)).isSome = false) (hs : ∀ k, k < q → pathM n rs ((k : Nat) : Int) ((k : Nat) : Int) = none) : ∀ k, k < q + 1 → pathM n rs ((k : Nat) : Int) ((k : Nat) : Int) = none := by
  intro k hk
  rcases Nat.lt_succ_iff_lt_or_eq.1 hk with hk | rfl
  · exact hs k hk
  · cases hp : pathM n rs ((k : Nat) : Int) ((k : Nat) : Int) with
    | none => rfl
    | some l => rw [hp] at h; cases h
end Go.Ew
namespace Go.Ew
set_option linter.unusedVariables false
set_option linter.unusedSimpArgs false
set_option linter.unusedSectionVars false
section
variable {n : Int} {rs : Rows} (h : rightS n rs = true)
include h
end
end Go.Ew
namespace Go.Ew
set_option linter.unusedVariables false
set_option linter.unusedSimpArgs false
set_option linter.unusedSectionVars false
section
variable {n : Int} {rs : Rows} {a b c x y : Int} (h : rightS n rs = true) (ha : 0 ≤ a ∧ a < n) (hb : 0 ≤ b ∧ b < n)
include h ha hb
theorem path_best (hs : (pathM n rs a b).isSome = true) : ∃ w, (pathM n rs a b).getD [] = natL w ∧ Best n.toNat (relM rs) a.toNat b.toNat w ∧ a.toNat < n.toNat := by
  rw [path_in ⟨ha.1, ha.2, hb.1, hb.2⟩] at hs ⊢
  cases hf : bfP n.toNat (relM rs) a.toNat b.toNat with
  | none => rw [hf] at hs; cases hs
  | some w => exact ⟨w, rfl, bfP_best hf, by omega⟩
theorem path_is {L : Nat} {w : List Nat} (hw : wlk n.toNat (relM rs) (L + 1) a.toNat b.toNat w) : (pathM n rs a b).isSome = true := by
  rw [path_in ⟨ha.1, ha.2, hb.1, hb.2⟩]
  obtain ⟨v, hv⟩ := best_is hw
  rw [best_bfP hv (by omega)]; rfl
theorem path_nil (hs : (pathM n rs a b).isSome = false) : (pathM n rs a b).getD [] = [] := by
  cases hp : pathM n rs a b with
  | none => rfl
  | some l => rw [hp] at hs; cases hs
theorem path_len (hs : (pathM n rs a b).isSome = true) : 2 ≤ ((pathM n rs a b).getD []).length ∧ (((pathM n rs a b).getD []).length : Int) ≤ n + 1 := by
  obtain ⟨w, e, hB, han⟩ := path_best h ha hb hs
  have h2 := best_len hB han
  obtain ⟨L, hL⟩ := hB.1
  have h1 := wlk_len hL
  rw [e]; unfold natL; rw [List.length_map]
  omega
theorem path_le : (((pathM n rs a b).getD []).length : Int) ≤ n + 1 := by
  cases hs : (pathM n rs a b).isSome with
  | true => exact (path_len h ha hb hs).2
  | false => rw [path_nil h ha hb hs]; simp; omega
theorem path_one (hh : hasM n rs a b = true) : (pathM n rs a b).isSome = true ∧ ((pathM n rs a b).getD []).length = 2 := by
  rw [has_relI h ha hb] at hh
  have hw : wlk n.toNat (relM rs) (0 + 1) a.toNat b.toNat [a.toNat, b.toNat] := ⟨b.toNat, [b.toNat], by omega, hh, ⟨rfl, rfl⟩, rfl⟩
  have hs := path_is h ha hb hw
  refine ⟨hs, ?_⟩
  have h2 := (path_len h ha hb hs).1
  obtain ⟨w, e, hB, _⟩ := path_best h ha hb hs
  have h3 := sle_len (hB.2 _ _ hw)
  rw [e] at h2 ⊢
  unfold natL at h2 ⊢
  rw [List.length_map] at h2 ⊢
  simp only [List.length_cons, List.length_nil] at h3
  omega
theorem path_join (hc : 0 ≤ c ∧ c < n) (hq : (pathM n rs a c).isSome = true) (hr : (pathM n rs c b).isSome = true) :
    (pathM n rs a b).isSome = true ∧ ((pathM n rs a b).getD []).length + 1 ≤ ((pathM n rs a c).getD []).length + ((pathM n rs c b).getD []).length := by
  obtain ⟨u, e1, hU, _⟩ := path_best h ha hc hq
  obtain ⟨v, e2, hV, _⟩ := path_best h hc hb hr
  obtain ⟨L, hL⟩ := hU.1
  obtain ⟨M, hM⟩ := hV.1
  obtain ⟨w, hw⟩ := wlk_join hL hM
  rw [show L + 1 + (M + 1) = (L + M + 1) + 1 from by omega] at hw
  have hs := path_is h ha hb hw
  refine ⟨hs, ?_⟩
  obtain ⟨z, e3, hZ, _⟩ := path_best h ha hb hs
  have h3 := sle_len (hZ.2 _ _ hw)
  have l1 := wlk_len hL; have l2 := wlk_len hM; have l3 := wlk_len hw
  rw [e1, e2, e3]; unfold natL; rw [List.length_map, List.length_map, List.length_map]
  omega
end
end Go.Ew
namespace Go.Ew
set_option linter.unusedVariables false
set_option linter.unusedSimpArgs false
set_option linter.unusedSectionVars false
def revTo {α : Type} (xs : List α) (q : Nat) : List α := xs.mapIdx fun i x => if i < q ∨ xs.length - q ≤ i then (xs[xs.length - 1 - i]?).getD x else x
theorem revTo_len {α : Type} (xs : List α) (q : Nat) : (revTo xs q).length = xs.length := by unfold revTo; simp
theorem revTo_at {α : Type} (xs : List α) (q i : Nat) (hi : i < xs.length) : (revTo xs q)[i]? = if i < q ∨ xs.length - q ≤ i then xs[xs.length - 1 - i]? else xs[i]? := by
  unfold revTo
  rw [List.getElem?_mapIdx, List.getElem?_eq_getElem hi]
  simp only [Option.map_some]
  split
  · rw [List.getElem?_eq_getElem (by omega)]; rfl
  · rfl
theorem revTo_zero {α : Type} (xs : List α) : xs = revTo xs 0 := by
  apply List.ext_getElem?
  intro i
  by_cases hi : i < xs.length
  · rw [revTo_at xs 0 i hi, if_neg (by omega)]
  · rw [List.getElem?_eq_none (by omega), List.getElem?_eq_none (by rw [revTo_len]; omega)]
theorem revTo_step {α : Type} {xs ys : List α} {q : Nat} {x y : α} (hs : ys = revTo xs q) (h : q + q + 1 < xs.length) (hx : ys[xs.length - 1 - q]? = some x) (hy : ys[q]? = some y) : (ys.set q x).set (xs.length - 1 - q) y = revTo xs (q + 1) := by
  subst hs
  rw [revTo_at _ _ _ (by omega), if_neg (by omega)] at hx hy
  apply List.ext_getElem?
  intro i
  by_cases hi : i < xs.length
  · rw [revTo_at xs (q + 1) i hi, List.getElem?_set, List.getElem?_set, List.length_set, revTo_len]
    by_cases e1 : xs.length - 1 - q = i
    · subst e1
      rw [if_pos rfl, if_pos (by omega), if_pos (by omega), show xs.length - 1 - (xs.length - 1 - q) = q from by omega, hy]
    · rw [if_neg e1]
      by_cases e2 : q = i
      · subst e2
        rw [if_pos rfl, if_pos (by omega), if_pos (by omega), hx]
      · rw [if_neg e2, revTo_at xs q i hi]
        by_cases e3 : i < q ∨ xs.length - q ≤ i
        · rw [if_pos e3, if_pos (by omega)]
        · rw [if_neg e3, if_neg (by omega)]
  · rw [List.getElem?_eq_none (by rw [List.length_set, List.length_set, revTo_len]; omega), List.getElem?_eq_none (by rw [revTo_len]; omega)]
theorem revTo_stepI {xs ys : List Int} {q : Nat} {x y : Int} {i : Int} (hs : ys = revTo xs q) (h : q + q + 1 < xs.length) (hx : ys[i.toNat]? = some x) (hi : i.toNat = xs.length - 1 - q := by omega) (hy : ys[((q : Nat) : Int).toNat]? = some y) : (ys.set ((q : Nat) : Int).toNat x).set i.toNat y = revTo xs (q + 1) := by
  rw [hi] at hx ⊢
  exact revTo_step hs h hx hy
theorem revTo_end {α : Type} {xs ys : List α} {q : Nat} (hs : ys = revTo xs q) (h : xs.length ≤ q + q + 1) : ys = xs.reverse := by
  subst hs
  apply List.ext_getElem?
  intro i
  by_cases hi : i < xs.length
  · rw [revTo_at xs q i hi, List.getElem?_reverse hi]
    by_cases e : i < q ∨ xs.length - q ≤ i
    · rw [if_pos e]
    · rw [if_neg e]; congr 1; omega
  · rw [List.getElem?_eq_none (by rw [revTo_len]; omega), List.getElem?_eq_none (by rw [List.length_reverse]; omega)]
end Go.Ew
namespace Go.Ew
open Go.RowKit Go.WideShapes Go.ChangeShapes
set_option linter.unusedVariables false
set_option linter.unusedSimpArgs false
structure Bulk (B : (H : Type) → DataW H → Nat) : Prop where
  lit : ∀ (H : Type) l, 1 ≤ B H (.lit l)
  str : ∀ (H : Type) bs, bs.length + 1 ≤ B H (.lit (.string bs))
  nil : ∀ (H : Type), 1 ≤ B H .nil
  slice : ∀ (H : Type) (es sp : List (DataW H)), (es.map (B H)).sum + 1 ≤ B H (.slice es sp)
  agg : ∀ (H : Type) (ps : List (DataW H)), (ps.map (B H)).sum ≤ B H (.agg ps)
class Wt (α : Type) where
  wt : α → Nat
instance wtInt : Wt Int := ⟨fun _ => 1⟩
instance wtBV : Wt (BitVec 64) := ⟨fun _ => 1⟩
instance wtB8 : Wt (BitVec 8) := ⟨fun _ => 1⟩
instance wtBool : Wt Bool := ⟨fun _ => 1⟩
instance wtStr : Wt ByteArray := ⟨fun s => s.size + 1⟩
instance wtList {α : Type} [Wt α] : Wt (List α) := ⟨fun l => (l.map Wt.wt).sum + 1⟩
instance wtProd {α β : Type} [Wt α] [Wt β] : Wt (α × β) := ⟨fun x => Wt.wt x.1 + Wt.wt x.2⟩
section
variable {P : Program} {t e : TypeId} {B : (H : Type) → DataW H → Nat}
section
variable {H : Type} {enc : TypeId × Value → H} {W : World} {base : Nat} {v : Value} {d : DataW H} {ps : List MemPlace}
end
end
end Go.Ew
