/- Engine, part R: structs and pairs held against each other; maps of the call's own whose keys are pairs of numbers. -/
import Derived.Test.YtefcbihikknlkaaDoorOwnA
import Derived.Laws.StructEq
import Derived.ChangeKeysEq
import Derived.MapKept
import Derived.Laws.BytesArg
import Derived.JoinedCond
namespace Go.Ew
open Go.RowKit
set_option linter.unusedVariables false
set_option linter.unusedSimpArgs false
theorem At.s1 {α β : Type} [GT α] [GT β] {M : Nat → Prop} {w : World} {ad : Addr} {x : α × β} (h : At M w ad x) : At M w (ad.add (GT.size α)) x.2 := h.snd
theorem At.s2 {α β γ : Type} [GT α] [GT β] [GT γ] {M : Nat → Prop} {w : World} {ad : Addr} {x : α × β × γ} (h : At M w ad x) : At M w (ad.add (GT.size α + GT.size β)) x.2.2 := by have h_ := h.s1.snd; rwa [add_add] at h_
theorem At.s3 {α β γ δ : Type} [GT α] [GT β] [GT γ] [GT δ] {M : Nat → Prop} {w : World} {ad : Addr} {x : α × β × γ × δ} (h : At M w ad x) : At M w (ad.add (GT.size α + GT.size β + GT.size γ)) x.2.2.2 := by have h_ := h.s2.snd; rwa [add_add] at h_
theorem At.s4 {α β γ δ ε : Type} [GT α] [GT β] [GT γ] [GT δ] [GT ε] {M : Nat → Prop} {w : World} {ad : Addr} {x : α × β × γ × δ × ε} (h : At M w ad x) : At M w (ad.add (GT.size α + GT.size β + GT.size γ + GT.size δ)) x.2.2.2.2 := by have h_ := h.s3.snd; rwa [add_add] at h_
theorem At.s5 {α β γ δ ε ζ : Type} [GT α] [GT β] [GT γ] [GT δ] [GT ε] [GT ζ] {M : Nat → Prop} {w : World} {ad : Addr} {x : α × β × γ × δ × ε × ζ} (h : At M w ad x) : At M w (ad.add (GT.size α + GT.size β + GT.size γ + GT.size δ + GT.size ε)) x.2.2.2.2.2 := by have h_ := h.s4.snd; rwa [add_add] at h_
theorem At.s6 {α β γ δ ε ζ η : Type} [GT α] [GT β] [GT γ] [GT δ] [GT ε] [GT ζ] [GT η] {M : Nat → Prop} {w : World} {ad : Addr} {x : α × β × γ × δ × ε × ζ × η} (h : At M w ad x) : At M w (ad.add (GT.size α + GT.size β + GT.size γ + GT.size δ + GT.size ε + GT.size ζ)) x.2.2.2.2.2.2 := by have h_ := h.s5.snd; rwa [add_add] at h_
theorem AtW.s1 {α β : Type} [GT α] [GT β] {M : Nat → Prop} {w : World} {ad : Addr} {x : α × β} (h : AtW M w ad x) : AtW M w (ad.add (GT.size α)) x.2 := h.snd
theorem AtW.s2 {α β γ : Type} [GT α] [GT β] [GT γ] {M : Nat → Prop} {w : World} {ad : Addr} {x : α × β × γ} (h : AtW M w ad x) : AtW M w (ad.add (GT.size α + GT.size β)) x.2.2 := by have h_ := h.s1.snd; rwa [add_add] at h_
theorem AtW.s3 {α β γ δ : Type} [GT α] [GT β] [GT γ] [GT δ] {M : Nat → Prop} {w : World} {ad : Addr} {x : α × β × γ × δ} (h : AtW M w ad x) : AtW M w (ad.add (GT.size α + GT.size β + GT.size γ)) x.2.2.2 := by have h_ := h.s2.snd; rwa [add_add] at h_
theorem AtW.s4 {α β γ δ ε : Type} [GT α] [GT β] [GT γ] [GT δ] [GT ε] {M : Nat → Prop} {w : World} {ad : Addr} {x : α × β × γ × δ × ε} (h : AtW M w ad x) : AtW M w (ad.add (GT.size α + GT.size β + GT.size γ + GT.size δ)) x.2.2.2.2 := by have h_ := h.s3.snd; rwa [add_add] at h_
theorem AtW.s5 {α β γ δ ε ζ : Type} [GT α] [GT β] [GT γ] [GT δ] [GT ε] [GT ζ] {M : Nat → Prop} {w : World} {ad : Addr} {x : α × β × γ × δ × ε × ζ} (h : AtW M w ad x) : AtW M w (ad.add (GT.size α + GT.size β + GT.size γ + GT.size δ + GT.size ε)) x.2.2.2.2.2 := by have h_ := h.s4.snd; rwa [add_add] at h_
theorem AtW.s6 {α β γ δ ε ζ η : Type} [GT α] [GT β] [GT γ] [GT δ] [GT ε] [GT ζ] [GT η] {M : Nat → Prop} {w : World} {ad : Addr} {x : α × β × γ × δ × ε × ζ × η} (h : AtW M w ad x) : AtW M w (ad.add (GT.size α + GT.size β + GT.size γ + GT.size δ + GT.size ε + GT.size ζ)) x.2.2.2.2.2.2 := by have h_ := h.s5.snd; rwa [add_add] at h_
section
variable {P : Program}
def Leaf (P : Program) (t : TypeId) (v u : Value) (r : Bool) : Prop := (∀ w, (isAgg t).run P w = .ok false w) ∧ ∀ d w, (Op.equalIn (d + 1) t v u).run P w = .ok r w
theorem noAgg {t : TypeId} {d : TypeDesc} (h : P.underlying t = some d) (hd : (match d with | .struct _ | .array _ _ => false | _ => true) = true) (w : World) : (isAgg t).run P w = .ok false w := by
  cases d <;> first | (cases hd; done) | simp [isAgg, underlying, h]
theorem leafI {t : TypeId} {k kk : IntKind} {a b : Int} (h : P.underlying t = some (.int k)) : Leaf P t (.int kk a) (.int kk b) (decide (a = b)) :=
  ⟨noAgg h rfl, fun d w => by rw [run_equalIn_int w d t kk k a b h]; congr 1⟩
theorem leafB {t : TypeId} {a b : Bool} (h : P.underlying t = some .bool) : Leaf P t (.bool a) (.bool b) (decide (a = b)) :=
  ⟨noAgg h rfl, fun d w => by rw [run_equalIn_bool' w d t a b h]; congr 1⟩
theorem leafS {t : TypeId} {a b : ByteArray} (h : P.underlying t = some .string) : Leaf P t (.string a) (.string b) (decide (a = b)) :=
  ⟨noAgg h rfl, fun d w => by
    have e : (a.toList == b.toList) = decide (a = b) := by
      rw [← beq_toListBytes, Bool.eq_iff_iff]
      rcases a with ⟨x⟩
      rcases b with ⟨y⟩
      show (x == y) = true ↔ _
      simp
    rw [run_equalIn_string w d t a b h, e]⟩
theorem part_leaf {t : TypeId} {cs : Array Value} {off : Nat} {v : Value} (h : ∀ w, (isAgg t).run P w = .ok false w) (hc : cs[off]? = some v) (w : World) : (part t cs off).run P w = .ok v w := by
  simp [part, h w, hc]
def leafKind (P : Program) (t : TypeId) : Option Nat := match P.underlying t with | some (.int _) => some 0 | some .bool => some 1 | some .string => some 2 | _ => none
def fldsK (P : Program) (T : TypeId) : List (Option (Nat × Nat)) := (P.fieldsOf T).toList.map fun f => if f.name = "_" then none else (leafKind P f.type).map fun k => (f.offset, k)
def KEq (xs ys : Array Value) : List (Option (Nat × Nat)) → List Bool → Prop
  | [], [] => True
  | some (o, 0) :: ks, r :: rs => (∃ kk a b, xs[o]? = some (.int kk a) ∧ ys[o]? = some (.int kk b) ∧ r = decide (a = b)) ∧ KEq xs ys ks rs
  | some (o, 1) :: ks, r :: rs => (∃ a b, xs[o]? = some (.bool a) ∧ ys[o]? = some (.bool b) ∧ r = decide (a = b)) ∧ KEq xs ys ks rs
  | some (o, 2) :: ks, r :: rs => (∃ a b, xs[o]? = some (.string a) ∧ ys[o]? = some (.string b) ∧ r = decide (a = b)) ∧ KEq xs ys ks rs
  | _, _ => False
theorem leafKind_0 {t : TypeId} (h : leafKind P t = some 0) : ∃ k, P.underlying t = some (.int k) := by
  unfold leafKind at h; split at h <;> simp_all
theorem leafKind_1 {t : TypeId} (h : leafKind P t = some 1) : P.underlying t = some .bool := by
  unfold leafKind at h; split at h <;> simp_all
theorem leafKind_2 {t : TypeId} (h : leafKind P t = some 2) : P.underlying t = some .string := by
  unfold leafKind at h; split at h <;> simp_all
theorem eqFlds {xs ys : Array Value} : ∀ {fs : List Field} {rs : List Bool} (d : Nat) (w : World), KEq xs ys (fs.map fun f => if f.name = "_" then none else (leafKind P f.type).map fun k => (f.offset, k)) rs → (Op.eqFields (d + 1) xs ys fs).run P w = .ok (rs.all id) w
  | [], [], d, w, _ => by simp [Op.eqFields]
  | [], _ :: _, d, w, h => by simp [KEq] at h
  | f :: fs, rs, d, w, h => by
    rw [List.map_cons] at h
    by_cases hn : f.name = "_"
    · rw [if_pos hn] at h; cases rs <;> simp [KEq] at h
    · rw [if_neg hn] at h
      have key : ∀ (a b : Value) (r : Bool) (rs' : List Bool), Leaf P f.type a b r → xs[f.offset]? = some a → ys[f.offset]? = some b →
          KEq xs ys (fs.map fun f => if f.name = "_" then none else (leafKind P f.type).map fun k => (f.offset, k)) rs' → (Op.eqFields (d + 1) xs ys (f :: fs)).run P w = .ok ((r :: rs').all id) w := by
        intro a b r rs' hl ha hb ht
        have ih := eqFlds d w ht
        simp only [Op.eqFields, ne_eq, hn, not_false_eq_true, if_true, Sem.run_bind, part_leaf hl.1 ha w, part_leaf hl.1 hb w, hl.2 d w, Result.andThen_ok]
        cases r
        · simp
        · simp [ih]
      cases hk : leafKind P f.type with
      | none => rw [hk] at h; cases rs <;> simp [KEq] at h
      | some k =>
        rw [hk, Option.map_some] at h
        cases rs with
        | nil => simp [KEq] at h
        | cons r rs' =>
          match k, hk, h with
          | 0, hk, ⟨⟨kk, a, b, ha, hb, hr⟩, ht⟩ =>
            obtain ⟨q, hq⟩ := leafKind_0 hk
            rw [hr]; exact key _ _ _ _ (leafI hq) ha hb ht
          | 1, hk, ⟨⟨a, b, ha, hb, hr⟩, ht⟩ => rw [hr]; exact key _ _ _ _ (leafB (leafKind_1 hk)) ha hb ht
          | 2, hk, ⟨⟨a, b, ha, hb, hr⟩, ht⟩ => rw [hr]; exact key _ _ _ _ (leafS (leafKind_2 hk)) ha hb ht
          | (n + 3), hk, h => simp [KEq] at h
structure StF (P : Program) (T : TypeId) (ks : List (Option (Nat × Nat))) : Prop where
  u : P.underlying T = some (.struct (P.fieldsOf T))
  s : P.stoodInHeld T = false
  g : P.eqGuardType P.depth T = false
  k : fldsK P T = ks
theorem StF.eq {T : TypeId} {ks : List (Option (Nat × Nat))} (F : StF P T ks) {xs ys : Array Value} {rs : List Bool} (h : KEq xs ys ks rs) (d : Nat) (w : World) : (Op.equalIn (d + 2) T (.agg xs) (.agg ys)).run P w = .ok (rs.all id) w := by
  rw [run_equalIn_agg w (d + 1) T xs ys F.u F.s]
  exact eqFlds d w (by rw [← F.k] at h; exact h)
structure ArF (P : Program) (T : TypeId) : Prop where
  h : ∃ e k i, P.underlying T = some (.array 2 e) ∧ P.underlying e = some (.int k) ∧ P.info? e = some i ∧ P.cellsOf e = 1
  g : P.eqGuardType P.depth T = false
theorem ArF.eq {T : TypeId} (F : ArF P T) {k1 k2 : IntKind} {a b c d : Int} (m : Nat) (w : World) : (Op.equalIn (m + 2) T (.agg #[.int k1 a, .int k2 b]) (.agg #[.int k1 c, .int k2 d])).run P w = .ok (decide (a = c) && decide (b = d)) w := by
  obtain ⟨e, k, i, h1, h2, h3, h4⟩ := F.h
  have l1 : Leaf P e (.int k1 a) (.int k1 c) (decide (a = c)) := leafI h2
  have l2 : Leaf P e (.int k2 b) (.int k2 d) (decide (b = d)) := leafI h2
  have p1 : (part e #[.int k1 a, .int k2 b] 0).run P w = .ok (.int k1 a) w := part_leaf l1.1 rfl w
  have p2 : (part e #[.int k1 c, .int k2 d] 0).run P w = .ok (.int k1 c) w := part_leaf l1.1 rfl w
  have p3 : (part e #[.int k1 a, .int k2 b] 1).run P w = .ok (.int k2 b) w := part_leaf l1.1 rfl w
  have p4 : (part e #[.int k1 c, .int k2 d] 1).run P w = .ok (.int k2 d) w := part_leaf l1.1 rfl w
  rw [run_equalIn_array w (m + 1) _ _ h1 h3, h4, show List.range 2 = [0, 1] from rfl]
  simp only [Op.eqItems, Sem.run_bind, Sem.run_ite, Sem.run_pure, Nat.mul_one, p1, p2, p3, p4, l1.2 m w, l2.2 m w, Result.andThen_ok]
  by_cases e1 : a = c <;> by_cases e2 : b = d <;> simp [e1, e2]
section
variable {n : Nat} {ops : Array Oper} {f : Slots} {w : World} {K : Slots → World → Prop} {x y c : Operand} {d : Nat} {ty T T2 : TypeId} {ps : String} {af : Array Edge}
end
abbrev K2 (p : Int × Int) : Value := .agg #[.int .i64 p.1, .int .i64 p.2]
abbrev KV := List ((Int × Int) × Int)
structure Key2 (P : Program) (kt : TypeId) : Prop where
  u : ∃ d, P.underlying kt = some d
  eq : ∀ a b w, (Op.equal kt (K2 a) (K2 b)).run P w = .ok (decide (a = b)) w
  chk : ∀ e a w, (Instr.checkKey e 10000 kt (K2 a)).run P w = .ok () w
structure MapF (P : Program) (T : TypeId) : Prop where
  h : ∃ kt et, P.underlying T = some (.map kt et) ∧ Key2 P kt ∧ ∀ w, (zeroValue et).run P w = .ok (.int .i64 0) w
section
variable {n : Nat} {ops : Array Oper} {f : Slots} {w : World} {K : Slots → World → Prop} {x y c : Operand} {d : Nat} {ty T T2 : TypeId} {ps : String} {af : Array Edge} {M0 : Nat → Prop} {w0 : World} {l : List Item} {m : KV} {b : Nat}
end
end
end Go.Ew
namespace Go.Ew
set_option linter.unusedVariables false
set_option linter.unusedSimpArgs false
end Go.Ew
namespace Go.Ew
set_option linter.unusedVariables false
set_option linter.unusedSimpArgs false
abbrev OpL := Bool × ByteArray × Int
abbrev ItemL := Int × Int × Bool × Int × Int
abbrev HistL := List (List OpL)
def okC (c : UInt8) : Bool := !(decide (((c.toNat : Nat) : Int) < 97)) && !(decide ((122 : Int) < ((c.toNat : Nat) : Int)))
def nameS (s : ByteArray) : Bool := s.data.toList.all okC && decide (1 ≤ s.size) && decide (s.size ≤ 8)
theorem byte_at {s : ByteArray} {j : Nat} {c : UInt8} (h : s[((j : Nat) : Int).toNat]? = some c) : s.data.toList[((j : Nat) : Int).toNat]? = some c := by
  rw [Int.toNat_natCast] at h ⊢
  rw [Array.getElem?_toList]
  have hj : j < s.size := by
    refine Classical.byContradiction fun hn => ?_
    rw [getElem?_neg s j hn] at h; cases h
  rw [getElem?_pos s j hj] at h
  rw [Array.getElem?_eq_getElem hj]
  exact h
theorem name_no {s : ByteArray} {j : Nat} {c : UInt8} (h : s[((j : Nat) : Int).toNat]? = some c) (h1 : okC c = false) : false = nameS s := by
  unfold nameS; rw [all_no (byte_at h) h1]; rfl
theorem name_end {s : ByteArray} {j : Nat} (h : (s.data.toList.take j).all okC = true) (hj : s.size ≤ j) : s.data.toList.all okC = true := by
  rwa [List.take_of_length_le (by rw [Array.length_toList]; exact hj)] at h
theorem okC_lo {c : UInt8} (h : decide (((c.toNat : Nat) : Int) < 97) = true) : okC c = false := by unfold okC; rw [h]; rfl
theorem okC_hi {c : UInt8} (h : decide ((122 : Int) < ((c.toNat : Nat) : Int)) = true) : okC c = false := by unfold okC; rw [h]; simp
theorem okC_yes {c : UInt8} (h : decide (((c.toNat : Nat) : Int) < 97) = false) (h1 : decide ((122 : Int) < ((c.toNat : Nat) : Int)) = false) : okC c = true := by unfold okC; rw [h, h1]; rfl
theorem flat_step {α : Type} {h : List (List α)} {j : Nat} {x : List α} (hx : h[((j : Nat) : Int).toNat]? = some x) : (h.take (j + 1)).flatten = (h.take j).flatten ++ x := by
  rw [take_at hx]; simp
theorem flat_len {α : Type} {h : List (List α)} {j : Nat} {x : List α} (hx : h[((j : Nat) : Int).toNat]? = some x) : ((h.take j).flatten).length + x.length ≤ h.flatten.length := by
  have h1 : h.flatten = (h.take (j + 1)).flatten ++ (h.drop (j + 1)).flatten := by rw [← List.flatten_append, List.take_append_drop]
  rw [h1, flat_step hx]; simp
def opName (o : OpL) : Bool := nameS o.2.1
def rightH (h : HistL) : Bool := h.flatten.all opName && decide (h.flatten.length ≤ 4096)
theorem right_no {h : HistL} {i : Nat} {x : OpL} (hx : h.flatten[i]? = some x) (h1 : nameS x.2.1 = false) : false = rightH h := by
  unfold rightH; rw [all_no hx h1]; rfl
theorem right_end {h : HistL} {j : Nat} (hs : (h.flatten.take j).all opName = true) (hj : h.flatten.length ≤ j) : decide ((h.flatten.length : Int) ≤ 4096) = rightH h := by
  unfold rightH; rw [take_end hj] at hs; rw [hs, Bool.true_and, decide_eq_decide]; omega
def opShort (o : OpL) : Bool := decide (o.2.1.size ≤ 20)
def smallH (h : HistL) (m : Int) : Bool := decide ((h.length : Int) ≤ m) && decide ((h.flatten.length : Int) ≤ m) && h.flatten.all opShort
theorem small_iff {h : HistL} {m : Int} : smallH h m = true ↔ (h.length : Int) ≤ m ∧ (h.flatten.length : Int) ≤ m ∧ ∀ o ∈ h.flatten, o.2.1.size ≤ 20 := by
  unfold smallH
  rw [Bool.and_eq_true, Bool.and_eq_true, decide_eq_true_eq, decide_eq_true_eq, List.all_eq_true, and_assoc]
  unfold opShort
  simp only [decide_eq_true_eq]
theorem small_no1 {h : HistL} {m : Int} (hm : m < (h.length : Int)) : false = smallH h m := by unfold smallH; rw [decide_eq_false (by omega)]; rfl
theorem small_no2 {h : HistL} {m : Int} (hm : m < (h.flatten.length : Int)) : false = smallH h m := by unfold smallH; rw [show decide ((h.flatten.length : Int) ≤ m) = false from decide_eq_false (by omega)]; simp
theorem small_no3 {h : HistL} {m : Int} {i : Nat} {x : OpL} (hx : h.flatten[i]? = some x) (h1 : 20 < (x.2.1.size : Int)) : false = smallH h m := by
  unfold smallH; rw [all_no hx (show opShort x = false from decide_eq_false (by omega))]; simp
theorem small_end {h : HistL} {m : Int} {j : Nat} (h1 : ¬ m < (h.length : Int)) (h2 : ¬ m < (h.flatten.length : Int)) (hs : (h.flatten.take j).all opShort = true) (hj : h.flatten.length ≤ j) : true = smallH h m := by
  unfold smallH; rw [take_end hj] at hs; rw [hs, decide_eq_true (by omega), decide_eq_true (by omega)]; rfl
def isS (s : ByteArray) (t : ByteArray) : Bool := decide (t = s)
def findS (l : List ByteArray) (s : ByteArray) : Int := idxF (isS s) l
def addV (vs : List ByteArray) (s : ByteArray) : List ByteArray := if findS vs s < 0 then vs ++ [s] else vs
def numV (vs : List ByteArray) (s : ByteArray) : Int := if findS vs s < 0 then (vs.length : Int) else findS vs s
abbrev StO := List ByteArray × List ItemL
def stepO (i : Nat) (st : StO) (x : OpL × Nat) : StO := (addV st.1 x.1.2.1, st.2 ++ [(((i : Nat) : Int), ((x.2 : Nat) : Int), x.1.1, numV st.1 x.1.2.1, x.1.2.2)])
def toO (i : Nat) (st : StO) (ops : List OpL) (k : Nat) : StO := ((ops.take k).zipIdx).foldl (stepO i) st
def sesO (i : Nat) (st : StO) (ops : List OpL) : StO := toO i st ops ops.length
def allO (h : HistL) (j : Nat) : StO := ((h.take j).zipIdx).foldl (fun st x => sesO x.2 st x.1) ([], [])
theorem zip_step {α : Type} {l : List α} {k : Nat} {x : α} (hx : l[((k : Nat) : Int).toNat]? = some x) : (l.take (k + 1)).zipIdx = (l.take k).zipIdx ++ [(x, k)] := by
  have hk : k < l.length := by rw [Int.toNat_natCast] at hx; exact (List.getElem?_eq_some_iff.1 hx).1
  rw [take_at hx, List.zipIdx_append]
  simp; omega
theorem toO_zero (i : Nat) (st : StO) (ops : List OpL) : toO i st ops 0 = st := rfl
theorem toO_step {i k : Nat} {st : StO} {ops : List OpL} {x : OpL} (hx : ops[((k : Nat) : Int).toNat]? = some x) : toO i st ops (k + 1) = stepO i (toO i st ops k) (x, k) := by
  unfold toO; rw [zip_step hx, List.foldl_append]; rfl
theorem allO_step {h : HistL} {j : Nat} {x : List OpL} (hx : h[((j : Nat) : Int).toNat]? = some x) : allO h (j + 1) = sesO j (allO h j) x := by
  unfold allO; rw [zip_step hx, List.foldl_append]; rfl
theorem getD_row {α : Type} {h : List (List α)} {j : Nat} {x : List α} (hx : h[((j : Nat) : Int).toNat]? = some x) : h.getD j [] = x := by
  rw [Int.toNat_natCast] at hx; rw [List.getD_eq_getElem?_getD, hx]; rfl
theorem allO_end {h : HistL} {j k : Nat} (hj : j < h.length) (hk : (h.getD j []).length ≤ k) : toO j (allO h j) (h.getD j []) k = allO h (j + 1) := by
  have hx : h[((j : Nat) : Int).toNat]? = some h[j] := by rw [Int.toNat_natCast]; exact List.getElem?_eq_getElem hj
  rw [allO_step hx, getD_row hx] at *
  unfold sesO toO
  rw [List.take_of_length_le hk, List.take_length]
theorem toO_len (i : Nat) (st : StO) (ops : List OpL) : ∀ k, k ≤ ops.length → (toO i st ops k).2.length = st.2.length + k ∧ (toO i st ops k).1.length ≤ st.1.length + k
  | 0, _ => by rw [toO_zero]; omega
  | k + 1, h => by
    have ih := toO_len i st ops k (by omega)
    have hx : ops[((k : Nat) : Int).toNat]? = some ops[k] := by rw [Int.toNat_natCast]; exact List.getElem?_eq_getElem (by omega)
    rw [toO_step hx]
    have e1 : (stepO i (toO i st ops k) (ops[k], k)).2.length = (toO i st ops k).2.length + 1 := by unfold stepO; simp
    have e2 : (stepO i (toO i st ops k) (ops[k], k)).1.length ≤ (toO i st ops k).1.length + 1 := by unfold stepO addV; simp only; split <;> simp
    omega
theorem allO_len (h : HistL) : ∀ j, j ≤ h.length → (allO h j).2.length = ((h.take j).flatten).length ∧ (allO h j).1.length ≤ ((h.take j).flatten).length
  | 0, _ => by simp [allO]
  | j + 1, hj => by
    have ih := allO_len h j (by omega)
    have hx : h[((j : Nat) : Int).toNat]? = some h[j] := by rw [Int.toNat_natCast]; exact List.getElem?_eq_getElem (by omega)
    rw [allO_step hx, flat_step hx, List.length_append]
    have := toO_len j (allO h j) h[j] h[j].length (Nat.le_refl _)
    unfold sesO
    omega
theorem of_room {h : HistL} {j k : Nat} {x : List OpL} (hx : h[((j : Nat) : Int).toNat]? = some x) (hk : k < x.length) :
    (toO j (allO h j) x k).2.length + 1 ≤ h.flatten.length ∧ (toO j (allO h j) x k).1.length + 1 ≤ h.flatten.length := by
  have hj : j < h.length := by rw [Int.toNat_natCast] at hx; exact (List.getElem?_eq_some_iff.1 hx).1
  have h1 := allO_len h j (by omega)
  have h2 := toO_len j (allO h j) x k (by omega)
  have h3 := flat_len hx
  omega
def factV (h : HistL) : List ByteArray := (allO h h.length).1
def factI (h : HistL) : List ItemL := (allO h h.length).2
theorem factI_len (h : HistL) : (factI h).length = h.flatten.length := by
  have := (allO_len h h.length (Nat.le_refl _)).1
  rwa [List.take_length] at this
def ofV (h : HistL) : List ByteArray := if rightH h then factV h else []
def ofI (h : HistL) : List ItemL := if rightH h then factI h else []
def ofE (h : HistL) : Int := if rightH h then 0 else 1
theorem of_ok {h : HistL} (hr : rightH h = true) : ofV h = factV h ∧ ofI h = factI h ∧ ofE h = 0 := by unfold ofV ofI ofE; simp [hr]
theorem of_bad {h : HistL} (hr : rightH h = false) : ofV h = [] ∧ ofI h = [] ∧ ofE h = 1 := by unfold ofV ofI ofE; simp [hr]
theorem ofI_len (h : HistL) : (ofI h).length ≤ h.flatten.length := by
  unfold ofI; split
  · rw [factI_len]; exact Nat.le_refl _
  · simp
theorem step_new {i k : Nat} {st : StO} {ops : List OpL} {x : OpL} (hx : ops[((k : Nat) : Int).toNat]? = some x) (hf : findS (toO i st ops k).1 x.2.1 < 0) :
    (toO i st ops k).1 ++ [x.2.1] = (toO i st ops (k + 1)).1 ∧ (toO i st ops k).2 ++ [(((i : Nat) : Int), ((k : Nat) : Int), x.1, ((toO i st ops k).1.length : Int), x.2.2)] = (toO i st ops (k + 1)).2 := by
  rw [toO_step hx]; unfold stepO addV numV; rw [if_pos hf, if_pos hf]; exact ⟨rfl, rfl⟩
theorem step_old {i k : Nat} {st : StO} {ops : List OpL} {x : OpL} (hx : ops[((k : Nat) : Int).toNat]? = some x) (hf : ¬ findS (toO i st ops k).1 x.2.1 < 0) :
    (toO i st ops k).1 = (toO i st ops (k + 1)).1 ∧ (toO i st ops k).2 ++ [(((i : Nat) : Int), ((k : Nat) : Int), x.1, findS (toO i st ops k).1 x.2.1, x.2.2)] = (toO i st ops (k + 1)).2 := by
  rw [toO_step hx]; unfold stepO addV numV; rw [if_neg hf, if_neg hf]; exact ⟨rfl, rfl⟩
def isW (v val : Int) (x : ItemL) : Bool := x.2.2.1 && decide (x.2.2.2.1 = v) && decide (x.2.2.2.2 = val)
def wrI (its : List ItemL) (v val : Int) : Int := idxF (isW v val) its
def bad1 (its : List ItemL) (j : Nat) (x : ItemL) : Bool := x.2.2.1 && (decide (x.2.2.2.2 = 0) || decide (max (wrI its x.2.2.2.1 x.2.2.2.2) 0 < ((j : Nat) : Int)))
def badI (its : List ItemL) (j : Nat) : Bool := (its[j]?).any (bad1 its j)
def fbI (its : List ItemL) : Option Nat := (List.range its.length).find? (badI its)
def chkA (its : List ItemL) : Int × Int × Int := match fbI its with
  | none => (0, 0, 0)
  | some j => match its[j]? with
    | none => (0, 0, 0)
    | some x => if x.2.2.2.2 = 0 then (((j : Nat) : Int), ((j : Nat) : Int), 5) else (max (wrI its x.2.2.2.1 x.2.2.2.2) 0, ((j : Nat) : Int), 4)
theorem fb_none {its : List ItemL} {j : Nat} (h : ∀ k, k < j → badI its k = false) (hj : its.length ≤ j) : fbI its = none := by
  unfold fbI; rw [List.find?_eq_none]
  intro k hk
  rw [List.mem_range] at hk
  rw [h k (by omega)]; simp
theorem fb_some {its : List ItemL} {j : Nat} (h : ∀ k, k < j → badI its k = false) (hj : j < its.length) (hb : badI its j = true) : fbI its = some j := by
  unfold fbI
  rw [List.find?_eq_some_iff_append]
  refine ⟨hb, List.range j, (List.range (its.length - j - 1)).map (fun i => j + 1 + i), ?_, fun a ha => by rw [h a (List.mem_range.1 ha)]; rfl⟩
  have : its.length = j + (1 + (its.length - j - 1)) := by omega
  rw [this, range_add_map, range_add_map]
  simp [Nat.add_assoc]
theorem bad_at {its : List ItemL} {j : Nat} {x : ItemL} (hx : its[((j : Nat) : Int).toNat]? = some x) : badI its j = bad1 its j x := by
  rw [Int.toNat_natCast] at hx; unfold badI; rw [hx]; rfl
theorem bad_next {its : List ItemL} {j : Nat} {x : ItemL} (h : ∀ k, k < j → badI its k = false) (hx : its[((j : Nat) : Int).toNat]? = some x) (hb : bad1 its j x = false) : ∀ k, k < j + 1 → badI its k = false := by
  intro k hk
  rcases Nat.lt_succ_iff_lt_or_eq.1 hk with h1 | rfl
  · exact h k h1
  · rw [bad_at hx]; exact hb
theorem chk_end {its : List ItemL} {j : Nat} (h : ∀ k, k < j → badI its k = false) (hj : its.length ≤ j) : chkA its = (0, 0, 0) := by
  unfold chkA; rw [fb_none h hj]
theorem chk_zero {its : List ItemL} {j : Nat} {x : ItemL} (h : ∀ k, k < j → badI its k = false) (hx : its[((j : Nat) : Int).toNat]? = some x) (hw : x.2.2.1 = true) (h0 : x.2.2.2.2 = 0) : chkA its = (((j : Nat) : Int), ((j : Nat) : Int), 5) := by
  have hj : j < its.length := by rw [Int.toNat_natCast] at hx; exact (List.getElem?_eq_some_iff.1 hx).1
  have hb : badI its j = true := by rw [bad_at hx]; unfold bad1; simp [hw, h0]
  unfold chkA; rw [fb_some h hj hb]
  rw [Int.toNat_natCast] at hx
  simp only [hx, h0, if_true]
theorem chk_twice {its : List ItemL} {j : Nat} {x : ItemL} (h : ∀ k, k < j → badI its k = false) (hx : its[((j : Nat) : Int).toNat]? = some x) (hw : x.2.2.1 = true) (h0 : ¬ x.2.2.2.2 = 0)
    (h1 : max (wrI its x.2.2.2.1 x.2.2.2.2) 0 < ((j : Nat) : Int)) : chkA its = (max (wrI its x.2.2.2.1 x.2.2.2.2) 0, ((j : Nat) : Int), 4) := by
  have hj : j < its.length := by rw [Int.toNat_natCast] at hx; exact (List.getElem?_eq_some_iff.1 hx).1
  have hb : badI its j = true := by rw [bad_at hx]; unfold bad1; simp [hw, h1]
  unfold chkA; rw [fb_some h hj hb]
  rw [Int.toNat_natCast] at hx
  simp only [hx, h0, if_false]
theorem bad_read {its : List ItemL} {j : Nat} {x : ItemL} (hw : x.2.2.1 = false) : bad1 its j x = false := by unfold bad1; rw [hw]; rfl
theorem bad_good {its : List ItemL} {j : Nat} {x : ItemL} (h0 : ¬ x.2.2.2.2 = 0) (h1 : ¬ max (wrI its x.2.2.2.1 x.2.2.2.2) 0 < ((j : Nat) : Int)) : bad1 its j x = false := by
  unfold bad1; rw [decide_eq_false h0, decide_eq_false h1]; simp
theorem wr_hit {its : List ItemL} {j : Nat} {x : ItemL} {v val : Int} (hx : its[((j : Nat) : Int).toNat]? = some x) (h1 : x.2.2.1 = true) (h2 : decide (x.2.2.2.1 = v) = true) (h3 : decide (x.2.2.2.2 = val) = true) (hs : (its.take j).any (isW v val) = false) : ((j : Nat) : Int) = wrI its v val :=
  idxF_hit hx hs (by unfold isW; rw [h1, h2, h3]; rfl)
theorem wr_miss {its : List ItemL} {j : Nat} {v val : Int} (hs : (its.take j).any (isW v val) = false) (h : its.length ≤ j) : (-1 : Int) = wrI its v val := idxF_miss hs h
theorem isW_no1 {x : ItemL} {v val : Int} (h : x.2.2.1 = false) : isW v val x = false := by unfold isW; rw [h]; rfl
theorem isW_no2 {x : ItemL} {v val : Int} (h : decide (x.2.2.2.1 = v) = false) : isW v val x = false := by unfold isW; rw [h]; simp
theorem isW_no3 {x : ItemL} {v val : Int} (h : decide (x.2.2.2.2 = val) = false) : isW v val x = false := by unfold isW; rw [h]; simp
end Go.Ew
namespace Go.Ew
open Go.RowKit
set_option linter.unusedVariables false
set_option linter.unusedSimpArgs false
section
variable {P : Program} {n : Nat} {ops : Array Oper} {f : Slots} {w : World} {K : Slots → World → Prop} {x y : Operand} {d : Nat} {ty T T2 e : TypeId} {ps : String} {af : Array Edge} {M : Nat → Prop} {B : Nat} {a : Option Addr} {k c : Nat} {s t : Int}
theorem w8 {i : Int} (h0 : 0 ≤ i) (h1 : i ≤ 255) : IntKind.u8.wrap i = i ∧ (((BitVec.ofInt 8 i).toNat : Nat) : Int) = i := by
  constructor
  · unfold IntKind.wrap
    simp [IntKind.bits, IntKind.signed]
    omega
  · rw [BitVec.toNat_ofInt]
    show ((i % 256).toNat : Int) = i
    omega
end
end Go.Ew
namespace Go.Ew
open Go.RowKit
set_option linter.unusedVariables false
section
variable {P : Program} {n : Nat} {ops : Array Oper} {f : Slots} {w : World} {K : Slots → World → Prop} {x : Operand} {d : Nat} {ty : TypeId} {ps : String} {af : Array Edge} {a : Addr}
theorem nc (ox : okT n x = true) (hx : ev f x = .pointer (some a)) (h : K (upd f d (.pointer (some a))) w) : SO P n ops ⟨some d, .nilCheck x, ty, ps, af, none⟩ f w K :=
  SO.value (v := .pointer (some a)) (w' := w) (by simp [execOp, eval_acts ox, hx]) h
theorem mf0 {f : Slots} : ([] : List Operand).map (ev f) = [] := rfl
theorem mfc {f : Slots} {x : Operand} {v : Value} {L : List Operand} {V : List Value} (h : ev f x = v) (t : L.map (ev f) = V) : (x :: L).map (ev f) = v :: V := by rw [List.map_cons, h, t]
theorem mf2 {fn : Fn} {C : List Operand} {V : List Value} (oc : okL n C = true) (hC : C.map (ev f) = V) (h : K (upd f d (.func fn #[] V.toArray)) w) : SO P n ops ⟨some d, .makeFunc fn #[] C.toArray, ty, ps, af, none⟩ f w K := by
  refine mf oc ?_
  rw [hC]; exact h
end
end Go.Ew
namespace Go.Ew
open Go.RowKit
set_option linter.unusedVariables false
set_option linter.unusedSimpArgs false
section
variable {P : Program} {n : Nat} {l : List Oper}
theorem wpAny_J {Q : Exit → Act → World → Prop} (J : (Nat → Bool) → Slots → World → Prop) (hE : okEdges 0 l = true)
    (hstep : ∀ (L : Nat → Bool) (f : Slots) (w : World) (i : Nat) (o : Oper), l[i]? = some o → L i = false → (∀ j, L j = true → j < l.length) → (∀ j, onB o j = true → L j = true) → J L f w → SO P n l.toArray o f w (J (fun k => L k || decide (k = i))))
    (hend : ∀ (f : Slots) (w : World), J (fun k => decide (k < l.length)) f w → Q .normal (acts n f) w) :
    ∀ (d : Nat) (listed : Array Bool) (f : Slots) (w : World), listed.size = l.length → (listed.toList.filter (fun b => !b)).length = d → J (fun k => listed.getD k false) f w → wpAny P .any l.toArray Q d listed (acts n f) w := by
  intro d
  induction d with
  | zero =>
    intro listed f w hsz hd hJ
    have hall : ∀ i, i < l.length → listed.getD i false = true := by
      intro i hi
      have h0 := List.eq_nil_of_length_eq_zero hd
      rw [List.filter_eq_nil_iff] at h0
      have hi' : i < listed.size := by omega
      have := h0 listed[i] (by simp)
      simp at this
      simp [Array.getD, hi', this]
    refine ⟨?_, ?_⟩
    · apply List.eq_nil_iff_forall_not_mem.2
      intro i hi
      obtain ⟨h0, o, ho, -⟩ := mem_ready.1 hi
      have hol : l[i]? = some o := by simpa using ho
      have hil : i < l.length := (List.getElem?_eq_some_iff.1 hol).1
      rw [show listed.getD i true = listed.getD i false from getD_any (by omega) _ _, hall i hil] at h0
      cases h0
    · refine hend f w ?_
      have : (fun k => decide (k < l.length)) = fun k => listed.getD k false := by
        funext k
        by_cases hk : k < l.length
        · rw [hall k hk]; exact decide_eq_true hk
        · rw [decide_eq_false hk]; simp [Array.getD]; omega
      rw [this]; exact hJ
  | succ d ih =>
    intro listed f w hsz hd hJ
    obtain ⟨i0, hi0⟩ : ∃ i, i < l.length ∧ listed.getD i false = false := by
      apply Classical.byContradiction
      intro hno
      have : listed.toList.filter (fun b => !b) = [] := by
        rw [List.filter_eq_nil_iff]
        intro b hb
        obtain ⟨i, hi, rfl⟩ := List.mem_iff_getElem.1 hb
        simp only [Array.length_toList] at hi
        cases hb2 : listed.toList[i] with
        | true => simp
        | false =>
          exfalso
          refine hno ⟨i, by omega, ?_⟩
          simp only [Array.getElem_toList] at hb2
          simp [Array.getD, hi, hb2]
      rw [this] at hd; cases hd
    obtain ⟨m, hm1, hm2⟩ := exists_least (p := fun i => i < l.length ∧ listed.getD i false = false) ⟨i0, hi0⟩
    have hml : m < l.length := by omega
    have hom : l[m]? = some l[m] := List.getElem?_eq_getElem hml
    have hmr : m ∈ Region.ready .any l.toArray listed := by
      rw [mem_ready]
      refine ⟨?_, l[m], by simp, fun e he hb => ?_⟩
      · rw [show listed.getD m true = listed.getD m false from getD_any (by omega) _ _]; exact hm1.2
      · have hlt := okEdges_at l 0 hE m l[m] hom e he hb
        cases hb2 : listed.getD e.on false with
        | true => rfl
        | false =>
          have := hm2 e.on ⟨by omega, hb2⟩
          omega
    refine ⟨fun h0 => (by rw [h0] at hmr; cases hmr), fun i hi => ?_⟩
    obtain ⟨h0, o, ho, hedges⟩ := mem_ready.1 hi
    have hol : l[i]? = some o := by simpa using ho
    have hil : i < l.length := (List.getElem?_eq_some_iff.1 hol).1
    have h0' : listed.getD i false = false := by
      rw [show listed.getD i false = listed.getD i true from getD_any (by omega) _ _]; exact h0
    have hdone : ∀ j, onB o j = true → listed.getD j false = true := by
      intro j hj
      obtain ⟨e, he, hb, hon⟩ := onB_iff.1 hj
      subst hon
      exact hedges e he hb
    have hlt : ∀ j, listed.getD j false = true → j < l.length := by
      intro j hj
      refine Classical.byContradiction fun hn => ?_
      rw [show listed.getD j false = false from by simp [Array.getD]; omega] at hj
      cases hj
    have hcount : ((listed.setIfInBounds i true).toList.filter (fun b => !b)).length = d := by
      have hii : i < listed.size := by omega
      have hget : listed.toList[i]? = some false := by
        rw [List.getElem?_eq_getElem (by simpa using hii)]
        simp only [Array.getD, hii, dif_pos] at h0'
        simpa [Array.getInternal_eq_getElem] using h0'
      have key : ∀ (L : List Bool) (i : Nat), L[i]? = some false → ((L.set i true).filter (fun b => !b)).length + 1 = (L.filter (fun b => !b)).length := by
        intro L
        induction L with
        | nil => intro i h; simp at h
        | cons b L ihL =>
          intro i h
          cases i with
          | zero => simp at h; subst h; simp
          | succ i =>
            simp at h
            have := ihL i h
            cases b <;> simp at this ⊢ <;> omega
      have := key listed.toList i hget
      rw [Array.toList_setIfInBounds]
      omega
    refine wpOp_of_SO ho (hstep (fun k => listed.getD k false) f w i o hol h0' hlt hdone hJ) fun f' w' hK => ?_
    refine ih _ _ _ (by simp [hsz]) hcount ?_
    have : (fun k => (listed.setIfInBounds i true).getD k false) = fun k => listed.getD k false || decide (k = i) := by
      funext k
      by_cases hk : k = i
      · subst hk
        have hii : k < listed.size := by omega
        simp [Array.getD, hii]
      · rw [decide_eq_false hk, Bool.or_false]
        exact getD_set_ne false fun e => hk e.symm
    rw [this]; exact hK
theorem drj {id : Nat} {Q : Exit → Act → World → Prop} {f : Slots} {w : World} (J : (Nat → Bool) → Slots → World → Prop) (hm : P.follows .mixedOrders = true) (hE : okEdges 0 l = true)
    (h0 : J (fun _ => false) f w.drew)
    (hstep : ∀ (L : Nat → Bool) (f : Slots) (w : World) (i : Nat) (o : Oper), l[i]? = some o → L i = false → (∀ j, L j = true → j < l.length) → (∀ j, onB o j = true → L j = true) → J L f w → SO P n l.toArray o f w (J (fun k => L k || decide (k = i))))
    (hend : ∀ (f : Slots) (w : World), J (fun k => decide (k < l.length)) f w → Q .normal (acts n f) w) :
    WC P n (.region id l.toArray true) Q f w := by
  refine wp_region_any hm ?_
  have h3 : (fun k => (Array.replicate l.length false).getD k false) = fun _ : Nat => false := by
    funext i
    simp only [Array.getD]; split <;> simp
  have h := wpAny_J (P := P) (Q := Q) J hE hstep hend l.length (Array.replicate l.length false) f w.drew (by simp) (by simp) (by rw [h3]; exact h0)
  simpa using h
end
theorem nodup_fil {α : Type} {p : α → Bool} {l : List α} (h : l.Nodup) : (l.filter p).Nodup := List.Nodup.sublist List.filter_sublist h
def liveB (l : List Oper) (cn : Nat → Option Nat) (L : Nat → Bool) (j : Nat) : Bool := (Nat.ble l.length j || L j) && (match cn j with | none => true | some i => !L i)
def waits (T : List Nat) (i j : Nat) : Bool := Nat.testBit (T.getD i 0) j
def rowT (T : List Nat) (o : Oper) : Nat → Nat
  | 0 => 0
  | j + 1 => bif onB o j then rowT T o j ||| (2 ^ j ||| T.getD j 0) else rowT T o j
def okTab (l : List Oper) (T : List Nat) : Bool := (List.range l.length).all fun i => match l[i]? with | some o => Nat.beq (T.getD i 0) (rowT T o i) | none => true
theorem rowT_bit {T : List Nat} {o : Oper} {m : Nat} : ∀ i, Nat.testBit (rowT T o i) m = true → ∃ j, j < i ∧ onB o j = true ∧ (m = j ∨ waits T j m = true)
  | 0, h => by simp [rowT] at h
  | i + 1, h => by
    unfold rowT at h
    cases ho : onB o i with
    | false =>
      rw [ho] at h
      obtain ⟨j, h1, h2⟩ := rowT_bit i h
      exact ⟨j, by omega, h2⟩
    | true =>
      rw [ho] at h
      have h : Nat.testBit (rowT T o i ||| (2 ^ i ||| T.getD i 0)) m = true := h
      rw [Nat.testBit_or, Nat.testBit_or, Bool.or_eq_true, Bool.or_eq_true, Nat.testBit_two_pow] at h
      rcases h with h | h | h
      · obtain ⟨j, h1, h2⟩ := rowT_bit i h
        exact ⟨j, by omega, h2⟩
      · exact ⟨i, by omega, ho, .inl (of_decide_eq_true h).symm⟩
      · exact ⟨i, by omega, ho, .inr h⟩
theorem waits_done {l : List Oper} {T : List Nat} (hT : okTab l T = true) {L : Nat → Bool} (hC : ∀ j o, L j = true → l[j]? = some o → ∀ q, onB o q = true → L q = true) (hL : ∀ j, L j = true → j < l.length) :
    ∀ (n i : Nat) (o : Oper), i ≤ n → l[i]? = some o → (∀ j, onB o j = true → L j = true) → ∀ m, waits T i m = true → L m = true
  | n, i, o, hin, ho, hd, m, hm => by
    have hil := (List.getElem?_eq_some_iff.1 ho).1
    have h1 := List.all_eq_true.1 hT i (List.mem_range.2 hil)
    rw [ho] at h1
    have h1 := Nat.eq_of_beq_eq_true h1
    unfold waits at hm
    rw [h1] at hm
    obtain ⟨j, hj, hob, hjm⟩ := rowT_bit i hm
    have hLj := hd j hob
    rcases hjm with rfl | hjm
    · exact hLj
    · have hjl := hL j hLj
      have hoj : l[j]? = some l[j] := List.getElem?_eq_getElem hjl
      cases n with
      | zero => omega
      | succ n => exact waits_done hT hC hL n j l[j] (by omega) hoj (hC j l[j] hLj hoj) m hjm
def okUse (l : List Oper) (cn : Nat → Option Nat) (T : List Nat) (m i : Nat) (o : Oper) (D : List Nat) : Bool :=
  nodupB D && D.all (fun j => Nat.blt j m && (Nat.ble l.length j || waits T i j) && (match cn j with | none => true | some c => Nat.beq c i || (Nat.blt c l.length && waits T c i))) && (List.range m).all (fun j => match cn j with | none => true | some c => !Nat.beq c i || D.contains j)
def keepD (cn : Nat → Option Nat) (i : Nat) (D : List Nat) : List Nat := D.filter fun j => match cn j with | none => true | some c => !Nat.beq c i
def okG (n : Nat) (l : List Oper) (cn : Nat → Option Nat) (T : List Nat) (m : Nat) (Ds : List (List Nat)) : Bool :=
  okTab l T && okEdges 0 l && nodupB (dstsK l.length l) && (dstsK l.length l).all (fun d => Nat.blt d n) && Nat.ble l.length m && (List.range l.length).all fun i => match l[i]? with | some o => okUse l cn T m i o (Ds.getD i []) | none => true
section
variable {P : Program} {n : Nat} {l : List Oper} {cn : Nat → Option Nat} {its : Nat → Value → List Item} {m : Nat} {T : List Nat} {Ds : List (List Nat)} {Φ : Nat → Value → Prop} {f0 : Slots} {M0 : Nat → Prop} {w0 : World} {base : List Item}
def GStep (P : Program) (n : Nat) (l : List Oper) (cn : Nat → Option Nat) (T : List Nat) (its : Nat → Value → List Item) (Φ : Nat → Value → Prop) (f0 : Slots) (M0 : Nat → Prop) (w0 : World) (base : List Item) (i : Nat) (o : Oper) (D : List Nat) : Prop :=
  ∀ (f : Slots) (w : World) (V : Nat → Value) (r : List Item), (∀ t, (dstsK l.length l).contains t = false → f t = f0 t) → (∀ j x, l[j]? = some x → x.dst.isSome = true → waits T i j = true → f (dstD l j) = V j ∧ Φ j (V j)) → (∀ j x, l[j]? = some x → x.dst.isSome = true → (j = i ∨ waits T j i = true) → f (dstD l j) = f0 (dstD l j)) →
    HI M0 w0 w (base ++ (D.flatMap (fun j => its j (V j)) ++ r)) → SO P n l.toArray o f w (fun f' w' => ∃ v, f' = updO f o.dst v ∧ Φ i v ∧ HI M0 w0 w' (base ++ (((keepD cn i D).flatMap fun j => its j (V j)) ++ (its i v ++ r))))
def GSteps (P : Program) (n : Nat) (l : List Oper) (cn : Nat → Option Nat) (T : List Nat) (its : Nat → Value → List Item) (Φ : Nat → Value → Prop) (f0 : Slots) (M0 : Nat → Prop) (w0 : World) (base : List Item) (Ds : List (List Nat)) : Nat → List Oper → Prop
  | _, [] => True
  | i, o :: r => GStep P n l cn T its Φ f0 M0 w0 base i o (Ds.getD i []) ∧ GSteps P n l cn T its Φ f0 M0 w0 base Ds (i + 1) r
theorem GSteps.at_ : ∀ (r : List Oper) (i : Nat), GSteps P n l cn T its Φ f0 M0 w0 base Ds i r → ∀ j o, r[j]? = some o → GStep P n l cn T its Φ f0 M0 w0 base (i + j) o (Ds.getD (i + j) [])
  | [], _, _, j, o, h => by simp at h
  | x :: r, i, h, 0, o, hj => by
    simp only [List.getElem?_cons_zero, Option.some.injEq] at hj
    subst hj
    exact h.1
  | x :: r, i, h, j + 1, o, hj => by
    simp only [List.getElem?_cons_succ] at hj
    have := GSteps.at_ r (i + 1) h.2 j o hj
    rwa [show i + 1 + j = i + (j + 1) from by omega] at this
end
def vA : Value → Option Addr
  | .slice a _ _ => a
  | _ => none
def vC : Value → Nat
  | .slice _ _ c => c
  | _ => 0
theorem hc_of {cnL : List (Option Nat)} {N : Nat} (h : cnL.all (fun c => match c with | none => true | some i => Nat.blt i N) = true) : ∀ j i, cnL.getD j none = some i → i < N := by
  intro j i hj
  rw [List.getD_eq_getElem?_getD] at hj
  cases hc : cnL[j]? with
  | none => rw [hc] at hj; cases hj
  | some c =>
    rw [hc] at hj
    have hj : c = some i := hj
    subst hj
    have := List.all_eq_true.1 h _ (List.mem_of_getElem? hc)
    simpa using this
theorem own_len_ {α : Type} [GT α] {B : Nat} {e : TypeId} {v : Value} {xs : List α} {M : Nat → Prop} {w : World} (h : (own B e v xs).holds M w) : xs.length ≤ 9223372036854775807 := by
  obtain ⟨cs, h1, h2⟩ := h
  rcases h1.2 with ⟨rfl, h3⟩ | ⟨g', cap, cur, rfl, h3, h4, h5, h6, h7, h8⟩
  · omega
  · have : maxLen = 9223372036854775807 := rfl
    omega
end Go.Ew
namespace Go.Ew
open Go.RowKit
set_option linter.unusedVariables false
set_option linter.unusedSimpArgs false
def bitOn (m k : Nat) : Bool := Nat.beq (Nat.land 1 (Nat.shiftRight m k)) 1
theorem bitOn_eq (m k : Nat) : bitOn m k = Nat.testBit m k := by
  unfold bitOn Nat.testBit
  have h : Nat.land 1 (Nat.shiftRight m k) = 1 &&& (m >>> k) := rfl
  rw [h, Nat.and_comm, Nat.and_one_is_mod]
  rcases Nat.mod_two_eq_zero_or_one (m >>> k) with h | h <;> rw [h] <;> rfl
def mask (T : List Nat) (j : Nat) (V : Nat → Value) (k : Nat) : Value := bif (Nat.beq k j || bitOn (T.getD j 0) k) then V k else undef
theorem mask_eq (T : List Nat) (j : Nat) (V : Nat → Value) (k : Nat) : mask T j V k = if (k == j || waits T j k) = true then V k else undef := by
  unfold mask waits
  rw [bitOn_eq, show Nat.beq k j = (k == j) from by rw [Bool.eq_iff_iff, Nat.beq_eq_true_eq]; simp]
  cases (k == j || Nat.testBit (T.getD j 0) k) <;> rfl
def segsM (l : List Oper) (cn : Nat → Option Nat) (T : List Nat) (its : Nat → (Nat → Value) → List Item) (m : Nat) (L : Nat → Bool) (V : Nat → Value) : List Item := ((List.range m).filter (liveB l cn L)).flatMap fun j => its j (mask T j V)
theorem mask_up {T : List Nat} {i j : Nat} {v : Value} {V : Nat → Value} (h1 : j ≠ i) (h2 : waits T j i = false) : mask T j (fun k => if k = i then v else V k) = mask T j V := by
  funext k
  rw [mask_eq, mask_eq]
  by_cases hk : (k == j || waits T j k) = true
  · rw [if_pos hk, if_pos hk]
    have : k ≠ i := by
      rintro rfl
      rw [h2, Bool.or_false, beq_iff_eq] at hk
      exact h1 hk.symm
    exact if_neg this
  · rw [if_neg hk, if_neg hk]
theorem mem_keepD {cn : Nat → Option Nat} {i j : Nat} {D : List Nat} : j ∈ keepD cn i D ↔ j ∈ D ∧ ∀ c, cn j = some c → c ≠ i := by
  unfold keepD
  rw [List.mem_filter]
  refine and_congr_right fun _ => ?_
  cases hcj : cn j with
  | none => simp
  | some c =>
    simp only [Bool.not_eq_true', Option.some.injEq]
    constructor
    · rintro h d rfl rfl
      rw [Nat.beq_refl] at h; cases h
    · intro h
      cases hb : Nat.beq c i with
      | false => rfl
      | true => exact absurd (Nat.eq_of_beq_eq_true hb) (h c rfl)
section
variable {P : Program} {n : Nat} {l : List Oper} {cn : Nat → Option Nat} {its : Nat → (Nat → Value) → List Item} {m : Nat} {T : List Nat} {Ds : List (List Nat)} {Φ : Nat → Value → Prop} {f0 : Slots} {M0 : Nat → Prop} {w0 : World} {base : List Item}
def GStepM (P : Program) (n : Nat) (l : List Oper) (cn : Nat → Option Nat) (T : List Nat) (its : Nat → (Nat → Value) → List Item) (Φ : Nat → Value → Prop) (f0 : Slots) (M0 : Nat → Prop) (w0 : World) (base : List Item) (i : Nat) (o : Oper) (D : List Nat) : Prop :=
  ∀ (f : Slots) (w : World) (V : Nat → Value) (r : List Item), (∀ t, (dstsK l.length l).contains t = false → f t = f0 t) → (∀ j x, l[j]? = some x → x.dst.isSome = true → waits T i j = true → f (dstD l j) = V j ∧ Φ j (V j)) → (∀ j x, l[j]? = some x → x.dst.isSome = true → (j = i ∨ waits T j i = true) → f (dstD l j) = f0 (dstD l j)) →
    HI M0 w0 w (base ++ (D.flatMap (fun j => its j (mask T j V)) ++ r)) → SO P n l.toArray o f w (fun f' w' => ∃ v, f' = updO f o.dst v ∧ Φ i v ∧ HI M0 w0 w' (base ++ (((keepD cn i D).flatMap fun j => its j (mask T j V)) ++ (its i (mask T i (fun k => if k = i then v else V k)) ++ r))))
def GStepsM (P : Program) (n : Nat) (l : List Oper) (cn : Nat → Option Nat) (T : List Nat) (its : Nat → (Nat → Value) → List Item) (Φ : Nat → Value → Prop) (f0 : Slots) (M0 : Nat → Prop) (w0 : World) (base : List Item) (Ds : List (List Nat)) : Nat → List Oper → Prop
  | _, [] => True
  | i, o :: r => GStepM P n l cn T its Φ f0 M0 w0 base i o (Ds.getD i []) ∧ GStepsM P n l cn T its Φ f0 M0 w0 base Ds (i + 1) r
theorem GStepsM.at_ : ∀ (r : List Oper) (i : Nat), GStepsM P n l cn T its Φ f0 M0 w0 base Ds i r → ∀ j o, r[j]? = some o → GStepM P n l cn T its Φ f0 M0 w0 base (i + j) o (Ds.getD (i + j) [])
  | [], _, _, j, o, h => by simp at h
  | x :: r, i, h, 0, o, hj => by
    simp only [List.getElem?_cons_zero, Option.some.injEq] at hj
    subst hj
    exact h.1
  | x :: r, i, h, j + 1, o, hj => by
    simp only [List.getElem?_cons_succ] at hj
    have := GStepsM.at_ r (i + 1) h.2 j o hj
    rwa [show i + 1 + j = i + (j + 1) from by omega] at this
def JGM (l : List Oper) (cn : Nat → Option Nat) (T : List Nat) (its : Nat → (Nat → Value) → List Item) (m : Nat) (Φ : Nat → Value → Prop) (f0 : Slots) (M0 : Nat → Prop) (w0 : World) (base : List Item) (L : Nat → Bool) (f : Slots) (w : World) : Prop :=
  ∃ V : Nat → Value, (∀ t, (dstsK l.length l).contains t = false → f t = f0 t) ∧ (∀ j x, l[j]? = some x → x.dst.isSome = true → f (dstD l j) = if L j = true then V j else f0 (dstD l j)) ∧ (∀ j, j < l.length → L j = true → Φ j (V j)) ∧ (∀ j o, L j = true → l[j]? = some o → ∀ q, onB o q = true → L q = true) ∧ HI M0 w0 w (base ++ segsM l cn T its m L V)
theorem drgM {id : Nat} {Q : Exit → Act → World → Prop} {f : Slots} {w : World} (cn : Nat → Option Nat) (T : List Nat) (its : Nat → (Nat → Value) → List Item) (m : Nat) (Ds : List (List Nat)) (Φ : Nat → Value → Prop) (base : List Item) (V0 : Nat → Value) (hm : P.follows .mixedOrders = true) (hok : okG n l cn T m Ds = true) (hTl : T.length ≤ l.length)
    (hH : HI M0 w0 w (base ++ ((List.range m).filter (fun j => Nat.ble l.length j)).flatMap fun j => its j (mask T j V0))) (hc0 : ∀ j i, cn j = some i → i < l.length)
    (hS : GStepsM P n l cn T its Φ f M0 w0 base Ds 0 l)
    (hend : ∀ (f' : Slots) (w' : World) (V : Nat → Value), (∀ t, (dstsK l.length l).contains t = false → f' t = f t) → (∀ j x, l[j]? = some x → x.dst.isSome = true → f' (dstD l j) = V j ∧ Φ j (V j)) → HI M0 w0 w' (base ++ ((List.range m).filter (fun j => (cn j).isNone)).flatMap fun j => its j (mask T j V)) → Q .normal (acts n f') w') :
    WC P n (.region id l.toArray true) Q f w := by
  simp only [okG, Bool.and_eq_true] at hok
  obtain ⟨⟨⟨⟨⟨hTab, hE⟩, hN⟩, hn⟩, hlm⟩, hU⟩ := hok
  have hlm : l.length ≤ m := Nat.le_of_ble_eq_true hlm
  have hsegs0 : ∀ V, segsM l cn T its m (fun _ => false) V = ((List.range m).filter (fun j => Nat.ble l.length j)).flatMap fun j => its j (mask T j V) := by
    intro V
    unfold segsM
    congr 1
    refine List.filter_congr fun j hj => ?_
    unfold liveB
    cases cn j <;> simp
  refine drj (JGM l cn T its m Φ f M0 w0 base) hm hE ⟨V0, fun _ _ => rfl, fun j x _ _ => (by simp), fun j _ h => (by cases h), fun j o h => (by cases h), ?_⟩ ?_ ?_
  · rw [hsegs0]
    exact hH.ext (Ext.drew w)
  · rintro L f' w' i o hol hLi hLlt hdeps ⟨V, hs, hv, hφ, hC, hH⟩
    have hil := (List.getElem?_eq_some_iff.1 hol).1
    have hwd : ∀ j, waits T i j = true → L j = true := fun j hj => waits_done hTab hC hLlt i i o (Nat.le_refl _) hol hdeps j hj
    have hwd2 : ∀ c oc, L c = true → l[c]? = some oc → ∀ j, waits T c j = true → L j = true := fun c oc hLc hoc j hj => waits_done hTab hC hLlt c c oc (Nat.le_refl _) hoc (hC c oc hLc hoc) j hj
    have hst := GStepsM.at_ l 0 hS i o hol
    simp only [Nat.zero_add] at hst
    have hu := List.all_eq_true.1 hU i (List.mem_range.2 hil)
    rw [hol] at hu
    simp only [okUse, Bool.and_eq_true] at hu
    obtain ⟨⟨hDn, hDu⟩, hDc⟩ := hu
    have hDn := nodupB_nodup _ hDn
    generalize hD : Ds.getD i [] = D at hst hDn hDu hDc
    have hDl : ∀ j ∈ D, j < m ∧ liveB l cn L j = true := by
      intro j hj
      have := List.all_eq_true.1 hDu j hj
      simp only [Bool.and_eq_true, Bool.or_eq_true, Nat.blt_eq] at this
      obtain ⟨⟨h1, h2⟩, h3⟩ := this
      refine ⟨h1, ?_⟩
      unfold liveB
      rw [Bool.and_eq_true, Bool.or_eq_true]
      refine ⟨h2.imp (fun h => h) (hwd j), ?_⟩
      revert h3
      cases hcj : cn j with
      | none => intro _; rfl
      | some c =>
        intro h3
        simp only [Bool.or_eq_true] at h3
        show (!L c) = true
        rcases h3 with h3 | h3
        · rw [Nat.eq_of_beq_eq_true h3, hLi]; rfl
        · cases hLc : L c with
          | false => rfl
          | true =>
            exfalso
            simp only [Bool.and_eq_true, Nat.blt_eq] at h3
            have := hwd2 c l[c] hLc (List.getElem?_eq_getElem h3.1) i h3.2
            rw [hLi] at this; cases this
    have hiD : i ∉ D := by
      intro hi
      have := (hDl i hi).2
      unfold liveB at this
      rw [hLi, show Nat.ble l.length i = false from by
        cases hb : Nat.ble l.length i with
        | false => rfl
        | true => have := Nat.le_of_ble_eq_true hb; omega] at this
      simp at this
    -- the live ones: D, and others
    have hperm : ((List.range m).filter (liveB l cn L)).Perm (D ++ ((List.range m).filter fun j => liveB l cn L j && !D.contains j)) := by
      refine (List.perm_ext_iff_of_nodup (nodup_fil List.nodup_range) ?_).2 fun j => ?_
      · rw [List.nodup_append]
        refine ⟨hDn, nodup_fil List.nodup_range, fun a ha b hb hab => ?_⟩
        subst hab
        have := (List.mem_filter.1 hb).2
        simp [ha] at this
      · simp only [List.mem_filter, List.mem_range, List.mem_append, Bool.and_eq_true, Bool.not_eq_true', List.contains_eq_mem, decide_eq_false_iff_not]
        constructor
        · rintro ⟨h1, h2⟩
          by_cases hj : j ∈ D
          · exact .inl hj
          · exact .inr ⟨h1, h2, hj⟩
        · rintro (h | ⟨h1, h2, -⟩)
          · exact hDl j h
          · exact ⟨h1, h2⟩
    have hH2 : HI M0 w0 w' (base ++ (D.flatMap (fun j => its j (mask T j V)) ++ ((List.range m).filter fun j => liveB l cn L j && !D.contains j).flatMap fun j => its j (mask T j V))) := by
      refine hH.perm ?_
      unfold segsM
      rw [← List.flatMap_append]
      exact List.Perm.append_left _ (hperm.symm.flatMap_right _)
    refine (hst f' w' V _ hs (fun j x hjx hdx hob => ?_) (fun j x hjx hdx hji => ?_) hH2).mono fun f2 w2 hK => ?_
    · have := hv j x hjx hdx
      rw [if_pos (hwd j hob)] at this
      exact ⟨this, hφ j (List.getElem?_eq_some_iff.1 hjx).1 (hwd j hob)⟩
    · have := hv j x hjx hdx
      have hLj : L j = false := by
        rcases hji with rfl | hji
        · exact hLi
        · cases hLj : L j with
          | false => rfl
          | true => have := hwd2 j x hLj hjx i hji; rw [hLi] at this; cases this
      rw [hLj] at this
      simpa using this
    · obtain ⟨v, rfl, hφv, hH3⟩ := hK
      refine ⟨fun j => if j = i then v else V j, fun t ht => ?_, fun j x hjx hdx => ?_, fun j hj hLj => ?_, fun j oj hLj hoj q hq => ?_, ?_⟩
      · cases hdi : o.dst with
        | none => exact hs t ht
        | some di =>
          have hne : t ≠ di := by
            rintro rfl
            have := mem_dstsK (k := l.length) hol hil hdi
            rw [← List.contains_iff_mem, ht] at this
            cases this
          rw [show updO f' (some di) v = upd f' di v from rfl, upd_ne f' v hne]
          exact hs t ht
      · dsimp only
        by_cases hji : j = i
        · subst hji
          rw [hol] at hjx; cases hjx
          obtain ⟨di, hdi⟩ := Option.isSome_iff_exists.1 hdx
          rw [if_pos (by simp), if_pos rfl, dstD_of hol hdi, hdi]
          exact upd_same f' di v
        · have h1 := hv j x hjx hdx
          obtain ⟨dj, hdj⟩ := Option.isSome_iff_exists.1 hdx
          have h2 : updO f' o.dst v (dstD l j) = f' (dstD l j) := by
            cases hdi : o.dst with
            | none => rfl
            | some di =>
              rw [dstD_of hjx hdj]
              exact upd_ne f' v (dst_ne hN hol hjx hdi hdj (fun e => hji e.symm))
          rw [h2, h1]; simp [hji]
      · dsimp only at hLj ⊢
        by_cases hji : j = i
        · subst hji; rw [if_pos rfl]; exact hφv
        · rw [if_neg hji]
          rw [decide_eq_false hji, Bool.or_false] at hLj
          exact hφ j hj hLj
      · dsimp only at hLj ⊢
        by_cases hji : j = i
        · subst hji
          rw [hol] at hoj; cases hoj
          rw [hdeps q hq]; rfl
        · rw [decide_eq_false hji, Bool.or_false] at hLj
          rw [hC j oj hLj hoj q hq]; rfl
      · refine hH3.perm ?_
        have hL' : ∀ j, liveB l cn (fun k => L k || decide (k = i)) j = true ↔ (j = i ∨ (liveB l cn L j = true ∧ ∀ c, cn j = some c → c ≠ i)) := by
          intro j
          unfold liveB
          simp only [Bool.and_eq_true, Bool.or_eq_true, decide_eq_true_eq]
          constructor
          · rintro ⟨h1, h2⟩
            by_cases hji : j = i
            · exact .inl hji
            · refine .inr ⟨⟨h1.imp (fun h => h) fun h => h.resolve_right hji, ?_⟩, ?_⟩
              · revert h2
                cases cn j with
                | none => intro _; rfl
                | some c => intro h2; simp at h2 ⊢; exact h2.1
              · intro c hc
                rw [hc] at h2
                simp at h2
                exact h2.2
          · rintro (rfl | ⟨⟨h1, h2⟩, h3⟩)
            · refine ⟨.inr (.inr rfl), ?_⟩
              cases hcj : cn j with
              | none => rfl
              | some c =>
                have hcl := hc0 j c hcj
                have hoc : l[c]? = some l[c] := List.getElem?_eq_getElem hcl
                have huc := List.all_eq_true.1 hU c (List.mem_range.2 hcl)
                rw [hoc] at huc
                simp only [okUse, Bool.and_eq_true] at huc
                have hin := List.all_eq_true.1 huc.2 j (List.mem_range.2 (by omega))
                rw [hcj] at hin
                have hin : j ∈ Ds.getD c [] := by
                  have hb : Nat.beq c c = true := Nat.beq_refl c
                  simp only [hb, Bool.not_true, Bool.false_or, List.contains_eq_mem, decide_eq_true_eq] at hin
                  exact hin
                have hdj := List.all_eq_true.1 huc.1.2 j hin
                simp only [Bool.and_eq_true, Bool.or_eq_true] at hdj
                have hon : waits T c j = true := by
                  rcases hdj.1.2 with h | h
                  · have := Nat.le_of_ble_eq_true h; omega
                  · exact h
                have hcj' : c ≠ j := by
                  rintro rfl
                  have := hwd c hon
                  rw [hLi] at this; cases this
                show (!(L c || decide (c = j))) = true
                rw [decide_eq_false hcj', Bool.or_false]
                cases hLc : L c with
                | false => rfl
                | true => have := hwd2 c l[c] hLc hoc j hon; rw [hLi] at this; cases this
            · refine ⟨h1.imp (fun h => h) .inl, ?_⟩
              revert h2 h3
              cases cn j with
              | none => intro _ _; rfl
              | some c =>
                intro h3 h2
                simp at h2 ⊢
                exact ⟨h2, h3 c rfl⟩
        have hp2 : ((List.range m).filter (liveB l cn fun k => L k || decide (k = i))).Perm (keepD cn i D ++ ([i] ++ ((List.range m).filter fun j => liveB l cn L j && !D.contains j))) := by
          refine (List.perm_ext_iff_of_nodup (nodup_fil List.nodup_range) ?_).2 fun j => ?_
          · rw [List.nodup_append]
            refine ⟨nodup_fil hDn, ?_, fun a ha b hb hab => ?_⟩
            · rw [List.singleton_append, List.nodup_cons]
              refine ⟨fun hi => ?_, nodup_fil List.nodup_range⟩
              have := (List.mem_filter.1 hi).2
              simp only [Bool.and_eq_true] at this
              have h1 := this.1
              unfold liveB at h1
              rw [hLi, show Nat.ble l.length i = false from by
                cases hb : Nat.ble l.length i with
                | false => rfl
                | true => have := Nat.le_of_ble_eq_true hb; omega] at h1
              simp at h1
            · subst hab
              have haD := (List.mem_filter.1 ha).1
              rcases List.mem_cons.1 hb with rfl | hb
              · exact hiD haD
              · have := (List.mem_filter.1 hb).2
                simp [haD] at this
          · rw [List.mem_filter, hL', List.mem_range, List.mem_append, List.mem_append, List.mem_singleton, List.mem_filter]
            rw [mem_keepD, List.mem_range]
            simp only [Bool.and_eq_true, Bool.not_eq_true', List.contains_eq_mem, decide_eq_false_iff_not]
            constructor
            · rintro ⟨h1, h2 | ⟨h2, h3⟩⟩
              · exact .inr (.inl h2)
              · by_cases hjD : j ∈ D
                · exact .inl ⟨hjD, h3⟩
                · exact .inr (.inr ⟨h1, h2, hjD⟩)
            · rintro (⟨h1, h2⟩ | rfl | ⟨h1, h2, h3⟩)
              · exact ⟨(hDl j h1).1, .inr ⟨(hDl j h1).2, h2⟩⟩
              · exact ⟨by omega, .inl rfl⟩
              · refine ⟨h1, .inr ⟨h2, fun c hc hci => ?_⟩⟩
                subst hci
                have hin := List.all_eq_true.1 hDc j (List.mem_range.2 h1)
                rw [hc] at hin
                have hb : Nat.beq c c = true := Nat.beq_refl c
                simp only [hb, Bool.not_true, Bool.false_or, List.contains_eq_mem, decide_eq_true_eq] at hin
                exact h3 hin
        refine List.Perm.append_left _ ?_
        unfold segsM
        refine (hp2.flatMap_right _).trans ?_
        rw [List.flatMap_append, List.flatMap_append, List.flatMap_singleton]
        have hcongr : ∀ A : List Nat, i ∉ A → (∀ a ∈ A, waits T a i = false) → A.flatMap (fun j => its j (mask T j (fun k => if k = i then v else V k))) = A.flatMap fun j => its j (mask T j V) := by
          intro A hA hW
          induction A with
          | nil => rfl
          | cons a A ihA =>
            rw [List.flatMap_cons, List.flatMap_cons, ihA (fun h => hA (List.mem_cons_of_mem _ h)) (fun b hb => hW b (List.mem_cons_of_mem _ hb)), mask_up (fun (e : a = i) => hA (e ▸ List.mem_cons_self)) (hW a List.mem_cons_self)]
        have hlive : ∀ a, liveB l cn L a = true → waits T a i = false := by
          intro a ha
          cases hw9 : waits T a i with
          | false => rfl
          | true =>
            exfalso
            unfold liveB at ha
            rw [Bool.and_eq_true, Bool.or_eq_true] at ha
            rcases ha.1 with h | h
            · have h := Nat.le_of_ble_eq_true h
              unfold waits at hw9
              rw [List.getD_eq_getElem?_getD, List.getElem?_eq_none (by omega)] at hw9
              simp at hw9
            · have hal := hLlt a h
              have := hwd2 a l[a] h (List.getElem?_eq_getElem hal) i hw9
              rw [hLi] at this; cases this
        rw [hcongr (keepD cn i D) (fun h => hiD (List.mem_filter.1 h).1) (fun a ha => hlive a (hDl a (List.mem_filter.1 ha).1).2), hcongr _ ?_ (fun a ha => hlive a (by have := (List.mem_filter.1 ha).2; rw [Bool.and_eq_true] at this; exact this.1))]
        intro hi
        have := (List.mem_filter.1 hi).2
        simp only [Bool.and_eq_true] at this
        have h1 := this.1
        unfold liveB at h1
        rw [hLi, show Nat.ble l.length i = false from by
          cases hb : Nat.ble l.length i with
          | false => rfl
          | true => have := Nat.le_of_ble_eq_true hb; omega] at h1
        simp at h1
  · rintro f' w' ⟨V, hs, hv, hφ, -, hH⟩
    refine hend f' w' V hs (fun j x hjx hdx => ?_) ?_
    · have hjl := (List.getElem?_eq_some_iff.1 hjx).1
      have := hv j x hjx hdx
      rw [if_pos (decide_eq_true hjl)] at this
      exact ⟨this, hφ j hjl (decide_eq_true hjl)⟩
    · have : segsM l cn T its m (fun k => decide (k < l.length)) V = ((List.range m).filter (fun j => (cn j).isNone)).flatMap fun j => its j (mask T j V) := by
        unfold segsM
        congr 1
        refine List.filter_congr fun j hj => ?_
        unfold liveB
        have h1 : (Nat.ble l.length j || decide (j < l.length)) = true := by
          rw [Bool.or_eq_true, decide_eq_true_eq]
          by_cases h : j < l.length
          · exact .inr h
          · exact .inl (Nat.ble_eq_true_of_le (by omega))
        rw [h1, Bool.true_and]
        cases hcj : cn j with
        | none => rfl
        | some c =>
          have := hc0 j c hcj
          simp [this]
      rw [← this]; exact hH
end
theorem mask_undef (T : List Nat) (j : Nat) : mask T j (fun _ => undef) = fun _ => undef := by
  funext k; rw [mask_eq]; split <;> rfl
theorem drgML {P : Program} {n : Nat} {l : List Oper} {id : Nat} {Q : Exit → Act → World → Prop} {f : Slots} {w : World} {M0 : Nat → Prop} {w0 : World} (cnL : List (Option Nat)) (T : List Nat) (itsL : List ((Nat → Value) → List Item)) (Ds : List (List Nat)) (ΦL : List (Value → Prop)) (base : List Item)
    (hm : P.follows .mixedOrders = true) (hok : okG n l (fun j => cnL.getD j none) T itsL.length Ds = true) (hTl : Nat.ble T.length l.length = true) (hc : cnL.all (fun c => match c with | none => true | some i => Nat.blt i l.length) = true)
    (hH : HI M0 w0 w (base ++ ((itsL.drop l.length).flatMap fun g => g (fun _ => undef))))
    (hS : GStepsM P n l (fun j => cnL.getD j none) T (fun j => itsL.getD j (fun _ => [])) (fun j => ΦL.getD j (fun _ => True)) f M0 w0 base Ds 0 l)
    (hend : ∀ (f' : Slots) (w' : World) (V : Nat → Value), (∀ t, (dstsK l.length l).contains t = false → f' t = f t) → (∀ j x, l[j]? = some x → x.dst.isSome = true → f' (dstD l j) = V j ∧ (ΦL.getD j (fun _ => True)) (V j)) → HI M0 w0 w' (base ++ ((List.range itsL.length).filter (fun j => (cnL.getD j none).isNone)).flatMap fun j => (itsL.getD j (fun _ => [])) (mask T j V)) → Q .normal (acts n f') w') :
    WC P n (.region id l.toArray true) Q f w := by
  have hlm : l.length ≤ itsL.length := by
    simp only [okG, Bool.and_eq_true] at hok
    exact Nat.le_of_ble_eq_true hok.1.2
  refine drgM (fun j => cnL.getD j none) T (fun j => itsL.getD j (fun _ => [])) itsL.length Ds (fun j => ΦL.getD j (fun _ => True)) base (fun _ => undef) hm hok (Nat.le_of_ble_eq_true hTl) ?_ (hc_of hc) hS hend
  simp only [mask_undef]
  have key : ∀ (L : List ((Nat → Value) → List Item)) (k s : Nat), ((List.range' s L.length).filter (fun j => Nat.ble k j)).flatMap (fun j => ((List.replicate s (fun _ => [])) ++ L).getD j (fun _ => []) (fun _ => undef)) = (L.drop (k - s)).flatMap fun g => g (fun _ => undef) := by
    intro L
    induction L with
    | nil => intro k s; simp
    | cons g L ih =>
      intro k s
      have hrep : List.replicate s (fun _ : Nat → Value => ([] : List Item)) ++ g :: L = (List.replicate s (fun _ : Nat → Value => ([] : List Item)) ++ [g]) ++ L := by simp
      have hget : ∀ j ∈ List.range' (s + 1) L.length, (List.replicate s (fun _ : Nat → Value => ([] : List Item)) ++ g :: L).getD j (fun _ => []) (fun _ => undef) = (List.replicate (s + 1) (fun _ : Nat → Value => ([] : List Item)) ++ L).getD j (fun _ => []) (fun _ => undef) := by
        intro j hj
        have hj := (List.mem_range'_1.1 hj).1
        rw [List.getD_eq_getElem?_getD, List.getD_eq_getElem?_getD, hrep, List.getElem?_append_right (by simp; omega), List.getElem?_append_right (by simp; omega)]
        simp
      have hfm : ∀ A : List Nat, (∀ j ∈ A, j ∈ List.range' (s + 1) L.length) → A.flatMap (fun j => (List.replicate s (fun _ : Nat → Value => ([] : List Item)) ++ g :: L).getD j (fun _ => []) (fun _ => undef)) = A.flatMap fun j => (List.replicate (s + 1) (fun _ : Nat → Value => ([] : List Item)) ++ L).getD j (fun _ => []) (fun _ => undef) := by
        intro A hA
        induction A with
        | nil => rfl
        | cons a A ihA => rw [List.flatMap_cons, List.flatMap_cons, ihA fun j hj => hA j (List.mem_cons_of_mem _ hj), hget a (hA a List.mem_cons_self)]
      rw [List.length_cons, List.range'_succ, List.filter_cons]
      by_cases hk : Nat.ble k s = true
      · have hks := Nat.le_of_ble_eq_true hk
        rw [if_pos hk, List.flatMap_cons, hfm _ fun j hj => (List.mem_filter.1 hj).1, ih k (s + 1), show k - s = 0 from by omega, show k - (s + 1) = 0 from by omega, List.drop_zero, List.drop_zero, List.flatMap_cons]
        congr 1
        rw [List.getD_eq_getElem?_getD, List.getElem?_append_right (by simp)]
        simp
      · have hks : ¬ k ≤ s := fun h => hk (Nat.ble_eq_true_of_le h)
        rw [if_neg hk, hfm _ fun j hj => (List.mem_filter.1 hj).1, ih k (s + 1), show k - s = (k - (s + 1)) + 1 from by omega, List.drop_succ_cons]
  have := key itsL l.length 0
  rw [List.replicate_zero, List.nil_append, Nat.sub_zero, ← List.range_eq_range'] at this
  rw [this]
  exact hH
end Go.Ew
namespace Go.Ew
set_option linter.unusedVariables false
set_option linter.unusedSimpArgs false
end Go.Ew
namespace Go.Ew
set_option linter.unusedVariables false
set_option linter.unusedSimpArgs false
def frI (its : List ItemL) (x : ItemL) : Int := if x.2.2.1 then -3 else if x.2.2.2.2 = 0 then -1 else if 0 ≤ wrI its x.2.2.2.1 x.2.2.2.2 then max (wrI its x.2.2.2.1 x.2.2.2.2) 0 else -2
def fromR (its : List ItemL) : List Int := its.map (frI its)
theorem frI_w {its : List ItemL} {x : ItemL} (hw : x.2.2.1 = true) : (-3 : Int) = frI its x := by unfold frI; simp [hw]
theorem frI_0 {its : List ItemL} {x : ItemL} (hw : x.2.2.1 = false) (h0 : x.2.2.2.2 = 0) : (-1 : Int) = frI its x := by unfold frI; simp [hw, h0]
theorem frI_s {its : List ItemL} {x : ItemL} (hw : x.2.2.1 = false) (h0 : ¬ x.2.2.2.2 = 0) (hs : decide (0 ≤ wrI its x.2.2.2.1 x.2.2.2.2) = true) : max (wrI its x.2.2.2.1 x.2.2.2.2) 0 = frI its x := by unfold frI; simp only [hw, h0, of_decide_eq_true hs]; rfl
theorem frI_n {its : List ItemL} {x : ItemL} (hw : x.2.2.1 = false) (h0 : ¬ x.2.2.2.2 = 0) (hs : decide (0 ≤ wrI its x.2.2.2.1 x.2.2.2.2) = false) : (-2 : Int) = frI its x := by unfold frI; simp only [hw, h0, of_decide_eq_false hs]; rfl
theorem fromR_step {its : List ItemL} {j : Nat} {x : ItemL} {v : Int} (hx : its[((j : Nat) : Int).toNat]? = some x) (hv : v = frI its x) : (its.take j).map (frI its) ++ [v] = (its.take (j + 1)).map (frI its) := by
  rw [take_at hx, List.map_append, hv]; rfl
end Go.Ew
namespace Go.Ew
set_option linter.unusedVariables false
set_option linter.unusedSimpArgs false
theorem fromR_len (its : List ItemL) : (fromR its).length = its.length := by unfold fromR; simp
end Go.Ew
namespace Go.Ew
set_option linter.unusedVariables false
set_option linter.unusedSimpArgs false
def rowP (n : Nat) (p : Nat → Bool) : Row := (((List.range n).filter p).map fun k => ((k : Nat) : Int)).foldl setR (newR ((n : Nat) : Int))
theorem words_nat (n : Nat) : words ((n : Nat) : Int) = (n + 63) / 64 := by unfold words; omega
theorem rowP_len (n : Nat) (p : Nat → Bool) : (rowP n p).length = words ((n : Nat) : Int) := by unfold rowP; rw [foldl_setR_length, newR_length]
theorem inR_newR {n : Nat} {i : Int} (h0 : 0 ≤ i) (h : i < ((n : Nat) : Int)) : inR (newR ((n : Nat) : Int)) i = true := inR_of h0 (by rw [newR_length, words_nat]; omega)
theorem rowP_has (n : Nat) (p : Nat → Bool) (i : Int) : hasR (rowP n p) i = (decide (0 ≤ i) && decide (i < ((n : Nat) : Int)) && p i.toNat) := by
  unfold rowP
  rw [foldl_setR_has, newR_has, Bool.false_or, Bool.eq_iff_iff]
  simp only [List.any_eq_true, List.mem_map, List.mem_filter, List.mem_range, Bool.and_eq_true, decide_eq_true_eq]
  constructor
  · rintro ⟨z, ⟨k, ⟨hk, hp⟩, rfl⟩, rfl, -⟩
    exact ⟨⟨by omega, by omega⟩, by simpa using hp⟩
  · rintro ⟨⟨h0, h1⟩, hp⟩
    exact ⟨i, ⟨i.toNat, ⟨by omega, hp⟩, by omega⟩, rfl, inR_newR h0 h1⟩
theorem row_is {r : Row} {n : Nat} {p : Nat → Bool} (hl : r.length = words ((n : Nat) : Int)) (h : ∀ k : Nat, hasR r ((k : Nat) : Int) = (decide (k < n) && p k)) : r = rowP n p := by
  refine row_ext (by rw [hl, rowP_len]) fun k => ?_
  rw [h, rowP_has]
  simp
theorem rowP_congr {n : Nat} {p q : Nat → Bool} (h : ∀ k, k < n → p k = q k) : rowP n p = rowP n q :=
  row_is (rowP_len n p) fun k => by
    rw [rowP_has]
    by_cases hk : k < n
    · simp [hk, h k hk]
    · simp [hk]
theorem newR_rowP (n : Nat) : newR ((n : Nat) : Int) = rowP n fun _ => false := row_is (newR_length _) fun k => by rw [newR_has]; simp
theorem setR_rowP {n : Nat} {p : Nat → Bool} {j : Int} (h0 : 0 ≤ j) (h1 : j < ((n : Nat) : Int)) : setR (rowP n p) j = rowP n fun k => p k || decide (k = j.toNat) := by
  refine row_is (by rw [setR_length, rowP_len]) fun k => ?_
  rw [hasR_setR, rowP_has]
  have hin : inR (rowP n p) j = true := inR_of h0 (by rw [rowP_len, words_nat]; omega)
  rw [hin, Bool.and_true, Bool.eq_iff_iff]
  simp only [Bool.or_eq_true, Bool.and_eq_true, decide_eq_true_eq, Int.toNat_natCast]
  constructor
  · rintro (⟨⟨h2, h3⟩, h4⟩ | h2)
    · exact ⟨by omega, .inl h4⟩
    · exact ⟨by omega, .inr (by omega)⟩
  · rintro ⟨h2, h3 | h3⟩
    · exact .inl ⟨⟨by omega, by omega⟩, h3⟩
    · exact .inr (by omega)
def matP (n : Nat) (p : Nat → Nat → Bool) : Rows := (List.range n).map fun i => rowP n (p i)
theorem matP_len (n : Nat) (p : Nat → Nat → Bool) : (matP n p).length = n := by unfold matP; simp
theorem matP_at {n : Nat} {p : Nat → Nat → Bool} {i : Nat} {x : Row} (h : (matP n p)[i]? = some x) : i < n ∧ x = rowP n (p i) := by
  unfold matP at h
  rw [List.getElem?_map] at h
  cases hr : (List.range n)[i]? with
  | none => rw [hr] at h; cases h
  | some k =>
    rw [hr] at h
    obtain ⟨h1, h2⟩ := List.getElem?_eq_some_iff.1 hr
    simp at h1 h2
    subst h2
    exact ⟨h1, (Option.some.inj h).symm⟩
theorem matP_get {n : Nat} {p : Nat → Nat → Bool} {i : Nat} (h : i < n) : (matP n p)[i]? = some (rowP n (p i)) := by
  unfold matP; rw [List.getElem?_map, List.getElem?_range h]; rfl
theorem mat_is {rs : Rows} {n : Nat} {p : Nat → Nat → Bool} (hl : rs.length = n) (h : ∀ i, i < n → rs[i]? = some (rowP n (p i))) : rs = matP n p := by
  apply List.ext_getElem?
  intro i
  by_cases hi : i < n
  · rw [h i hi, matP_get hi]
  · rw [List.getElem?_eq_none (by omega), List.getElem?_eq_none (by rw [matP_len]; omega)]
theorem matP_congr {n : Nat} {p q : Nat → Nat → Bool} (h : ∀ i j, i < n → j < n → p i j = q i j) : matP n p = matP n q :=
  mat_is (matP_len n p) fun i hi => by rw [matP_get hi, rowP_congr fun j hj => h i j hi hj]
theorem newM_matP (n : Nat) : newM ((n : Nat) : Int) = matP n fun _ _ => false := by
  refine mat_is (by rw [newM_length]; simp) fun i hi => ?_
  unfold newM
  rw [List.getElem?_replicate, if_pos (by simpa using hi), newR_rowP]
theorem matP_set {n : Nat} {p : Nat → Nat → Bool} {i : Nat} {q : Nat → Bool} : (matP n p).set i (rowP n q) = matP n fun a b => if a = i then q b else p a b := by
  refine mat_is (by rw [List.length_set, matP_len]) fun k hk => ?_
  rw [List.getElem?_set]
  by_cases e : i = k
  · subst e
    rw [if_pos rfl, if_pos (by rw [matP_len]; exact hk)]
    congr 1
    exact rowP_congr fun j _ => by simp
  · rw [if_neg e, matP_get hk]
    congr 1
    exact rowP_congr fun j _ => by rw [if_neg fun e2 => e e2.symm]
theorem rowAt_matP {n : Nat} {p : Nat → Nat → Bool} {i : Int} (h0 : 0 ≤ i) (h : i < ((n : Nat) : Int)) : rowAt (matP n p) i = rowP n (p i.toNat) := rowAt_of (matP_get (by omega))
theorem setM_matP {n : Nat} {p : Nat → Nat → Bool} {i j : Int} (hi : inM ((n : Nat) : Int) [i, j] = true) : setM (matP n p) (i, j) = matP n fun a b => p a b || (decide (a = i.toNat) && decide (b = j.toNat)) := by
  obtain ⟨⟨h1, h2⟩, h3, h4⟩ := inM_two.1 hi
  unfold setM
  dsimp only
  rw [rowAt_matP h1 h2, setR_rowP h3 h4, matP_set]
  refine matP_congr fun a b ha hb => ?_
  by_cases e : a = i.toNat
  · subst e; simp
  · simp [e]
theorem matP_rows {n : Nat} {p : Nat → Nat → Bool} : ∀ x ∈ matP n p, x.length = words ((n : Nat) : Int) := by
  intro x hx
  obtain ⟨i, hi⟩ := List.mem_iff_getElem?.1 hx
  rw [(matP_at hi).2, rowP_len]
theorem matP_small {n : Nat} {p : Nat → Nat → Bool} (h : n ≤ 4096) : ∀ x ∈ matP n p, x.length ≤ 1000000000 := by
  intro x hx
  rw [matP_rows x hx, words_nat]; omega
end Go.Ew
namespace Go.Ew
set_option linter.unusedVariables false
set_option linter.unusedSimpArgs false
abbrev item0 : ItemL := (0, 0, false, 0, 0)
def sesN (its : List ItemL) (i : Nat) : Int := (its.getD i item0).1
def plcN (its : List ItemL) (i : Nat) : Int := (its.getD i item0).2.1
theorem item_getI {its : List ItemL} {i : Int} {x : ItemL} (h : its[i.toNat]? = some x) : its.getD i.toNat item0 = x := by rw [List.getD_eq_getElem?_getD, h]; rfl
theorem ses_atI {its : List ItemL} {i : Int} {x : ItemL} (h : its[i.toNat]? = some x) : sesN its i.toNat = x.1 := by unfold sesN; rw [item_getI h]
theorem plc_atI {its : List ItemL} {i : Int} {x : ItemL} (h : its[i.toNat]? = some x) : plcN its i.toNat = x.2.1 := by unfold plcN; rw [item_getI h]
structure OrdI (its : List ItemL) : Prop where
  first : 0 < its.length → plcN its 0 = 0
  next : ∀ i, i + 1 < its.length → (sesN its (i + 1) = sesN its i ∧ plcN its (i + 1) = plcN its i + 1) ∨ (sesN its i < sesN its (i + 1) ∧ plcN its (i + 1) = 0)
section
variable {its : List ItemL} (o : OrdI its)
include o
theorem OrdI.le : ∀ (d i : Nat), i + d < its.length → sesN its i ≤ sesN its (i + d)
  | 0, i, h => Int.le_refl _
  | d + 1, i, h => by
    have h1 := OrdI.le d i (by omega)
    have h2 := o.next (i + d) (by omega)
    rw [show i + (d + 1) = i + d + 1 from rfl]; omega
theorem OrdI.mono {i j : Nat} (hij : i ≤ j) (h : j < its.length) : sesN its i ≤ sesN its j := by
  have := o.le (j - i) i (by omega)
  rwa [show i + (j - i) = j from by omega] at this
theorem OrdI.place : ∀ (d i : Nat), i + d < its.length → sesN its i = sesN its (i + d) → plcN its (i + d) = plcN its i + ((d : Nat) : Int)
  | 0, i, h, _ => by simp
  | d + 1, i, h, hs => by
    have h1 := o.mono (i := i) (j := i + d) (by omega) (by omega)
    have h2 := o.mono (i := i + d) (j := i + (d + 1)) (by omega) h
    have h3 := o.next (i + d) (by omega)
    have e : i + (d + 1) = i + d + 1 := rfl
    rw [e] at hs h2 ⊢
    have ih := OrdI.place d i (by omega) (by omega)
    omega
theorem OrdI.nonneg : ∀ i, i < its.length → 0 ≤ plcN its i
  | 0, h => by rw [o.first h]; exact Int.le_refl _
  | i + 1, h => by
    have := OrdI.nonneg i (by omega)
    have := o.next i h
    omega
theorem OrdI.back : ∀ i, i < its.length → plcN its i ≤ ((i : Nat) : Int) ∧ ∀ k, ((i : Nat) : Int) - plcN its i ≤ ((k : Nat) : Int) → k ≤ i → sesN its k = sesN its i
  | 0, h => by
    rw [o.first h]
    exact ⟨by omega, fun k _ hk => by rw [show k = 0 from by omega]⟩
  | i + 1, h => by
    obtain ⟨h1, h2⟩ := OrdI.back i (by omega)
    have h0 := o.nonneg (i + 1) h
    rcases o.next i h with ⟨hs, hp⟩ | ⟨hs, hp⟩
    · refine ⟨by omega, fun k hk hki => ?_⟩
      by_cases e : k = i + 1
      · rw [e]
      · rw [hs]; exact h2 k (by omega) (by omega)
    · refine ⟨by omega, fun k hk hki => ?_⟩
      rw [show k = i + 1 from by omega]
end
theorem ord_snoc {its : List ItemL} (o : OrdI its) {x : ItemL} (h0 : its.length = 0 → x.2.1 = 0) (h : ∀ n, its.length = n + 1 → (x.1 = sesN its n ∧ x.2.1 = plcN its n + 1) ∨ (sesN its n < x.1 ∧ x.2.1 = 0)) : OrdI (its ++ [x]) := by
  have hold : ∀ i, i < its.length → (its ++ [x]).getD i item0 = its.getD i item0 := by
    intro i hi
    rw [List.getD_eq_getElem?_getD, List.getD_eq_getElem?_getD, List.getElem?_append_left hi]
  have hnew : (its ++ [x]).getD its.length item0 = x := by
    rw [List.getD_eq_getElem?_getD, List.getElem?_append_right (Nat.le_refl _)]; simp
  refine ⟨fun hl => ?_, fun i hi => ?_⟩
  · by_cases e : its.length = 0
    · have := hnew
      rw [e] at this
      unfold plcN; rw [this]; exact h0 e
    · have := o.first (by omega)
      unfold plcN at this ⊢
      rw [hold 0 (by omega)]; exact this
  · rw [List.length_append, List.length_singleton] at hi
    by_cases e : i + 1 < its.length
    · have := o.next i e
      unfold sesN plcN at this ⊢
      rw [hold i (by omega), hold (i + 1) e]; exact this
    · have e2 : its.length = i + 1 := by omega
      have := h i e2
      unfold sesN plcN at this ⊢
      rw [hold i (by omega), ← e2, hnew]
      rcases this with ⟨a, b⟩ | ⟨a, b⟩
      · exact .inl ⟨a, b⟩
      · exact .inr ⟨a, b⟩
def Below_ (its : List ItemL) (j : Nat) : Prop := ∀ x ∈ its, x.1 < ((j : Nat) : Int)
theorem last_get {its : List ItemL} {n : Nat} (h : its.length = n + 1) : its.getD n item0 ∈ its := by
  rw [List.getD_eq_getElem?_getD, List.getElem?_eq_getElem (by omega)]
  exact List.getElem_mem _
theorem toO_ord {j : Nat} {st : StO} {ops : List OpL} (o : OrdI st.2) (hb : Below_ st.2 j) : ∀ k, k ≤ ops.length →
    OrdI (toO j st ops k).2 ∧ Below_ (toO j st ops k).2 (j + 1) ∧ (0 < k → ∃ n, (toO j st ops k).2.length = n + 1 ∧ sesN (toO j st ops k).2 n = ((j : Nat) : Int) ∧ plcN (toO j st ops k).2 n = ((k : Nat) : Int) - 1)
  | 0, _ => by
    rw [toO_zero]
    exact ⟨o, fun x hx => by have := hb x hx; omega, fun h => (by omega)⟩
  | k + 1, hk => by
    obtain ⟨ho, hbl, hlast⟩ := toO_ord (ops := ops) o hb k (by omega)
    have hx : ops[((k : Nat) : Int).toNat]? = some ops[k] := by rw [Int.toNat_natCast]; exact List.getElem?_eq_getElem (by omega)
    rw [toO_step hx]
    unfold stepO
    dsimp only
    refine ⟨ord_snoc ho (fun h0 => ?_) (fun n hn => ?_), ?_, fun _ => ⟨(toO j st ops k).2.length, by simp, ?_, ?_⟩⟩
    · show ((k : Nat) : Int) = 0
      by_cases hk0 : 0 < k
      · obtain ⟨n, h1, -⟩ := hlast hk0
        omega
      · omega
    · show (((j : Nat) : Int) = _ ∧ ((k : Nat) : Int) = _) ∨ (_ < ((j : Nat) : Int) ∧ ((k : Nat) : Int) = 0)
      by_cases hk0 : 0 < k
      · obtain ⟨n', h1, h2, h3⟩ := hlast hk0
        obtain rfl : n = n' := by omega
        exact .inl ⟨h2.symm, by rw [h3]; omega⟩
      · right
        have hk0 : k = 0 := by omega
        subst hk0
        rw [toO_zero] at hn ⊢
        exact ⟨hb _ (last_get hn), rfl⟩
    · intro x hxm
      rcases List.mem_append.1 hxm with h | h
      · exact hbl x h
      · rw [List.mem_singleton] at h
        subst h
        show ((j : Nat) : Int) < _
        omega
    · unfold sesN
      rw [List.getD_eq_getElem?_getD, List.getElem?_append_right (Nat.le_refl _)]; simp
    · unfold plcN
      rw [List.getD_eq_getElem?_getD, List.getElem?_append_right (Nat.le_refl _)]
      simp
theorem allO_ord (h : HistL) : ∀ j, j ≤ h.length → OrdI (allO h j).2 ∧ Below_ (allO h j).2 j
  | 0, _ => ⟨⟨fun h => (by simp [allO] at h), fun i hi => (by simp [allO] at hi)⟩, fun x hx => (by simp [allO] at hx)⟩
  | j + 1, hj => by
    obtain ⟨ho, hb⟩ := allO_ord h j (by omega)
    have hx : h[((j : Nat) : Int).toNat]? = some h[j] := by rw [Int.toNat_natCast]; exact List.getElem?_eq_getElem (by omega)
    rw [allO_step hx]
    have := toO_ord (ops := h[j]) ho hb _ (Nat.le_refl _)
    exact ⟨this.1, this.2.1⟩
theorem factI_ord (h : HistL) : OrdI (factI h) := (allO_ord h h.length (Nat.le_refl _)).1
theorem ofI_ord (h : HistL) : OrdI (ofI h) := by
  unfold ofI; split
  · exact factI_ord h
  · exact ⟨fun h => (by simp at h), fun i hi => (by simp at hi)⟩
def ahN (its : List ItemL) (i j : Nat) : Bool := decide (i < j) && decide (j < its.length) && decide (sesN its i = sesN its j)
def ahA (its : List ItemL) (i j : Int) : Bool := decide (0 ≤ i) && decide (j < (its.length : Int)) && decide (i < j) && decide (sesN its i.toNat = sesN its j.toNat)
def poR (its : List ItemL) : Rows := matP its.length (ahN its)
def poTo (its : List ItemL) (t : Int) : Rows := matP its.length fun a b => decide (t < ((a : Nat) : Int)) && ahN its a b
theorem poTo_start (its : List ItemL) (t : Int) (h : (its.length : Int) - 2 = t) : newM (its.length : Int) = poTo its t := by
  rw [newM_matP]
  refine matP_congr fun a b ha hb => ?_
  unfold ahN
  rw [Bool.eq_iff_iff]
  simp only [Bool.and_eq_true, decide_eq_true_eq, Bool.false_eq_true, false_iff]
  omega
theorem poTo_end {its : List ItemL} {t : Int} (h : t < 0) : poTo its t = poR its := by
  refine matP_congr fun a b ha hb => ?_
  rw [decide_eq_true (by omega)]; rfl
theorem poTo_same {its : List ItemL} {t : Int} (h0 : 0 ≤ t) (h1 : t + 1 < (its.length : Int)) (hs : sesN its t.toNat = sesN its (t + 1).toNat) {x : Row} (hx : (poTo its t)[(t + 1).toNat]? = some x) :
    (poTo its t).set t.toNat (setR x (t + 1)) = poTo its (t - 1) := by
  unfold poTo at *
  obtain ⟨h2, rfl⟩ := matP_at hx
  rw [setR_rowP (by omega) h1, matP_set]
  refine matP_congr fun a b ha hb => ?_
  have e : (t + 1).toNat = t.toNat + 1 := by omega
  rw [e] at hs ⊢
  by_cases ea : a = t.toNat
  · subst ea
    rw [if_pos rfl]
    unfold ahN
    rw [Bool.eq_iff_iff]
    simp only [Bool.and_eq_true, Bool.or_eq_true, decide_eq_true_eq]
    constructor
    · rintro (⟨_, ⟨h3, h4⟩, h5⟩ | h3)
      · exact ⟨by omega, ⟨by omega, h4⟩, by rw [hs, h5]⟩
      · subst h3; exact ⟨by omega, ⟨by omega, by omega⟩, hs⟩
    · rintro ⟨_, ⟨h3, h4⟩, h5⟩
      by_cases e2 : b = t.toNat + 1
      · exact .inr e2
      · exact .inl ⟨by omega, ⟨by omega, h4⟩, by rw [← hs, h5]⟩
  · rw [if_neg ea, show decide (t < ((a : Nat) : Int)) = decide (t - 1 < ((a : Nat) : Int)) from by rw [decide_eq_decide]; omega]
theorem poTo_other {its : List ItemL} (o : OrdI its) {t : Int} (h0 : 0 ≤ t) (h1 : t + 1 < (its.length : Int)) (hs : ¬ sesN its t.toNat = sesN its (t + 1).toNat) : poTo its t = poTo its (t - 1) := by
  refine matP_congr fun a b ha hb => ?_
  have e : (t + 1).toNat = t.toNat + 1 := by omega
  rw [e] at hs
  by_cases ea : a = t.toNat
  · subst ea
    rw [decide_eq_false (by omega), Bool.false_and]
    symm
    unfold ahN
    rw [Bool.and_eq_false_iff]
    right
    rw [Bool.and_eq_false_iff]
    by_cases hb2 : t.toNat < b
    · right
      rw [decide_eq_false_iff_not]
      intro he
      have g1 := o.mono (i := t.toNat) (j := t.toNat + 1) (by omega) (by omega)
      have g2 := o.mono (i := t.toNat + 1) (j := b) (by omega) (by omega)
      omega
    · left
      rw [decide_eq_false (by omega)]; rfl
  · rw [show decide (t < ((a : Nat) : Int)) = decide (t - 1 < ((a : Nat) : Int)) from by rw [decide_eq_decide]; omega]
def pastA (its : List ItemL) (t : Int) : List Int := if 0 ≤ t ∧ t < (its.length : Int) then (List.range ((plcN its t.toNat).toNat + 1)).map fun q => (t - plcN its t.toNat) + ((q : Nat) : Int) else []
def pastTo (f : Int) (q : Nat) : List Int := (List.range q).map fun k => f + ((k : Nat) : Int)
theorem pastTo_step (f : Int) (q : Nat) : pastTo f q ++ [f + ((q : Nat) : Int)] = pastTo f (q + 1) := by unfold pastTo; rw [List.range_succ, List.map_append]; rfl
theorem pastTo_len (f : Int) (q : Nat) : (pastTo f q).length = q := by unfold pastTo; simp
theorem ahA_no {its : List ItemL} {i j : Int} (h : ¬ (0 ≤ i ∧ j < (its.length : Int) ∧ i < j)) : false = ahA its i j := by
  unfold ahA; symm; simp only [Bool.and_eq_false_iff, decide_eq_false_iff_not]; omega
theorem ahA_yes {its : List ItemL} {i j : Int} {x y : ItemL} (h0 : 0 ≤ i) (h1 : j < (its.length : Int)) (h2 : i < j) (hx : its[i.toNat]? = some x) (hy : its[j.toNat]? = some y) : decide (x.1 = y.1) = ahA its i j := by
  unfold ahA; rw [decide_eq_true h0, decide_eq_true h1, decide_eq_true h2, ses_atI hx, ses_atI hy]; rfl
theorem pastA_no {its : List ItemL} {t : Int} (h : ¬ (0 ≤ t ∧ t < (its.length : Int))) : ([] : List Int) = pastA its t := by unfold pastA; rw [if_neg h]
theorem pastA_yes {its : List ItemL} {t : Int} {x : ItemL} {q : Nat} (h0 : 0 ≤ t) (h : t < (its.length : Int)) (hx : its[t.toNat]? = some x) (hp : 0 ≤ x.2.1) (hq : ((q : Nat) : Int) = x.2.1 + 1) : pastTo (t - x.2.1) q = pastA its t := by
  unfold pastA pastTo
  rw [if_pos ⟨h0, h⟩, plc_atI hx, show x.2.1.toNat + 1 = q from by omega]
theorem poR_len (its : List ItemL) : (poR its).length = its.length := matP_len _ _
theorem poTo_row {its : List ItemL} {t : Int} {i : Nat} {x : Row} (h : (poTo its t)[i]? = some x) : x.length = words ((its.length : Nat) : Int) := by rw [(matP_at h).2, rowP_len]
theorem words_small {n : Nat} (h : n ≤ 4096) : words ((n : Nat) : Int) ≤ 64 := by rw [words_nat]; omega
end Go.Ew
namespace Go.Ew
set_option linter.unusedVariables false
set_option linter.unusedSimpArgs false
def rowOk (n : Int) (r : Row) : Bool := decide (((r.length : Nat) : Int) = ((words n : Nat) : Int)) && (List.range (64 * r.length)).all fun k => decide (((k : Nat) : Int) < n) || !hasR r ((k : Nat) : Int)
def rightS (n : Int) (rs : Rows) : Bool := okN n && decide (((rs.length : Nat) : Int) = n) && rs.all (rowOk n)
theorem rowOk_yes {n : Int} {r : Row} {j : Int} (hl : ((r.length : Nat) : Int) = ((words n : Nat) : Int)) (h : ∀ k : Int, n ≤ k → k < j → hasR r k = false) (hj : 64 * ((r.length : Nat) : Int) ≤ j) : rowOk n r = true := by
  unfold rowOk
  rw [decide_eq_true hl, Bool.true_and, List.all_eq_true]
  intro k hk
  have := List.mem_range.1 hk
  by_cases hn : ((k : Nat) : Int) < n
  · rw [decide_eq_true hn]; rfl
  · rw [h _ (by omega) (by omega)]; simp
theorem right_end_ {n : Int} {rs : Rows} {j : Nat} (h0 : 0 ≤ n) (h1 : n ≤ 4096) (h2 : ((rs.length : Nat) : Int) = n) (hs : (rs.take j).all (rowOk n) = true) (hj : rs.length ≤ j) : true = rightS n rs := by
  unfold rightS; rw [take_end hj] at hs; rw [okN_iff.2 ⟨h0, h1⟩, decide_eq_true h2, hs]; rfl
theorem right_matP {n : Nat} {p : Nat → Nat → Bool} (h : n ≤ 4096) : rightS ((n : Nat) : Int) (matP n p) = true := by
  refine (right_end_ (j := (matP n p).length) (by omega) (by omega) (by rw [matP_len]) ?_ (Nat.le_refl _)).symm
  rw [List.take_length, List.all_eq_true]
  intro x hx
  obtain ⟨i, hi⟩ := List.mem_iff_getElem?.1 hx
  obtain ⟨h1, rfl⟩ := matP_at hi
  refine rowOk_yes (j := 64 * (((rowP n (p i)).length : Nat) : Int)) (by rw [rowP_len]) (fun k hk hk2 => ?_) (Int.le_refl _)
  rw [rowP_has, decide_eq_false (show ¬ k < ((n : Nat) : Int) from by omega)]; simp
def rowsP (rs : Rows) (i : Nat) : List (Int × Int) := (listR (rowAt rs ((i : Nat) : Int))).map fun j => (((i : Nat) : Int), j)
def pairsTo (rs : Rows) (i : Nat) : List (Int × Int) := (List.range i).flatMap (rowsP rs)
def pairsM (n : Int) (rs : Rows) : List (Int × Int) := pairsTo rs n.toNat
theorem pairsTo_step (rs : Rows) (i : Nat) : pairsTo rs (i + 1) = pairsTo rs i ++ rowsP rs i := by unfold pairsTo; rw [List.range_succ, List.flatMap_append]; simp
theorem listR_rowP (n : Nat) (q : Nat → Bool) : listR (rowP n q) = ((List.range n).filter q).map fun k => ((k : Nat) : Int) := by
  rw [← listN_all]
  unfold listN
  congr 1
  have hl := rowP_len n q
  rw [words_nat] at hl
  have e : 64 * (rowP n q).length = n + (64 * (rowP n q).length - n) := by omega
  rw [e, range_add_map, List.filter_append]
  have e2 : ((List.range (64 * (rowP n q).length - n)).map fun i => n + i).filter (fun k => hasR (rowP n q) ((k : Nat) : Int)) = [] := by
    rw [List.filter_eq_nil_iff]
    intro k hk
    obtain ⟨i, -, rfl⟩ := List.mem_map.1 hk
    rw [rowP_has, decide_eq_false (show ¬ (((n + i : Nat) : Nat) : Int) < ((n : Nat) : Int) from by omega)]; simp
  rw [e2, List.append_nil]
  apply List.filter_congr
  intro k hk
  have := List.mem_range.1 hk
  rw [rowP_has]
  simp [this]
theorem rowsP_matP {n : Nat} {p : Nat → Nat → Bool} {i : Nat} (h : i < n) : rowsP (matP n p) i = ((List.range n).filter (p i)).map fun j => (((i : Nat) : Int), ((j : Nat) : Int)) := by
  unfold rowsP
  rw [rowAt_matP (by omega) (by omega), Int.toNat_natCast, listR_rowP, List.map_map]; rfl
theorem mem_pairs {n : Nat} {p : Nat → Nat → Bool} {z : Int × Int} : z ∈ pairsM ((n : Nat) : Int) (matP n p) ↔ ∃ a b, a < n ∧ b < n ∧ p a b = true ∧ z = (((a : Nat) : Int), ((b : Nat) : Int)) := by
  unfold pairsM pairsTo
  rw [List.mem_flatMap]
  constructor
  · rintro ⟨a, ha, hz⟩
    have ha := List.mem_range.1 ha
    rw [Int.toNat_natCast] at ha
    rw [rowsP_matP ha] at hz
    obtain ⟨b, hb, rfl⟩ := List.mem_map.1 hz
    rw [List.mem_filter, List.mem_range] at hb
    exact ⟨a, b, ha, hb.1, hb.2, rfl⟩
  · rintro ⟨a, b, ha, hb, hp, rfl⟩
    refine ⟨a, List.mem_range.2 (by simpa using ha), ?_⟩
    rw [rowsP_matP ha]
    exact List.mem_map.2 ⟨b, List.mem_filter.2 ⟨List.mem_range.2 hb, hp⟩, rfl⟩
def rowSum (n : Nat) (p : Nat → Nat → Bool) : Nat := ((List.range n).map fun a => ((List.range n).filter (p a)).length).sum
theorem pairs_len {n : Nat} {p : Nat → Nat → Bool} : (pairsM ((n : Nat) : Int) (matP n p)).length = rowSum n p := by
  unfold pairsM pairsTo rowSum
  rw [List.length_flatMap, Int.toNat_natCast]
  congr 1
  apply List.map_congr_left
  intro a ha
  rw [rowsP_matP (List.mem_range.1 ha), List.length_map]
theorem pairs_small {n : Nat} {p : Nat → Nat → Bool} : (pairsM ((n : Nat) : Int) (matP n p)).length ≤ n * n := by
  rw [pairs_len]; unfold rowSum
  have : ∀ l : List Nat, (l.map fun a => ((List.range n).filter (p a)).length).sum ≤ l.length * n := by
    intro l
    induction l with
    | nil => simp
    | cons a l ih =>
      have h1 := List.length_filter_le (p a) (List.range n)
      rw [List.length_range] at h1
      simp only [List.map_cons, List.sum_cons, List.length_cons, Nat.add_mul, Nat.one_mul]; omega
  have h := this (List.range n)
  rwa [List.length_range] at h
theorem rowsP_len {rs : Rows} (hr : ∀ x ∈ rs, x.length ≤ 64) (i : Nat) : (rowsP rs i).length ≤ 4096 := by
  unfold rowsP
  rw [List.length_map]
  have h1 := listR_length (rowAt rs ((i : Nat) : Int))
  have : (rowAt rs ((i : Nat) : Int)).length ≤ 64 := by
    unfold rowAt
    rw [List.getD_eq_getElem?_getD]
    cases h : rs[((i : Nat) : Int).toNat]? with
    | none => simp
    | some x => exact hr x (List.mem_of_getElem? h)
  omega
theorem pairsTo_len {rs : Rows} (hr : ∀ x ∈ rs, x.length ≤ 64) : ∀ i, (pairsTo rs i).length ≤ 4096 * i
  | 0 => by simp [pairsTo]
  | i + 1 => by
    have := pairsTo_len hr i
    have := rowsP_len hr i
    rw [pairsTo_step, List.length_append]; omega
theorem rowsP_of {rs : Rows} {i : Nat} {x : Row} (hx : rs[((i : Nat) : Int).toNat]? = some x) : rowsP rs i = (listR x).map fun j => (((i : Nat) : Int), j) := by unfold rowsP; rw [rowAt_of hx]
theorem pair_step {rs : Rows} {i q : Nat} {x : Row} {y : Int} (hy : (listR x)[((q : Nat) : Int).toNat]? = some y) : (pairsTo rs i ++ ((listR x).take q).map fun j => (((i : Nat) : Int), j)) ++ [(((i : Nat) : Int), y)] = pairsTo rs i ++ ((listR x).take (q + 1)).map fun j => (((i : Nat) : Int), j) := by
  rw [take_at hy, List.map_append, List.append_assoc]; rfl
theorem pair_row {rs : Rows} {i q : Nat} {x : Row} (hx : rs[((i : Nat) : Int).toNat]? = some x) (hq : (listR x).length ≤ q) : (pairsTo rs i ++ ((listR x).take q).map fun j => (((i : Nat) : Int), j)) = pairsTo rs (i + 1) := by
  rw [take_end hq, pairsTo_step, rowsP_of hx]
theorem pairs_end {rs : Rows} {n : Int} {i : Nat} (h : n ≤ ((i : Nat) : Int)) (hi : ((i : Nat) : Int) ≤ n ∨ i = 0) : pairsTo rs i = pairsM n rs := by
  unfold pairsM; rw [show n.toNat = i from by omega]
theorem past_at {its : List ItemL} (o : OrdI its) {t : Int} (h0 : 0 ≤ t) (h : t < (its.length : Int)) {q : Nat} {x : Int} (hx : (pastA its t)[q]? = some x) : 0 ≤ x ∧ x ≤ t ∧ x < (its.length : Int) ∧ sesN its x.toNat = sesN its t.toNat ∧ plcN its x.toNat = ((q : Nat) : Int) ∧ x = t - plcN its t.toNat + ((q : Nat) : Int) := by
  obtain ⟨b1, b2⟩ := o.back t.toNat (by omega)
  have b0 := o.nonneg t.toNat (by omega)
  unfold pastA at hx
  rw [if_pos ⟨h0, h⟩, List.getElem?_map] at hx
  cases hr : (List.range ((plcN its t.toNat).toNat + 1))[q]? with
  | none => rw [hr] at hx; cases hx
  | some k =>
    rw [hr] at hx
    obtain ⟨h1, h2⟩ := List.getElem?_eq_some_iff.1 hr
    simp only [List.length_range] at h1
    rw [List.getElem_range] at h2
    subst h2
    have hx : (t - plcN its t.toNat) + ((q : Nat) : Int) = x := Option.some.inj hx
    have hs := b2 x.toNat (by omega) (by omega)
    refine ⟨by omega, by omega, by omega, hs, ?_, hx.symm⟩
    have := o.place (t.toNat - x.toNat) x.toNat (by omega) (by rw [show x.toNat + (t.toNat - x.toNat) = t.toNat from by omega]; exact hs)
    rw [show x.toNat + (t.toNat - x.toNat) = t.toNat from by omega] at this
    omega
theorem matP_64 {n : Nat} {p : Nat → Nat → Bool} (h : n ≤ 4096) : ∀ x ∈ matP n p, x.length ≤ 64 := by
  intro x hx
  obtain ⟨i, hi⟩ := List.getElem?_of_mem hx
  obtain ⟨-, rfl⟩ := matP_at hi
  have h1 := rowP_len n (p i)
  have := words_le (n := ((n : Nat) : Int)) (by omega)
  omega
end Go.Ew
namespace Go.Ew
set_option linter.unusedVariables false
set_option linter.unusedSimpArgs false
theorem rowOk_is {n : Nat} {r : Row} (h : rowOk ((n : Nat) : Int) r = true) : r = rowP n fun k => hasR r ((k : Nat) : Int) := by
  unfold rowOk at h
  rw [Bool.and_eq_true, decide_eq_true_eq, List.all_eq_true] at h
  refine row_is (by omega) fun k => ?_
  by_cases hk : k < n
  · simp [hk]
  · rw [decide_eq_false hk, Bool.false_and]
    by_cases h2 : k < 64 * r.length
    · have := h.2 k (List.mem_range.2 h2)
      rw [decide_eq_false (show ¬ ((k : Nat) : Int) < ((n : Nat) : Int) from by omega), Bool.false_or] at this
      simpa using this
    · exact (hasR_out (by unfold inR; exact decide_eq_false (by omega))).symm
theorem right_is {n : Int} {rs : Rows} (h : rightS n rs = true) : ∃ (m : Nat) (p : Nat → Nat → Bool), n = ((m : Nat) : Int) ∧ m ≤ 4096 ∧ rs = matP m p := by
  unfold rightS at h
  rw [Bool.and_eq_true, Bool.and_eq_true, decide_eq_true_eq, List.all_eq_true] at h
  obtain ⟨⟨h1, h2⟩, h3⟩ := h
  have h1 := okN_iff.1 h1
  refine ⟨n.toNat, fun i j => hasR (rs.getD i []) ((j : Nat) : Int), by omega, by omega, mat_is (by omega) fun i hi => ?_⟩
  have hx : rs[i]? = some rs[i] := List.getElem?_eq_getElem (by omega)
  have e : rs.getD i [] = rs[i] := by rw [List.getD_eq_getElem?_getD, hx]; rfl
  rw [hx, e]
  have := rowOk_is (n := n.toNat) (r := rs[i]) (by rw [show ((n.toNat : Nat) : Int) = n from by omega]; exact h3 _ (List.getElem_mem _))
  rw [← this]
theorem right_sq {n : Int} {rs : Rows} (h : rightS n rs = true) : ((rs.length : Nat) : Int) = n ∧ (∀ x ∈ rs, x.length ≤ 1000000000) ∧ n ≤ 4096 ∧ 0 ≤ n ∧ ∀ x ∈ rs, x.length ≤ 64 := by
  obtain ⟨m, p, rfl, hm, rfl⟩ := right_is h
  exact ⟨by rw [matP_len], matP_small hm, by omega, by omega, matP_64 hm⟩
def orRs (a b : Rows) (n : Nat) : Rows := (List.range n).map fun i => orR (rowAt a ((i : Nat) : Int)) (rowAt b ((i : Nat) : Int))
theorem orRs_len (a b : Rows) (n : Nat) : (orRs a b n).length = n := by unfold orRs; simp
theorem orRs_step (a b : Rows) (n : Nat) : orRs a b (n + 1) = orRs a b n ++ [orR (rowAt a ((n : Nat) : Int)) (rowAt b ((n : Nat) : Int))] := by unfold orRs; rw [List.range_succ, List.map_append]; rfl
def orMN (an bn : Int) : Int := if an = bn then an else 0
def orMR (an : Int) (ar : Rows) (bn : Int) (br : Rows) : Rows := if an = bn then orRs ar br an.toNat else []
def orME (an bn : Int) : Int := if an = bn then 0 else 1
theorem orM_no {an bn : Int} {ar br : Rows} (h : ¬ an = bn) : orMN an bn = 0 ∧ orMR an ar bn br = [] ∧ orME an bn = 1 := by unfold orMN orMR orME; simp [h]
theorem orM_yes {an bn : Int} {ar br : Rows} (h : an = bn) : orMN an bn = an ∧ orMR an ar bn br = orRs ar br an.toNat ∧ orME an bn = 0 := by unfold orMN orMR orME; simp [h]
def orFill (a b : Rows) (n j : Nat) : Rows := orRs a b j ++ List.replicate (n - j) []
theorem orFill_zero (a b : Rows) (n : Nat) : List.replicate n [] = orFill a b n 0 := by unfold orFill orRs; simp
theorem orFill_set {a b : Rows} {n j : Nat} {x y : Row} (hj : j < n) (hx : a[((j : Nat) : Int).toNat]? = some x) (hy : b[((j : Nat) : Int).toNat]? = some y) : (orFill a b n j).set j (orR x y) = orFill a b n (j + 1) := by
  unfold orFill
  rw [orRs_step, rowAt_of hx, rowAt_of hy]
  have hl := orRs_len a b j
  rw [List.set_append_right _ _ (by omega), hl, Nat.sub_self, show n - j = n - (j + 1) + 1 from by omega, List.replicate_succ, List.set_cons_zero]
  simp
theorem orFill_end {a b : Rows} {n j : Nat} (hj : n ≤ j) (h : j ≤ n) : orFill a b n j = orRs a b n := by
  obtain rfl : n = j := by omega
  unfold orFill; simp
theorem or_rowP {n : Nat} (p q : Nat → Bool) : orR (rowP n p) (rowP n q) = rowP n fun k => p k || q k := by
  refine row_is (by rw [orR_length, rowP_len, rowP_len]; omega) fun k => ?_
  rw [hasR_or, rowP_has, rowP_has]
  by_cases hk : k < n <;> simp [hk]
theorem orRs_matP {n : Nat} (p q : Nat → Nat → Bool) : orRs (matP n p) (matP n q) n = matP n fun a b => p a b || q a b := by
  refine mat_is (orRs_len _ _ _) fun i hi => ?_
  unfold orRs
  rw [List.getElem?_map, List.getElem?_range hi]
  simp only [Option.map_some]
  rw [rowAt_matP (by omega) (by omega), rowAt_matP (by omega) (by omega), Int.toNat_natCast, or_rowP]
theorem pairs_mem {n : Nat} {p : Nat → Nat → Bool} {z : Int × Int} {q : Nat} (h : (pairsM ((n : Nat) : Int) (matP n p))[q]? = some z) : 0 ≤ z.1 ∧ z.1 < ((n : Nat) : Int) ∧ 0 ≤ z.2 ∧ z.2 < ((n : Nat) : Int) ∧ p z.1.toNat z.2.toNat = true := by
  obtain ⟨a, b, ha, hb, hp, rfl⟩ := mem_pairs.1 (List.mem_of_getElem? h)
  exact ⟨by omega, by omega, by omega, by omega, by simpa using hp⟩
end Go.Ew
namespace Go.Ew
set_option linter.unusedVariables false
set_option linter.unusedSimpArgs false
set_option linter.unusedSectionVars false
theorem right_pos {n : Int} {rs : Rows} (h : rightS n rs = true) : 0 ≤ n := (right_sq h).2.2.2.1
section
variable {n : Int} {rs : Rows} {i j : Int} (h : rightS n rs = true) (hi : inM n [i, j] = true)
include h hi
end
theorem right_pairs {n : Int} {rs : Rows} (h : rightS n rs = true) : (pairsM n rs).length ≤ 16777216 := by
  obtain ⟨m, p, rfl, hm, rfl⟩ := right_is h
  have h1 := pairs_small (n := m) (p := p)
  have h2 : m * m ≤ 4096 * 4096 := Nat.mul_le_mul hm hm
  omega
end Go.Ew
namespace Go.Ew
set_option linter.unusedVariables false
set_option linter.unusedSimpArgs false
set_option linter.unusedSectionVars false
theorem join_from {l : List Item} {i j : Nat} {B e : Nat} {iv fv : Value} {a b xs : Row} {q : Nat} (hj : l[j]? = some (own B e fv b)) (hi : i < l.length) (hne : i ≠ j ∨ (iv = fv ∧ b = a)) (hxl : xs.length = a.length) (hxs : xs = orTo a.length a b a q) (hq : q ≤ b.length) (hlen : b.length ≤ a.length) :
    ∃ ys : Row, (l.set i (own B e iv xs))[j]? = some (own B e fv ys) ∧ ys.length = b.length ∧ ∀ x, ys[((q : Nat) : Int).toNat]? = some x → b.getD q 0#64 = x := by
  by_cases h : i = j
  · subst h
    rcases hne with h | ⟨rfl, rfl⟩
    · exact absurd rfl h
    · refine ⟨xs, by rw [List.getElem?_set_self hi], hxl, fun x hx => ?_⟩
      rw [hxs] at hx
      exact (orTo_get hx).symm
  · exact ⟨b, by rw [List.getElem?_set_ne h, hj], rfl, fun x hx => getD_at hx⟩
theorem join_step {a b xs : Row} {q : Nat} {x y : BitVec 64} (hs : xs = orTo a.length a b a q) (hx : b.getD q 0#64 = x) (hy : xs[((q : Nat) : Int).toNat]? = some y) : xs.set ((q : Nat) : Int).toNat (y ||| x) = orTo a.length a b a (q + 1) := by
  subst hs
  have e1 := orTo_get hy
  rw [Int.toNat_natCast]
  exact orTo_set (by rw [e1]; unfold orAt; rw [hx])
theorem join_end {a b xs : Row} {q : Nat} (hs : xs = orTo a.length a b a q) (hlen : b.length ≤ a.length) (hq : b.length ≤ q) : xs = orR a b := by
  rw [hs]
  refine orTo_all (by omega) (fun i h1 h2 => ?_)
  unfold orAt
  rw [getD_out (show b.length ≤ i by omega)]; simp
theorem set_at {l : List Item} {i : Nat} {it : Item} (hi : i < l.length) : (l.set i it)[i]? = some it := List.getElem?_set_self hi
theorem set_set {l : List Item} {i : Nat} {x y : Item} : (l.set i x).set i y = l.set i y := List.set_set ..
theorem set_own {l : List Item} {i : Nat} {x : Item} (h : l[i]? = some x) : l.set i x = l := by
  apply List.ext_getElem?
  intro m
  rw [List.getElem?_set]
  split
  · rename_i e
    subst e
    split
    · exact h.symm
    · rename_i hl
      rw [List.getElem?_eq_none (by omega)]
  · rfl
def swapP (z : Int × Int) : Int × Int := (z.2, z.1)
def turnM (n : Int) (rs : Rows) : Rows := foldM n ((pairsM n rs).map swapP)
theorem right_pair {n : Int} {rs : Rows} (h : rightS n rs = true) {q : Nat} {z : Int × Int} (hz : (pairsM n rs)[q]? = some z) : 0 ≤ z.1 ∧ z.1 < n ∧ 0 ≤ z.2 ∧ z.2 < n := by
  obtain ⟨m, p, rfl, hm, rfl⟩ := right_is h
  obtain ⟨h1, h2, h3, h4, -⟩ := pairs_mem hz
  exact ⟨h1, h2, h3, h4⟩
theorem turn_row {n : Int} {ps : List (Int × Int)} {i : Nat} {x : Row} (h : (foldM n ps)[i]? = some x) {k : Int} (h0 : 0 ≤ k) (h1 : k < n) : 0 ≤ k / 64 ∧ k / 64 < ((x.length : Nat) : Int) ∧ (k / 64).toNat < x.length ∧ inR x k = true := by
  have hr := foldM_row h
  have hw : x.length = (n.toNat + 63) / 64 := by rw [hr, ← words_nat, show ((n.toNat : Nat) : Int) = n from by omega]
  refine ⟨by omega, by omega, by omega, inR_of h0 (by omega)⟩
theorem turn_step {n : Int} {l : List (Int × Int)} {j : Nat} {z : Int × Int} {xs : Rows} {x : Row} {u : BitVec 64} (hs : xs = foldM n ((l.map swapP).take j)) (hz : l[((j : Nat) : Int).toNat]? = some z) (hx : xs[z.2.toNat]? = some x) (hu : x[(z.1 / 64).toNat]? = some u) (h0 : 0 ≤ z.1) (h1 : z.1 < n) :
    xs.set z.2.toNat (x.set (z.1 / 64).toNat (u ||| bitB (z.1 % 64))) = foldM n ((l.map swapP).take (j + 1)) := by
  have hr := (turn_row (hs ▸ hx) h0 h1).2.2.2
  rw [foldM_step (p := (z.2, z.1)) (by rw [List.getElem?_map, hz]; rfl), ← hs, setR_in hr hu]
  exact setM_of hx
theorem turn_end {n : Int} {rs xs : Rows} {j : Nat} (hs : xs = foldM n (((pairsM n rs).map swapP).take j)) (hj : (pairsM n rs).length ≤ j) : xs = turnM n rs := by
  rw [hs, take_end (by rw [List.length_map]; exact hj)]; rfl
theorem turn_zero (n : Int) (l : List (Int × Int)) : List.replicate n.toNat (newR n) = foldM n ((l.map swapP).take 0) := rfl
theorem turnM_len (n : Int) (rs : Rows) : (turnM n rs).length = n.toNat := foldM_length _ _
end Go.Ew
namespace Go.Ew
set_option linter.unusedVariables false
set_option linter.unusedSimpArgs false
theorem foldl_matP {m : Nat} : ∀ (l : List (Int × Int)) (p : Nat → Nat → Bool), (∀ z ∈ l, inM ((m : Nat) : Int) [z.1, z.2] = true) → l.foldl setM (matP m p) = matP m fun a b => p a b || l.any fun z => decide (a = z.1.toNat) && decide (b = z.2.toNat)
  | [], p, _ => by
    show matP m p = _
    exact matP_congr fun a b _ _ => by simp
  | z :: l, p, h => by
    rw [List.foldl_cons, show z = (z.1, z.2) from rfl, setM_matP (h z List.mem_cons_self), foldl_matP l _ fun y hy => h y (List.mem_cons_of_mem _ hy)]
    exact matP_congr fun a b _ _ => by simp [Bool.or_assoc]
theorem foldM_matP {m : Nat} {l : List (Int × Int)} (h : ∀ z ∈ l, inM ((m : Nat) : Int) [z.1, z.2] = true) : foldM ((m : Nat) : Int) l = matP m fun a b => l.any fun z => decide (a = z.1.toNat) && decide (b = z.2.toNat) := by
  unfold foldM
  rw [newM_matP, foldl_matP l _ h]
  exact matP_congr fun a b _ _ => by simp
theorem pairs_in {m : Nat} {p : Nat → Nat → Bool} : ∀ z ∈ pairsM ((m : Nat) : Int) (matP m p), inM ((m : Nat) : Int) [z.1, z.2] = true := by
  intro z hz
  obtain ⟨a, b, ha, hb, -, rfl⟩ := mem_pairs.1 hz
  exact inM_two.2 ⟨⟨by omega, by omega⟩, by omega, by omega⟩
theorem any_pairs {m : Nat} {p : Nat → Nat → Bool} {a b : Nat} (ha : a < m) (hb : b < m) : ((pairsM ((m : Nat) : Int) (matP m p)).any fun z => decide (a = z.1.toNat) && decide (b = z.2.toNat)) = p a b := by
  rw [Bool.eq_iff_iff, List.any_eq_true]
  constructor
  · rintro ⟨z, hz, h⟩
    obtain ⟨c, d, hc, hd, hp, rfl⟩ := mem_pairs.1 hz
    simp only [Int.toNat_natCast, Bool.and_eq_true, decide_eq_true_eq] at h
    rw [h.1, h.2]; exact hp
  · intro hp
    exact ⟨_, mem_pairs.2 ⟨a, b, ha, hb, hp, rfl⟩, by simp⟩
theorem turn_matP {m : Nat} {p : Nat → Nat → Bool} : turnM ((m : Nat) : Int) (matP m p) = matP m fun a b => p b a := by
  unfold turnM
  rw [foldM_matP]
  · refine matP_congr fun a b ha hb => ?_
    rw [List.any_map, ← any_pairs (p := p) hb ha]
    congr 1
    funext z
    simp only [Function.comp, swapP]
    exact Bool.and_comm _ _
  · intro z hz
    obtain ⟨y, hy, rfl⟩ := List.mem_map.1 hz
    have := inM_two.1 (pairs_in y hy)
    exact inM_two.2 ⟨this.2, this.1⟩
section
variable {n : Int} {rs : Rows} (h : rightS n rs = true)
include h
theorem turn_right : rightS n (turnM n rs) = true := by
  obtain ⟨m, p, rfl, hm, rfl⟩ := right_is h
  rw [turn_matP]; exact right_matP hm
end
end Go.Ew
namespace Go.Ew
set_option linter.unusedVariables false
set_option linter.unusedSimpArgs false
theorem right_row_len {n : Int} {mr : Rows} (h : rightS n mr = true) {i : Nat} {x : Row} (hx : mr[i]? = some x) : x.length = words n := by
  obtain ⟨m, p, rfl, hm, rfl⟩ := right_is h
  rw [(matP_at hx).2, rowP_len]
theorem own_new {n : Int} {mr xs : Rows} (h : rightS n mr = true) {j : Nat} {x : Row} (hs : xs = mr.take j ++ List.replicate (n.toNat - j) (newR n)) (hj : j < mr.length) (hx : xs[((j : Nat) : Int).toNat]? = some x) : x = newR n := by
  rw [Int.toNat_natCast, hs, List.getElem?_append_right (by rw [List.length_take]; omega), List.length_take, Nat.min_eq_left (by omega), Nat.sub_self] at hx
  have := List.mem_of_getElem? hx
  exact (List.mem_replicate.1 this).2
theorem own_len {n : Int} {mr xs : Rows} (h : rightS n mr = true) {j : Nat} {x y : Row} (hs : xs = mr.take j ++ List.replicate (n.toNat - j) (newR n)) (hy : mr[((j : Nat) : Int).toNat]? = some y) (hx : xs[((j : Nat) : Int).toNat]? = some x) : y.length = x.length := by
  have hj := (List.getElem?_eq_some_iff.1 hy).1
  rw [own_new h hs (by simpa using hj) hx, newR_length, right_row_len h hy]
theorem own_pos {n : Int} {mr xs : Rows} (h : rightS n mr = true) {j : Nat} {x y : Row} (hs : xs = mr.take j ++ List.replicate (n.toNat - j) (newR n)) (hy : mr[((j : Nat) : Int).toNat]? = some y) (hx : xs[((j : Nat) : Int).toNat]? = some x) : 0 < x.length := by
  have hj := (List.getElem?_eq_some_iff.1 hy).1
  have hl := (right_sq h).1
  rw [own_new h hs (by simpa using hj) hx, newR_length]
  have h0 : 1 ≤ n := by rw [Int.toNat_natCast] at hj; omega
  unfold words; omega
theorem own_step {n : Int} {mr xs : Rows} (h : rightS n mr = true) {j : Nat} {y : Row} (hs : xs = mr.take j ++ List.replicate (n.toNat - j) (newR n)) (hy : mr[((j : Nat) : Int).toNat]? = some y) : xs.set ((j : Nat) : Int).toNat y = mr.take (j + 1) ++ List.replicate (n.toNat - (j + 1)) (newR n) := by
  have hj := (List.getElem?_eq_some_iff.1 hy).1
  have hl := (right_sq h).1
  rw [take_at hy]
  rw [Int.toNat_natCast] at hj ⊢
  have hlt : (mr.take j).length = j := by rw [List.length_take]; omega
  rw [hs, List.set_append_right _ _ (by omega), hlt, Nat.sub_self, show n.toNat - j = n.toNat - (j + 1) + 1 from by omega, List.replicate_succ, List.set_cons_zero]
  simp
theorem own_end {n : Int} {mr xs : Rows} {j : Nat} (h : rightS n mr = true) (hs : xs = mr.take j ++ List.replicate (n.toNat - j) (newR n)) (hj : mr.length ≤ j) : xs = mr := by
  have hl := (right_sq h).1
  rw [hs, take_end hj, show n.toNat - j = 0 from by omega]; simp
def relM (rs : Rows) (i j : Nat) : Bool := hasR (rs.getD i []) ((j : Nat) : Int)
theorem right_rel {n : Int} {rs : Rows} (h : rightS n rs = true) : rs = matP n.toNat (relM rs) := by
  obtain ⟨m, p, rfl, hm, rfl⟩ := right_is h
  rw [Int.toNat_natCast]
  refine matP_congr fun i j hi hj => ?_
  unfold relM
  rw [List.getD_eq_getElem?_getD, matP_get hi]
  show p i j = hasR (rowP m (p i)) _
  rw [rowP_has]; simp [hj]
def wM (p : Nat → Nat → Bool) : Nat → Nat → Nat → Bool
  | 0, a, b => p a b
  | k + 1, a, b => wM p k a b || (wM p k a k && wM p k k b)
def wR (p : Nat → Nat → Bool) (k i a b : Nat) : Bool := if a < i then wM p (k + 1) a b else wM p k a b
theorem wM_self (p : Nat → Nat → Bool) (k b : Nat) : wM p (k + 1) k b = wM p k k b := by
  show (wM p k k b || (wM p k k k && wM p k k b)) = wM p k k b
  cases wM p k k b <;> simp
theorem wR_zero (p : Nat → Nat → Bool) (n k : Nat) : matP n (wM p k) = matP n (wR p k 0) := matP_congr fun a b _ _ => by unfold wR; simp
theorem wR_end (p : Nat → Nat → Bool) {n k i : Nat} (h : n ≤ i) : matP n (wR p k i) = matP n (wM p (k + 1)) := matP_congr fun a b ha _ => by unfold wR; rw [if_pos (by omega)]
theorem wR_row {p : Nat → Nat → Bool} {n k i : Nat} {x : Row} (hx : (matP n (wR p k i))[i]? = some x) : x = rowP n (wM p k i) := by
  rw [(matP_at hx).2]
  exact rowP_congr fun b _ => by unfold wR; rw [if_neg (by omega)]
theorem wR_rowk {p : Nat → Nat → Bool} {n k i : Nat} {y : Row} (hy : (matP n (wR p k i))[k]? = some y) : y = rowP n (wM p k k) := by
  rw [(matP_at hy).2]
  exact rowP_congr fun b _ => by
    unfold wR; split
    · exact wM_self p k b
    · rfl
theorem wR_yes {p : Nat → Nat → Bool} {n k i : Nat} {xs : Rows} {x y : Row} (hs : xs = matP n (wR p k i)) (hx : xs[i]? = some x) (hy : xs[k]? = some y) (hk : k < n) (h : hasR x ((k : Nat) : Int) = true) : xs.set i (orR x y) = matP n (wR p k (i + 1)) := by
  subst hs
  rw [wR_row hx] at h ⊢
  rw [wR_rowk hy, or_rowP, matP_set]
  rw [rowP_has] at h
  have hik : wM p k i k = true := by simpa [hk] using h
  refine matP_congr fun a b _ _ => ?_
  by_cases e : a = i
  · subst e
    rw [if_pos rfl]
    unfold wR
    rw [if_pos (by omega)]
    show _ = (wM p k a b || (wM p k a k && wM p k k b))
    rw [hik, Bool.true_and]
  · rw [if_neg e]
    unfold wR
    by_cases h2 : a < i
    · rw [if_pos h2, if_pos (by omega)]
    · rw [if_neg h2, if_neg (by omega)]
theorem wR_no {p : Nat → Nat → Bool} {n k i : Nat} {xs : Rows} {x : Row} (hs : xs = matP n (wR p k i)) (hx : xs[i]? = some x) (hk : k < n) (h : hasR x ((k : Nat) : Int) = false) : xs = matP n (wR p k (i + 1)) := by
  subst hs
  rw [wR_row hx, rowP_has] at h
  have hik : wM p k i k = false := by simpa [hk] using h
  refine matP_congr fun a b _ _ => ?_
  unfold wR
  by_cases h2 : a < i
  · rw [if_pos h2, if_pos (by omega)]
  · by_cases e : a = i
    · subst e
      rw [if_neg h2, if_pos (by omega)]
      show _ = (wM p k a b || (wM p k a k && wM p k k b))
      rw [hik]; simp
    · rw [if_neg h2, if_neg (by omega)]
def closeM (n : Int) (rs : Rows) : Rows := matP n.toNat (wM (relM rs) n.toNat)
theorem closeM_len (n : Int) (rs : Rows) : (closeM n rs).length = n.toNat := matP_len _ _
theorem wR_len {p : Nat → Nat → Bool} {n k i q : Nat} {x : Row} (hx : (matP n (wR p k i))[q]? = some x) : x.length = words ((n : Nat) : Int) := by rw [(matP_at hx).2, rowP_len]
end Go.Ew
namespace Go.Ew
set_option linter.unusedVariables false
set_option linter.unusedSimpArgs false
set_option linter.unusedSectionVars false
inductive TC (n : Nat) (p : Nat → Nat → Bool) : Nat → Nat → Prop
  | one {a b : Nat} : a < n → b < n → p a b = true → TC n p a b
  | cons {a b c : Nat} : a < n → b < n → p a b = true → TC n p b c → TC n p a c
section
variable {n : Nat} {p q : Nat → Nat → Bool} {a b c : Nat}
theorem TC.lt (h : TC n p a b) : a < n ∧ b < n := by
  induction h with
  | one h1 h2 _ => exact ⟨h1, h2⟩
  | cons h1 _ _ _ ih => exact ⟨h1, ih.2⟩
theorem TC.trans (h : TC n p a b) (k : TC n p b c) : TC n p a c := by
  induction h with
  | one h1 h2 h3 => exact .cons h1 h2 h3 k
  | cons h1 h2 h3 _ ih => exact .cons h1 h2 h3 (ih k)
theorem TC.mono (h : TC n p a b) (hpq : ∀ x y, x < n → y < n → p x y = true → q x y = true) : TC n q a b := by
  induction h with
  | one h1 h2 h3 => exact .one h1 h2 (hpq _ _ h1 h2 h3)
  | cons h1 h2 h3 _ ih => exact .cons h1 h2 (hpq _ _ h1 h2 h3) ih
theorem TC.least {R : Nat → Nat → Prop} (h : TC n p a b) (h1 : ∀ x y, x < n → y < n → p x y = true → R x y) (h2 : ∀ x y z, x < n → y < n → z < n → R x y → R y z → R x z) : R a b := by
  induction h with
  | one k1 k2 k3 => exact h1 _ _ k1 k2 k3
  | cons k1 k2 k3 k4 ih => exact h2 _ _ _ k1 k2 k4.lt.2 (h1 _ _ k1 k2 k3) ih
end
theorem wM_sound {n : Nat} {p : Nat → Nat → Bool} : ∀ k, k ≤ n → ∀ a b, a < n → b < n → wM p k a b = true → TC n p a b
  | 0, _, a, b, ha, hb, h => .one ha hb h
  | k + 1, hk, a, b, ha, hb, h => by
    have h : (wM p k a b || (wM p k a k && wM p k k b)) = true := h
    rw [Bool.or_eq_true, Bool.and_eq_true] at h
    rcases h with h | ⟨h1, h2⟩
    · exact wM_sound k (by omega) a b ha hb h
    · exact (wM_sound k (by omega) a k ha (by omega) h1).trans (wM_sound k (by omega) k b (by omega) hb h2)
theorem wM_succ {p : Nat → Nat → Bool} {k a b : Nat} : wM p (k + 1) a b = true ↔ wM p k a b = true ∨ (wM p k a k = true ∧ wM p k k b = true) := by
  show (wM p k a b || (wM p k a k && wM p k k b)) = true ↔ _
  rw [Bool.or_eq_true, Bool.and_eq_true]
theorem wM_up {p : Nat → Nat → Bool} {a b : Nat} : ∀ k, p a b = true → wM p k a b = true
  | 0, h => h
  | k + 1, h => wM_succ.2 (.inl (wM_up k h))
theorem wM_closed {p : Nat → Nat → Bool} : ∀ k a b c, c < k → wM p k a c = true → wM p k c b = true → wM p k a b = true
  | 0, _, _, _, h, _, _ => absurd h (Nat.not_lt_zero _)
  | k + 1, a, b, c, h, h1, h2 => by
    have ih := fun a b c => wM_closed (p := p) k a b c
    rw [wM_succ] at h1 h2 ⊢
    by_cases hc : c < k
    · rcases h1 with h1 | ⟨h1, h3⟩
      · rcases h2 with h2 | ⟨h2, h4⟩
        · exact .inl (ih _ _ _ hc h1 h2)
        · exact .inr ⟨ih _ _ _ hc h1 h2, h4⟩
      · rcases h2 with h2 | ⟨h2, h4⟩
        · exact .inr ⟨h1, ih _ _ _ hc h3 h2⟩
        · exact .inr ⟨h1, h4⟩
    · have : c = k := by omega
      subst this
      have e1 : wM p c a c = true := by
        rcases h1 with h1 | ⟨h1, _⟩ <;> exact h1
      have e2 : wM p c c b = true := by
        rcases h2 with h2 | ⟨_, h2⟩ <;> exact h2
      exact .inr ⟨e1, e2⟩
def cl (n : Nat) (p : Nat → Nat → Bool) (a b : Nat) : Bool := wM p n a b
theorem cl_iff {n : Nat} {p : Nat → Nat → Bool} {a b : Nat} (ha : a < n) (hb : b < n) : cl n p a b = true ↔ TC n p a b :=
  ⟨wM_sound n (Nat.le_refl _) a b ha hb, fun h => h.least (R := fun x y => cl n p x y = true) (fun x y _ _ hp => wM_up n hp) fun x y z _ hy _ h1 h2 => wM_closed n x z y hy h1 h2⟩
theorem cl_congr {n : Nat} {p q : Nat → Nat → Bool} (h : ∀ a b, a < n → b < n → p a b = q a b) {a b : Nat} (ha : a < n) (hb : b < n) : cl n p a b = cl n q a b := by
  rw [Bool.eq_iff_iff, cl_iff ha hb, cl_iff ha hb]
  exact ⟨fun k => k.mono fun x y hx hy hp => by rw [← h x y hx hy]; exact hp, fun k => k.mono fun x y hx hy hp => by rw [h x y hx hy]; exact hp⟩
theorem relM_matP {n : Nat} {p : Nat → Nat → Bool} {a b : Nat} (ha : a < n) (hb : b < n) : relM (matP n p) a b = p a b := by
  unfold relM
  rw [List.getD_eq_getElem?_getD, matP_get ha]
  show hasR (rowP n (p a)) _ = _
  rw [rowP_has]; simp [hb]
theorem closeM_matP {n : Nat} {p : Nat → Nat → Bool} : closeM ((n : Nat) : Int) (matP n p) = matP n (cl n p) := by
  unfold closeM
  rw [Int.toNat_natCast]
  exact matP_congr fun a b ha hb => cl_congr (fun x y hx hy => relM_matP hx hy) ha hb
def natL (l : List Nat) : List Int := l.map fun k => ((k : Nat) : Int)
def lst (n : Nat) (f : Nat → Bool) : List Int := natL ((List.range n).filter f)
theorem listR_lst (n : Nat) (f : Nat → Bool) : listR (rowP n f) = lst n f := listR_rowP n f
end Go.Ew
namespace Go.Ew
set_option linter.unusedVariables false
set_option linter.unusedSimpArgs false
set_option linter.unusedSectionVars false
theorem close_end {n : Int} {rs xs : Rows} {q : Nat} (hs : xs = matP n.toNat (wM (relM rs) q)) (hq : q ≤ n.toNat) (hq2 : n.toNat ≤ q) : xs = closeM n rs := by
  obtain rfl : q = n.toNat := by omega
  exact hs
section
variable {n : Int} {rs : Rows} (h : rightS n rs = true)
include h
theorem close_start : rs = matP n.toNat (wM (relM rs) 0) := right_rel h
end
section
variable {n : Int} {rs xs : Rows} {i j : Int} (h : rightS n rs = true)
include h
end
section
variable {n : Int} {rs xs : Rows} {l : List Int} {mk : Row} {k : Nat} (h : rightS n rs = true)
include h
end
end Go.Ew
namespace Go.Ew
set_option linter.unusedVariables false
set_option linter.unusedSimpArgs false
set_option linter.unusedSectionVars false
structure Rch (n : Nat) (p : Nat → Nat → Bool) (i : Nat) (sn : List Bool) (td : List Int) (at_ : Int) (j : Nat) : Prop where
  len : sn.length = n
  snd : ∀ k, sn.getD k false = true → TC n p i k
  tdo : ∀ t ∈ td, ∃ k, t = ((k : Nat) : Int) ∧ k < n ∧ (k = i ∨ sn.getD k false = true)
  don : ∀ x, x < n → (x = i ∨ sn.getD x false = true) → ((x : Nat) : Int) ∈ td ∨ (((x : Nat) : Int) = at_ ∧ ∀ y, y < j → p x y = true → sn.getD y false = true) ∨ ∀ y, y < n → p x y = true → sn.getD y false = true
section
variable {n : Nat} {p : Nat → Nat → Bool} {i j : Nat} {sn : List Bool} {td : List Int} {at_ : Int}
end
section
variable {n : Int} {rs : Rows} {i a j : Nat} {sn : List Bool} {td : List Int} {x : Int} (rt : rightS n rs = true) (e : x = ((a : Nat) : Int)) (h : Rch n.toNat (relM rs) i sn td x j) (han : a < n.toNat) (hj : j < n.toNat)
include rt e h han hj
end
section
variable {k : Int} {l : List (BitVec 8 × BitVec 8)} {z : BitVec 8 × BitVec 8} (hk : 0 < k) (h4 : k ≤ 4096)
include hk h4
end
end Go.Ew
namespace Go.Ew
set_option linter.unusedVariables false
set_option linter.unusedSimpArgs false
set_option linter.unusedSectionVars false
section
variable {n : Int} {rs : Rows} (h : rightS n rs = true)
include h
end
end Go.Ew
namespace Go.Ew
set_option linter.unusedVariables false
set_option linter.unusedSimpArgs false
set_option linter.unusedSectionVars false
def withL (n : Int) (rs : Rows) (o : Int) : List Int := if 0 ≤ o ∧ o < n then lst n.toNat (fun a => relM rs a o.toNat || decide (a = o.toNat)) else []
theorem withL_no {n : Int} {rs : Rows} {o : Int} (h : ¬ (0 ≤ o ∧ o < n)) : withL n rs o = [] := by unfold withL; rw [if_neg h]
theorem turn_row_is {n : Int} {rs : Rows} (h : rightS n rs = true) {o : Int} (h0 : 0 ≤ o ∧ o < n) {x : Row} (hx : (turnM n rs)[o.toNat]? = some x) : x = rowP n.toNat fun a => relM rs a o.toNat := by
  obtain ⟨m, p, rfl, hm, rfl⟩ := right_is h
  rw [turn_matP] at hx
  obtain ⟨h1, rfl⟩ := matP_at hx
  rw [Int.toNat_natCast]
  exact rowP_congr fun a ha => (relM_matP ha h1).symm
theorem withL_yes {n : Int} {rs : Rows} (h : rightS n rs = true) {o : Int} (h0 : 0 ≤ o ∧ o < n) {x : Row} (hx : (turnM n rs)[o.toNat]? = some x) : listR (setR x o) = withL n rs o := by
  rw [turn_row_is h h0 hx, setR_rowP h0.1 (by omega), listR_lst]; unfold withL; rw [if_pos h0]
theorem turn_row_len {n : Int} {rs : Rows} (h : rightS n rs = true) {i : Nat} {x : Row} (hx : (turnM n rs)[i]? = some x) : x.length ≤ 64 := (right_sq (turn_right h)).2.2.2.2 _ (List.mem_of_getElem? hx)
section
variable {n : Int} {rs : Rows} (h : rightS n rs = true) {k : Int} (hk : 0 ≤ k ∧ k < n)
include h hk
end
end Go.Ew
namespace Go.Ew
set_option linter.unusedVariables false
set_option linter.unusedSimpArgs false
set_option linter.unusedSectionVars false
def keepL (p : Int → Bool) (xs : List Int) : List Int := xs.filter fun x => !p x
def DF (p : Int → Bool) (xs ys : List Int) (q : Int) (k : Nat) : Prop := ys.length = xs.length ∧ ys.take q.toNat = keepL p (xs.take k) ∧ ys.drop k = xs.drop k
section
variable {p : Int → Bool} {xs ys : List Int} {q x : Int} {k : Nat}
theorem df_none (h : idxF p xs = -1) : xs = keepL p xs := by
  have h1 := idxF_any (p := p) (r := xs)
  rw [h, decide_eq_false (by omega)] at h1
  unfold keepL
  refine (List.filter_eq_self.2 fun x hx => ?_).symm
  have := List.any_eq_false.1 h1.symm x hx
  simpa using this
theorem df_start (h : ¬ idxF p xs = -1) : 0 ≤ idxF p xs ∧ (idxF p xs).toNat < xs.length ∧ DF p xs xs (idxF p xs) ((idxF p xs).toNat + 1) := by
  unfold idxF at h ⊢
  cases hf : xs.findIdx? p with
  | none => rw [hf] at h; exact absurd rfl h
  | some i =>
    rw [hf] at h
    obtain ⟨h1, h2, h3⟩ := List.findIdx?_eq_some_iff_getElem.1 hf
    refine ⟨by show (0 : Int) ≤ ((i : Nat) : Int); omega, h1, rfl, ?_, rfl⟩
    show xs.take i = keepL p (xs.take (i + 1))
    unfold keepL
    rw [List.take_add_one, List.getElem?_eq_getElem h1, List.filter_append]
    have e1 : (xs.take i).filter (fun x => !p x) = xs.take i := by
      refine List.filter_eq_self.2 fun y hy => ?_
      obtain ⟨j, hj⟩ := List.mem_iff_getElem?.1 hy
      have hjl := (List.getElem?_eq_some_iff.1 hj).1
      rw [List.length_take] at hjl
      have h4 := h3 j (by omega)
      rw [List.getElem?_take_of_lt (by omega), List.getElem?_eq_getElem (by omega)] at hj
      rw [← Option.some.inj hj]
      simpa using h4
    rw [e1]
    simp [h2]
theorem df_at (h : DF p xs ys q k) (hx : ys[k]? = some x) : xs[k]? = some x := by
  have h1 := h.2.2
  have : (ys.drop k)[0]? = some x := by rw [List.getElem?_drop]; exact hx
  rw [h1, List.getElem?_drop] at this
  exact this
theorem df_snoc (hx : xs[k]? = some x) : keepL p (xs.take (k + 1)) = keepL p (xs.take k) ++ (if p x = true then [] else [x]) := by
  unfold keepL
  rw [List.take_add_one, hx, List.filter_append]
  cases hp : p x <;> simp [hp]
theorem df_drop1 (h : DF p xs ys q k) : ys.drop (k + 1) = xs.drop (k + 1) := by
  have h1 := h.2.2
  rw [← List.drop_drop, ← List.drop_drop, h1]
theorem df_drop (h : DF p xs ys q k) (hx : ys[k]? = some x) (hp : p x = true) : DF p xs ys q (k + 1) :=
  ⟨h.1, by rw [df_snoc (df_at h hx), if_pos hp, List.append_nil]; exact h.2.1, df_drop1 h⟩
theorem df_keep (h : DF p xs ys q k) (hx : ys[k]? = some x) (hp : p x = false) (h0 : 0 ≤ q) (hq : q < ((k : Nat) : Int)) : DF p xs (ys.set q.toNat x) (q + 1) (k + 1) := by
  have hk := (List.getElem?_eq_some_iff.1 hx).1
  refine ⟨by rw [List.length_set]; exact h.1, ?_, ?_⟩
  · rw [df_snoc (df_at h hx), if_neg (by rw [hp]; decide), ← h.2.1, show (q + 1).toNat = q.toNat + 1 from by omega, List.take_add_one, List.take_set_of_le (Nat.le_refl _), List.getElem?_set_self (by omega)]
    rfl
  · rw [List.drop_set_of_lt (by omega)]
    exact df_drop1 h
theorem df_end (h : DF p xs ys q k) (hk : xs.length ≤ k) (h0 : 0 ≤ q) (hq : q.toNat ≤ ys.length) (m : Nat) : (ys.take q.toNat ++ (List.replicate m (0 : Int) ++ [])).take q.toNat = keepL p xs := by
  rw [List.take_left' (by rw [List.length_take]; omega), h.2.1, List.take_of_length_le hk]
end
def wrQ (its : List ItemL) (i : Int) : Bool := ((its[i.toNat]?).map (fun x => x.2.2.1)).getD false
section
variable {its : List ItemL} {v i : Int} {x : ItemL}
theorem wrQ_at (hx : its[i.toNat]? = some x) : wrQ its i = x.2.2.1 := by unfold wrQ; rw [hx]; rfl
theorem pastA_mem (o : OrdI its) {t : Int} {q : Nat} {x : Int} (hx : (pastA its t)[q]? = some x) : 0 ≤ x ∧ x < ((its.length : Nat) : Int) := by
  by_cases h : 0 ≤ t ∧ t < (its.length : Int)
  · have := past_at o h.1 h.2 hx
    omega
  · rw [← pastA_no h] at hx; simp at hx
end
end Go.Ew
namespace Go.Ew
set_option linter.unusedVariables false
set_option linter.unusedSimpArgs false
set_option linter.unusedSectionVars false
abbrev StepL := Int × Int × Int × Int × Int
def inO (fi : List ItemL) (i : Int) : Bool := decide (0 ≤ i) && decide (i < ((fi.length : Nat) : Int))
def outO (fi : List ItemL) (i : Int) : Bool := decide (i < 0) || decide (((fi.length : Nat) : Int) ≤ i)
def vrO (fi : List ItemL) (i : Int) : Int := ((fi[i.toNat]?).map (fun x => x.2.2.2.1)).getD 0
def otherO (fi : List ItemL) (a b : Int) : Bool := !decide (a = b) && wrQ fi a && wrQ fi b && decide (vrO fi a = vrO fi b)
def stpO (pre : List StepL) (k : Int) : Option StepL := if 0 ≤ k then pre[k.toNat]? else none
def saysO (pre : List StepL) (k a b : Int) : Bool := match stpO pre k with
  | some s => decide (s.2.1 = a) && decide (s.2.2.1 = b)
  | none => false
def transO (pre : List StepL) (s : StepL) : Bool := match stpO pre s.2.2.2.1, stpO pre s.2.2.2.2 with
  | some x, some y => decide (x.2.1 = s.2.1) && decide (x.2.2.1 = y.2.1) && decide (y.2.2.1 = s.2.2.1)
  | _, _ => false
def goodO (fi : List ItemL) (fo : List Int) (pre : List StepL) (s : StepL) : Bool :=
  if s.1 = 1 then decide (s.2.2.2.1 = -1) && decide (s.2.2.2.2 = -1) && ahA fi s.2.1 s.2.2.1
  else if s.1 = 2 then decide (s.2.2.2.1 = -1) && decide (s.2.2.2.2 = -1) && decide (fo.getD s.2.2.1.toNat 0 = s.2.1)
  else if s.1 = 3 then transO pre s
  else if s.1 = 4 then inO fi s.2.2.2.2 && decide (fo.getD s.2.2.2.2.toNat 0 = s.2.2.1) && otherO fi s.2.1 s.2.2.1 && saysO pre s.2.2.2.1 s.2.1 s.2.2.2.2
  else false
def okO (fi : List ItemL) (s : StepL) : Bool := inO fi s.2.1 && inO fi s.2.2.1
def plainO (pre : List StepL) (pl : List Bool) (s : StepL) : Bool :=
  if s.1 = 3 ∧ transO pre s = true then pl.getD s.2.2.2.1.toNat false && pl.getD s.2.2.2.2.toNat false else !decide (s.1 = 4)
theorem outO_lo {fi : List ItemL} {i : Int} (h : i < 0) : outO fi i = true := by unfold outO; rw [decide_eq_true h]; rfl
theorem outO_hi {fi : List ItemL} {i : Int} (h : ¬ i < 0) : decide (((fi.length : Nat) : Int) ≤ i) = outO fi i := by unfold outO; rw [decide_eq_false h]; rfl
theorem stpO_no {pre : List StepL} {k : Int} (h : k < 0 ∨ ((pre.length : Nat) : Int) ≤ k) : stpO pre k = none := by
  unfold stpO
  split
  · exact List.getElem?_eq_none (by omega)
  · rfl
theorem stpO_at {pre : List StepL} {k : Int} {s : StepL} (h : 0 ≤ k) (hx : pre[k.toNat]? = some s) : stpO pre k = some s := by unfold stpO; rw [if_pos h, hx]
theorem op_ok {fi : List ItemL} {a b : Int} : (!([a, b].any (outO fi))) = (inO fi a && inO fi b) := by
  unfold outO inO
  simp only [List.any_cons, List.any_nil, Bool.or_false, Bool.not_or]
  have h : ∀ i : Int, (!decide (i < 0) && !decide (((fi.length : Nat) : Int) ≤ i)) = (decide (0 ≤ i) && decide (i < ((fi.length : Nat) : Int))) := by
    intro i
    rw [← decide_not, ← decide_not]
    congr 1 <;> rw [decide_eq_decide] <;> omega
  rw [← h a, ← h b]
theorem says_no {pre : List StepL} {k a b : Int} (h : (stpO pre k).isSome = false) : false = saysO pre k a b := by
  unfold saysO
  cases hs : stpO pre k with
  | none => rfl
  | some s => rw [hs] at h; cases h
theorem says_eq {pre : List StepL} {k a b : Int} (h : (stpO pre k).isSome = true) : saysO pre k a b = (decide ((stpO pre k).elim 0 (·.2.1) = a) && decide ((stpO pre k).elim 0 (·.2.2.1) = b)) := by
  unfold saysO
  cases hs : stpO pre k with
  | none => rw [hs] at h; cases h
  | some s => rfl
theorem says_f {pre : List StepL} {k a b : Int} (h : (stpO pre k).isSome = true) (h2 : decide ((stpO pre k).elim 0 (·.2.1) = a) = false) : false = saysO pre k a b := by rw [says_eq h, h2]; rfl
theorem says_t {pre : List StepL} {k a b : Int} (h : (stpO pre k).isSome = true) (h2 : decide ((stpO pre k).elim 0 (·.2.1) = a) = true) : decide ((stpO pre k).elim 0 (·.2.2.1) = b) = saysO pre k a b := by rw [says_eq h, h2]; rfl
theorem other_at {fi : List ItemL} {a b : Int} {x y : ItemL} (hx : fi[a.toNat]? = some x) (hy : fi[b.toNat]? = some y) : otherO fi a b = (!decide (a = b) && x.2.2.1 && y.2.2.1 && decide (x.2.2.2.1 = y.2.2.2.1)) := by
  unfold otherO vrO
  rw [wrQ_at hx, wrQ_at hy, hx, hy]; rfl
def nxG (fi : List ItemL) (fo : List Int) (pre : List StepL) (s : StepL) : Bool := okO fi s && goodO fi fo pre s
def nxS (fi : List ItemL) (pre : List StepL) (s : StepL) : List StepL := if okO fi s = true then pre ++ [s] else pre
def nxP (fi : List ItemL) (pre : List StepL) (pl : List Bool) (s : StepL) : List Bool := if okO fi s = true then pl ++ [plainO pre pl s] else pl
theorem ok_eq {fi : List ItemL} {s : StepL} : (!([s.2.1, s.2.2.1].any (outO fi))) = okO fi s := op_ok
def takeO (fi : List ItemL) (fo : List Int) : List StepL → List Bool → List StepL → Bool × List StepL × List Bool
  | pre, pl, [] => (true, pre, pl)
  | pre, pl, s :: l => if okO fi s = true then (if goodO fi fo pre s = true then takeO fi fo (pre ++ [s]) (pl ++ [plainO pre pl s]) l else (false, pre ++ [s], pl ++ [plainO pre pl s])) else (false, pre, pl)
def stepsO (fi : List ItemL) (fo : List Int) (l : List StepL) : Bool := (takeO fi fo [] [] l).1
section
variable {fi : List ItemL} {fo : List Int}
theorem takeO_begin {l : List StepL} : ∀ {pre : List StepL} {pl : List Bool} (n : Nat), (takeO fi fo pre pl l).1 = true → (takeO fi fo pre pl (l.take n)).1 = true := by
  induction l with
  | nil => intro pre pl n h; rw [List.take_nil]; exact h
  | cons s l ih =>
    intro pre pl n h
    cases n with
    | zero => rfl
    | succ n =>
      rw [List.take_succ_cons]
      unfold takeO at h ⊢
      by_cases h1 : okO fi s = true
      · rw [if_pos h1] at h ⊢
        by_cases h2 : goodO fi fo pre s = true
        · rw [if_pos h2] at h ⊢; exact ih n h
        · rw [if_neg h2] at h; cases h
      · rw [if_neg h1] at h; cases h
theorem takeO_in {l : List StepL} : ∀ {pre : List StepL} {pl : List Bool}, (takeO fi fo pre pl l).1 = true → ∀ s ∈ l, okO fi s = true := by
  induction l with
  | nil => intro pre pl _ s hs; cases hs
  | cons x l ih =>
    intro pre pl h s hs
    unfold takeO at h
    by_cases h1 : okO fi x = true
    · rw [if_pos h1] at h
      by_cases h2 : goodO fi fo pre x = true
      · rw [if_pos h2] at h
        rcases List.mem_cons.1 hs with rfl | hs
        · exact h1
        · exact ih h s hs
      · rw [if_neg h2] at h; cases h
    · rw [if_neg h1] at h; cases h
end
end Go.Ew
namespace Go.Ew
set_option linter.unusedVariables false
set_option linter.unusedSimpArgs false
section
variable {fi : List ItemL} {fo : List Int} {pre : List StepL} {pl : List Bool} {kd fr to sa sb : Int}
theorem ok_rng (h : (!([fr, to].any (outO fi))) = true) : (0 ≤ fr ∧ fr < ((fi.length : Nat) : Int)) ∧ 0 ≤ to ∧ to < ((fi.length : Nat) : Int) := by
  rw [op_ok, Bool.and_eq_true] at h
  unfold inO at h
  simp only [Bool.and_eq_true, decide_eq_true_eq] at h
  exact h
theorem op1_eq : (!([sb].any (outO fi))) = inO fi sb := by
  have h := op_ok (fi := fi) (a := sb) (b := sb)
  simp only [List.any_cons, List.any_nil, Bool.or_false, Bool.or_self, Bool.and_self] at h ⊢
  exact h
theorem op1_rng (h : (!([sb].any (outO fi))) = true) : 0 ≤ sb ∧ sb < ((fi.length : Nat) : Int) := by
  rw [op1_eq] at h
  unfold inO at h
  simp only [Bool.and_eq_true, decide_eq_true_eq] at h
  exact h
theorem stpO_rng (h : (stpO pre sa).isSome = true) : 0 ≤ sa ∧ sa < ((pre.length : Nat) : Int) := by
  unfold stpO at h
  split at h
  · rename_i h0
    refine ⟨h0, ?_⟩
    obtain ⟨x, hx⟩ := Option.isSome_iff_exists.1 h
    have := (List.getElem?_eq_some_iff.1 hx).1
    omega
  · cases h
theorem nx_no (h : (!([fr, to].any (outO fi))) = false) : false = nxG fi fo pre (kd, fr, to, sa, sb) := by
  unfold nxG
  rw [← ok_eq (s := (kd, fr, to, sa, sb)), h]; rfl
theorem nxS_no (h : (!([fr, to].any (outO fi))) = false) : pre = nxS fi pre (kd, fr, to, sa, sb) := by
  unfold nxS
  rw [if_neg (by rw [← ok_eq (s := (kd, fr, to, sa, sb)), h]; decide)]
theorem nxP_no (h : (!([fr, to].any (outO fi))) = false) : pl = nxP fi pre pl (kd, fr, to, sa, sb) := by
  unfold nxP
  rw [if_neg (by rw [← ok_eq (s := (kd, fr, to, sa, sb)), h]; decide)]
theorem nx_yes {g : Bool} (h : (!([fr, to].any (outO fi))) = true) (hg : g = goodO fi fo pre (kd, fr, to, sa, sb)) : g = nxG fi fo pre (kd, fr, to, sa, sb) := by
  unfold nxG
  rw [← ok_eq (s := (kd, fr, to, sa, sb)), h, hg]; rfl
theorem nxS_yes (h : (!([fr, to].any (outO fi))) = true) : pre ++ [(kd, fr, to, sa, sb)] = nxS fi pre (kd, fr, to, sa, sb) := by
  unfold nxS
  rw [if_pos (by rw [← ok_eq (s := (kd, fr, to, sa, sb)), h])]
theorem nxP_yes {p : Bool} (h : (!([fr, to].any (outO fi))) = true) (hp : p = plainO pre pl (kd, fr, to, sa, sb)) : pl ++ [p] = nxP fi pre pl (kd, fr, to, sa, sb) := by
  unfold nxP
  rw [if_pos (by rw [← ok_eq (s := (kd, fr, to, sa, sb)), h]), hp]
-- good
theorem g_1 (h : kd = 1) : goodO fi fo pre (kd, fr, to, sa, sb) = (decide (sa = -1) && decide (sb = -1) && ahA fi fr to) := by unfold goodO; rw [if_pos h]
theorem g1a (h : kd = 1) (h1 : decide (sa = -1) = false) : false = goodO fi fo pre (kd, fr, to, sa, sb) := by rw [g_1 h, h1]; rfl
theorem g1b (h : kd = 1) (h1 : decide (sa = -1) = true) (h2 : decide (sb = -1) = false) : false = goodO fi fo pre (kd, fr, to, sa, sb) := by rw [g_1 h, h1, h2]; rfl
theorem g1c (h : kd = 1) (h1 : decide (sa = -1) = true) (h2 : decide (sb = -1) = true) : ahA fi fr to = goodO fi fo pre (kd, fr, to, sa, sb) := by rw [g_1 h, h1, h2]; rfl
theorem g_2 (h : kd = 2) : goodO fi fo pre (kd, fr, to, sa, sb) = (decide (sa = -1) && decide (sb = -1) && decide (fo.getD to.toNat 0 = fr)) := by unfold goodO; rw [if_neg (by show ¬ kd = 1; omega), if_pos h]
theorem g2a (h : kd = 2) (h1 : decide (sa = -1) = false) : false = goodO fi fo pre (kd, fr, to, sa, sb) := by rw [g_2 h, h1]; rfl
theorem g2b (h : kd = 2) (h1 : decide (sa = -1) = true) (h2 : decide (sb = -1) = false) : false = goodO fi fo pre (kd, fr, to, sa, sb) := by rw [g_2 h, h1, h2]; rfl
theorem g2c {x : Int} (h : kd = 2) (h1 : decide (sa = -1) = true) (h2 : decide (sb = -1) = true) (hx : fo[to.toNat]? = some x) : decide (x = fr) = goodO fi fo pre (kd, fr, to, sa, sb) := by
  rw [g_2 h, h1, h2, List.getD_eq_getElem?_getD, hx]; rfl
theorem g_3 (h : kd = 3) : goodO fi fo pre (kd, fr, to, sa, sb) = transO pre (kd, fr, to, sa, sb) := by unfold goodO; rw [if_neg (by show ¬ kd = 1; omega), if_neg (by show ¬ kd = 2; omega), if_pos h]
theorem t_no (h : (stpO pre sa).isSome = false ∨ (stpO pre sb).isSome = false) : transO pre (kd, fr, to, sa, sb) = false := by
  unfold transO
  rcases h with h | h
  · rw [show stpO pre (kd, fr, to, sa, sb).2.2.2.1 = none from Option.isSome_eq_false_iff.1 h |> Option.isNone_iff_eq_none.1]
  · rw [show stpO pre (kd, fr, to, sa, sb).2.2.2.2 = none from Option.isSome_eq_false_iff.1 h |> Option.isNone_iff_eq_none.1]
    cases stpO pre (kd, fr, to, sa, sb).2.2.2.1 <;> rfl
theorem t_eq (h : (stpO pre sa).isSome = true) (h2 : (stpO pre sb).isSome = true) : transO pre (kd, fr, to, sa, sb) = (decide ((stpO pre sa).elim 0 (·.2.1) = fr) && decide ((stpO pre sa).elim 0 (·.2.2.1) = (stpO pre sb).elim 0 (·.2.1)) && decide ((stpO pre sb).elim 0 (·.2.2.1) = to)) := by
  unfold transO
  obtain ⟨x, hx⟩ := Option.isSome_iff_exists.1 h
  obtain ⟨y, hy⟩ := Option.isSome_iff_exists.1 h2
  rw [show stpO pre (kd, fr, to, sa, sb).2.2.2.1 = some x from hx, show stpO pre (kd, fr, to, sa, sb).2.2.2.2 = some y from hy]
  first | rfl | (rw [hx, hy]; rfl) | (rw [hx]; rfl)
theorem g3a (h : kd = 3) (h1 : (stpO pre sa).isSome = false) : false = goodO fi fo pre (kd, fr, to, sa, sb) := by rw [g_3 h, t_no (.inl h1)]
theorem g3b (h : kd = 3) (h1 : (stpO pre sb).isSome = false) : false = goodO fi fo pre (kd, fr, to, sa, sb) := by rw [g_3 h, t_no (.inr h1)]
theorem g3c (h : kd = 3) (h1 : (stpO pre sa).isSome = true) (h2 : (stpO pre sb).isSome = true) (h3 : decide ((stpO pre sa).elim 0 (·.2.1) = fr) = false) : false = goodO fi fo pre (kd, fr, to, sa, sb) := by rw [g_3 h, t_eq h1 h2, h3]; rfl
theorem g3d (h : kd = 3) (h1 : (stpO pre sa).isSome = true) (h2 : (stpO pre sb).isSome = true) (h3 : decide ((stpO pre sa).elim 0 (·.2.1) = fr) = true) (h4 : decide ((stpO pre sa).elim 0 (·.2.2.1) = (stpO pre sb).elim 0 (·.2.1)) = false) : false = goodO fi fo pre (kd, fr, to, sa, sb) := by rw [g_3 h, t_eq h1 h2, h3, h4]; rfl
theorem g3e (h : kd = 3) (h1 : (stpO pre sa).isSome = true) (h2 : (stpO pre sb).isSome = true) (h3 : decide ((stpO pre sa).elim 0 (·.2.1) = fr) = true) (h4 : decide ((stpO pre sa).elim 0 (·.2.2.1) = (stpO pre sb).elim 0 (·.2.1)) = true) : decide ((stpO pre sb).elim 0 (·.2.2.1) = to) = goodO fi fo pre (kd, fr, to, sa, sb) := by rw [g_3 h, t_eq h1 h2, h3, h4]; rfl
theorem g_4 (h : kd = 4) : goodO fi fo pre (kd, fr, to, sa, sb) = (inO fi sb && decide (fo.getD sb.toNat 0 = to) && otherO fi fr to && saysO pre sa fr sb) := by unfold goodO; rw [if_neg (by show ¬ kd = 1; omega), if_neg (by show ¬ kd = 2; omega), if_neg (by show ¬ kd = 3; omega), if_pos h]
theorem g4a (h : kd = 4) (h1 : (!([sb].any (outO fi))) = false) : false = goodO fi fo pre (kd, fr, to, sa, sb) := by rw [g_4 h, ← op1_eq, h1]; rfl
theorem g4b {x : Int} (h : kd = 4) (h1 : (!([sb].any (outO fi))) = true) (hx : fo[sb.toNat]? = some x) (h2 : decide (x = to) = false) : false = goodO fi fo pre (kd, fr, to, sa, sb) := by
  rw [g_4 h, ← op1_eq, h1, List.getD_eq_getElem?_getD, hx, show (some x).getD 0 = x from rfl, h2]; rfl
theorem g4c {x : Int} (h : kd = 4) (h1 : (!([sb].any (outO fi))) = true) (hx : fo[sb.toNat]? = some x) (h2 : decide (x = to) = true) (h3 : otherO fi fr to = false) : false = goodO fi fo pre (kd, fr, to, sa, sb) := by
  rw [g_4 h, ← op1_eq, h1, List.getD_eq_getElem?_getD, hx, show (some x).getD 0 = x from rfl, h2, h3]; rfl
theorem g4d {x : Int} (h : kd = 4) (h1 : (!([sb].any (outO fi))) = true) (hx : fo[sb.toNat]? = some x) (h2 : decide (x = to) = true) (h3 : otherO fi fr to = true) : saysO pre sa fr sb = goodO fi fo pre (kd, fr, to, sa, sb) := by
  rw [g_4 h, ← op1_eq, h1, List.getD_eq_getElem?_getD, hx, show (some x).getD 0 = x from rfl, h2, h3]; rfl
theorem gnone (h1 : ¬ kd = 1) (h2 : ¬ kd = 2) (h3 : ¬ kd = 3) (h4 : ¬ kd = 4) : false = goodO fi fo pre (kd, fr, to, sa, sb) := by unfold goodO; rw [if_neg h1, if_neg h2, if_neg h3, if_neg h4]
-- plain
theorem p_n (h3 : ¬ kd = 3) (h4 : ¬ kd = 4) : true = plainO pre pl (kd, fr, to, sa, sb) := by
  unfold plainO
  rw [if_neg (fun h => h3 h.1)]
  show true = !decide (kd = 4)
  rw [decide_eq_false h4]; rfl
theorem p_1 (h : kd = 1) : true = plainO pre pl (kd, fr, to, sa, sb) := p_n (by omega) (by omega)
theorem p_2 (h : kd = 2) : true = plainO pre pl (kd, fr, to, sa, sb) := p_n (by omega) (by omega)
theorem p_4 (h : kd = 4) : false = plainO pre pl (kd, fr, to, sa, sb) := by
  unfold plainO
  rw [if_neg (fun h2 => by have : kd = 3 := h2.1; omega)]
  show false = !decide (kd = 4)
  rw [decide_eq_true h]; rfl
theorem p3n (h : kd = 3) (hg : transO pre (kd, fr, to, sa, sb) = false) : true = plainO pre pl (kd, fr, to, sa, sb) := by
  unfold plainO
  rw [if_neg (fun h2 => by rw [hg] at h2; exact absurd h2.2 (by decide))]
  show true = !decide (kd = 4)
  rw [decide_eq_false (by omega)]; rfl
theorem p3a (h : kd = 3) (h1 : (stpO pre sa).isSome = false) : true = plainO pre pl (kd, fr, to, sa, sb) := p3n h (t_no (.inl h1))
theorem p3b (h : kd = 3) (h1 : (stpO pre sb).isSome = false) : true = plainO pre pl (kd, fr, to, sa, sb) := p3n h (t_no (.inr h1))
theorem p3c (h : kd = 3) (h1 : (stpO pre sa).isSome = true) (h2 : (stpO pre sb).isSome = true) (h3 : decide ((stpO pre sa).elim 0 (·.2.1) = fr) = false) : true = plainO pre pl (kd, fr, to, sa, sb) := p3n h (by rw [t_eq h1 h2, h3]; rfl)
theorem p3d (h : kd = 3) (h1 : (stpO pre sa).isSome = true) (h2 : (stpO pre sb).isSome = true) (h3 : decide ((stpO pre sa).elim 0 (·.2.1) = fr) = true) (h4 : decide ((stpO pre sa).elim 0 (·.2.2.1) = (stpO pre sb).elim 0 (·.2.1)) = false) : true = plainO pre pl (kd, fr, to, sa, sb) := p3n h (by rw [t_eq h1 h2, h3, h4]; rfl)
theorem p3e (h : kd = 3) (h1 : (stpO pre sa).isSome = true) (h2 : (stpO pre sb).isSome = true) (h3 : decide ((stpO pre sa).elim 0 (·.2.1) = fr) = true) (h4 : decide ((stpO pre sa).elim 0 (·.2.2.1) = (stpO pre sb).elim 0 (·.2.1)) = true) (h5 : decide ((stpO pre sb).elim 0 (·.2.2.1) = to) = false) : true = plainO pre pl (kd, fr, to, sa, sb) := p3n h (by rw [t_eq h1 h2, h3, h4, h5]; rfl)
theorem p_3 (h : kd = 3) (h1 : (stpO pre sa).isSome = true) (h2 : (stpO pre sb).isSome = true) (h3 : decide ((stpO pre sa).elim 0 (·.2.1) = fr) = true) (h4 : decide ((stpO pre sa).elim 0 (·.2.2.1) = (stpO pre sb).elim 0 (·.2.1)) = true) (h5 : decide ((stpO pre sb).elim 0 (·.2.2.1) = to) = true) : plainO pre pl (kd, fr, to, sa, sb) = (pl.getD sa.toNat false && pl.getD sb.toNat false) := by
  unfold plainO
  rw [if_pos ⟨h, by rw [t_eq h1 h2, h3, h4, h5]; rfl⟩]
theorem p3f {x : Bool} (h : kd = 3) (h1 : (stpO pre sa).isSome = true) (h2 : (stpO pre sb).isSome = true) (h3 : decide ((stpO pre sa).elim 0 (·.2.1) = fr) = true) (h4 : decide ((stpO pre sa).elim 0 (·.2.2.1) = (stpO pre sb).elim 0 (·.2.1)) = true) (h5 : decide ((stpO pre sb).elim 0 (·.2.2.1) = to) = true)
    (hx : pl[sa.toNat]? = some x) (h6 : x = false) : false = plainO pre pl (kd, fr, to, sa, sb) := by
  rw [p_3 h h1 h2 h3 h4 h5, List.getD_eq_getElem?_getD, hx, h6]; rfl
theorem p3g {x y : Bool} (h : kd = 3) (h1 : (stpO pre sa).isSome = true) (h2 : (stpO pre sb).isSome = true) (h3 : decide ((stpO pre sa).elim 0 (·.2.1) = fr) = true) (h4 : decide ((stpO pre sa).elim 0 (·.2.2.1) = (stpO pre sb).elim 0 (·.2.1)) = true) (h5 : decide ((stpO pre sb).elim 0 (·.2.2.1) = to) = true)
    (hx : pl[sa.toNat]? = some x) (h6 : x = true) (hy : pl[sb.toNat]? = some y) : y = plainO pre pl (kd, fr, to, sa, sb) := by
  rw [p_3 h h1 h2 h3 h4 h5, List.getD_eq_getElem?_getD, List.getD_eq_getElem?_getD, hx, hy, h6]; rfl
end
end Go.Ew
namespace Go.Ew
set_option linter.unusedVariables false
set_option linter.unusedSimpArgs false
set_option linter.unusedSectionVars false
def o11 (h : HistL) : Bool := rightH h && decide ((chkA (ofI h)).2.2 = 0)
def o11V (h : HistL) : List ByteArray := if o11 h then ofV h else []
def o11I (h : HistL) : List ItemL := if o11 h then ofI h else []
def o11F (h : HistL) : List Int := if o11 h then fromR (ofI h) else []
theorem o11_no {h : HistL} (hq : o11 h = false) : o11V h = [] ∧ o11I h = [] ∧ o11F h = [] := by unfold o11V o11I o11F; simp [hq]
theorem o11_yes {h : HistL} (hq : o11 h = true) : o11V h = ofV h ∧ o11I h = ofI h ∧ o11F h = fromR (ofI h) := by unfold o11V o11I o11F; simp [hq]
theorem o11_no1 {h : HistL} (he : ¬ ofE h = 0) : o11 h = false := by
  unfold o11
  cases hr : rightH h with
  | false => rfl
  | true => exact absurd (of_ok hr).2.2 he
theorem o11_r {h : HistL} (he : ofE h = 0) : rightH h = true := by
  cases hr : rightH h with
  | true => rfl
  | false => rw [(of_bad hr).2.2] at he; cases he
theorem o11_no2 {h : HistL} (he : ¬ (chkA (ofI h)).2.2 = 0) : o11 h = false := by unfold o11; rw [decide_eq_false he]; simp
theorem o11_is {h : HistL} (he : ofE h = 0) (hc : (chkA (ofI h)).2.2 = 0) : o11 h = true := by unfold o11; rw [o11_r he, decide_eq_true hc]; rfl
theorem o11I_len (h : HistL) : (o11I h).length ≤ h.flatten.length := by
  unfold o11I; split
  · exact ofI_len h
  · simp
theorem ord_nil : OrdI ([] : List ItemL) := ⟨fun h => absurd h (Nat.lt_irrefl 0), fun i h => absurd h (Nat.not_lt_zero _)⟩
theorem o11_ord (h : HistL) : OrdI (o11I h) := by
  unfold o11I; split
  · exact ofI_ord h
  · exact ord_nil
theorem o11F_len (h : HistL) : (o11F h).length = (o11I h).length := by
  unfold o11F o11I; split
  · exact fromR_len _
  · rfl
def rfP (fo : List Int) (a b : Nat) : Bool := decide (fo.getD b (-1) = ((a : Nat) : Int))
def rfR (fi : List ItemL) (fo : List Int) : Rows := matP fi.length (rfP fo)
def rfTo (n : Nat) (fo : List Int) (j : Nat) : Rows := matP n fun a b => decide (b < j) && rfP fo a b
theorem rf_zero (n : Nat) (fo : List Int) : newM ((n : Nat) : Int) = rfTo n fo 0 := by
  rw [newM_matP]; exact matP_congr fun a b _ _ => by simp
theorem rf_end {fi : List ItemL} {fo : List Int} {j : Nat} (hl : fo.length = fi.length) (hj : fo.length ≤ j) : rfTo fi.length fo j = rfR fi fo :=
  matP_congr fun a b _ hb => by rw [decide_eq_true (show b < j by omega)]; rfl
theorem rf_no {n : Nat} {fo : List Int} {j : Nat} {w : Int} (hw : fo[((j : Nat) : Int).toNat]? = some w) (h : w < 0) : rfTo n fo j = rfTo n fo (j + 1) := by
  refine matP_congr fun a b ha hb => ?_
  by_cases e : b = j
  · subst e
    rw [Int.toNat_natCast] at hw
    unfold rfP
    rw [List.getD_eq_getElem?_getD, hw, decide_eq_false (show ¬ (some w).getD (-1) = ((a : Nat) : Int) by simp; omega)]; simp
  · have : decide (b < j) = decide (b < j + 1) := by rw [decide_eq_decide]; omega
    rw [this]
theorem rf_in {n j : Nat} {w : Int} (h0 : 0 ≤ w) (hw : w < ((n : Nat) : Int)) (hj : j < n) : inM ((n : Nat) : Int) [w, ((j : Nat) : Int)] = true := inM_two.2 (by omega)
theorem rf_set {n : Nat} {fo : List Int} {j : Nat} {w : Int} (hw : fo[((j : Nat) : Int).toNat]? = some w) (h0 : 0 ≤ w) (h1 : w < ((n : Nat) : Int)) (hj : j < n) : setM (rfTo n fo j) (w, ((j : Nat) : Int)) = rfTo n fo (j + 1) := by
  unfold rfTo
  rw [setM_matP (rf_in h0 h1 hj)]
  refine matP_congr fun a b ha hb => ?_
  rw [Int.toNat_natCast] at hw ⊢
  by_cases e : b = j
  · subst e
    rw [decide_eq_false (Nat.lt_irrefl b), decide_eq_true (Nat.lt_succ_self b), decide_eq_true rfl]
    unfold rfP
    rw [List.getD_eq_getElem?_getD, hw]
    show (false && _ || decide (a = w.toNat) && true) = (true && decide (w = ((a : Nat) : Int)))
    rw [Bool.false_and, Bool.false_or, Bool.and_true, Bool.true_and, decide_eq_decide]
    omega
  · rw [decide_eq_false e, Bool.and_false, Bool.or_false]
    have : decide (b < j) = decide (b < j + 1) := by rw [decide_eq_decide]; omega
    rw [this]
theorem rf_put {n : Nat} {fo : List Int} {j : Nat} {w : Int} {xs : Rows} {x : Row} (hs : xs = rfTo n fo j) (hw : fo[((j : Nat) : Int).toNat]? = some w) (h0 : 0 ≤ w) (h1 : w < ((n : Nat) : Int)) (hj : j < n) (hx : xs[w.toNat]? = some x) : xs.set w.toNat (setR x ((j : Nat) : Int)) = rfTo n fo (j + 1) := by
  rw [setM_of hx, hs]; exact rf_set hw h0 h1 hj
theorem rfTo_len (n : Nat) (fo : List Int) (j : Nat) : (rfTo n fo j).length = n := matP_len _ _
theorem rfR_len (fi : List ItemL) (fo : List Int) : (rfR fi fo).length = fi.length := matP_len _ _
theorem rfTo_sq {n : Nat} (h : n ≤ 4096) (fo : List Int) (j : Nat) : (((rfTo n fo j).length : Nat) : Int) = ((n : Nat) : Int) ∧ ∀ x ∈ rfTo n fo j, x.length ≤ 1000000000 := ⟨by rw [rfTo_len], matP_small h⟩
theorem mat_sq {n : Nat} (h : n ≤ 4096) (P : Nat → Nat → Bool) : (((matP n P).length : Nat) : Int) = ((n : Nat) : Int) ∧ ∀ x ∈ matP n P, x.length ≤ 1000000000 := ⟨by rw [matP_len], matP_small h⟩
def edP (fi : List ItemL) (fo : List Int) (a b : Nat) : Bool := ahN fi a b || rfP fo a b
def edR (fi : List ItemL) (fo : List Int) : Rows := matP fi.length (edP fi fo)
theorem ed_or (fi : List ItemL) (fo : List Int) : orMN ((fi.length : Nat) : Int) ((fi.length : Nat) : Int) = ((fi.length : Nat) : Int) ∧ orMR ((fi.length : Nat) : Int) (poR fi) ((fi.length : Nat) : Int) (rfR fi fo) = edR fi fo := by
  refine ⟨(orM_yes (ar := poR fi) (br := rfR fi fo) rfl).1, ?_⟩
  rw [(orM_yes rfl).2.1, Int.toNat_natCast]
  exact orRs_matP _ _
def coP (fi : List ItemL) (fo : List Int) : Nat → Nat → Bool := cl fi.length (edP fi fo)
def coR (fi : List ItemL) (fo : List Int) : Rows := matP fi.length (coP fi fo)
theorem co_close (fi : List ItemL) (fo : List Int) : closeM ((fi.length : Nat) : Int) (edR fi fo) = coR fi fo := closeM_matP
theorem ed_right {fi : List ItemL} (fo : List Int) (h : fi.length ≤ 4096) : rightS ((fi.length : Nat) : Int) (edR fi fo) = true := right_matP h
theorem co_right {fi : List ItemL} (fo : List Int) (h : fi.length ≤ 4096) : rightS ((fi.length : Nat) : Int) (coR fi fo) = true := right_matP h
end Go.Ew
namespace Go.Ew
set_option linter.unusedVariables false
set_option linter.unusedSimpArgs false
def hasI (l : List Int) (n : Int) : Bool := l.any (fun z_ => decide (n = z_))
def kindsO (lv : Int) : List Int := bif decide (lv = 1) then [1, 2, 3, 4] else bif decide (lv = 2) then [1, 2, 3, 4] ++ [5] else bif decide (lv = 3) then [1, 2, 3, 4] ++ [6, 7] else []
def unnO (kd r w1 w2 o fs sn : Int) : List Int := bif decide (kd = 1) then [w1, w2, o, fs, sn] else bif decide (kd = 2) then [r, w1, w2, sn] else bif decide (kd = 5) then [r, w1, w2, sn] else bif decide (kd = 3) then [w2, o, sn] else bif decide (kd = 4) then [o] else bif decide (kd = 6) then [w2, sn] else [r, w2, sn]
def foundO (pl : List Bool) (s : StepL) : Bool := decide (s.1 = 4) && !(pl.getD s.2.2.2.1.toNat false)
def withinO (wl kl : List Int) (s : StepL) : Bool := bif decide (s.1 = 1) then !hasI wl s.2.2.1 else bif decide (s.1 = 2) then !hasI wl s.2.2.1 else bif decide (s.1 = 4) then !hasI kl s.2.2.2.2 else false
section
variable (fi : List ItemL) (fo : List Int)
def worldO (o : Int) : List Int := withL ((fi.length : Nat) : Int) (coR fi fo) o
def keptO (o : Int) : List Int := keepL (wrQ fi) (pastA fi o)
def wthO (stp : List StepL) (o : Int) : Bool := !(stp.any (withinO (worldO fi fo o) (keptO fi o)))
def earlyO (r w : Int) : Bool := !(([r, w] : List Int).any (outO fi)) && decide (fo.getD r.toNat 0 = -1) && wrQ fi w && decide (vrO fi w = vrO fi r)
def patO (stp : List StepL) (pl : List Bool) (kd r w1 w2 o fs sn : Int) : Bool :=
  bif decide (kd = 1) then !(([r] : List Int).any (outO fi)) && decide (fo.getD r.toNat 0 = -2) && decide (((stp.length : Nat) : Int) = 0)
  else bif decide (kd = 2) then !(([o] : List Int).any (outO fi)) && !(pl.any (fun z_ => false == z_)) && saysO stp fs o o
  else bif decide (kd = 3) then earlyO fi fo r w1 && !(pl.any (fun z_ => false == z_)) && saysO stp fs w1 r
  else bif decide (kd = 4) then !(([r, w1, w2] : List Int).any (outO fi)) && decide (fo.getD r.toNat 0 = w1) && otherO fi w1 w2 && !(pl.any (fun z_ => false == z_)) && saysO stp fs w1 w2 && saysO stp sn w2 r
  else bif decide (kd = 5) then !(([o] : List Int).any (outO fi)) && !(stp.any (foundO pl)) && saysO stp fs o o
  else bif decide (kd = 6) then !(([o] : List Int).any (outO fi)) && earlyO fi fo r w1 && hasI (keptO fi o) r && wthO fi fo stp o && saysO stp fs w1 r
  else bif decide (kd = 7) then !(([o, w1] : List Int).any (outO fi)) && wthO fi fo stp o && saysO stp fs w1 w1
  else false
def holdsO (lv kd r w1 w2 o : Int) (l : List StepL) (fs sn : Int) : Bool :=
  hasI (kindsO lv) kd && !((unnO kd r w1 w2 o fs sn).any (fun x_ => !decide (x_ = -1))) && (takeO fi fo [] [] l).1 && patO fi fo (takeO fi fo [] [] l).2.1 (takeO fi fo [] [] l).2.2 kd r w1 w2 o fs sn
end
section
variable {fi : List ItemL} {fo : List Int}
theorem op3_rng {fr to sb : Int} (h : (!(([fr, to, sb] : List Int).any (outO fi))) = true) : (0 ≤ fr ∧ fr < ((fi.length : Nat) : Int)) ∧ (0 ≤ to ∧ to < ((fi.length : Nat) : Int)) ∧ 0 ≤ sb ∧ sb < ((fi.length : Nat) : Int) := by
  have e : (!(([fr, to, sb] : List Int).any (outO fi))) = (!(([fr, to] : List Int).any (outO fi)) && !(([sb] : List Int).any (outO fi))) := by
    simp only [List.any_cons, List.any_nil, Bool.or_false, Bool.not_or, Bool.and_assoc]
  rw [e, Bool.and_eq_true] at h
  exact ⟨(ok_rng h.1).1, (ok_rng h.1).2, op1_rng h.2⟩
theorem nx_iff {pre : List StepL} {s : StepL} : nxG fi fo pre s = true ↔ okO fi s = true ∧ goodO fi fo pre s = true := by unfold nxG; rw [Bool.and_eq_true]
theorem takeO_yes {l pre : List StepL} {pl : List Bool} {j : Nat} {s : StepL} (hx : l[((j : Nat) : Int).toNat]? = some s) (h : nxG fi fo pre s = true) : takeO fi fo pre pl (l.drop j) = takeO fi fo (nxS fi pre s) (nxP fi pre pl s) (l.drop (j + 1)) := by
  rw [Int.toNat_natCast] at hx
  obtain ⟨hj, he⟩ := List.getElem?_eq_some_iff.1 hx
  rw [List.drop_eq_getElem_cons hj, he]
  obtain ⟨h1, h2⟩ := nx_iff.1 h
  unfold nxS nxP
  rw [if_pos h1, if_pos h1, takeO, if_pos h1, if_pos h2]
theorem takeO_no {l pre : List StepL} {pl : List Bool} {j : Nat} {s : StepL} (hx : l[((j : Nat) : Int).toNat]? = some s) (h : nxG fi fo pre s = false) : takeO fi fo pre pl (l.drop j) = (false, nxS fi pre s, nxP fi pre pl s) := by
  rw [Int.toNat_natCast] at hx
  obtain ⟨hj, he⟩ := List.getElem?_eq_some_iff.1 hx
  rw [List.drop_eq_getElem_cons hj, he]
  unfold nxS nxP
  rw [takeO]
  by_cases h1 : okO fi s = true
  · rw [if_pos h1, if_pos h1, if_pos h1]
    by_cases h2 : goodO fi fo pre s = true
    · rw [nx_iff.2 ⟨h1, h2⟩] at h; cases h
    · rw [if_neg h2]
  · rw [if_neg h1, if_neg h1, if_neg h1]
theorem takeO_end {l pre : List StepL} {pl : List Bool} {j : Nat} (h : l.length ≤ j) : takeO fi fo pre pl (l.drop j) = (true, pre, pl) := by
  rw [List.drop_eq_nil_of_le h]; rfl
theorem nxS_len {pre : List StepL} {s : StepL} (h : nxG fi fo pre s = true) : (nxS fi pre s).length = pre.length + 1 := by
  unfold nxS; rw [if_pos (nx_iff.1 h).1, List.length_append]; rfl
theorem nxP_len {pre : List StepL} {pl : List Bool} {s : StepL} (h : nxG fi fo pre s = true) : (nxP fi pre pl s).length = pl.length + 1 := by
  unfold nxP; rw [if_pos (nx_iff.1 h).1, List.length_append]; rfl
theorem takeO_lens {l : List StepL} : ∀ {pre : List StepL} {pl : List Bool}, (takeO fi fo pre pl l).1 = true → pl.length = pre.length → (takeO fi fo pre pl l).2.2.length = (takeO fi fo pre pl l).2.1.length := by
  induction l with
  | nil => intro pre pl _ h; exact h
  | cons s l ih =>
    intro pre pl h hl
    unfold takeO at h ⊢
    by_cases h1 : okO fi s = true
    · rw [if_pos h1] at h ⊢
      by_cases h2 : goodO fi fo pre s = true
      · rw [if_pos h2] at h ⊢
        exact ih h (by rw [List.length_append, List.length_append, hl]; rfl)
      · rw [if_neg h2] at h; cases h
    · rw [if_neg h1] at h; cases h
theorem good4 {pre : List StepL} {s : StepL} (h : goodO fi fo pre s = true) (h4 : s.1 = 4) : 0 ≤ s.2.2.2.1 ∧ s.2.2.2.1 < ((pre.length : Nat) : Int) := by
  obtain ⟨kd, fr, to, sa, sb⟩ := s
  rw [g_4 h4] at h
  simp only [Bool.and_eq_true] at h
  have hs := h.2
  unfold saysO at hs
  cases hq : stpO pre sa with
  | none => rw [hq] at hs; cases hs
  | some x => exact stpO_rng (by rw [hq]; rfl)
theorem takeO_rule {l : List StepL} : ∀ {pre : List StepL} {pl : List Bool}, (takeO fi fo pre pl l).1 = true → (∀ x ∈ pre, x.1 = 4 → 0 ≤ x.2.2.2.1 ∧ x.2.2.2.1 < ((pre.length : Nat) : Int)) → ∀ x ∈ (takeO fi fo pre pl l).2.1, x.1 = 4 → 0 ≤ x.2.2.2.1 ∧ x.2.2.2.1 < (((takeO fi fo pre pl l).2.1.length : Nat) : Int) := by
  induction l with
  | nil => intro pre pl _ h; exact h
  | cons s l ih =>
    intro pre pl h hl
    unfold takeO at h ⊢
    by_cases h1 : okO fi s = true
    · rw [if_pos h1] at h ⊢
      by_cases h2 : goodO fi fo pre s = true
      · rw [if_pos h2] at h ⊢
        refine ih h fun x hx hk => ?_
        rw [List.length_append]
        rcases List.mem_append.1 hx with hx | hx
        · have := hl x hx hk; simp only [List.length_cons, List.length_nil]; omega
        · rw [List.mem_singleton.1 hx] at hk ⊢
          have := good4 h2 hk; simp only [List.length_cons, List.length_nil]; omega
      · rw [if_neg h2] at h; cases h
    · rw [if_neg h1] at h; cases h
theorem rule_in {l : List StepL} (h : (takeO fi fo [] [] l).1 = true) : ∀ x ∈ (takeO fi fo [] [] l).2.1, x.1 = 4 → 0 ≤ x.2.2.2.1 ∧ x.2.2.2.1 < (((takeO fi fo [] [] l).2.2.length : Nat) : Int) := by
  rw [takeO_lens h rfl]
  exact takeO_rule h (fun x hx => by cases hx)
end
end Go.Ew
namespace Go.Ew
set_option linter.unusedVariables false
set_option linter.unusedSimpArgs false
section
variable (fi : List ItemL) (fo : List Int)
end
section
variable {fi : List ItemL} {fo : List Int}
end
end Go.Ew
namespace Go.Ew
set_option linter.unusedVariables false
set_option linter.unusedSimpArgs false
section
variable {fi : List ItemL} {fo : List Int} {l : List StepL}
theorem steps_begin (n : Nat) (h : stepsO fi fo l = true) : stepsO fi fo (l.take n) = true := takeO_begin n h
theorem steps_in {i : Nat} {s : StepL} (h : stepsO fi fo l = true) (hs : l[i]? = some s) : (0 ≤ s.2.1 ∧ s.2.1 < ((fi.length : Nat) : Int)) ∧ 0 ≤ s.2.2.1 ∧ s.2.2.1 < ((fi.length : Nat) : Int) := by
  have := takeO_in h s (List.mem_of_getElem? hs)
  unfold okO inO at this
  simp only [Bool.and_eq_true, decide_eq_true_eq] at this
  exact this
theorem steps_nil : stepsO fi fo [] = true := rfl
end
-- loops that ask all, or any
section
variable {α : Type} {l : List α} {p : α → Bool} {q : Nat → Bool} {j n : Nat} {x : α}
end
section
variable {l : List StepL} {j : Nat} {s : StepL} {ys : List Bool} {x : Bool}
end
section
variable {fi : List ItemL} {fo : List Int} {l : List StepL}
end
end Go.Ew
namespace Go.Ew
open Go.RowKit Go.WideShapes Go.ChangeShapes
set_option linter.unusedVariables false
set_option linter.unusedSimpArgs false
structure Bulk (B : (H : Type) → DataW H → Nat) : Prop where
  lit : ∀ (H : Type) l, 1 ≤ B H (.lit l)
  str : ∀ (H : Type) bs, bs.length + 1 ≤ B H (.lit (.string bs))
  nil : ∀ (H : Type), 1 ≤ B H .nil
  slice : ∀ (H : Type) (es sp : List (DataW H)), (es.map (B H)).sum + 1 ≤ B H (.slice es sp)
  agg : ∀ (H : Type) (ps : List (DataW H)), (ps.map (B H)).sum ≤ B H (.agg ps)
class Wt (α : Type) where
  wt : α → Nat
instance wtInt : Wt Int := ⟨fun _ => 1⟩
instance wtBV : Wt (BitVec 64) := ⟨fun _ => 1⟩
instance wtB8 : Wt (BitVec 8) := ⟨fun _ => 1⟩
instance wtBool : Wt Bool := ⟨fun _ => 1⟩
instance wtStr : Wt ByteArray := ⟨fun s => s.size + 1⟩
instance wtList {α : Type} [Wt α] : Wt (List α) := ⟨fun l => (l.map Wt.wt).sum + 1⟩
instance wtProd {α β : Type} [Wt α] [Wt β] : Wt (α × β) := ⟨fun x => Wt.wt x.1 + Wt.wt x.2⟩
theorem wt_len {α : Type} [Wt α] (h1 : ∀ x : α, 1 ≤ Wt.wt x) : ∀ l : List α, l.length ≤ (l.map Wt.wt).sum
  | [] => Nat.le_refl _
  | x :: l => by
    have := wt_len h1 l
    have := h1 x
    simp only [List.length_cons, List.map_cons, List.sum_cons]; omega
theorem wt_flat {α : Type} [Wt α] (h1 : ∀ x : α, 1 ≤ Wt.wt x) : ∀ h : List (List α), h.flatten.length ≤ Wt.wt h := by
  intro h
  show _ ≤ (h.map Wt.wt).sum + 1
  induction h with
  | nil => simp
  | cons l h ih =>
    have := wt_len h1 l
    simp only [List.flatten_cons, List.length_append, List.map_cons, List.sum_cons]
    show _ ≤ ((l.map Wt.wt).sum + 1) + (h.map Wt.wt).sum + 1
    omega
theorem wt_prod {α β : Type} [Wt α] [Wt β] (h : ∀ x : β, 1 ≤ Wt.wt x) : ∀ x : α × β, 1 ≤ Wt.wt x := fun x => by
  have := h x.2
  show 1 ≤ Wt.wt x.1 + Wt.wt x.2
  omega
theorem wt_int : ∀ x : Int, 1 ≤ Wt.wt x := fun _ => Nat.le_refl _
def OpensB (B : (H : Type) → DataW H → Nat) (P : Program) (t : TypeId) (α : Type) [GT α] [Wt α] : Prop :=
  P.cellsOf t = GT.size α ∧ ∀ {H : Type} (enc : TypeId × Value → H) (W : World) (n : Nat) (cs : List Value) (x : DataW H × List MemPlace),
    DataW.trod enc P W 0 (fun _ => true) true n t cs = some x → ∃ y : α, GT.rep NoM W cs y ∧ Wt.wt y ≤ B H x.1
section
variable {P : Program} {t e : TypeId} {B : (H : Type) → DataW H → Nat}
theorem opensB_int (hB : Bulk B) (hc : P.cellsOf t = 1) (ht : P.underlying t = some (.int .i64)) : OpensB B P t Int := by
  refine ⟨hc, fun {H} enc W n cs x h => ?_⟩
  obtain ⟨k, rfl, rfl, hw⟩ := DataW.trod_int ht h
  exact ⟨k, ⟨rfl, bounds_i64 hw⟩, hB.lit H _⟩
theorem opensB_bool (hB : Bulk B) (hc : P.cellsOf t = 1) (ht : P.underlying t = some .bool) : OpensB B P t Bool := by
  refine ⟨hc, fun {H} enc W n cs x h => ?_⟩
  obtain ⟨k, rfl, rfl⟩ := DataW.trod_bool ht h
  exact ⟨k, rfl, hB.lit H _⟩
theorem opensB_string (hB : Bulk B) (hc : P.cellsOf t = 1) (ht : P.underlying t = some .string) : OpensB B P t ByteArray := by
  refine ⟨hc, fun {H} enc W n cs x h => ?_⟩
  obtain ⟨k, rfl, rfl, hk⟩ := DataW.trod_string ht h
  refine ⟨k, ⟨rfl, hk⟩, ?_⟩
  have := hB.str H k.data.toList
  rw [Array.length_toList] at this
  exact this
theorem wt_sum {α : Type} [Wt α] {D : Type} (g : D → Nat) : ∀ (l : List α) (es : List D), l.length = es.length → (∀ (i : Nat) (y : α) (x : D), l[i]? = some y → es[i]? = some x → Wt.wt y ≤ g x) → (l.map Wt.wt).sum ≤ (es.map g).sum
  | [], [], _, _ => Nat.le_refl _
  | [], _ :: _, h, _ => by simp at h
  | _ :: _, [], h, _ => by simp at h
  | y :: l, x :: es, h, k => by
    have h1 := wt_sum g l es (by simpa using h) fun i y x hy hx => k (i + 1) y x (by simpa using hy) (by simpa using hx)
    have h2 := k 0 y x rfl rfl
    simp only [List.map_cons, List.sum_cons]; omega
theorem opensB_slice {α : Type} [GT α] [Wt α] (hB : Bulk B) (hc : P.cellsOf t = 1) (ht : P.underlying t = some (.slice e)) (O : OpensB B P e α) : OpensB B P t (List α) := by
  refine ⟨hc, fun {H} enc W n cs x h => ?_⟩
  rcases DataW.trod_slice ht h with ⟨rfl, rfl⟩ | ⟨a, len, cap, elems, rest, m, rfl, rfl, rfl, -, hl, hm, hlen, hel, -, -⟩
  · exact ⟨[], ⟨_, rfl, rs_nil _ _⟩, hB.nil H⟩
  · have one : ∀ i, i < len → ∃ y : α, At NoM W (a.add (i * GT.size α)) y ∧ ∀ z, elems[i]? = some z → Wt.wt y ≤ B H z.1 := by
      intro i hi
      have h1 := hel i hi
      rw [List.getElem?_eq_getElem (by omega : i < elems.length)] at h1
      simp only [Option.bind_eq_some_iff] at h1
      obtain ⟨ds, hd, hx⟩ := h1
      obtain ⟨y, hy, hw⟩ := O.2 enc W m ds _ hx
      rw [O.1] at hd
      refine ⟨y, ⟨ds, hy, fun h => h, cells_get hd⟩, fun z hz => ?_⟩
      rw [List.getElem?_eq_getElem (by omega : i < elems.length)] at hz
      cases hz
      exact hw
    obtain ⟨l, hl1, hl2⟩ := choose_list (Q := fun i (y : α) => At NoM W (a.add (i * GT.size α)) y ∧ ∀ z, elems[i]? = some z → Wt.wt y ≤ B H z.1) len one
    refine ⟨l, ⟨_, rfl, some a, len, cap, rfl, hl1, hl, hm, ?_⟩, ?_⟩
    · by_cases h0 : len = 0
      · exact .inl h0
      · exact .inr ⟨a, rfl, fun i y hy => (hl2 i y hy).1⟩
    · have h1 := wt_sum (fun z : DataW H × List MemPlace => B H z.1) l elems (by omega) fun i y x hy hx => (hl2 i y hy).2 x hx
      have h2 := hB.slice H (elems.map (·.1)) (rest.map (·.1))
      rw [List.map_map] at h2
      show (l.map Wt.wt).sum + 1 ≤ _
      exact Nat.le_trans (Nat.add_le_add_right h1 1) h2
def OpensRB (B : (H : Type) → DataW H → Nat) (P : Program) (off total : Nat) (fs : List Field) (α : Type) [GT α] [Wt α] : Prop :=
  off + GT.size α = total ∧ ∀ {H : Type} (enc : TypeId × Value → H) (W : World) (n : Nat) (cs : List Value) (xs : List (DataW H × List MemPlace)), cs.length = total → xs.length = fs.length →
    (∀ (i : Nat) f, fs[i]? = some f → DataW.trod enc P W 0 (fun _ => true) true n f.type ((cs.drop f.offset).take (P.cellsOf f.type)) = xs[i]?) → ∃ y : α, GT.rep NoM W (cs.drop off) y ∧ Wt.wt y ≤ ((xs.map (·.1)).map (B H)).sum
theorem opensRB_one {α : Type} [GT α] [Wt α] {f : Field} {off total : Nat} (ho : f.offset = off) (O : OpensB B P f.type α) (hs : off + GT.size α = total) : OpensRB B P off total [f] α := by
  refine ⟨hs, fun {H} enc W n cs xs hl hx h => ?_⟩
  match xs, hx, h with
  | [x], _, h =>
    have h1 := h 0 f rfl
    obtain ⟨y, hy, hw⟩ := O.2 enc W n _ _ h1
    rw [O.1, ho, List.take_of_length_le (by simp; omega)] at hy
    exact ⟨y, hy, by simpa using hw⟩
theorem opensRB_cons {α β : Type} [GT α] [GT β] [Wt α] [Wt β] {f : Field} {fs : List Field} {off off' total : Nat} (ho : f.offset = off) (O : OpensB B P f.type α) (hs : off + GT.size α = off') (R : OpensRB B P off' total fs β) : OpensRB B P off total (f :: fs) (α × β) := by
  refine ⟨by rw [← R.1, ← hs]; show off + (GT.size α + GT.size β) = _; omega, fun {H} enc W n cs xs hl hx h => ?_⟩
  match xs, hx, h with
  | x :: xs, hx, h =>
    have h1 := h 0 f rfl
    obtain ⟨y, hy, hw⟩ := O.2 enc W n _ _ h1
    obtain ⟨z, hz, hv⟩ := R.2 enc W n cs xs hl (by simpa using hx) fun i g hg => h (i + 1) g (by simpa using hg)
    rw [O.1, ho] at hy
    refine ⟨(y, z), ⟨(cs.drop off).take (GT.size α), cs.drop off', ?_, hy, hz⟩, ?_⟩
    · rw [← hs, ← List.drop_drop]
      exact (List.take_append_drop _ _).symm
    · simp only [List.map_cons, List.sum_cons]
      exact Nat.add_le_add hw hv
theorem opensB_struct {α : Type} [GT α] [Wt α] {fs : Array Field} (hB : Bulk B) (ht : P.underlying t = some (.struct fs)) (hc : P.cellsOf t = GT.size α) (R : OpensRB B P 0 (P.cellsOf t) fs.toList α) : OpensB B P t α := by
  refine ⟨hc, fun {H} enc W n cs x h => ?_⟩
  obtain ⟨xs, m, rfl, rfl, hl, hx, hf⟩ := DataW.trod_struct ht h
  obtain ⟨y, hy, hw⟩ := R.2 enc W m cs xs hl (by simpa using hx) fun i f hf' => hf i f (by rw [← Array.getElem?_toList]; exact hf')
  exact ⟨y, by simpa using hy, Nat.le_trans hw (hB.agg H _)⟩
section
variable {H : Type} {enc : TypeId × Value → H} {W : World} {base : Nat} {v : Value} {d : DataW H} {ps : List MemPlace}
theorem topB_slice {α : Type} [GT α] [Wt α] (ht : P.underlying t = some (.slice e)) (O : OpensB B P t (List α)) (hv : Value.okWide P W .any base t v) (h : DataW.Trod enc P W 0 (fun _ => true) true t v d ps) :
    ∃ (y : List α) (a : Option Addr) (c : Nat), v = .slice a y.length c ∧ RV NoM W (.slice a y.length c) y ∧ Wt.wt y ≤ B H d := by
  obtain ⟨a, n, c, rfl⟩ := okWide_slice ht hv
  obtain ⟨m, h⟩ := h
  obtain ⟨y, hy, hw⟩ := O.2 enc W m _ _ h
  obtain ⟨a', c', e, hr⟩ := RS.explicit (RV.list.1 (⟨_, hy, rfl⟩ : RV NoM W (.slice a n c) y))
  injection e with e1 e2 e3
  subst e1 e2 e3
  exact ⟨y, a, c, rfl, hr, hw⟩
end
end
end Go.Ew
