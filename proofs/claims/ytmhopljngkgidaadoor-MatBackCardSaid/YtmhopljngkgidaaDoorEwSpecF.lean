/- Plain words: the lowest bit of a word; the library's table for it. -/
import Derived.Test.YtmhopljngkgidaaDoorEwSpecE
import Derived.Test.YtmhopljngkgidaaDoorEngQ
import Derived.LaidMore
import Derived.Stop.Joined
namespace Go.Ew
open Go.RowKit Go.WideShapes Go.ChangeShapes
set_option linter.unusedVariables false

def tabN : List Nat := [0, 1, 56, 2, 57, 49, 28, 3, 61, 58, 42, 50, 38, 29, 17, 4, 62, 47, 59, 36, 45, 43, 51, 22, 53, 39, 33, 30, 24, 18, 12, 5, 63, 55, 48, 27, 60, 41, 37, 16, 46, 35, 44, 21, 52, 32, 23, 11, 54, 26, 40, 15, 34, 20, 31, 10, 25, 14, 19, 9, 13, 8, 7, 6]
/-- The table lies in its block. -/
def TabAt (g : Nat) (w : World) : Prop := ∀ i, i < 64 → w.cell? ⟨g, i, none⟩ = some (.int .u8 ((tabN.getD i 0 : Nat) : Int))
theorem TabAt.ext {g : Nat} {w w' : World} (h : TabAt g w) (e : Ext w w') : TabAt g w' := by
  intro i hi
  have h1 := h i hi
  rw [Below.cell e (p := ⟨g, i, none⟩) (block_lt_cell h1)]
  exact h1
def tab8 (i : Nat) : BitVec 8 := BitVec.ofNat 8 (tabN.getD i 0)
theorem tab_lt : ∀ i < 64, tabN.getD i 0 < 64 := by decide
theorem tab8_nat {i : Nat} (h : i < 64) : ((tab8 i).toNat : Int) = ((tabN.getD i 0 : Nat) : Int) := by
  have := tab_lt i h
  unfold tab8
  rw [BitVec.toNat_ofNat]
  omega
theorem TabAt.at_ {g : Nat} {w : World} {M : Nat → Prop} (h : TabAt g w) {i : Nat} (hi : i < 64) : AtW M w ⟨g, i, none⟩ (tab8 i) := by
  refine ⟨[U8 (tab8 i)], rfl, fun j v hv => ?_⟩
  cases j with
  | zero =>
    simp at hv; subst hv
    rw [show (⟨g, i, none⟩ : Addr).add 0 = ⟨g, i, none⟩ from rfl, h i hi, U8, tab8_nat hi]
  | succ j => simp at hv

theorem tabA {g : Nat} {w0 w : World} {M : Nat → Prop} (h : TabAt g w0) (e : Ext w0 w) {i : Nat} {ad : Addr} (ha : (⟨g, 0, none⟩ : Addr).add (i * 1) = ad) (hi : i < 64) : AtW M w ad (tab8 i) := by
  have : ad = ⟨g, i, none⟩ := by
    rw [← ha, Nat.mul_one]
    unfold Addr.add
    split
    · rename_i h; rw [h]
    · simp
  rw [this]
  exact (h.ext e).at_ hi
/-- Where the row says that the table is laid, it lies there. -/
theorem tab_of_laid {P : Program} {g : Nat} {t e : TypeId} {name : String} {D : DataW Unit} {W : World} (hg : P.globalNamed name = some g) (ht : (P.globals[g]?).map (·.type) = some t)
    (hu : P.underlying t = some (.array 64 e)) (he : P.underlying e = some (.int .u8)) (hc : P.cellsOf e = 1) (hD : D = .agg (tabN.map fun k => .lit (.int .u8 ((k : Nat) : Int)))) (h : laidMetH P [(name, D)] W)
    (hp : laidMetH P [(name, D)] W ↔ laidMet P [(name, D)] W) : TabAt g W := by
  rw [hp] at h
  obtain ⟨ps, ⟨g0, t0, cs0, f0, p0, q0, hg0, ht0, hv0, hd0, _⟩, _⟩ := h
  obtain rfl := Option.some.inj (hg.symm.trans hg0)
  obtain rfl := Option.some.inj (ht.symm.trans ht0)
  obtain ⟨xs, m, rfl, hx, hlen, hn, hel⟩ := DataW.trod_array hu hd0
  intro i hi
  have h1 := hel i hi
  rw [hc, Nat.mul_one, List.getElem?_eq_getElem (by omega : i < xs.length)] at h1
  obtain ⟨k, e1, e2, _⟩ := DataW.trod_int he h1
  simp only [Prod.mk.injEq] at hx
  have h2 : (DataW.agg (tabN.map fun k => DataW.lit (Lit.int .u8 ((k : Nat) : Int))) : DataW Unit) = .agg (xs.map (·.1)) := by rw [← hD]; exact hx.1
  injection h2 with h3
  have h4 := congrArg (fun l => l[i]?) h3
  have hti : i < tabN.length := by simpa [tabN] using hi
  simp only [List.getElem?_map, List.getElem?_eq_getElem hti, List.getElem?_eq_getElem (by omega : i < xs.length), Option.map_some, e2, Option.some.injEq] at h4
  injection h4 with h5
  injection h5 with h6 h7
  have h8 : tabN.getD i 0 = tabN[i] := by rw [List.getD_eq_getElem?_getD, List.getElem?_eq_getElem hti]; rfl
  rw [h8, h7]
  have := World.var?_cell hg0 hv0 i
  have hc2 : cs0[i]? = some (.int .u8 k) := by
    have : (cs0.toList.drop i).head? = some (.int .u8 k) := by
      have h9 : ((cs0.toList.drop i).take 1).head? = some (.int .u8 k) := by rw [e1]; rfl
      cases hq : cs0.toList.drop i with
      | nil => rw [hq] at h9; simp at h9
      | cons a b => rw [hq] at h9; simpa using h9
    rw [List.head?_drop] at this
    simpa using this
  rw [hc2] at this
  simpa using this
end Go.Ew
