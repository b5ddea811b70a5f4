/- Plain words: a row's list. -/
import Derived.Test.YtmhopljngkgidaaDoorEwSpecG
namespace Go.Ew
set_option linter.unusedVariables false

def intsW (j : Nat) (x : BitVec 64) : List Int := (listW x).map fun k => (j : Int) * 64 + ((k : Nat) : Int)
def listTo (r : Row) (j : Nat) : List Int := (List.range j).flatMap fun i => intsW i (r.getD i 0#64)
def listR (r : Row) : List Int := listTo r r.length
theorem intsW_zero (j : Nat) : intsW j 0#64 = [] := by unfold intsW; rw [listW_zero]; rfl
theorem intsW_step {j : Nat} {x : BitVec 64} (h : x ≠ 0#64) : intsW j x = ((j : Int) * 64 + ((firstW x : Nat) : Int)) :: intsW j (x &&& (x - 1#64)) := by
  unfold intsW; rw [clear h]; rfl
theorem listW_length (x : BitVec 64) : (listW x).length ≤ 64 := by
  unfold listW
  exact Nat.le_trans (List.length_filter_le _ _) (by simp)
theorem intsW_length (j : Nat) (x : BitVec 64) : (intsW j x).length ≤ 64 := by unfold intsW; rw [List.length_map]; exact listW_length x
theorem listTo_succ (r : Row) (j : Nat) : listTo r (j + 1) = listTo r j ++ intsW j (r.getD j 0#64) := by
  unfold listTo; rw [List.range_succ, List.flatMap_append]; simp
theorem listTo_length (r : Row) : ∀ j, (listTo r j).length ≤ 64 * j
  | 0 => by simp [listTo]
  | j + 1 => by
    have := listTo_length r j
    have := intsW_length j (r.getD j 0#64)
    rw [listTo_succ, List.length_append]; omega
theorem clear_less {x : BitVec 64} (h : x ≠ 0#64) : (listW (x &&& (x - 1#64))).length < (listW x).length := by
  rw [clear h]; simp
theorem listR_length (r : Row) : (listR r).length ≤ 64 * r.length := listTo_length r _
end Go.Ew
