/- Engine, part W: function values of two rows. -/
import Derived.Test.YtmhopljngkgidaaDoorEngV
namespace Go.Ew
open Go.RowKit
set_option linter.unusedVariables false
set_option linter.unusedSimpArgs false

/-- A function value over pairs of these data: it answers q, and writes nothing that was there. -/
def FP2 {α β : Type} [GT α] [GT β] (P : Program) (g : FuncId) (C : List Value) (M : Nat → Prop) (w : World) (xs : List α) (ys : List β) (q : α → β → Bool) : Prop :=
  GoF P g ∧ ∀ w1 v x u y, x ∈ xs → y ∈ ys → Ext w w1 → RV M w1 v x → RV M w1 u y → Calls P g ([v, u] ++ C).toArray w1 (Ret fun r w2 => r = .bool (q x y) ∧ Ext w1 w2)
theorem FP2.sub {α β : Type} [GT α] [GT β] {P : Program} {g : FuncId} {C : List Value} {M M' : Nat → Prop} {w w' : World} {xs : List α} {ys : List β} {q : α → β → Bool} (h : FP2 P g C M w xs ys q) (e : Ext w w') (hM : ∀ b, M b → M' b) : FP2 P g C M' w' xs ys q :=
  ⟨h.1, fun w1 v x u y hx hy e' hv hu => h.2 w1 v x u y hx hy (e.trans e') (hv.lift (Up.less fun b _ hb => hM b hb)) (hu.lift (Up.less fun b _ hb => hM b hb))⟩
end Go.Ew
