/-
  A statement of the seat: what its contract is, and the claim. Conditions: as each says.
-/
import Derived.Test.YtlphlodailailaaGreatY14
import Derived.Test.YtlphlodailailaaGreatA10
set_option linter.unusedVariables false
set_option linter.unusedSimpArgs false
set_option maxHeartbeats 8000000
namespace Go.Proofs.YtlphlodailailaaGreat
open Go.Vw
attribute [local irreducible] awp awpL awpR

theorem cf_ok {p : List Rat} {K : Nat} (h : ∀ i, okQ K (cf p i)) : ∀ x ∈ p, okQ K x := fun x hx => by
  obtain ⟨i, hi, rfl⟩ := List.getElem_of_mem hx
  have := h i
  rwa [cf_eq hi] at this
end Go.Proofs.YtlphlodailailaaGreat
