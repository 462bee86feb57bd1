/-
  A statement of the seat: what its contract is, and the claim. Conditions: as each says.
-/
import Derived.Test.YtlphlodailailaaGreatY14
import Derived.Test.YtlphlodailailaaGreatA09
set_option linter.unusedVariables false
set_option linter.unusedSimpArgs false
set_option maxHeartbeats 8000000
namespace Go.Proofs.YtlphlodailailaaGreat
open Go.Vw
attribute [local irreducible] awp awpL awpR

theorem lightLs_ok {l : List R3} {m : Nat} (h : ∀ r ∈ l, RawR r) (hl : lightLs l m = true) : l.length ≤ m ∧ ∀ r ∈ l, RatOk r 9 := by
  unfold lightLs at hl
  simp only [Bool.and_eq_true, decide_eq_true_eq, List.all_eq_true] at hl
  exact ⟨hl.1, fun r hr => (h r hr).light (hl.2 r hr)⟩
theorem cf_ok {p : List Rat} {K : Nat} (h : ∀ i, okQ K (cf p i)) : ∀ x ∈ p, okQ K x := fun x hx => by
  obtain ⟨i, hi, rfl⟩ := List.getElem_of_mem hx
  have := h i
  rwa [cf_eq hi] at this
end Go.Proofs.YtlphlodailailaaGreat
