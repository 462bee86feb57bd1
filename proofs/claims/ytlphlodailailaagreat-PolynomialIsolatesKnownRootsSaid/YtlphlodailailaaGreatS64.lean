/-
  A statement of the seat: what its contract is, and the claim. Conditions: as each says.
-/
import Derived.Test.YtlphlodailailaaGreatS63
import Derived.Test.YtlphlodailailaaGreatA09
import Derived.Test.YtlphlodailailaaGreatA10
set_option linter.unusedVariables false
set_option linter.unusedSimpArgs false
set_option maxHeartbeats 8000000
namespace Go.Proofs.YtlphlodailailaaGreat
open Go.Vw
attribute [local irreducible] awp awpL awpR

theorem numQ2 (v : Int) : okQ 2 (numQ v) := by
  have lm : ∀ n, n < 4294967296 → (limbs n).length < 2 := fun n h => by
    rcases Nat.eq_zero_or_pos n with e | e
    · subst e; rw [limbs_zero]; decide
    · rw [limbs_small (by show n < 4294967296; omega) (by omega)]; simp
  exact okQ_divInt (by omega) (lm _ (by omega)) (lm _ (by omega))
theorem nums2 (l : List Int) (m : Nat) : ∀ q ∈ (l.take m).map numQ, okQ 2 q := fun q hq => by
  obtain ⟨v, _, rfl⟩ := List.mem_map.1 hq
  exact numQ2 v
theorem ht2 {p : List Rat} (hp : ∀ x ∈ p, okQ 2 x) {n : Nat} (hl : p.length ≤ n) : HtP (n * 2 + 2) (trimP p) := (HtP.of_ok (by decide) p hp).trim.mono (by omega)
end Go.Proofs.YtlphlodailailaaGreat
