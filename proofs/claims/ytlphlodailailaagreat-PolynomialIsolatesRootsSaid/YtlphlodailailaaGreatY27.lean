/-
  A statement of the seat: what its contract is, and the claim. Conditions: as each says.
-/
import Derived.Test.YtlphlodailailaaGreatY26
import Derived.Test.YtlphlodailailaaGreatA09
import Derived.Test.YtlphlodailailaaGreatA10
set_option linter.unusedVariables false
set_option linter.unusedSimpArgs false
set_option maxHeartbeats 8000000
namespace Go.Proofs.YtlphlodailailaaGreat
open Go.Vw
attribute [local irreducible] awp awpL awpR

theorem chS_small : ChS smallP := ⟨chOk_small.tr, chOk_small.len, fun p tp => by
  by_cases h0 : p = []
  · subst h0
    exact ⟨1, by decide, fun x => by rw [Rat.one_mul]; rfl⟩
  · have hl := lead_ne tp h0
    have hp : 0 < absQ (lead p) := by
      unfold absQ
      split
      · grind
      · grind
    refine ⟨absQ (lead p), hp, fun x => ?_⟩
    unfold smallP
    rw [eval_smul, ← Rat.mul_assoc, Rat.mul_comm (absQ (lead p)), div_mul_cancel' (Rat.ne_of_gt hp), Rat.one_mul]⟩
theorem vrsF_eq (F : List (List Rat)) (x : Rat) : vrsF F x = vrs (F.map evalP) x := by
  unfold vrsF vrs sgs
  rw [List.map_map]
  rfl
end Go.Proofs.YtlphlodailailaaGreat
