/-
  A statement of the seat: what its contract is, and the claim. Conditions: as each says.
-/
import Derived.Test.YtlphlodailailaaGreatS60
import Derived.Test.YtlphlodailailaaGreatA08
set_option linter.unusedVariables false
set_option linter.unusedSimpArgs false
set_option maxHeartbeats 8000000
namespace Go.Proofs.YtlphlodailailaaGreat
open Go.Vw
attribute [local irreducible] awp awpL awpR

theorem sameQ_of (x y : Rat) (h : x = y) (hx : okQ 1000000 x) : Ret Tryz.prog 29 [qD x, qD y] (· = .bool true) := by
  have := ref03_SameQ x x (hx.mono (by decide)) (hx.mono (by decide))
  rw [decide_eq_true rfl] at this
  rw [← h]; exact this
end Go.Proofs.YtlphlodailailaaGreat
