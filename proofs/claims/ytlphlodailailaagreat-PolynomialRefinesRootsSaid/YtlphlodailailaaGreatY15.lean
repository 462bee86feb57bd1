/-
  A statement of the seat: what its contract is, and the claim. Conditions: as each says.
-/
import Derived.Test.YtlphlodailailaaGreatS61
import Derived.Test.YtlphlodailailaaGreatA08
import Derived.Test.YtlphlodailailaaGreatA09
set_option linter.unusedVariables false
set_option linter.unusedSimpArgs false
set_option maxHeartbeats 8000000
namespace Go.Proofs.YtlphlodailailaaGreat
open Go.Vw
attribute [local irreducible] awp awpL awpR

def encK (p : List Rat) (X : I2) : Nat → I2
  | 0 => (0, 0)
  | k + 1 => addI (if k = 0 then encK p X k else mulI (encK p X k) X) (p.getD (p.length - 1 - k) 0, p.getD (p.length - 1 - k) 0)
end Go.Proofs.YtlphlodailailaaGreat
