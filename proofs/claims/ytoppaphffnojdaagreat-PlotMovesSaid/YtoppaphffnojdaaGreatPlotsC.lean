/-
  Plots of characters: the sum of the counts. Conditions: as each says.
-/
import Derived.Test.YtoppaphffnojdaaGreatPlotsB
import Derived.Test.YtoppaphffnojdaaGreatA10
set_option linter.unusedVariables false
set_option linter.unusedSimpArgs false
namespace Go.Vw
def inQ (lo hi : Rat) (q : Rat) : Bool := decide (lo ≤ q) && decide (q ≤ hi)
def countIn (lo hi : Rat) (vs : List Rat) : Nat := (vs.filter (inQ lo hi)).length
end Go.Vw
