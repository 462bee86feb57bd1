/-
  A statement of the seat: what its contract is, and the claim. Conditions: as each says.
-/
import Derived.Test.YtlphlodailailaaGreatY15
import Derived.Test.YtlphlodailailaaGreatA08
import Derived.Test.YtlphlodailailaaGreatA10
set_option linter.unusedVariables false
set_option linter.unusedSimpArgs false
set_option maxHeartbeats 8000000
namespace Go.Proofs.YtlphlodailailaaGreat
open Go.Vw
attribute [local irreducible] awp awpL awpR

def xN (n : Nat) : List Rat := List.replicate n 0 ++ [1]
structure XOk (n : Nat) (E : List Rat) : Prop where
  e : derP (xN n) = E
  tx : trimP (xN n) = xN n
  ty : trimP (xN (n - 1)) = xN (n - 1)
  m : monicP E = xN (n - 1)
  mx : monicP (xN (n - 1)) = xN (n - 1)
  r : remP (xN n) E = []
  q : divP (xN n) (xN (n - 1)) = ([0, 1], [])
  s1 : smB (xN n) = true
  s2 : smB (xN (n - 1)) = true
  s3 : smB E = true
  l1 : (xN n).length = n + 1
  l2 : (xN (n - 1)).length = n
  l3 : E.length = n
  n0 : 1 ≤ n
  n1 : n ≤ 30
end Go.Proofs.YtlphlodailailaaGreat
