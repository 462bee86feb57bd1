/-
  A statement of the seat: what its contract is, and the claim. Conditions: as each says.
-/
import Derived.Test.YtlphlodailailaaGreatY30
import Derived.Test.YtlphlodailailaaGreatA10
set_option linter.unusedVariables false
set_option linter.unusedSimpArgs false
set_option maxHeartbeats 8000000
namespace Go.Proofs.YtlphlodailailaaGreat
open Go.Vw
attribute [local irreducible] awp awpL awpR

theorem interval_MidI (X : I2) (oX : okI 150000 X) (h : X.1 ≤ X.2) : Ret Tryz.prog 102 [iQ X] (· = qD (mid2 X)) := by
  have k := interval_Mid (rq X.1) (rq X.2) (ok_rq (oX.1.mono (by decide))) (ok_rq (oX.2.mono (by decide)))
  rwa [rv_rq, rv_rq, takeI_of h] at k
abbrev cfn (p : List Rat) : Rat → Rat → Int := fun a b => cntF (ctr (trimP p)) a b
end Go.Proofs.YtlphlodailailaaGreat
