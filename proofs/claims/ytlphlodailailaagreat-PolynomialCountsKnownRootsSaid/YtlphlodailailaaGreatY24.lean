/-
  A statement of the seat: what its contract is, and the claim. Conditions: as each says.
-/
import Derived.Test.YtlphlodailailaaGreatY23
import Derived.Test.YtlphlodailailaaGreatA09
set_option linter.unusedVariables false
set_option linter.unusedSimpArgs false
set_option maxHeartbeats 8000000
namespace Go.Proofs.YtlphlodailailaaGreat
open Go.Vw
attribute [local irreducible] awp awpL awpR

inductive PosM : List (List Rat) → List (List Rat) → Prop
  | nil : PosM [] []
  | cons {c : Rat} {a : List Rat} {l l' : List (List Rat)} : 0 < c → PosM l l' → PosM (smul c a :: l) (a :: l')
theorem PosM.refl : ∀ l, PosM l l
  | [] => .nil
  | a :: l => by
    have := PosM.cons (c := 1) (a := a) (by decide) (PosM.refl l)
    rwa [smul_one] at this
end Go.Proofs.YtlphlodailailaaGreat
