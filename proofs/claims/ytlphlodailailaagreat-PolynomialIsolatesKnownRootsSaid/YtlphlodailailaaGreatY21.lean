/-
  A statement of the seat: what its contract is, and the claim. Conditions: as each says.
-/
import Derived.Test.YtlphlodailailaaGreatY20
import Derived.Test.YtlphlodailailaaGreatA10
set_option linter.unusedVariables false
set_option linter.unusedSimpArgs false
set_option maxHeartbeats 8000000
namespace Go.Proofs.YtlphlodailailaaGreat
open Go.Vw
attribute [local irreducible] awp awpL awpR

theorem ref05_negQ (r : List Rat) (hT : Tr r) (hr : r.length ≤ 400) (ok : ∀ x ∈ r, okQ 5000000 x) : Ret Tryz.prog 67 [qsD r, qD ((-1 : Int) : Rat), .int .i64 0] (· = qsD (negC r)) := by
  have h := ref05_scaled (r.map rq) (rq ((-1 : Int) : Rat)) 0 (by rw [List.length_map]; exact hr) (by omega) (rqs_ok ok) (ok_rq ((ok_intW (by decide)).mono (by decide)))
  rw [map_rv_rqL, rv_rq, show (shiftP 0 (smul ((-1 : Int) : Rat) r)) = negC r from rfl, trim_of (tr_neg hT)] at h
  exact h.args (leQRs r (LeT.refl _))
end Go.Proofs.YtlphlodailailaaGreat
