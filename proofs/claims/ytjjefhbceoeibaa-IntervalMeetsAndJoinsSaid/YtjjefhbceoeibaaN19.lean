/-
  A statement of the seat: what its contract is, and the claim. Conditions: as each says.
-/
import Derived.Test.YtjjefhbceoeibaaA10
import Derived.Test.YtjjefhbceoeibaaItvE
set_option linter.unusedVariables false
set_option linter.unusedSimpArgs false
set_option maxHeartbeats 4000000
namespace Go.Proofs.Ytjjefhbceoeibaa
open Go.Vw
attribute [local irreducible] awp awpL awpR

theorem same_I (i : I2) (h : okI 1000000 i) : Ret Try.prog 14 [iQ i, iQ i] (· = .bool true) := by
  have := ref04_SameI i i h h
  rw [decide_eq_true rfl] at this
  exact this
theorem same_0 : Ret Try.prog 14 [iD r0 r0, iD r0 r0] (· = .bool true) := by
  have := ref04_Same r0 r0 r0 r0 ⟨by decide, by decide⟩ ⟨by decide, by decide⟩ ⟨by decide, by decide⟩ ⟨by decide, by decide⟩
  rw [decide_eq_true rfl, Bool.and_self] at this
  exact this
theorem sameQ_true (x : Rat) (h : okQ 100000000000 x) : Ret Try.prog 32 [qD x, qD x] (· = .bool true) := by
  have := ref03_SameQ x x h h
  rw [decide_eq_true rfl] at this
  exact this
theorem contains_Q (i : I2) (hle : i.1 ≤ i.2) (hi : okI 50000 i) (x : Rat) (hx : okQ 50000 x) (h : In i x) : Ret Try.prog 9 [iQ i, qD x] (· = .bool true) := by
  have := interval_ContainsI i hle hi (rq x) (ok_rq hx)
  rw [rv_rq, containsI_iff.2 h] at this
  exact this
theorem within_Q (i j : I2) (hi : i.1 ≤ i.2) (hj : j.1 ≤ j.2) (oi : okI 50000 i) (oj : okI 50000 j) (h : withinI i j = true) : Ret Try.prog 10 [iQ i, iQ j] (· = .bool true) := by
  have := interval_WithinI i j hi hj oi oj
  rw [h] at this
  exact this
end Go.Proofs.Ytjjefhbceoeibaa
