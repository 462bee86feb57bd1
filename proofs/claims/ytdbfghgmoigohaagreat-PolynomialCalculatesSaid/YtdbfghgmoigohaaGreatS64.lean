/-
  A statement of the seat: what its contract is, and the claim. Conditions: as each says.
-/
import Derived.Test.YtdbfghgmoigohaaGreatS63
import Derived.Test.YtdbfghgmoigohaaGreatA08
set_option linter.unusedVariables false
set_option linter.unusedSimpArgs false
set_option maxHeartbeats 8000000
namespace Go.Proofs.YtdbfghgmoigohaaGreat
open Go.Vw
attribute [local irreducible] awp awpL awpR

theorem ht2 {p : List Rat} (hp : ∀ x ∈ p, okQ 2 x) {n : Nat} (hl : p.length ≤ n) : HtP (n * 2 + 2) (trimP p) := (HtP.of_ok (by decide) p hp).trim.mono (by omega)
theorem mulT_le {p m : List Rat} {a b : Nat} (hp : p.length ≤ a) (hm : m.length ≤ b) : (mulT p m).length ≤ a + b := (tr_mulT p m).len_lt fun i hi => by
  unfold mulT
  rw [cf_trim]
  have hh := mul_high p m a b (fun i hi => cf_ge (by omega)) (fun i hi => cf_ge (by omega))
  by_cases e : i = a + b
  · rw [e, hh.1, cf_ge hp, Rat.zero_mul]
  · exact hh.2 i (by omega)
theorem sameQ (R : List Rat) (hl : R.length ≤ 1000) (ho : ∀ x ∈ R, okQ 10000000 x) : Ret Tryz.prog 8 [qsD R, qsD R] (· = .bool true) := by
  have h := ref03_SameListQ R R (by omega) (by omega) ho ho
  rwa [decide_eq_true rfl] at h
end Go.Proofs.YtdbfghgmoigohaaGreat
