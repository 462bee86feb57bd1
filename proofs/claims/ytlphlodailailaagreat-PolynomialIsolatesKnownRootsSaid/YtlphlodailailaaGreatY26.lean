/-
  A statement of the seat: what its contract is, and the claim. Conditions: as each says.
-/
import Derived.Test.YtlphlodailailaaGreatY25
import Derived.Test.YtlphlodailailaaGreatS64
import Derived.Test.YtlphlodailailaaGreatA09
import Derived.Test.YtlphlodailailaaGreatA10
set_option linter.unusedVariables false
set_option linter.unusedSimpArgs false
set_option maxHeartbeats 8000000
namespace Go.Proofs.YtlphlodailailaaGreat
open Go.Vw
attribute [local irreducible] awp awpL awpR

theorem ln_sm {n : Nat} (h : n < 4294967296) : ln n < 2 := by
  unfold ln
  rcases Nat.eq_zero_or_pos n with e | e
  · subst e; rw [limbs_zero]; decide
  · rw [limbs_small (by show n < 4294967296; omega) (by omega)]; simp
theorem ht_der {h : Nat} {p : List Rat} (H : HtP h p) (hl : p.length ≤ 1000) : HtP (h + 1) (derP p) := by
  refine HtP.trim ?_
  obtain ⟨c, P, c0, hc, hp⟩ := H
  refine ⟨c, fun i => if i < p.length then ((i + 1 : Nat) : Int) * P (i + 1) else 0, c0, by omega, fun i => ?_⟩
  dsimp only
  rw [cf_der]
  split
  · refine ⟨?_, ?_⟩
    · have := ln_mulZ (a := ((i + 1 : Nat) : Int)) (h := 2) (by rw [Int.natAbs_natCast]; exact ln_sm (by omega)) (hp (i + 1)).1
      omega
    · rw [(hp (i + 1)).2, Rat.divInt_eq_div, Rat.divInt_eq_div, Rat.intCast_mul, Rat.div_def, Rat.div_def, Rat.mul_assoc, Rat.intCast_natCast]
  · refine ⟨by show ln 0 < h + 1; rw [ln_zero]; omega, ?_⟩
    rw [cf_ge (by omega), Rat.mul_zero]
    exact (Rat.zero_divInt c).symm
theorem ht_small {h : Nat} {p : List Rat} (t : Tr p) (H : HtP h p) : HtP (h + 1) (smallP p) := chOk_small.ht p h t H
end Go.Proofs.YtlphlodailailaaGreat
