/-
  A statement of the seat: what its contract is, and the claim. Conditions: as each says.
-/
import Derived.Test.YtoppaphffnojdaaGreatN13
import Derived.Test.YtoppaphffnojdaaGreatN14
import Derived.Test.YtoppaphffnojdaaGreatN16
import Derived.Test.YtoppaphffnojdaaGreatN17
import Derived.Test.YtoppaphffnojdaaGreatA09
import Derived.Test.YtoppaphffnojdaaGreatA10
set_option linter.unusedVariables false
set_option linter.unusedSimpArgs false
set_option maxHeartbeats 4000000
namespace Go.Proofs.YtoppaphffnojdaaGreat
open Go.Vw
attribute [local irreducible] awp awpL awpR

theorem ok_frac {a b : Int} (hb : b ≠ 0) (ha : a.natAbs < 18446744073709551616) (hb2 : b.natAbs < 18446744073709551616) : okQ 10 (Rat.divInt a b) :=
  okQ_divInt hb (Nat.lt_of_le_of_lt (u64_len ha) (by decide)) (Nat.lt_of_le_of_lt (u64_len hb2) (by decide))
theorem tmodFact18 (k n : Int) (h : 0 < n) : -n < k.tmod n ∧ k.tmod n < n ∧ k % n = if k.tmod n < 0 then k.tmod n + n else k.tmod n := by
  have h1 := Int.tmod_lt_of_pos k h
  have h2 := Int.lt_tmod_of_pos k h
  have h3 := Int.emod_nonneg k (show n ≠ 0 by omega)
  have h4 := Int.emod_lt_of_pos k h
  have e1 := Int.mul_tdiv_add_tmod k n
  have e2 := Int.mul_ediv_add_emod k n
  refine ⟨h2, h1, ?_⟩
  have hd : n * (k.tdiv n - k / n) = k % n - k.tmod n := by rw [Int.mul_sub]; omega
  split
  · have hb : -(2 * n) < n * (k.tdiv n - k / n) ∧ n * (k.tdiv n - k / n) < 2 * n ∧ 0 < n * (k.tdiv n - k / n) := by omega
    have h5 : 0 < k.tdiv n - k / n := Int.pos_of_mul_pos_right hb.2.2 h
    have h6 : k.tdiv n - k / n < 2 := by
      rcases Int.lt_or_le (k.tdiv n - k / n) 2 with h7 | h7
      · exact h7
      · have := Int.mul_le_mul_of_nonneg_left h7 (Int.le_of_lt h); omega
    rw [show k.tdiv n - k / n = 1 by omega] at hd
    omega
  · have hb : -n < n * (k.tdiv n - k / n) ∧ n * (k.tdiv n - k / n) < n := by omega
    have h5 : -1 < k.tdiv n - k / n := by
      rcases Int.lt_or_le (-1) (k.tdiv n - k / n) with h7 | h7
      · exact h7
      · have := Int.mul_le_mul_of_nonneg_left h7 (Int.le_of_lt h); omega
    have h6 : k.tdiv n - k / n < 1 := by
      rcases Int.lt_or_le (k.tdiv n - k / n) 1 with h7 | h7
      · exact h7
      · have := Int.mul_le_mul_of_nonneg_left h7 (Int.le_of_lt h); omega
    rw [show k.tdiv n - k / n = 0 by omega] at hd
    omega
end Go.Proofs.YtoppaphffnojdaaGreat
