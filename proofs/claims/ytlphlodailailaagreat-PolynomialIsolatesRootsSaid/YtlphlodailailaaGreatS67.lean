/-
  A statement of the seat: what its contract is, and the claim. Conditions: as each says.
-/
import Derived.Test.YtlphlodailailaaGreatY26
import Derived.Test.YtlphlodailailaaGreatA10
set_option linter.unusedVariables false
set_option linter.unusedSimpArgs false
set_option maxHeartbeats 8000000
namespace Go.Proofs.YtlphlodailailaaGreat
open Go.Vw
attribute [local irreducible] awp awpL awpR

theorem ctr_small {p : List Rat} (tp : Tr p) (p0 : p ≠ []) (hp : HtP 14 p) (lp : p.length ≤ 6) : CtrOk p ∧ ∃ M, JS (smallP (ctrQ p)) (smallP (derP (ctrQ p))) M := by
  have pw : (3 : Nat) ^ p.length ≤ 3 ^ 6 := Nat.pow_le_pow_right (by decide) lp
  have p6 : (3 : Nat) ^ 6 = 729 := by decide
  refine ctrOk_of (B := 11664) tp p0 hp (by decide) (by omega) (by decide) (by omega) (by decide) fun l g g1 gp hl h1 => ?_
  unfold Bud
  have hn : p.length + 1 - g ≤ 7 - g := by omega
  have q1 : (p.length + 1 - g) * l ≤ (7 - g) * l := Nat.mul_le_mul_right _ hn
  have q2 : (3 : Nat) ^ (p.length + 1 - g) ≤ 3 ^ (7 - g) := Nat.pow_le_pow_right (by decide) hn
  have fin : ∀ (m c : Nat), l ≤ m → 7 - g = c → 14 + c * m + m ≤ 2000000 → (14 + c * m + m + 3) * 3 ^ c ≤ 2000000 → 14 + (p.length + 1 - g) * l + l ≤ 2000000 ∧ (14 + (p.length + 1 - g) * l + l + 3) * 3 ^ (p.length + 1 - g) ≤ 2000000 := fun m c hm hc a b => by
    rw [hc] at q1 q2
    have q3 : c * l ≤ c * m := Nat.mul_le_mul_left _ hm
    refine ⟨by omega, Nat.le_trans (Nat.mul_le_mul (show _ ≤ 14 + c * m + m + 3 by omega) q2) b⟩
  have gs : g = 1 ∨ g = 2 ∨ g = 3 ∨ g = 4 ∨ g = 5 ∨ g = 6 := by omega
  rcases gs with e | e | e | e | e | e
  · exact fin 3 6 (by have := h1 e; omega) (by omega) (by decide) (by decide)
  · subst e; have := hl (by decide); exact fin 1296 5 (by omega) (by omega) (by decide) (by decide)
  · subst e; have := hl (by decide); exact fin 432 4 (by omega) (by omega) (by decide) (by decide)
  · subst e; have := hl (by decide); exact fin 144 3 (by omega) (by omega) (by decide) (by decide)
  · subst e; have := hl (by decide); exact fin 48 2 (by omega) (by omega) (by decide) (by decide)
  · subst e; have := hl (by decide); exact fin 16 1 (by omega) (by omega) (by decide) (by decide)
end Go.Proofs.YtlphlodailailaaGreat
