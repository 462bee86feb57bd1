/-
  A statement of the seat: what its contract is, and the claim. Conditions: as each says.
-/
import Derived.Test.YtlphlodailailaaGreatY31
import Derived.Test.YtlphlodailailaaGreatS67
import Derived.Test.YtlphlodailailaaGreatA10
set_option linter.unusedVariables false
set_option linter.unusedSimpArgs false
set_option maxHeartbeats 8000000
namespace Go.Proofs.YtlphlodailailaaGreat
open Go.Vw
attribute [local irreducible] awp awpL awpR

theorem cntF_nonneg {p : List Rat} (tp : Tr p) (p0 : p ≠ []) (a b : Rat) (h : a < b) : 0 ≤ cntF (ctr p) a b := by
  have hg := gcdP_tr tp (tr_trim (derC p))
  have tQ : Tr (ctrQ p) := (divP_spec tp hg.1 (hg.2 (.inl p0)).1).1
  have := vrs_le chS_small tQ (quot_bez tp p0) (n := (ctrQ p).length + 1) (Nat.lt_succ_self _) h
  unfold cntF
  rw [if_pos h, vrsF_eq, vrsF_eq]
  unfold ctr
  omega
theorem cntF_add (F : List (List Rat)) (a m b : Rat) (h1 : a < m) (h2 : m < b) : cntF F a m + cntF F m b = cntF F a b := by
  unfold cntF
  rw [if_pos h1, if_pos h2, if_pos (by grind)]
  omega
theorem numQ_bd (v : Int) : -30 ≤ numQ v ∧ numQ v ≤ 30 := by
  unfold numQ
  have a1 : -30 ≤ v % 61 - 30 := by omega
  have a2 : v % 61 - 30 ≤ 30 := by omega
  have b1 : 1 ≤ 1 + v.tdiv 61 % 4 := by omega
  generalize v % 61 - 30 = a at *
  generalize 1 + v.tdiv 61 % 4 = b at *
  have b2 : (1 : Rat) ≤ (b : Rat) := by
    rw [show (1 : Rat) = ((1 : Int) : Rat) from rfl]
    exact Rat.intCast_le_intCast.2 b1
  have a3 : ((-30 : Int) : Rat) ≤ (a : Rat) := Rat.intCast_le_intCast.2 a1
  have a4 : (a : Rat) ≤ ((30 : Int) : Rat) := Rat.intCast_le_intCast.2 a2
  have e30 : ((30 : Int) : Rat) = 30 := rfl
  have e31 : ((-30 : Int) : Rat) = -30 := rfl
  rw [e31] at a3
  rw [e30] at a4
  rw [Rat.divInt_eq_div]
  have hb : (0 : Rat) < (b : Rat) := by grind
  have e : (a : Rat) / (b : Rat) * (b : Rat) = (a : Rat) := div_mul_cancel' (Rat.ne_of_gt hb)
  generalize (a : Rat) / (b : Rat) = q at *
  constructor
  · refine Rat.not_lt.1 fun h => ?_
    have := mul_le_mul' (a := 1) (b := (b : Rat)) (c := -q) (d := -q) b2 Rat.le_refl (by grind) (by grind)
    grind
  · refine Rat.not_lt.1 fun h => ?_
    have := mul_le_mul' (a := 1) (b := (b : Rat)) (c := q) (d := q) b2 Rat.le_refl (by grind) (by grind)
    grind
end Go.Proofs.YtlphlodailailaaGreat
