/-
  Integers and rational numbers as the program holds them. Conditions: none.
-/
import Derived.Test.YtcblkjmnigbiiaaDoorVO
import Derived.Test.YtcblkjmnigbiiaaDoorLimbsC
namespace Go.Vw

def intC (neg : Bool) (mag : List Nat) : D := .agg [.bool neg, u32s mag]
/-- An integer in the program's form. -/
def zD (z : Int) : D := intC (decide (z < 0)) (limbs z.natAbs)
def validI (neg : Bool) (mag : List Nat) : Bool := valid mag && !(neg && decide (mag.length = 0))
/-- What an integer's fields stand for; 0 if they are not valid. -/
def iv' (neg : Bool) (mag : List Nat) : Int := if validI neg mag then (if neg then -(val mag : Int) else val mag) else 0

theorem validI_z (z : Int) : validI (decide (z < 0)) (limbs z.natAbs) = true := by
  unfold validI
  rw [valid_limbs, Bool.true_and, Bool.not_eq_true', Bool.and_eq_false_iff]
  by_cases h : z < 0
  · right
    have h0 : z.natAbs ≠ 0 := by omega
    exact decide_eq_false (mt (fun e => limbs_eq_nil.1 (List.length_eq_zero_iff.1 e)) h0)
  · left; exact decide_eq_false h
theorem iv'_z (z : Int) : iv' (decide (z < 0)) (limbs z.natAbs) = z := by
  unfold iv'
  rw [if_pos (validI_z z), val_limbs]
  by_cases h : z < 0
  · simp [h]; omega
  · simp [h]; omega
/-- Valid fields are those of their number. -/
theorem intC_valid {neg : Bool} {mag : List Nat} (h : WF mag) (hv : validI neg mag = true) : intC neg mag = zD (iv' neg mag) := by
  unfold iv' zD
  rw [if_pos hv]
  unfold validI at hv
  rw [Bool.and_eq_true] at hv
  obtain ⟨h1, h2⟩ := hv
  have hl := limbs_val h h1
  cases neg with
  | true =>
    simp at h2
    have h0 : val mag ≠ 0 := fun e => h2 (by rw [← hl, e, limbs_zero])
    have e1 : (-(val mag : Int)).natAbs = val mag := by omega
    simp only [if_true]
    rw [e1, hl, decide_eq_true (by omega)]
  | false =>
    have e1 : ((val mag : Int)).natAbs = val mag := by omega
    simp only [Bool.false_eq_true, if_false]
    rw [e1, hl, decide_eq_false (by omega)]
theorem zD_zero : zD 0 = .agg [.bool false, u32s []] := by
  show intC _ (limbs 0) = _
  rw [limbs_zero]; rfl
theorem iv'_abs (neg : Bool) (mag : List Nat) : (iv' neg mag).natAbs = if validI neg mag then val mag else 0 := by
  unfold iv'; split
  · cases neg <;> simp
  · rfl
theorem iv'_len {neg : Bool} {mag : List Nat} (h : WF mag) : (limbs (iv' neg mag).natAbs).length ≤ mag.length := by
  rw [iv'_abs]; split
  · exact length_limbs_le (val_lt h)
  · rw [limbs_zero]; simp
/-- A sign and a size, put together. -/
theorem signed_z (neg : Bool) (n : Nat) : D.agg [.bool (neg && decide (0 < (limbs n).length)), u32s (limbs n)] = zD (if neg then -(n : Int) else n) := by
  unfold zD intC
  cases neg with
  | true =>
    simp only [if_true, Bool.true_and, Int.natAbs_neg, Int.natAbs_natCast]
    congr 3
    by_cases h : n = 0
    · subst h; simp [limbs_zero]
    · have := List.length_pos_iff.2 (mt limbs_eq_nil.1 h)
      rw [decide_eq_decide]; omega
  | false =>
    have : ¬ ((n : Int) < 0) := by omega
    simp [this]
theorem zD_cases (z : Int) : ∃ s n, zD z = .agg [.bool s, u32s (limbs n)] ∧ z = (if s then -(n : Int) else n) ∧ z.natAbs = n ∧ (s = true → n ≠ 0) := by
  refine ⟨decide (z < 0), z.natAbs, rfl, ?_, rfl, ?_⟩
  · by_cases h : z < 0
    · simp [h]; omega
    · simp [h]; omega
  · intro h; have := of_decide_eq_true h; omega
/-- An integer that is written with bounds on its length. -/
structure IntOk (neg : Bool) (mag : List Nat) (k : Nat) : Prop where
  wf : WF mag
  len : mag.length < k
theorem IntOk.z {z : Int} {k : Nat} (h : (limbs z.natAbs).length < k) : IntOk (decide (z < 0)) (limbs z.natAbs) k := ⟨wf_limbs _, h⟩
theorem IntOk.val {neg : Bool} {mag : List Nat} {k : Nat} (h : IntOk neg mag k) : (limbs (iv' neg mag).natAbs).length < k := Nat.lt_of_le_of_lt (iv'_len h.wf) h.len
end Go.Vw
