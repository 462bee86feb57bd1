/-
  Rational numbers: what the fields stand for, and the fields of a number. Conditions: as each says.
-/
import Derived.Test.YtcblkjmnigbiiaaDoorRats
set_option linter.unusedVariables false
namespace Go.Vw

/-- The denominator's list: none for 1. -/
def dL (d : Nat) : List Nat := if d = 1 then [] else limbs d
/-- A number's fields. -/
def rq (q : Rat) : R3 := (decide (q.num < 0), limbs q.num.natAbs, dL q.den)
def dv (d : List Nat) : Nat := if d = [] then 1 else val d
/-- The fields are those of a number in lowest terms. -/
def validR (r : R3) : Bool := validI r.1 r.2.1 && valid r.2.2 && !decide (r.2.2 = [1]) && (decide (r.2.2 = []) || (decide (r.2.1 ≠ []) && decide (limbs (Nat.gcd (nv r.2.1) (nv r.2.2)) = [1])))
/-- What fields stand for; 0 if they are not valid. -/
def rv (r : R3) : Rat := if h : validR r = true ∧ dv r.2.2 ≠ 0 ∧ (iv' r.1 r.2.1).natAbs.Coprime (dv r.2.2) then ⟨iv' r.1 r.2.1, dv r.2.2, h.2.1, h.2.2⟩ else 0

theorem limbs_one : limbs 1 = [1] := limbs_small (by decide) (by decide)
theorem valid_one_of {d : List Nat} (h : valid d = true) (w : WF d) (h1 : d ≠ [1]) (h2 : d ≠ []) : 2 ≤ val d := by
  have e := limbs_val w h
  have a : val d ≠ 0 := fun h0 => h2 (by rw [← e, h0, limbs_zero])
  have b : val d ≠ 1 := fun h0 => h1 (by rw [← e, h0, limbs_one])
  omega
theorem dL_dv {d : List Nat} (h : valid d = true) (w : WF d) (h1 : d ≠ [1]) : dL (dv d) = d := by
  by_cases h2 : d = []
  · subst h2; rfl
  · have := valid_one_of h w h1 h2
    rw [dv, if_neg h2, dL, if_neg (by omega), limbs_val w h]
/-- Lists of limbs, and not too long. -/
structure RatOk (r : R3) (k : Nat) : Prop where
  wm : WF r.2.1
  wd : WF r.2.2
  lm : r.2.1.length < k
  ld : r.2.2.length < k
theorem validR_parts {r : R3} (h : validR r = true) (wm : WF r.2.1) (wd : WF r.2.2) : dv r.2.2 ≠ 0 ∧ (iv' r.1 r.2.1).natAbs.Coprime (dv r.2.2) := by
  unfold validR at h
  simp only [Bool.and_eq_true, Bool.or_eq_true, decide_eq_true_eq, Bool.not_eq_true', decide_eq_false_iff_not] at h
  obtain ⟨⟨⟨h1, h2⟩, h3⟩, h4⟩ := h
  by_cases h0 : r.2.2 = []
  · rw [h0]; exact ⟨by decide, by simp [dv]⟩
  · obtain ⟨h4, h5⟩ := h4.resolve_left h0
    have hm : valid r.2.1 = true := by unfold validI at h1; simp at h1; exact h1.1
    have e : dv r.2.2 = val r.2.2 := by rw [dv, if_neg h0]
    have := valid_one_of h2 wd h3 h0
    refine ⟨by rw [e]; omega, ?_⟩
    rw [e, iv'_abs, if_pos h1, Nat.Coprime]
    rw [nv_val hm, nv_val h2, ← limbs_one] at h5
    exact limbs_inj h5
theorem rq_rv {r : R3} (h : validR r = true) (wm : WF r.2.1) (wd : WF r.2.2) : rq (rv r) = r := by
  have hp := validR_parts h wm wd
  unfold rv
  rw [dif_pos ⟨h, hp.1, hp.2⟩]
  unfold validR at h
  simp only [Bool.and_eq_true, Bool.or_eq_true, decide_eq_true_eq, Bool.not_eq_true', decide_eq_false_iff_not] at h
  obtain ⟨⟨⟨h1, h2⟩, h3⟩, h4⟩ := h
  obtain ⟨n, m, d⟩ := r
  simp only at *
  have hz := intC_valid wm h1
  unfold zD intC at hz
  simp only [D.agg.injEq, List.cons.injEq, D.bool.injEq, and_true] at hz
  obtain ⟨g1, g2⟩ := hz
  have g3 : m = limbs (iv' n m).natAbs := by simpa using g2
  unfold rq
  simp only
  rw [dL_dv h2 wd h3, ← g1, ← g3]
theorem dL_valid (d : Nat) : valid (dL d) = true := by
  unfold dL; split
  · rfl
  · exact valid_limbs d
theorem wf_dL (d : Nat) : WF (dL d) := by
  unfold dL; split
  · exact WF.nil
  · exact wf_limbs d
theorem dv_dL {d : Nat} (h : d ≠ 0) : dv (dL d) = d := by
  unfold dL; split
  · rename_i e; rw [e]; rfl
  · rw [dv, if_neg (mt limbs_eq_nil.1 h), val_limbs]
theorem dL_ne1 (d : Nat) : dL d ≠ [1] := by
  unfold dL; split
  · simp
  · rename_i h; rw [← limbs_one]; exact fun e => h (limbs_inj e)
theorem validR_rq (q : Rat) : validR (rq q) = true := by
  unfold validR rq
  simp only [validI_z, dL_valid, Bool.true_and, Bool.and_eq_true, Bool.or_eq_true, decide_eq_true_eq, Bool.not_eq_true', decide_eq_false_iff_not]
  refine ⟨dL_ne1 _, ?_⟩
  by_cases h : q.den = 1
  · left; rw [dL, if_pos h]
  · right
    have hd := q.den_nz
    rw [dL, if_neg h, nv_limbs, nv_limbs]
    have hc : Nat.gcd q.num.natAbs q.den = 1 := q.reduced
    refine ⟨fun e => ?_, by rw [hc, limbs_one]⟩
    rw [limbs_eq_nil] at e
    rw [e, Nat.gcd_zero_left] at hc
    exact h hc
theorem wf_rq (q : Rat) : WF (rq q).2.1 ∧ WF (rq q).2.2 := ⟨wf_limbs _, wf_dL _⟩
theorem rv_rq (q : Rat) : rv (rq q) = q := by
  have hp := validR_parts (validR_rq q) (wf_rq q).1 (wf_rq q).2
  unfold rv
  rw [dif_pos ⟨validR_rq q, hp.1, hp.2⟩]
  have e1 : iv' (rq q).1 (rq q).2.1 = q.num := iv'_z q.num
  have e2 : dv (rq q).2.2 = q.den := dv_dL q.den_nz
  apply Rat.ext
  · exact e1
  · exact e2
theorem rv_invalid {r : R3} (h : validR r = false) : rv r = 0 := by
  unfold rv
  rw [dif_neg]
  rw [h]; simp
theorem rq_zero : rq 0 = r0 := by
  show (decide ((0 : Rat).num < 0), limbs (0 : Rat).num.natAbs, dL (0 : Rat).den) = _
  have a : (0 : Rat).num = 0 := rfl
  have b : (0 : Rat).den = 1 := rfl
  rw [a, b]
  simp [limbs_zero, dL]
theorem rq_inj {p q : Rat} (h : rq p = rq q) : p = q := by rw [← rv_rq p, ← rv_rq q, h]

/-- A number's lists have fewer than k limbs. -/
def okQ (k : Nat) (q : Rat) : Prop := (limbs q.num.natAbs).length < k ∧ (limbs q.den).length < k
theorem okQ.mono {k l : Nat} {q : Rat} (h : okQ k q) (hl : k ≤ l) : okQ l q := ⟨Nat.lt_of_lt_of_le h.1 hl, Nat.lt_of_lt_of_le h.2 hl⟩
theorem okQ_rv {r : R3} {k : Nat} (h : RatOk r k) (hk : 1 < k) : okQ k (rv r) := by
  cases hv : validR r with
  | false => rw [rv_invalid hv]; exact ⟨by show (limbs 0).length < k; rw [limbs_zero]; simp; omega, by show (limbs 1).length < k; rw [limbs_one]; simpa using hk⟩
  | true =>
    have hp := validR_parts hv h.wm h.wd
    unfold rv
    rw [dif_pos ⟨hv, hp.1, hp.2⟩]
    refine ⟨Nat.lt_of_le_of_lt (iv'_len h.wm) h.lm, ?_⟩
    show (limbs (dv r.2.2)).length < k
    unfold dv
    split
    · rw [limbs_one]; simpa using hk
    · exact Nat.lt_of_le_of_lt (length_limbs_le (val_lt h.wd)) h.ld
end Go.Vw
