/-
  Sizes of products and of divisors. Conditions: as each says.
-/
import Derived.Test.YtlphlodailailaaGreatPolG
import Derived.Test.YtlphlodailailaaGreatA08
set_option linter.unusedVariables false
set_option linter.unusedSimpArgs false
namespace Go.Vw

theorem mul_num {k : Nat} {q : List Rat} {d : Int} (d0 : d ≠ 0) (Q : Nat → Int) (hq : ∀ i, ln (Q i).natAbs < k ∧ cf q i = Rat.divInt (Q i) d) {c : Int} (c0 : c ≠ 0) {h : Nat} : ∀ (p : List Rat) (P : Nat → Int), (∀ i, ln (P i).natAbs < h ∧ cf p i = Rat.divInt (P i) c) → ∃ R : Nat → Int, ∀ i, ln (R i).natAbs < h + k + p.length ∧ cf (mulC p q) i = Rat.divInt (R i) (c * d)
  | [], P, hp => ⟨fun _ => 0, fun i => ⟨by rw [show (0 : Int).natAbs = 0 from rfl, ln_zero]; have := (hq 0).1; have := (hp 0).1; simp; omega, by rw [show cf (mulC [] q) i = 0 from rfl]; exact (Rat.zero_divInt _).symm⟩⟩
  | a :: p, P, hp => by
    obtain ⟨R, hR⟩ := mul_num d0 Q hq c0 p (fun i => P (i + 1)) (fun i => hp (i + 1))
    have ha := hp 0
    rw [cf_zero] at ha
    have m0 : ∀ i, ln (P 0 * Q i).natAbs < h + k + p.length := fun i => by
      have := ln_mulZ ha.1 (hq i).1; omega
    refine ⟨fun i => match i with | 0 => P 0 * Q 0 | i + 1 => P 0 * Q (i + 1) + R i, fun i => ?_⟩
    cases i with
    | zero =>
      refine ⟨by have := m0 0; simp only [List.length_cons]; omega, ?_⟩
      rw [cf_mul0, ha.2, (hq 0).2, Rat.divInt_mul_divInt]
    | succ i =>
      refine ⟨?_, ?_⟩
      · have := ln_addZ (m0 (i + 1)) (hR i).1
        simp only [List.length_cons]; omega
      · rw [cf_mulS, (hR i).2, ha.2, (hq (i + 1)).2, Rat.divInt_mul_divInt, Rat.divInt_add_divInt _ _ (Int.mul_ne_zero c0 d0) (Int.mul_ne_zero c0 d0)]
        rw [← Int.add_mul, Rat.divInt_mul_right (Int.mul_ne_zero c0 d0)]
theorem HtP.mul {h k : Nat} {p q : List Rat} (H : HtP h p) (K : HtP k q) : HtP (h + k + p.length) (mulC p q) := by
  obtain ⟨c, P, c0, hc, hp⟩ := H
  obtain ⟨d, Q, d0, hd, hq⟩ := K
  obtain ⟨R, hR⟩ := mul_num d0 Q hq c0 p P hp
  refine ⟨c * d, R, Int.mul_ne_zero c0 d0, ?_, hR⟩
  have := ln_mulZ hc hd
  omega
theorem JG.gcd : ∀ (n : Nat) {p q : List Rat}, JG p q → q.length ≤ n → ∃ M, HtP (M + 1) (gcdP p q) ∧ (M + 1) * 3 ^ (gcdP p q).length ≤ Bud := by
  intro n
  induction n with
  | zero =>
    intro p q h hl
    have : q = [] := List.length_eq_zero_iff.1 (by omega)
    subst this
    obtain ⟨M, h1, h2, h3⟩ := h.fit
    rw [gcdP_nil]
    by_cases p0 : p = []
    · subst p0
      exact ⟨1, HtP.nil, by decide⟩
    · have := ne_len p0
      rw [if_pos (by simpa using this)] at h3
      exact ⟨M, h1.monic, by rw [show (monicP p).length = p.length from len_smul _ _]; exact h3⟩
  | succ n ih =>
    intro p q h hl
    by_cases q0 : q = []
    · subst q0; exact ih h (by simp)
    · obtain ⟨M, _, _, _, hs⟩ := h.step q0
      have e := gcdP_step h.tp h.tq q0 (a := 1 / lead q) (b := 1) (inv_lead h.tq q0).1 (by decide)
      rw [smul_one] at e
      rw [show gcdP p q = gcdP (monicP q) (remP p q) from e]
      exact ih hs (by have := rem_len h.tp h.tq q0; omega)
theorem ht_one {g : List Rat} (hl : g.length = 1) (h1 : lead g = 1) : HtP 3 g := by
  match g, hl with
  | [a], _ =>
    have : a = 1 := h1
    subst this
    exact ⟨1, fun i => match i with | 0 => 1 | _ + 1 => 0, by decide, by show ln 1 < 3; rw [ln_one]; decide, fun i => by
      cases i with
      | zero => exact ⟨by show ln 1 < 3; rw [ln_one]; decide, by decide +kernel⟩
      | succ i => exact ⟨by show ln 0 < 3; rw [ln_zero]; decide, (Rat.zero_divInt 1).symm⟩⟩
theorem JG.divFit {p q : List Rat} (h : JG p q) (p0 : p ≠ [] ∨ q ≠ []) {a : List Rat} {H : Nat} (ha : HtP H a) (la : a.length ≤ 4) (hH : H ≤ 1000) : ∃ l, HtP l (gcdP p q) ∧ H + (a.length + 1 - (gcdP p q).length) * l + l ≤ 200000 := by
  obtain ⟨g1, g2⟩ := gcdP_tr h.tp h.tq
  obtain ⟨g3, g4⟩ := g2 p0
  obtain ⟨M, h1, h2⟩ := JG.gcd _ h (Nat.le_refl _)
  have gl := ne_len g3
  by_cases c : (gcdP p q).length = 1
  · refine ⟨3, ht_one c g4, ?_⟩
    have := Nat.mul_le_mul_right 3 (show a.length + 1 - (gcdP p q).length ≤ 4 by omega)
    omega
  · refine ⟨M + 1, h1, ?_⟩
    have k9 : 9 ≤ 3 ^ (gcdP p q).length := by
      have := Nat.pow_le_pow_right (show 0 < 3 by decide) (show 2 ≤ (gcdP p q).length by omega)
      simpa using this
    have k2 := Nat.le_trans (Nat.mul_le_mul_left (M + 1) k9) h2
    unfold Bud at k2
    have := Nat.mul_le_mul_right (M + 1) (show a.length + 1 - (gcdP p q).length ≤ 3 by omega)
    omega
end Go.Vw
