/-
  A statement of the seat: what its contract is, and the claim. Conditions: as each says.
-/
import Derived.Test.YtlphlodailailaaGreatY25
import Derived.Test.YtlphlodailailaaGreatS64
import Derived.Test.YtlphlodailailaaGreatA09
import Derived.Test.YtlphlodailailaaGreatA10
set_option linter.unusedVariables false
set_option linter.unusedSimpArgs false
set_option maxHeartbeats 8000000
namespace Go.Proofs.YtlphlodailailaaGreat
open Go.Vw
attribute [local irreducible] awp awpL awpR

theorem ln_sm {n : Nat} (h : n < 4294967296) : ln n < 2 := by
  unfold ln
  rcases Nat.eq_zero_or_pos n with e | e
  · subst e; rw [limbs_zero]; decide
  · rw [limbs_small (by show n < 4294967296; omega) (by omega)]; simp
theorem ht_der {h : Nat} {p : List Rat} (H : HtP h p) (hl : p.length ≤ 1000) : HtP (h + 1) (derP p) := by
  refine HtP.trim ?_
  obtain ⟨c, P, c0, hc, hp⟩ := H
  refine ⟨c, fun i => if i < p.length then ((i + 1 : Nat) : Int) * P (i + 1) else 0, c0, by omega, fun i => ?_⟩
  dsimp only
  rw [cf_der]
  split
  · refine ⟨?_, ?_⟩
    · have := ln_mulZ (a := ((i + 1 : Nat) : Int)) (h := 2) (by rw [Int.natAbs_natCast]; exact ln_sm (by omega)) (hp (i + 1)).1
      omega
    · rw [(hp (i + 1)).2, Rat.divInt_eq_div, Rat.divInt_eq_div, Rat.intCast_mul, Rat.div_def, Rat.div_def, Rat.mul_assoc, Rat.intCast_natCast]
  · refine ⟨by show ln 0 < h + 1; rw [ln_zero]; omega, ?_⟩
    rw [cf_ge (by omega), Rat.mul_zero]
    exact (Rat.zero_divInt c).symm
theorem ht_small {h : Nat} {p : List Rat} (t : Tr p) (H : HtP h p) : HtP (h + 1) (smallP p) := chOk_small.ht p h t H
theorem ctrOk_of {p : List Rat} (tp : Tr p) (p0 : p ≠ []) {h B : Nat} (hp : HtP h p) (h1 : 1 < h) (lp : p.length ≤ 90) (hB : 6 ≤ B) (h3 : (h + 2) * 3 ^ p.length ≤ B) (hB2 : B ≤ Bud) (hb : ∀ l g, 1 ≤ g → g ≤ p.length → (1 < g → l * 3 ^ g ≤ B) → (g = 1 → l = 3) → h + (p.length + 1 - g) * l + l ≤ 2000000 ∧ (h + (p.length + 1 - g) * l + l + 3) * 3 ^ (p.length + 1 - g) ≤ Bud) : CtrOk p ∧ ∃ M, JS (smallP (ctrQ p)) (smallP (derP (ctrQ p))) M := by
  have td := tr_trim (derC p)
  have hd := ht_der hp (by omega)
  have ld : (derP p).length < p.length := by
    have := derP_lt (p := p) (by rw [trim_of tp]; exact p0)
    rwa [trim_of tp] at this
  have e1 : max p.length ((derP p).length + 1) = p.length := by omega
  have hj : JG p (derP p) := JG.of tp td (hp.mono (Nat.le_succ h)) hd (by rw [e1]; exact Nat.le_trans h3 hB2)
  obtain ⟨g1, g2⟩ := gcdP_tr tp td
  obtain ⟨g3, g4⟩ := g2 (.inl p0)
  rw [show trimP (derC p) = derP p from rfl] at g1 g3 g4
  obtain ⟨M, k1, k2⟩ := gcdB hB _ tp td (hp.mono (Nat.le_succ h)) hd (by rw [show trimP (derC p) = derP p from rfl, if_pos ld]; exact h3) (Nat.le_refl _)
  rw [show trimP (derC p) = derP p from rfl] at k1 k2
  have gl := ne_len g3
  have glp : (gcdP p (derP p)).length ≤ p.length := by
    have := gcd_len _ tp td (Nat.le_refl _)
    rw [show trimP (derC p) = derP p from rfl] at this
    omega
  have key : ∃ l, HtP l (gcdP p (derP p)) ∧ h + (p.length + 1 - (gcdP p (derP p)).length) * l + l ≤ 2000000 ∧ (h + (p.length + 1 - (gcdP p (derP p)).length) * l + l + 3) * 3 ^ (p.length + 1 - (gcdP p (derP p)).length) ≤ Bud := by
    by_cases c : (gcdP p (derP p)).length = 1
    · obtain ⟨a1, a2⟩ := hb 3 (gcdP p (derP p)).length gl glp (by omega) (fun _ => rfl)
      exact ⟨3, ht_one c g4, a1, a2⟩
    · obtain ⟨a1, a2⟩ := hb (M + 1) (gcdP p (derP p)).length gl glp (fun _ => k2) (fun h => absurd h c)
      exact ⟨M + 1, k1, a1, a2⟩
  obtain ⟨l, l1, l2, l3⟩ := key
  have hQ : HtP (h + (p.length + 1 - (gcdP p (derP p)).length) * l + l) (ctrQ p) := divP_ht tp g1 g3 hp l1
  have lQ : (ctrQ p).length ≤ p.length + 1 - (gcdP p (derP p)).length := (divP_q tp g1 g3 hp l1 h1).2
  have tQ : Tr (ctrQ p) := (divP_spec tp g1 g3).1
  obtain ⟨H, hH⟩ : ∃ H, h + (p.length + 1 - (gcdP p (derP p)).length) * l + l = H := ⟨_, rfl⟩
  rw [hH] at hQ l3
  have tE := tr_trim (derC (ctrQ p))
  have hE := ht_der hQ (by omega)
  have lt : ctrQ p ≠ [] → (derP (ctrQ p)).length < (ctrQ p).length := fun q0 => by
    have := derP_lt (p := ctrQ p) (by rw [trim_of tQ]; exact q0)
    rwa [trim_of tQ] at this
  have pw : 3 ^ (ctrQ p).length ≤ 3 ^ (p.length + 1 - (gcdP p (derP p)).length) := Nat.pow_le_pow_right (by decide) lQ
  have b3 : (H + 3) * 3 ^ (ctrQ p).length ≤ Bud := Nat.le_trans (Nat.mul_le_mul_left _ pw) l3
  refine ⟨⟨g3, g1, hj, by omega, ⟨h, l, hp, l1, l2⟩, by omega, H + 1, tQ, tE, lt, hQ.mono (by omega), hE, ?_⟩, H + 2, chOk_small.tr _ tQ, chOk_small.tr _ tE, fun h0 => ?_, (ht_small tQ hQ).mono (by omega), ht_small tE hE, ?_⟩
  · exact Nat.le_trans (Nat.mul_le_mul_right _ (by omega)) b3
  · rw [chOk_small.len, chOk_small.len]
    exact lt fun e => h0 (by rw [e]; rfl)
  · rw [chOk_small.len]; exact b3
end Go.Proofs.YtlphlodailailaaGreat
