/-
  A statement of the seat: what its contract is, and the claim. Conditions: as each says.
-/
import Derived.Test.YtlphlodailailaaGreatY33
import Derived.Test.YtlphlodailailaaGreatS69
import Derived.Test.YtlphlodailailaaGreatA10
set_option linter.unusedVariables false
set_option linter.unusedSimpArgs false
set_option maxHeartbeats 8000000
namespace Go.Proofs.YtlphlodailailaaGreat
open Go.Vw
attribute [local irreducible] awp awpL awpR awpAC

theorem chX_small : ChX smallP := ⟨chOk_small, fun p tp h0 x => by
  have hl := lead_ne tp h0
  have hp := ab_pos hl
  unfold smallP
  rw [eval_smul, show absQ (lead p) = ab (lead p) from rfl, ← Rat.mul_assoc, Rat.mul_comm (ab (lead p)), div_mul_cancel' (Rat.ne_of_gt hp), Rat.one_mul]⟩
theorem deep_of {p : List Rat} (p0 : trimP p ≠ []) {H : Nat} (hQ : HtP H (ctrQ (trimP p))) (lQ : (ctrQ (trimP p)).length ≤ 6) (hB : (H + 3) * 3 ^ (ctrQ (trimP p)).length ≤ 120000) : Deep (cfn p) 2600000 := by
  have tp := tr_trim p
  have hg := gcdP_tr tp (tr_trim (derC (trimP p)))
  have tQ : Tr (ctrQ (trimP p)) := (divP_spec tp hg.1 (hg.2 (.inl p0)).1).1
  have hb : Bez (ctrQ (trimP p)) (derP (ctrQ (trimP p))) := quot_bez tp p0
  have hE := ht_der hQ (by omega)
  refine ⟨⟨fun a b h => ?_, fun a b h => cntF_nonneg tp p0 a b h, fun a m b h1 h2 => cntF_add _ a m b h1 h2⟩, fun a b => ?_, fun a b h1 h2 h3 h4 => ?_⟩
  · unfold cfn cntF
    exact if_neg h
  · unfold cfn cntF
    have hl := chain_len smallP ((ctrQ (trimP p)).length + 1) (ctrQ (trimP p)) (derP (ctrQ (trimP p)))
    have b1 := chg_bd ((ctr (trimP p)).map fun f => sgQ (evalP f a)) 0
    have b2 := chg_bd ((ctr (trimP p)).map fun f => sgQ (evalP f b)) 0
    rw [List.length_map] at b1 b2
    have hl2 : (ctr (trimP p)).length ≤ 7 := by unfold ctr; omega
    split
    · unfold vrsF; omega
    · decide
  · have := depth chS_small chX_small tQ hb hQ hE lQ hB (n := (ctrQ (trimP p)).length + 1) (Nat.lt_succ_self _) h1 h2 h3 h4
    show cntF (ctr (trimP p)) a b ≤ 1
    unfold cntF
    rw [if_pos h3, vrsF_eq, vrsF_eq]
    exact this
theorem num_12 (v : Int) : ∃ A : Int, A.natAbs ≤ 360 ∧ numQ v = Rat.divInt A 12 := by
  unfold numQ
  have a1 : -30 ≤ v % 61 - 30 := by omega
  have a2 : v % 61 - 30 ≤ 30 := by omega
  have b1 : 0 ≤ v.tdiv 61 % 4 ∧ v.tdiv 61 % 4 ≤ 3 := by omega
  generalize v % 61 - 30 = a at *
  generalize v.tdiv 61 % 4 = b at *
  have cs : b = 0 ∨ b = 1 ∨ b = 2 ∨ b = 3 := by omega
  rcases cs with rfl | rfl | rfl | rfl
  · exact ⟨a * 12, by omega, by show Rat.divInt a 1 = Rat.divInt (a * 12) (1 * 12); rw [Rat.divInt_mul_right (by decide)]⟩
  · exact ⟨a * 6, by omega, by show Rat.divInt a (1 + 1) = Rat.divInt (a * 6) ((1 + 1) * 6); rw [Rat.divInt_mul_right (by decide)]⟩
  · exact ⟨a * 4, by omega, by show Rat.divInt a (1 + 2) = Rat.divInt (a * 4) ((1 + 2) * 4); rw [Rat.divInt_mul_right (by decide)]⟩
  · exact ⟨a * 3, by omega, by show Rat.divInt a (1 + 3) = Rat.divInt (a * 3) ((1 + 3) * 3); rw [Rat.divInt_mul_right (by decide)]⟩
theorem num_ht (l : List Int) : HtP 2 (l.map numQ) := by
  have h : ∀ i, ∃ A : Int, A.natAbs ≤ 360 ∧ cf (l.map numQ) i = Rat.divInt A 12 := fun i => by
    by_cases hi : i < l.length
    · obtain ⟨A, h1, h2⟩ := num_12 (l[i])
      exact ⟨A, h1, by rw [cf_eq (by rw [List.length_map]; exact hi), List.getElem_map]; exact h2⟩
    · exact ⟨0, by decide, by rw [cf_ge (by rw [List.length_map]; omega)]; exact (Rat.zero_divInt 12).symm⟩
  exact ⟨12, fun i => Classical.choose (h i), by decide, ln_sm (by decide), fun i => ⟨ln_sm (Nat.lt_of_le_of_lt (Classical.choose_spec (h i)).1 (by decide)), (Classical.choose_spec (h i)).2⟩⟩
theorem small_quot {P : List Rat} (tP : Tr P) (P0 : P ≠ []) (hP : HtP 2 P) (lP : P.length ≤ 6) : ∃ H, HtP H (ctrQ P) ∧ (ctrQ P).length ≤ 6 ∧ (H + 3) * 3 ^ (ctrQ P).length ≤ 120000 := by
  have td : Tr (derP P) := tr_trim _
  have hd := ht_der hP (by omega)
  have ld : (derP P).length < P.length := by
    have := derP_lt (p := P) (by rw [trim_of tP]; exact P0)
    rwa [trim_of tP] at this
  have lp1 := ne_len P0
  have bud : (2 * 2 + 5 * 3 + 5) * 5 ^ P.length * 2 ^ (6 - P.length) ≤ 375000 := by
    have gs : P.length = 1 ∨ P.length = 2 ∨ P.length = 3 ∨ P.length = 4 ∨ P.length = 5 ∨ P.length = 6 := by omega
    rcases gs with e | e | e | e | e | e <;> (rw [e]; decide)
  obtain ⟨h', g5, g6⟩ := gcdPot (N := 6) _ tP td P0 hP hd (by decide) ld lP bud (Nat.le_refl _)
  obtain ⟨g1, g2⟩ := gcdP_tr tP td
  obtain ⟨g3, g4⟩ := g2 (.inl P0)
  have gl := ne_len g3
  have glp := gcd_len _ tP td (Nat.le_refl _)
  have key : ∀ l m c : Nat, HtP l (gcdP P (derP P)) → l ≤ m → 7 - (gcdP P (derP P)).length = c → (2 + c * m + m + 3) * 3 ^ c ≤ 120000 → ∃ H, HtP H (ctrQ P) ∧ (ctrQ P).length ≤ 6 ∧ (H + 3) * 3 ^ (ctrQ P).length ≤ 120000 := fun l m c hl hm hc hb => by
    have hQ := divP_ht tP g1 g3 hP hl
    have lQ := (divP_q tP g1 g3 hP hl (by decide)).2
    have q1 := Nat.mul_le_mul (show P.length + 1 - (gcdP P (derP P)).length ≤ c by omega) hm
    have q2 : (3 : Nat) ^ (divP P (gcdP P (derP P))).1.length ≤ 3 ^ c := Nat.pow_le_pow_right (by decide) (by omega)
    refine ⟨_, hQ, by show (divP P (gcdP P (derP P))).1.length ≤ 6; omega, Nat.le_trans (Nat.mul_le_mul (show _ ≤ 2 + c * m + m + 3 by omega) q2) hb⟩
  have gs : (gcdP P (derP P)).length = 1 ∨ (gcdP P (derP P)).length = 2 ∨ (gcdP P (derP P)).length = 3 ∨ (gcdP P (derP P)).length = 4 ∨ (gcdP P (derP P)).length = 5 ∨ (gcdP P (derP P)).length = 6 := by omega
  rcases gs with e | e | e | e | e | e
  · exact key 3 3 6 (ht_one e g4) (Nat.le_refl _) (by omega) (by decide)
  · rw [e] at g6
    exact key _ 79 5 g5 (by omega) (by omega) (by decide)
  · rw [e] at g6
    exact key _ 32 4 g5 (by omega) (by omega) (by decide)
  · rw [e] at g6
    exact key _ 13 3 g5 (by omega) (by omega) (by decide)
  · rw [e] at g6
    exact key _ 6 2 g5 (by omega) (by omega) (by decide)
  · rw [e] at g6
    exact key _ 3 1 g5 (by omega) (by omega) (by decide)
theorem isolate_ok {p : List Rat} (hp : PolOk p) (p0 : trimP p ≠ []) {N : Nat} (hN : N ≤ 3000000) (hC : Deep (cfn p) N) {x y : Rat} (ox : okQ 2 x) (oy : okQ 2 y) (hx : -30 ≤ x ∧ x ≤ 30) (hy : -30 ≤ y ∧ y ≤ 30) (hxy : x ≤ y) : ∃ l : List I2, IsoL p (x, y) l ∧ Ret Tryz.prog 49 [qsD p, qD x, qD y] (· = .tup [isD l, .int .i64 0]) := by
  obtain ⟨D, M, D0, hD, hM, d1, d2⟩ := Dy.start ox oy
  obtain ⟨l, l1, l2, l3⟩ := isolate_B hp p0 hN hC D0 hD hM (6 + N) 0 (x, y) (by omega) d1 d2 (show -32 ≤ x by grind) (show y ≤ 32 by grind) hxy (show y - x ≤ 64 by grind)
  have hl := l1.len hC.toCnt
  obtain ⟨q1, q2⟩ := l1.parts hC.toCnt
  have hf := hC.few (x, y).1 (x, y).2
  have hs : l.length ≤ 1000 := by omega
  refine ⟨l, ⟨?_, hs, l2, fun z hz => ?_, fun z hz => ⟨(q1 z hz).1, (q1 z hz).2.1, (q1 z hz).2.2.1⟩, q2⟩, polynomial_IsolateO hp p0 (x, y) hxy ⟨ox.mono (by decide), oy.mono (by decide)⟩ l (isolate_R hs l3)⟩
  · unfold cntV
    rw [if_neg p0]
    exact hl
  · obtain ⟨_, z1, _, z2⟩ := q1 z hz
    unfold holdsB cntV
    rw [decide_eq_true (Rat.le_of_lt z1), Bool.true_and, if_neg (Rat.ne_of_lt z1), if_neg p0]
    exact decide_eq_true z2
end Go.Proofs.YtlphlodailailaaGreat
