/-
  A statement of the seat: what its contract is, and the claim. Conditions: as each says.
-/
import Derived.Test.YtlphlodailailaaGreatY33
import Derived.Test.YtlphlodailailaaGreatS69
import Derived.Test.YtlphlodailailaaGreatA10
set_option linter.unusedVariables false
set_option linter.unusedSimpArgs false
set_option maxHeartbeats 8000000
namespace Go.Proofs.YtlphlodailailaaGreat
open Go.Vw
attribute [local irreducible] awp awpL awpR awpAC

theorem chX_small : ChX smallP := ⟨chOk_small, fun p tp h0 x => by
  have hl := lead_ne tp h0
  have hp := ab_pos hl
  unfold smallP
  rw [eval_smul, show absQ (lead p) = ab (lead p) from rfl, ← Rat.mul_assoc, Rat.mul_comm (ab (lead p)), div_mul_cancel' (Rat.ne_of_gt hp), Rat.one_mul]⟩
theorem deep_of {p : List Rat} (p0 : trimP p ≠ []) {H : Nat} (hQ : HtP H (ctrQ (trimP p))) (lQ : (ctrQ (trimP p)).length ≤ 6) (hB : (H + 3) * 3 ^ (ctrQ (trimP p)).length ≤ 120000) : Deep (cfn p) 2600000 := by
  have tp := tr_trim p
  have hg := gcdP_tr tp (tr_trim (derC (trimP p)))
  have tQ : Tr (ctrQ (trimP p)) := (divP_spec tp hg.1 (hg.2 (.inl p0)).1).1
  have hb : Bez (ctrQ (trimP p)) (derP (ctrQ (trimP p))) := quot_bez tp p0
  have hE := ht_der hQ (by omega)
  refine ⟨⟨fun a b h => ?_, fun a b h => cntF_nonneg tp p0 a b h, fun a m b h1 h2 => cntF_add _ a m b h1 h2⟩, fun a b => ?_, fun a b h1 h2 h3 h4 => ?_⟩
  · unfold cfn cntF
    exact if_neg h
  · unfold cfn cntF
    have hl := chain_len smallP ((ctrQ (trimP p)).length + 1) (ctrQ (trimP p)) (derP (ctrQ (trimP p)))
    have b1 := chg_bd ((ctr (trimP p)).map fun f => sgQ (evalP f a)) 0
    have b2 := chg_bd ((ctr (trimP p)).map fun f => sgQ (evalP f b)) 0
    rw [List.length_map] at b1 b2
    have hl2 : (ctr (trimP p)).length ≤ 7 := by unfold ctr; omega
    split
    · unfold vrsF; omega
    · decide
  · have := depth chS_small chX_small tQ hb hQ hE lQ hB (n := (ctrQ (trimP p)).length + 1) (Nat.lt_succ_self _) h1 h2 h3 h4
    show cntF (ctr (trimP p)) a b ≤ 1
    unfold cntF
    rw [if_pos h3, vrsF_eq, vrsF_eq]
    exact this
theorem isolate_ok {p : List Rat} (hp : PolOk p) (p0 : trimP p ≠ []) {N : Nat} (hN : N ≤ 3000000) (hC : Deep (cfn p) N) {x y : Rat} (ox : okQ 2 x) (oy : okQ 2 y) (hx : -30 ≤ x ∧ x ≤ 30) (hy : -30 ≤ y ∧ y ≤ 30) (hxy : x ≤ y) : ∃ l : List I2, IsoL p (x, y) l ∧ Ret Tryz.prog 49 [qsD p, qD x, qD y] (· = .tup [isD l, .int .i64 0]) := by
  obtain ⟨D, M, D0, hD, hM, d1, d2⟩ := Dy.start ox oy
  obtain ⟨l, l1, l2, l3⟩ := isolate_B hp p0 hN hC D0 hD hM (6 + N) 0 (x, y) (by omega) d1 d2 (show -32 ≤ x by grind) (show y ≤ 32 by grind) hxy (show y - x ≤ 64 by grind)
  have hl := l1.len hC.toCnt
  obtain ⟨q1, q2⟩ := l1.parts hC.toCnt
  have hf := hC.few (x, y).1 (x, y).2
  have hs : l.length ≤ 1000 := by omega
  refine ⟨l, ⟨?_, hs, l2, fun z hz => ?_, fun z hz => ⟨(q1 z hz).1, (q1 z hz).2.1, (q1 z hz).2.2.1⟩, q2⟩, polynomial_IsolateO hp p0 (x, y) hxy ⟨ox.mono (by decide), oy.mono (by decide)⟩ l (isolate_R hs l3)⟩
  · unfold cntV
    rw [if_neg p0]
    exact hl
  · obtain ⟨_, z1, _, z2⟩ := q1 z hz
    unfold holdsB cntV
    rw [decide_eq_true (Rat.le_of_lt z1), Bool.true_and, if_neg (Rat.ne_of_lt z1), if_neg p0]
    exact decide_eq_true z2
end Go.Proofs.YtlphlodailailaaGreat
