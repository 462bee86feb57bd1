/-
  A statement of the seat: what its contract is, and the claim. Conditions: as each says.
-/
import Derived.Test.YtlphlodailailaaGreatY29
import Derived.Test.YtlphlodailailaaGreatA09
import Derived.Test.YtlphlodailailaaGreatA10
set_option linter.unusedVariables false
set_option linter.unusedSimpArgs false
set_option maxHeartbeats 8000000
namespace Go.Proofs.YtlphlodailailaaGreat
open Go.Vw
attribute [local irreducible] awp awpL awpR

theorem polynomial_DegreeQ (p : List Rat) (hp : p.length ≤ 400) (kp : ∀ x ∈ p, okQ 1000000 x) : Ret Tryz.prog 43 [qsD p] (· = .int .i64 (((trimP p).length : Int) - 1)) := by
  have h := polynomial_Degree (p.map rq) (by rw [List.length_map]; omega) (rqs_ok fun x hx => (kp x hx).mono (by decide))
  rw [map_rv_rqL] at h
  exact h.args (leQRs p (LeT.refl _))
theorem newCounterV {p : List Rat} (hp : PolOk p) (p0 : trimP p ≠ []) : Ret Tryz.prog 68 [qsD p] (· = qssD (ctr (trimP p))) := by
  have h := polynomial_newCounter (p.map rq) (by rw [List.length_map]; have := hp.len; omega) (rqs_ok fun x hx => (hp.ok x hx).mono (by decide)) (by rw [map_rv_rqL]; exact (hp.ctr p0).1)
  rw [map_rv_rqL] at h
  exact h.args (leQRs p (LeT.refl _))
theorem countV {p : List Rat} (hp : PolOk p) (p0 : trimP p ≠ []) (x y : Rat) (ox : okQ 150000 x) (oy : okQ 150000 y) : Ret Tryz.prog 69 [qssD (ctr (trimP p)), qD x, qD y] (· = .int .i64 (cntF (ctr (trimP p)) x y)) := by
  obtain ⟨hk, _⟩ := hp.ctr p0
  obtain ⟨M, f⟩ := hk.fit2
  have hfit := f.chain chOk_small ((ctrQ (trimP p)).length + 1)
  have cln := chain_len smallP ((ctrQ (trimP p)).length + 1) (ctrQ (trimP p)) (derP (ctrQ (trimP p)))
  have ql := hk.ql
  have h := counter_count (ctr (trimP p)) (rq x) (rq y) (by unfold ctr; omega) (fun g hg => by
    obtain ⟨g1, M', g2⟩ := hfit g hg
    refine ⟨?_, M', g2⟩
    have b := g2.2
    by_cases g0 : g.length ≤ 13
    · exact g0
    · exfalso
      have b3 := Nat.pow_le_pow_right (show 0 < 3 by decide) (show 14 ≤ g.length by omega)
      have b4 := Nat.mul_le_mul_right (3 ^ g.length) (show 1 ≤ M' + 1 by omega)
      have b5 : (3 : Nat) ^ 14 = 4782969 := by decide
      unfold Bud at b
      omega) (ok_rq (ox.mono (by decide))) (ok_rq (oy.mono (by decide)))
  rwa [rv_rq, rv_rq] at h
theorem interval_HullS (X : I2) (oX : okI 150000 X) (h : X.1 ≤ X.2) : Ret Tryz.prog 98 [iQ X, iQ X] (· = iQ X) := by
  have k := interval_Hull (rq X.1) (rq X.2) (rq X.1) (rq X.2) (ok_rq (oX.1.mono (by decide))) (ok_rq (oX.2.mono (by decide))) (ok_rq (oX.1.mono (by decide))) (ok_rq (oX.2.mono (by decide)))
  rwa [rv_rq, rv_rq, hullI_same h] at k
end Go.Proofs.YtlphlodailailaaGreat
