/-
  A statement of the seat: what its contract is, and the claim. Conditions: as each says.
-/
import Derived.Test.YtlphlodailailaaGreatY10
import Derived.Test.YtlphlodailailaaGreatA09
import Derived.Test.YtlphlodailailaaGreatA10
set_option linter.unusedVariables false
set_option linter.unusedSimpArgs false
set_option maxHeartbeats 8000000
namespace Go.Proofs.YtlphlodailailaaGreat
open Go.Vw
attribute [local irreducible] awp awpL awpR

theorem polynomial_DivR (a : List R3) (d : List Rat) {h l : Nat} (hd : Tr d) (d0 : d ≠ []) (lp : a.length ≤ 100) (ka : ∀ r ∈ a, RatOk r 10000000) (ld : d.length ≤ 100) (H : HtP h (trimP (a.map rv))) (L : HtP l d) (hb : h + ((trimP (a.map rv)).length + 1 - d.length) * l + l ≤ 2000000) : Ret Tryz.prog 32 [rsD a, qsD d] (· = .tup [qsD (divP (trimP (a.map rv)) d).1, qsD (divP (trimP (a.map rv)) d).2, .int .i64 0]) := by
  have h1 := HtP.gt H
  obtain ⟨N, hN⟩ : ∃ N, (trimP (a.map rv)).length + 1 - d.length = N := ⟨_, rfl⟩
  rw [hN] at hb
  obtain ⟨K, hK⟩ : ∃ K, K = h + N * l + l := ⟨_, rfl⟩
  have hv := polynomial_Div a (d.map rq) K (fun r => ∃ k, k + (r.length + 1 - d.length) ≤ N ∧ HtP (h + k * l) r) lp (by rw [List.length_map]; exact ld) ka (rqs_ok fun x hx => (L.okL x hx).mono (by omega)) (by rw [map_rv_rqL, trim_of hd]; exact d0)
    ⟨0, by omega, H.mono (by omega)⟩
    (by
      rw [map_rv_rqL, trim_of hd]
      rintro r ⟨k, hk, hr⟩ tr hle
      refine ⟨k + 1, ?_, ?_⟩
      · have := stepRP_len tr hd d0 hle; omega
      · have := hr.stepRP L (lead_ne hd d0)
        refine this.mono ?_
        rw [Nat.add_mul, Nat.one_mul]; omega)
    (by
      rintro r ⟨k, hk, hr⟩ x hx
      refine (hr.okL x hx).mono ?_
      have := Nat.mul_le_mul_right l (show k ≤ N by omega)
      omega) (by omega) (by omega)
  rw [map_rv_rqL, trim_of hd] at hv
  exact hv.args (LeT.cons (LeD.refl _) (leQRs d (LeT.refl _)))
theorem polynomial_sturmJ (fid : FuncId) (ch : List Rat → List Rat) (hc : ChOk ch) (hf : ∀ p, Tr p → p.length ≤ 100 → (∀ x ∈ p, okQ 5000000 x) → Ret Tryz.prog fid [qsD p] (· = qsD (ch p))) (P : List R3) (hP : P.length ≤ 100) (kP : ∀ r ∈ P, RatOk r 5000000) (M : Nat) (hJ : JS (trimP (P.map rv)) (derP (P.map rv)) M) : Ret Tryz.prog 64 [rsD P, .fn fid []] (· = qssD (chainL ch (P.length + 1) (trimP (P.map rv)) (derP (P.map rv)))) := by
  have l1 := trim_len (P.map rv)
  have l2 : (derP (P.map rv)).length ≤ (derC (P.map rv)).length := trim_len (derC (P.map rv))
  rw [derC_len] at l2
  rw [List.length_map] at l1 l2
  refine polynomial_sturm fid ch (fun a b => a.length ≤ 100 ∧ b.length ≤ 100 ∧ ∃ M, JS a b M) P hP kP ⟨by omega, by omega, M, hJ⟩ (fun a b hab a0 b0 => ?_) (fun a b h => ⟨h.1, h.2.1⟩)
  obtain ⟨g1, g2, M, g3⟩ := hab
  obtain ⟨h1, _, h3, h4, h5⟩ := g3.rem a0 b0
  have tr := tr_rem g3.ta g3.tb b0
  have hl := rem_len g3.ta g3.tb b0
  have nl : (negC (remP a b)).length = (remP a b).length := len_smul _ _
  have o1 : ∀ x ∈ remP a b, okQ 5000000 x := fun x hx => (h1.okL x hx).mono (by omega)
  have o2 : ∀ x ∈ negC (remP a b), okQ 5000000 x := fun x hx => (h1.neg.okL x hx).mono (by omega)
  refine ⟨⟨_, polynomial_DivQ a b g3.ta g3.tb b0 g1 g2 g3.ha g3.hb h3⟩, polynomial_negativeQ _ tr (by omega) o1, hf _ (tr_neg tr) (by omega) o2, ⟨g2, ?_, g3.next hc a0 b0⟩, ?_⟩
  · rw [hc.len, nl]; omega
  · rw [hc.len, nl]; exact hl
theorem polynomial_GcdJ (a b : List R3) (ha : a.length ≤ 99) (hb : b.length ≤ 99) (ka : ∀ r ∈ a, RatOk r 10000000) (kb : ∀ r ∈ b, RatOk r 10000000) (hJ : JG (trimP (a.map rv)) (trimP (b.map rv))) : Ret Tryz.prog 17 [rsD a, rsD b] (· = qsD (gcdP (trimP (a.map rv)) (trimP (b.map rv)))) := by
  have l1 := trim_len (a.map rv)
  have l2 := trim_len (b.map rv)
  rw [List.length_map] at l1 l2
  have sc : ∀ p M, Tr p → p ≠ [] → p.length ≤ 100 → HtP M p → M ≤ 2000000 → Ret Tryz.prog 61 [qsD p, qD (p.getD ((p.length : Int) - 1).toNat 0)] (· = qsD (monicP p)) := fun p M t p0 pl hM hle => by
    have e1 : ((p.length : Int) - 1).toNat = p.length - 1 := by have := ne_len p0; omega
    rw [e1]
    exact polynomial_scaledQ p (lead p) (by omega) (fun x hx => (hM.okL x hx).mono (by omega)) ((hM.ok _).mono (by omega)) (lead_ne t p0)
  have fitM : ∀ M n, (M + 1) * 3 ^ n ≤ Bud → M ≤ 2000000 := fun M n h => by
    have := Nat.mul_le_mul_left (M + 1) (show 1 ≤ 3 ^ n from Nat.pow_pos (by decide))
    unfold Bud at h
    omega
  refine polynomial_Gcd a b (fun p q => p.length ≤ 100 ∧ q.length ≤ 100 ∧ JG p q) (by omega) (by omega) ka kb ⟨by omega, by omega, hJ⟩ (fun p q h => ⟨h.2.2.tp, h.2.2.tq, by omega, by omega⟩) (fun p hp p0 => ?_) (fun p q h q0 => ?_)
  · obtain ⟨q, ⟨g1, g2, g3⟩ | ⟨g1, g2, g3⟩⟩ := hp
    · obtain ⟨M, h1, h2, h3⟩ := g3.fit
      exact sc p M g3.tp p0 g1 h1 (fitM _ _ h3)
    · obtain ⟨M, h1, h2, h3⟩ := g3.fit
      exact sc p M g3.tq p0 g2 h2 (fitM _ _ h3)
  · obtain ⟨g1, g2, g3⟩ := h
    obtain ⟨M, h1, h2, h3, h4⟩ := g3.step q0
    have hl := rem_len g3.tp g3.tq q0
    exact ⟨⟨_, polynomial_DivQ p q g3.tp g3.tq q0 g1 g2 h1 h2 h3⟩, by rw [show (monicP q).length = q.length from len_smul _ _]; exact g2, by omega, h4⟩
def smallP (p : List Rat) : List Rat := smul (1 / absQ (lead p)) p
theorem smallP_eq (p : List Rat) : smallP p = if lead p < 0 then negC (monicP p) else monicP p := by
  unfold smallP absQ monicP negC
  split
  · rename_i h
    rw [smul_smul]
    congr 1
    have h0 : lead p ≠ 0 := fun e => by rw [e] at h; exact absurd h (by decide)
    have h1 : lead p * (lead p)⁻¹ = 1 := Rat.mul_inv_cancel _ h0
    have h2 : -lead p * (-lead p)⁻¹ = 1 := Rat.mul_inv_cancel _ (fun e => h0 (by grind))
    rw [Rat.div_def, Rat.div_def]
    have h3 : (-lead p)⁻¹ = (lead p * (lead p)⁻¹) * (-lead p)⁻¹ := by rw [h1, Rat.one_mul]
    have h4 : (lead p * (lead p)⁻¹) * (-lead p)⁻¹ = -((-lead p * (-lead p)⁻¹) * (lead p)⁻¹) := by grind
    rw [h2] at h4
    rw [h3, h4]
    grind
  · rfl
theorem chOk_small : ChOk smallP := ⟨fun p h => by
    rw [smallP_eq]; split
    · exact tr_neg (tr_monic h)
    · exact tr_monic h, fun p => len_smul _ _, fun p h t H => by
    rw [smallP_eq]; split
    · exact H.monic.neg
    · exact H.monic⟩
theorem horn_ok {p : List Rat} {x : Rat} {K L : Nat} (hp : ∀ y ∈ p, okQ K y) (hx : okQ L x) (hK : 1 < K) : ∀ k, k ≤ p.length → okQ (2 + k * (K + L)) (hornK p x k)
  | 0, _ => by rw [horn_zero]; exact okQ_zero (by omega)
  | k + 1, h => by
    rw [horn_succ (by omega)]
    have := ((horn_ok hp hx hK k (by omega)).mul hx).add (ok_cf hp hK (p.length - 1 - k))
    refine okQ.mono this ?_
    rw [Nat.add_mul]; omega
theorem polynomial_EvalF (f : List Rat) (x : R3) {M : Nat} (hf : Fit f.length f M) (hl : f.length ≤ 13) (hx : RatOk x 200000) : Ret Tryz.prog 36 [qsD f, rD x] (· = qD (evalP f (rv x))) ∧ okQ 10000000 (evalP f (rv x)) := by
  obtain ⟨h1, h2⟩ := hf
  have m1 := HtP.gt h1
  have hk : f.length * M ≤ 2000000 := by
    have a1 := Nat.mul_le_mul (show M ≤ M + 1 by omega) (Nat.le_trans (Nat.le_succ f.length) (len_lt_pow3 f.length))
    rw [Nat.mul_comm] at a1
    unfold Bud at h2
    omega
  have hM : M ≤ 2000000 := by
    have := Nat.mul_le_mul_left (M + 1) (show 1 ≤ 3 ^ f.length from Nat.pow_pos (by decide))
    unfold Bud at h2
    omega
  have ho : ∀ k, k ≤ f.length → okQ 5000000 (hornK f (rv x) k) := fun k hk2 => by
    refine (horn_ok h1.okL (okQ_rv hx (by decide)) m1 k hk2).mono ?_
    have a1 := Nat.mul_le_mul_right M hk2
    have a2 := Nat.mul_le_mul_right 200000 hk2
    rw [Nat.mul_add]
    omega
  have he := polynomial_Eval (f.map rq) x (by rw [List.length_map]; omega) (rqs_ok fun y hy => (h1.okL y hy).mono (by omega)) (hx.up (by decide)) (by rw [map_rv_rqL, List.length_map]; exact ho)
  rw [map_rv_rqL] at he
  refine ⟨he.args (leQRs f (LeT.refl _)), ?_⟩
  have := ho f.length (Nat.le_refl _)
  rw [horn_all] at this
  exact this.mono (by decide)
end Go.Proofs.YtlphlodailailaaGreat
