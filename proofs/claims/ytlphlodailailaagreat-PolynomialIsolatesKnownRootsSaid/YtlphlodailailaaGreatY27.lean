/-
  A statement of the seat: what its contract is, and the claim. Conditions: as each says.
-/
import Derived.Test.YtlphlodailailaaGreatY26
import Derived.Test.YtlphlodailailaaGreatA09
import Derived.Test.YtlphlodailailaaGreatA10
set_option linter.unusedVariables false
set_option linter.unusedSimpArgs false
set_option maxHeartbeats 8000000
namespace Go.Proofs.YtlphlodailailaaGreat
open Go.Vw
attribute [local irreducible] awp awpL awpR

theorem chS_small : ChS smallP := ⟨chOk_small.tr, chOk_small.len, fun p tp => by
  by_cases h0 : p = []
  · subst h0
    exact ⟨1, by decide, fun x => by rw [Rat.one_mul]; rfl⟩
  · have hl := lead_ne tp h0
    have hp : 0 < absQ (lead p) := by
      unfold absQ
      split
      · grind
      · grind
    refine ⟨absQ (lead p), hp, fun x => ?_⟩
    unfold smallP
    rw [eval_smul, ← Rat.mul_assoc, Rat.mul_comm (absQ (lead p)), div_mul_cancel' (Rat.ne_of_gt hp), Rat.one_mul]⟩
theorem vrsF_eq (F : List (List Rat)) (x : Rat) : vrsF F x = vrs (F.map evalP) x := by
  unfold vrsF vrs sgs
  rw [List.map_map]
  rfl
theorem ctrOk_mk {p : List Rat} (tp : Tr p) (p0 : p ≠ []) {h l H : Nat} (hp : HtP h p) (h1 : 1 < h) (lp : p.length ≤ 90) (h3 : (h + 2) * 3 ^ p.length ≤ Bud) (hg : HtP l (gcdP p (derP p))) (hQ : HtP H (ctrQ p)) (hb : h + (p.length + 1 - (gcdP p (derP p)).length) * l + l ≤ 2000000) (hb2 : (H + 3) * 3 ^ (ctrQ p).length ≤ Bud) : CtrOk p ∧ ∃ M, JS (smallP (ctrQ p)) (smallP (derP (ctrQ p))) M := by
  have td := tr_trim (derC p)
  have hd := ht_der hp (by omega)
  have ld : (derP p).length < p.length := by
    have := derP_lt (p := p) (by rw [trim_of tp]; exact p0)
    rwa [trim_of tp] at this
  have e1 : max p.length ((derP p).length + 1) = p.length := by omega
  have hj : JG p (derP p) := JG.of tp td (hp.mono (Nat.le_succ h)) hd (by rw [e1]; exact h3)
  obtain ⟨g1, g2⟩ := gcdP_tr tp td
  obtain ⟨g3, g4⟩ := g2 (.inl p0)
  rw [show trimP (derC p) = derP p from rfl] at g1 g3 g4
  have glp : (gcdP p (derP p)).length ≤ p.length := by
    have := gcd_len _ tp td (Nat.le_refl _)
    rw [show trimP (derC p) = derP p from rfl] at this
    omega
  have lQ : (ctrQ p).length ≤ p.length + 1 - (gcdP p (derP p)).length := (divP_q tp g1 g3 hp hg h1).2
  have tQ : Tr (ctrQ p) := (divP_spec tp g1 g3).1
  have tE := tr_trim (derC (ctrQ p))
  have hE := ht_der hQ (by omega)
  have lt : ctrQ p ≠ [] → (derP (ctrQ p)).length < (ctrQ p).length := fun q0 => by
    have := derP_lt (p := ctrQ p) (by rw [trim_of tQ]; exact q0)
    rwa [trim_of tQ] at this
  refine ⟨⟨g3, g1, hj, by omega, ⟨h, l, hp, hg, hb⟩, by omega, H + 1, tQ, tE, lt, hQ.mono (by omega), hE, ?_⟩, H + 2, chOk_small.tr _ tQ, chOk_small.tr _ tE, fun h0 => ?_, (ht_small tQ hQ).mono (by omega), ht_small tE hE, ?_⟩
  · exact Nat.le_trans (Nat.mul_le_mul_right _ (by omega)) hb2
  · rw [chOk_small.len, chOk_small.len]
    exact lt fun e => h0 (by rw [e]; rfl)
  · rw [chOk_small.len]; exact hb2
theorem known_ctr {L q p : List Rat} (hq : isE q) (hp : p = mulT (mP L) q) (hL : ∀ s ∈ L, okQ 2 s) (lL : L.length ≤ 5) : CtrOk p ∧ (∃ M, JS (smallP (ctrQ p)) (smallP (derP (ctrQ p))) M) ∧ ∀ lo hi : Rat, cntF (ctr p) lo hi = if lo < hi then nLe (ded L).1 hi - nLe (ded L).1 lo else 0 := by
  obtain ⟨k1, k2, k3, k4⟩ := mE_len (S := L) hq
  have ht := mE_ht hL hq
  rw [← hp] at k1 k2 k3 k4 ht
  obtain ⟨e, e', he, he', eQ, eg⟩ := known hq hp
  have hl := ded_len L
  have eQ' : ctrQ p = mulT (mP (ded L).1) e := eQ
  have hQ : HtP 27 (ctrQ p) := by
    rw [eQ']
    exact (mE_ht (fun s hs => hL s ((ded_mem L s).1 hs)) he).mono (by omega)
  have hg : HtP 27 (gcdP p (derP p)) := by
    rw [eg]
    exact (mE_ht (fun s hs => hL s ((ded_mem L s).1 (ded_rest L s hs))) he').mono (by omega)
  have lQ : (ctrQ p).length ≤ 8 := by
    rw [eQ']
    have := (mE_len (S := (ded L).1) he).1
    omega
  have pw : ∀ n, n ≤ 8 → (3 : Nat) ^ n ≤ 6561 := fun n hn => Nat.pow_le_pow_right (show 0 < 3 by decide) hn
  obtain ⟨c1, c2⟩ := ctrOk_mk k3 k2 (ht.mono (show _ ≤ 27 by omega)) (by decide) (by omega) (by
    have := Nat.mul_le_mul_left (27 + 2) (pw p.length (by omega))
    unfold Bud; omega) hg hQ (by
    have := Nat.mul_le_mul_right 27 (show p.length + 1 - (gcdP p (derP p)).length ≤ 9 by omega)
    omega) (by
    have := Nat.mul_le_mul_left (27 + 3) (pw (ctrQ p).length lQ)
    unfold Bud; omega)
  refine ⟨c1, c2, fun lo hi => ?_⟩
  unfold cntF
  split
  · rename_i hlt
    rw [vrsF_eq, vrsF_eq]
    unfold ctr
    have hb : Bez (ctrQ p) (derP (ctrQ p)) := quot_bez k3 k2
    have tQ : Tr (ctrQ p) := by rw [eQ']; exact (mE_len he).2.2.1
    exact count_roots chS_small tQ hb (Nat.lt_succ_self _) (ded_nodup L) (w := e) (fun x y => Rat.mul_pos (he.pos x) (he.pos y)) (fun x => by rw [eQ', ev_mE]) hlt
  · rfl
end Go.Proofs.YtlphlodailailaaGreat
