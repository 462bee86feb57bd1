/-
  Contracts of functions of the program, and the layer that they are walked with: PolG PolL PolM. Conditions: as each says.
-/
import Derived.Test.YtlphlodailailaaGreatA08
/-
  The greatest common divisor: it divides, and it goes with products. Conditions: as each says.
-/
set_option linter.unusedVariables false
set_option linter.unusedSimpArgs false
namespace Go.Vw

def dvdP (g p : List Rat) : Prop := ∃ u, Eqv p (mulC u g)
theorem inv_lead {p : List Rat} (h : Tr p) (h0 : p ≠ []) : 1 / lead p ≠ 0 ∧ lead p * (1 / lead p) = 1 := by
  have hl := lead_ne h h0
  have h2 : lead p * (1 / lead p) = 1 := by rw [Rat.div_def, Rat.one_mul]; exact Rat.mul_inv_cancel _ hl
  exact ⟨fun e => by rw [e, Rat.mul_zero] at h2; exact absurd h2 (by decide), h2⟩
def mulT (p q : List Rat) : List Rat := trimP (mulC p q)
theorem gcdP_tr {p q : List Rat} (hp : Tr p) (hq : Tr q) : Tr (gcdP p q) ∧ ((p ≠ [] ∨ q ≠ []) → gcdP p q ≠ [] ∧ lead (gcdP p q) = 1) := by
  have key : ∀ (n : Nat) {p q : List Rat}, Tr p → Tr q → q.length ≤ n → Tr (gcdL n p q) ∧ ((p ≠ [] ∨ q ≠ []) → gcdL n p q ≠ [] ∧ lead (gcdL n p q) = 1) := by
    intro n
    induction n with
    | zero =>
      intro p q hp hq h
      have : q = [] := List.length_eq_zero_iff.1 (by omega)
      subst this
      refine ⟨tr_monic hp, fun h => ?_⟩
      have p0 : p ≠ [] := h.resolve_right (fun h => h rfl)
      exact ⟨fun e => p0 (smul_eq_nil.1 e), lead_monic hp p0⟩
    | succ n ih =>
      intro p q hp hq h
      rw [gcdL]
      split
      · rename_i e
        subst e
        refine ⟨tr_monic hp, fun h => ?_⟩
        have p0 : p ≠ [] := h.resolve_right (fun h => h rfl)
        exact ⟨fun e => p0 (smul_eq_nil.1 e), lead_monic hp p0⟩
      · rename_i q0
        have hl := rem_len hp hq q0
        obtain ⟨a, b⟩ := ih hq (tr_rem hp hq q0) (by omega)
        exact ⟨a, fun _ => b (.inl q0)⟩
  exact key _ hp hq (Nat.le_refl _)
end Go.Vw

/-
  Sizes of products and of divisors. Conditions: as each says.
-/
set_option linter.unusedVariables false
set_option linter.unusedSimpArgs false
namespace Go.Vw

theorem mul_num {k : Nat} {q : List Rat} {d : Int} (d0 : d ≠ 0) (Q : Nat → Int) (hq : ∀ i, ln (Q i).natAbs < k ∧ cf q i = Rat.divInt (Q i) d) {c : Int} (c0 : c ≠ 0) {h : Nat} : ∀ (p : List Rat) (P : Nat → Int), (∀ i, ln (P i).natAbs < h ∧ cf p i = Rat.divInt (P i) c) → ∃ R : Nat → Int, ∀ i, ln (R i).natAbs < h + k + p.length ∧ cf (mulC p q) i = Rat.divInt (R i) (c * d)
  | [], P, hp => ⟨fun _ => 0, fun i => ⟨by rw [show (0 : Int).natAbs = 0 from rfl, ln_zero]; have := (hq 0).1; have := (hp 0).1; simp; omega, by rw [show cf (mulC [] q) i = 0 from rfl]; exact (Rat.zero_divInt _).symm⟩⟩
  | a :: p, P, hp => by
    obtain ⟨R, hR⟩ := mul_num d0 Q hq c0 p (fun i => P (i + 1)) (fun i => hp (i + 1))
    have ha := hp 0
    rw [cf_zero] at ha
    have m0 : ∀ i, ln (P 0 * Q i).natAbs < h + k + p.length := fun i => by
      have := ln_mulZ ha.1 (hq i).1; omega
    refine ⟨fun i => match i with | 0 => P 0 * Q 0 | i + 1 => P 0 * Q (i + 1) + R i, fun i => ?_⟩
    cases i with
    | zero =>
      refine ⟨by have := m0 0; simp only [List.length_cons]; omega, ?_⟩
      rw [cf_mul0, ha.2, (hq 0).2, Rat.divInt_mul_divInt]
    | succ i =>
      refine ⟨?_, ?_⟩
      · have := ln_addZ (m0 (i + 1)) (hR i).1
        simp only [List.length_cons]; omega
      · rw [cf_mulS, (hR i).2, ha.2, (hq (i + 1)).2, Rat.divInt_mul_divInt, Rat.divInt_add_divInt _ _ (Int.mul_ne_zero c0 d0) (Int.mul_ne_zero c0 d0)]
        rw [← Int.add_mul, Rat.divInt_mul_right (Int.mul_ne_zero c0 d0)]
theorem HtP.mul {h k : Nat} {p q : List Rat} (H : HtP h p) (K : HtP k q) : HtP (h + k + p.length) (mulC p q) := by
  obtain ⟨c, P, c0, hc, hp⟩ := H
  obtain ⟨d, Q, d0, hd, hq⟩ := K
  obtain ⟨R, hR⟩ := mul_num d0 Q hq c0 p P hp
  refine ⟨c * d, R, Int.mul_ne_zero c0 d0, ?_, hR⟩
  have := ln_mulZ hc hd
  omega
theorem JG.step2 {p q : List Rat} (h : JG p q) (q0 : q ≠ []) : ∃ M, HtP M p ∧ HtP M q ∧ M + (p.length + 1 - q.length) * M + M ≤ 2000000 ∧ HtP (M + (p.length + 1 - q.length) * M) (remP p q) ∧ M + (p.length + 1 - q.length) * M ≤ 2000000 ∧ JG q (monicP (remP p q)) := by
  obtain ⟨M, h1, h2, h3⟩ := h.fit
  have hr := remP_ht h.tp h.tq q0 h1 h2
  have hl := rem_len h.tp h.tq q0
  have hq := ne_len q0
  have hml : (monicP (remP p q)).length = (remP p q).length := len_smul _ _
  have k3 : 3 ≤ 3 ^ q.length := by
    have := Nat.pow_le_pow_right (show 0 < 3 by decide) hq
    simpa using this
  obtain ⟨B, hB⟩ : ∃ B, (p.length + 1 - q.length) * M = B := ⟨_, rfl⟩
  have k1 : (M + B + 1 + 1) * 3 ^ q.length ≤ Bud := by
    by_cases c : q.length < p.length
    · rw [if_pos c] at h3
      obtain ⟨e, he⟩ : ∃ e, p.length - q.length = e := ⟨_, rfl⟩
      have p3 := pow3_ge e (by omega)
      have e4 : 3 ^ p.length = 3 ^ e * 3 ^ q.length := by rw [← Nat.pow_add]; congr 1; omega
      rw [e4, ← Nat.mul_assoc] at h3
      refine Nat.le_trans (Nat.mul_le_mul_right _ ?_) h3
      rw [show p.length + 1 - q.length = e + 1 by omega, Nat.add_mul, Nat.one_mul] at hB
      have := Nat.mul_le_mul_left (M + 1) p3
      have e5 : (M + 1) * (e + 2) = e * M + 2 * M + (e + 2) := by rw [Nat.add_mul, Nat.mul_add, Nat.mul_comm M e]; omega
      omega
    · rw [if_neg c, Nat.pow_succ, Nat.mul_comm (3 ^ q.length) 3, ← Nat.mul_assoc] at h3
      refine Nat.le_trans (Nat.mul_le_mul_right _ ?_) h3
      have : B ≤ M := by
        rw [← hB]
        rcases Nat.lt_or_ge (p.length + 1 - q.length) 1 with g | g
        · rw [show p.length + 1 - q.length = 0 by omega]; omega
        · rw [show p.length + 1 - q.length = 1 by omega]; omega
      omega
  have k2 := Nat.le_trans (Nat.mul_le_mul_left (M + B + 1 + 1) k3) k1
  unfold Bud at k2
  rw [hB] at hr
  refine ⟨M, h1, h2, by omega, by rw [hB]; exact hr, by omega, h.tq, tr_monic (tr_rem h.tp h.tq q0), M + B + 1, h2.mono (by omega), hr.monic, ?_⟩
  rw [hml, if_pos hl]
  exact k1
theorem JG.gcd : ∀ (n : Nat) {p q : List Rat}, JG p q → q.length ≤ n → ∃ M, HtP (M + 1) (gcdP p q) ∧ (M + 1) * 3 ^ (gcdP p q).length ≤ Bud := by
  intro n
  induction n with
  | zero =>
    intro p q h hl
    have : q = [] := List.length_eq_zero_iff.1 (by omega)
    subst this
    obtain ⟨M, h1, h2, h3⟩ := h.fit
    rw [gcdP_nil]
    by_cases p0 : p = []
    · subst p0
      exact ⟨1, HtP.nil, by decide⟩
    · have := ne_len p0
      rw [if_pos (by simpa using this)] at h3
      exact ⟨M, h1.monic, by rw [show (monicP p).length = p.length from len_smul _ _]; exact h3⟩
  | succ n ih =>
    intro p q h hl
    by_cases q0 : q = []
    · subst q0; exact ih h (by simp)
    · obtain ⟨M, _, _, _, hs⟩ := h.step q0
      have e := gcdP_step h.tp h.tq q0 (a := 1 / lead q) (b := 1) (inv_lead h.tq q0).1 (by decide)
      rw [smul_one] at e
      rw [show gcdP p q = gcdP (monicP q) (remP p q) from e]
      exact ih hs (by have := rem_len h.tp h.tq q0; omega)
theorem ht_one {g : List Rat} (hl : g.length = 1) (h1 : lead g = 1) : HtP 3 g := by
  match g, hl with
  | [a], _ =>
    have : a = 1 := h1
    subst this
    exact ⟨1, fun i => match i with | 0 => 1 | _ + 1 => 0, by decide, by show ln 1 < 3; rw [ln_one]; decide, fun i => by
      cases i with
      | zero => exact ⟨by show ln 1 < 3; rw [ln_one]; decide, by decide +kernel⟩
      | succ i => exact ⟨by show ln 0 < 3; rw [ln_zero]; decide, (Rat.zero_divInt 1).symm⟩⟩
end Go.Vw

/-
  Sizes of quotients with one denominator, and of divisors with a budget. Conditions: as each says.
-/
set_option linter.unusedVariables false
set_option linter.unusedSimpArgs false
namespace Go.Vw

def HtQ (h l : Nat) (r q : List Rat) : Prop := ∃ (c : Int) (P Q : Nat → Int), c ≠ 0 ∧ ln c.natAbs < h ∧ (∀ i, ln (P i).natAbs < h ∧ cf r i = Rat.divInt (P i) c) ∧ ∀ i, ln (Q i).natAbs < h + l ∧ cf q i = Rat.divInt (Q i) c
theorem HtQ.mono {h k l : Nat} {r q : List Rat} (H : HtQ h l r q) (hk : h ≤ k) : HtQ k l r q := by
  obtain ⟨c, P, Q, c0, hc, hp, hq⟩ := H
  exact ⟨c, P, Q, c0, by omega, fun i => ⟨by have := (hp i).1; omega, (hp i).2⟩, fun i => ⟨by have := (hq i).1; omega, (hq i).2⟩⟩
theorem HtQ.out {h l : Nat} {r q : List Rat} (H : HtQ h l r q) : HtP (h + l) q := by
  obtain ⟨c, P, Q, c0, hc, hp, hq⟩ := H
  exact ⟨c, Q, c0, by omega, hq⟩
theorem HtQ.start {h l : Nat} {r : List Rat} (H : HtP h r) : HtQ h l r [] := by
  obtain ⟨c, P, c0, hc, hp⟩ := H
  exact ⟨c, P, fun _ => 0, c0, hc, hp, fun i => ⟨by show ln 0 < h + l; rw [ln_zero]; omega, (Rat.zero_divInt c).symm⟩⟩
theorem HtQ.step {h l : Nat} {r q d : List Rat} (H : HtQ h l r q) (L : HtP l d) (hd : lead d ≠ 0) (e : ∀ i, cf (stepQP q r d) i = if i = remK r d then remC r d else cf q i) : HtQ (h + l) l (stepRP r d) (stepQP q r d) := by
  obtain ⟨c, R, Q, c0, hc, hr, hq⟩ := H
  obtain ⟨f, E, e0, he, hE⟩ := L
  have e1 := (hE (d.length - 1)).2
  have e2 := (hr (r.length - 1)).2
  have hne := divInt_ne (a := E (d.length - 1)) (c := f) (by rw [← e1]; exact hd)
  have l0 := (hE (d.length - 1)).1
  have r0' := (hr (r.length - 1)).1
  refine ⟨c * E (d.length - 1), fun i => R i * E (d.length - 1) - (if i < remK r d then 0 else R (r.length - 1) * E (i - remK r d)), fun i => if i = remK r d then R (r.length - 1) * f else Q i * E (d.length - 1), Int.mul_ne_zero c0 hne, ?_, fun i => ⟨?_, ?_⟩, fun i => ?_⟩
  · have := ln_mulZ hc l0; omega
  · have h1 := ln_mulZ (hr i).1 l0
    have h2 : ln (if i < remK r d then 0 else R (r.length - 1) * E (i - remK r d)).natAbs < h + l - 1 := by
      split
      · show ln 0 < _; rw [ln_zero]; omega
      · exact ln_mulZ r0' (hE (i - remK r d)).1
    have := ln_subZ h1 h2
    dsimp only
    omega
  · rw [cf_stepRP, (hr i).2]
    dsimp only
    split
    · rw [Int.sub_zero, divInt_mulR hne]; grind
    · have hq : remC r d * cf d (i - remK r d) = Rat.divInt (R (r.length - 1) * E (i - remK r d)) (c * E (d.length - 1)) := by
        unfold remC lead
        rw [e1, e2, (hE (i - remK r d)).2, divInt_div2 c0 hne e0, Rat.divInt_mul_divInt]
        rw [show R (r.length - 1) * f * E (i - remK r d) = R (r.length - 1) * E (i - remK r d) * f by rw [Int.mul_assoc, Int.mul_assoc, Int.mul_comm f], divInt_mulR e0]
      rw [hq, ← divInt_mulR (a := R i) (c := c) hne, Rat.sub_eq_add_neg, Rat.neg_divInt, Rat.divInt_add_divInt _ _ (Int.mul_ne_zero c0 hne) (Int.mul_ne_zero c0 hne), ← Int.add_mul, divInt_mulR (Int.mul_ne_zero c0 hne), ← Int.sub_eq_add_neg]
  · rw [e]
    dsimp only
    split
    · refine ⟨by have := ln_mulZ r0' he; omega, ?_⟩
      unfold remC lead
      rw [e1, e2, divInt_div2 c0 hne e0]
    · refine ⟨by have := ln_mulZ (hq i).1 l0; omega, ?_⟩
      rw [(hq i).2, divInt_mulR hne]
theorem stepQP_cf {q r d : List Rat} (dl : d.length ≤ r.length) (a2 : ∀ i, i + d.length ≤ r.length → cf q i = 0) (i : Nat) : cf (stepQP q r d) i = if i = remK r d then remC r d else cf q i := by
  unfold stepQP
  rw [cf_trim, cf_add, cf_shift]
  by_cases g : i = remK r d
  · subst g
    rw [if_neg (by omega), Nat.sub_self, cf_zero, if_pos rfl, a2 _ (by unfold remK; omega), Rat.zero_add]
  · rw [if_neg g]
    split
    · rw [Rat.add_zero]
    · rw [cf_ge (p := [remC r d]) (by show 1 ≤ i - remK r d; omega), Rat.add_zero]
theorem divL_ht2 {d : List Rat} {l : Nat} (hd : Tr d) (d0 : d ≠ []) (L : HtP l d) : ∀ (n h : Nat) (q r : List Rat), Tr r → HtQ h l r q → (∀ i, i + d.length ≤ r.length → cf q i = 0) → HtQ (h + (r.length + 1 - d.length) * l) l (divL n q r d).2 (divL n q r d).1
  | 0, h, q, r, hr, H, a2 => H.mono (by omega)
  | n + 1, h, q, r, hr, H, a2 => by
    unfold divL
    split
    · exact H.mono (by omega)
    · rename_i hl
      have h1 := stepRP_len hr hd d0 (by omega)
      have e := stepQP_cf (by omega) a2
      have h2 := divL_ht2 hd d0 L n (h + l) (stepQP q r d) (stepRP r d) (tr_trim _) (H.step L (lead_ne hd d0) e) (fun i hi => by
        rw [e, if_neg (by unfold remK; omega)]
        exact a2 i (by omega))
      refine h2.mono ?_
      obtain ⟨m, hm⟩ : ∃ m, r.length + 1 - d.length = m + 1 := ⟨r.length - d.length, by omega⟩
      have h3 : ((stepRP r d).length + 1 - d.length) * l ≤ m * l := Nat.mul_le_mul_right _ (by omega)
      rw [hm, Nat.add_mul]
      omega
theorem divP_ht {p d : List Rat} {h l : Nat} (hp : Tr p) (hd : Tr d) (d0 : d ≠ []) (H : HtP h p) (L : HtP l d) : HtP (h + (p.length + 1 - d.length) * l + l) (divP p d).1 := (divL_ht2 hd d0 L (p.length + 1) h [] p hp (HtQ.start H) (fun _ _ => rfl)).out
theorem gcdB_step {p q : List Rat} {M B : Nat} (tp : Tr p) (tq : Tr q) (h1 : HtP M p) (h2 : HtP M q) (h3 : (M + 1) * 3 ^ (if q.length < p.length then p.length else q.length + 1) ≤ B) (q0 : q ≠ []) : ∃ M', HtP M' (monicP q) ∧ HtP M' (remP p q) ∧ (M' + 1) * 3 ^ q.length ≤ B := by
  have hr := remP_ht tp tq q0 h1 h2
  have hl := rem_len tp tq q0
  have hq := ne_len q0
  have hm := h2.monic
  obtain ⟨A, hA⟩ : ∃ A, (p.length + 1 - q.length) * M = A := ⟨_, rfl⟩
  refine ⟨M + A + 1, hm.mono (by omega), (hA ▸ hr).mono (by omega), ?_⟩
  by_cases c : q.length < p.length
  · rw [if_pos c] at h3
    obtain ⟨e, he⟩ : ∃ e, p.length - q.length = e := ⟨_, rfl⟩
    have p3 := pow3_ge e (by omega)
    have e4 : 3 ^ p.length = 3 ^ e * 3 ^ q.length := by rw [← Nat.pow_add]; congr 1; omega
    rw [e4, ← Nat.mul_assoc] at h3
    refine Nat.le_trans (Nat.mul_le_mul_right _ ?_) h3
    rw [show p.length + 1 - q.length = e + 1 by omega, Nat.add_mul, Nat.one_mul] at hA
    have := Nat.mul_le_mul_left (M + 1) p3
    have e5 : (M + 1) * (e + 2) = e * M + 2 * M + (e + 2) := by rw [Nat.add_mul, Nat.mul_add, Nat.mul_comm M e]; omega
    omega
  · rw [if_neg c, Nat.pow_succ, Nat.mul_comm (3 ^ q.length) 3, ← Nat.mul_assoc] at h3
    refine Nat.le_trans (Nat.mul_le_mul_right _ ?_) h3
    have : A ≤ M := by
      rw [← hA]
      rcases Nat.lt_or_ge (p.length + 1 - q.length) 1 with g | g
      · rw [show p.length + 1 - q.length = 0 by omega]; omega
      · rw [show p.length + 1 - q.length = 1 by omega]; omega
    omega
theorem gcdB {B : Nat} (hB : 6 ≤ B) : ∀ (n : Nat) {p q : List Rat} {M : Nat}, Tr p → Tr q → HtP M p → HtP M q → (M + 1) * 3 ^ (if q.length < p.length then p.length else q.length + 1) ≤ B → q.length ≤ n → ∃ M', HtP (M' + 1) (gcdP p q) ∧ (M' + 1) * 3 ^ (gcdP p q).length ≤ B := by
  intro n
  induction n with
  | zero =>
    intro p q M tp tq h1 h2 h3 hl
    have : q = [] := List.length_eq_zero_iff.1 (by omega)
    subst this
    rw [gcdP_nil]
    by_cases p0 : p = []
    · subst p0
      exact ⟨1, HtP.nil, by show 2 * 3 ^ 0 ≤ B; omega⟩
    · have := ne_len p0
      rw [if_pos (by simpa using this)] at h3
      exact ⟨M, h1.monic, by rw [show (monicP p).length = p.length from len_smul _ _]; exact h3⟩
  | succ n ih =>
    intro p q M tp tq h1 h2 h3 hl
    by_cases q0 : q = []
    · subst q0; exact ih tp tq h1 h2 h3 (by simp)
    · obtain ⟨M', k1, k2, k3⟩ := gcdB_step tp tq h1 h2 h3 q0
      have e := gcdP_step tp tq q0 (a := 1 / lead q) (b := 1) (inv_lead tq q0).1 (by decide)
      rw [smul_one] at e
      rw [show gcdP p q = gcdP (monicP q) (remP p q) from e]
      have hml : (monicP q).length = q.length := len_smul _ _
      exact ih (tr_monic tq) (tr_rem tp tq q0) k1 k2 (by rw [hml, if_pos (rem_len tp tq q0)]; exact k3) (by have := rem_len tp tq q0; omega)
theorem gcd_len : ∀ (n : Nat) {p q : List Rat}, Tr p → Tr q → q.length ≤ n → (gcdP p q).length ≤ max p.length q.length := by
  intro n
  induction n with
  | zero =>
    intro p q tp tq hl
    have : q = [] := List.length_eq_zero_iff.1 (by omega)
    subst this
    rw [gcdP_nil, show (monicP p).length = p.length from len_smul _ _]
    omega
  | succ n ih =>
    intro p q tp tq hl
    by_cases q0 : q = []
    · subst q0; exact ih tp tq (by simp)
    · have e := gcdP_step tp tq q0 (a := 1 / lead q) (b := 1) (inv_lead tq q0).1 (by decide)
      rw [smul_one] at e
      rw [show gcdP p q = gcdP (monicP q) (remP p q) from e]
      have hr := rem_len tp tq q0
      have := ih (tr_monic tq) (tr_rem tp tq q0) (by omega)
      rw [show (monicP q).length = q.length from len_smul _ _] at this
      omega
end Go.Vw
