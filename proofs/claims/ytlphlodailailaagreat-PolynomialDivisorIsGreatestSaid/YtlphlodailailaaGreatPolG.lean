/-
  The greatest common divisor: it divides, and it goes with products. Conditions: as each says.
-/
import Derived.Test.YtlphlodailailaaGreatA08
set_option linter.unusedVariables false
set_option linter.unusedSimpArgs false
namespace Go.Vw

def dvdP (g p : List Rat) : Prop := ∃ u, Eqv p (mulC u g)
theorem dvd_eqv {g p q : List Rat} (h : dvdP g p) (e : Eqv q p) : dvdP g q := by
  obtain ⟨u, hu⟩ := h
  exact ⟨u, e.trans hu⟩
theorem dvd_add {g p q : List Rat} (h : dvdP g p) (k : dvdP g q) : dvdP g (addC p q) := by
  obtain ⟨u, hu⟩ := h
  obtain ⟨v, hv⟩ := k
  exact ⟨addC u v, (add_eqv hu hv).trans (mul_add_l u v g).symm⟩
theorem dvd_mul {g p : List Rat} (u : List Rat) (h : dvdP g p) : dvdP g (mulC u p) := by
  obtain ⟨v, hv⟩ := h
  exact ⟨mulC u v, (mul_eqv_r u hv).trans (mul_assoc_eqv u v g).symm⟩
theorem dvd_nil (g : List Rat) : dvdP g [] := ⟨[], fun i => rfl⟩
theorem inv_lead {p : List Rat} (h : Tr p) (h0 : p ≠ []) : 1 / lead p ≠ 0 ∧ lead p * (1 / lead p) = 1 := by
  have hl := lead_ne h h0
  have h2 : lead p * (1 / lead p) = 1 := by rw [Rat.div_def, Rat.one_mul]; exact Rat.mul_inv_cancel _ hl
  exact ⟨fun e => by rw [e, Rat.mul_zero] at h2; exact absurd h2 (by decide), h2⟩
theorem dvd_monic (p : List Rat) (hT : Tr p) : dvdP (monicP p) p := by
  by_cases h0 : p = []
  · subst h0; exact dvd_nil _
  · refine ⟨[lead p], ?_⟩
    refine Eqv.symm ((mul_const (lead p) (monicP p)).trans ?_)
    unfold monicP
    rw [smul_smul, (inv_lead hT h0).2, smul_one]
    exact Eqv.refl _
theorem gcdL_dvd : ∀ (n : Nat) {p q : List Rat}, Tr p → Tr q → q.length ≤ n → dvdP (gcdL n p q) p ∧ dvdP (gcdL n p q) q
  | 0, p, q, hp, hq, h => by
    have : q = [] := List.length_eq_zero_iff.1 (by omega)
    subst this
    exact ⟨dvd_monic p hp, dvd_nil _⟩
  | n + 1, p, q, hp, hq, h => by
    rw [gcdL]
    split
    · rename_i e
      subst e
      exact ⟨dvd_monic p hp, dvd_nil _⟩
    · rename_i q0
      have hl := rem_len hp hq q0
      obtain ⟨a, b⟩ := gcdL_dvd n hq (tr_rem hp hq q0) (by omega)
      obtain ⟨s1, s2, s3, s4⟩ := divP_spec hp hq q0
      exact ⟨dvd_eqv (dvd_add (dvd_mul (divP p q).1 a) b) s4.symm, a⟩
theorem gcdP_dvd {p q : List Rat} (hp : Tr p) (hq : Tr q) : dvdP (gcdP p q) p ∧ dvdP (gcdP p q) q := gcdL_dvd _ hp hq (Nat.le_refl _)
theorem rem_of_dvd {g p : List Rat} (hp : Tr p) (hg : Tr g) (g0 : g ≠ []) (h : dvdP g p) : remP p g = [] := by
  obtain ⟨u, hu⟩ := h
  have hl := ne_len g0
  have e := divP_unique (q := trimP u) (r := []) hp hg g0 (tr_trim u) Tr.nil (by simpa using hl) (fun i => by
    rw [cf_add, mul_eqv_l g (trim_eqv u) i, ← hu i, cf_nil, Rat.add_zero])
  unfold remP
  rw [e]
def mulT (p q : List Rat) : List Rat := trimP (mulC p q)
theorem mulT_nil (q : List Rat) : mulT [] q = [] := rfl
theorem tr_mulT (p q : List Rat) : Tr (mulT p q) := tr_trim _
theorem mulT_len {p m : List Rat} (hp : Tr p) (hm : Tr m) (p0 : p ≠ []) (m0 : m ≠ []) : (mulT p m).length = p.length + m.length - 1 ∧ lead (mulT p m) = lead p * lead m := by
  obtain ⟨h1, h2⟩ := mul_len hp hm (ne_len p0) (ne_len m0)
  refine ⟨h1, ?_⟩
  have a := ne_len p0
  have b := ne_len m0
  unfold lead mulT
  rw [h1, cf_trim, show p.length + m.length - 1 - 1 = p.length + m.length - 2 by omega]
  exact h2
theorem mulT_ne {p m : List Rat} (hp : Tr p) (hm : Tr m) (p0 : p ≠ []) (m0 : m ≠ []) : mulT p m ≠ [] := fun h => by
  have := (mulT_len hp hm p0 m0).1
  rw [h] at this
  have a := ne_len p0
  have b := ne_len m0
  simp at this
  omega
theorem mulT_monic {p m : List Rat} (hp : Tr p) (hm : Tr m) (m1 : lead m = 1) : monicP (mulT p m) = mulT (monicP p) m := by
  by_cases p0 : p = []
  · subst p0; rfl
  · have m0 : m ≠ [] := fun e => by rw [e] at m1; exact absurd m1 (by decide)
    have hl := (mulT_len hp hm p0 m0).2
    rw [m1, Rat.mul_one] at hl
    refine (tr_monic (tr_mulT p m)).ext (tr_mulT _ _) ?_
    unfold monicP
    rw [hl]
    exact ((smul_eqv (trim_eqv _)).trans (mul_smul_l _ p m).symm).trans (trim_eqv _).symm
theorem rem_mulT {p q m : List Rat} (hp : Tr p) (hq : Tr q) (q0 : q ≠ []) (hm : Tr m) (m0 : m ≠ []) : remP (mulT p m) (mulT q m) = mulT (remP p q) m := by
  obtain ⟨s1, s2, s3, s4⟩ := divP_spec hp hq q0
  have lq := (mulT_len hq hm q0 m0).1
  have hq1 := ne_len q0
  have hm1 := ne_len m0
  have hlt : (mulT (remP p q) m).length < (mulT q m).length := by
    by_cases r0 : remP p q = []
    · rw [r0, mulT_nil, lq]; show 0 < _; omega
    · have := (mulT_len s2 hm r0 m0).1
      have s3' : (remP p q).length < q.length := s3
      have r1 := ne_len r0
      rw [lq]
      show (mulT (remP p q) m).length < _
      rw [show (mulT (remP p q) m).length = (remP p q).length + m.length - 1 from this]
      omega
  have e := divP_unique (p := mulT p m) (d := mulT q m) (q := (divP p q).1) (r := mulT (remP p q) m) (tr_mulT p m) (tr_mulT q m) (mulT_ne hq hm q0 m0) s1 (tr_mulT _ _) hlt (by
    have a1 : Eqv (mulC (divP p q).1 (mulT q m)) (mulC (mulC (divP p q).1 q) m) := (mul_eqv_r _ (trim_eqv _)).trans (mul_assoc_eqv _ q m).symm
    have a2 : Eqv (addC (mulC (divP p q).1 (mulT q m)) (mulT (remP p q) m)) (mulC (addC (mulC (divP p q).1 q) (remP p q)) m) := (add_eqv a1 (trim_eqv _)).trans (mul_add_l _ _ m).symm
    exact (a2.trans (mul_eqv_l m s4)).trans (trim_eqv _).symm)
  unfold remP at e ⊢
  rw [e]
theorem gcdL_mulT {m : List Rat} (hm : Tr m) (m1 : lead m = 1) : ∀ (n : Nat) {p q : List Rat}, Tr p → Tr q → gcdL n (mulT p m) (mulT q m) = mulT (gcdL n p q) m
  | 0, p, q, hp, hq => mulT_monic hp hm m1
  | n + 1, p, q, hp, hq => by
    have m0 : m ≠ [] := fun e => by rw [e] at m1; exact absurd m1 (by decide)
    rw [gcdL, gcdL]
    by_cases q0 : q = []
    · subst q0
      rw [if_pos rfl, if_pos (mulT_nil m)]
      exact mulT_monic hp hm m1
    · rw [if_neg q0, if_neg (mulT_ne hq hm q0 m0), rem_mulT hp hq q0 hm m0]
      exact gcdL_mulT hm m1 n hq (tr_rem hp hq q0)
theorem gcdP_mulT {p q m : List Rat} (hp : Tr p) (hq : Tr q) (hm : Tr m) (m1 : lead m = 1) : gcdP (mulT p m) (mulT q m) = mulT (gcdP p q) m := by
  have m0 : m ≠ [] := fun e => by rw [e] at m1; exact absurd m1 (by decide)
  unfold gcdP
  rw [gcdL_mulT hm m1 _ hp hq]
  by_cases q0 : q = []
  · subst q0; rfl
  · have := (mulT_len hq hm q0 m0).1
    have hm1 := ne_len m0
    rw [gcdL_fuel (mulT q m).length q.length hp hq (by omega) (Nat.le_refl _)]
theorem gcdP_tr {p q : List Rat} (hp : Tr p) (hq : Tr q) : Tr (gcdP p q) ∧ ((p ≠ [] ∨ q ≠ []) → gcdP p q ≠ [] ∧ lead (gcdP p q) = 1) := by
  have key : ∀ (n : Nat) {p q : List Rat}, Tr p → Tr q → q.length ≤ n → Tr (gcdL n p q) ∧ ((p ≠ [] ∨ q ≠ []) → gcdL n p q ≠ [] ∧ lead (gcdL n p q) = 1) := by
    intro n
    induction n with
    | zero =>
      intro p q hp hq h
      have : q = [] := List.length_eq_zero_iff.1 (by omega)
      subst this
      refine ⟨tr_monic hp, fun h => ?_⟩
      have p0 : p ≠ [] := h.resolve_right (fun h => h rfl)
      exact ⟨fun e => p0 (smul_eq_nil.1 e), lead_monic hp p0⟩
    | succ n ih =>
      intro p q hp hq h
      rw [gcdL]
      split
      · rename_i e
        subst e
        refine ⟨tr_monic hp, fun h => ?_⟩
        have p0 : p ≠ [] := h.resolve_right (fun h => h rfl)
        exact ⟨fun e => p0 (smul_eq_nil.1 e), lead_monic hp p0⟩
      · rename_i q0
        have hl := rem_len hp hq q0
        obtain ⟨a, b⟩ := ih hq (tr_rem hp hq q0) (by omega)
        exact ⟨a, fun _ => b (.inl q0)⟩
  exact key _ hp hq (Nat.le_refl _)
end Go.Vw
