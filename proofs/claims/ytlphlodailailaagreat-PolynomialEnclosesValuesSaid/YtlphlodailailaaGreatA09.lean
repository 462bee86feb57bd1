/-
  Contracts of functions of the program, and the layer that they are walked with: PolC PolK PolS. Conditions: as each says.
-/
import Derived.Test.YtlphlodailailaaGreatA08
/-
  Polynomials: products row by row, as a program forms them. Conditions: as each says.
-/
set_option linter.unusedVariables false
set_option linter.unusedSimpArgs false
namespace Go.Vw

theorem mul_snoc : ∀ (p : List Rat) (a : Rat) (q : List Rat), Eqv (mulC (p ++ [a]) q) (addC (mulC p q) (shiftP p.length (smul a q)))
  | [], a, q => fun i => by
    rw [List.nil_append, mul_const a q i, cf_add, cf_shift]
    simp [mulC, Rat.zero_add]
  | b :: p, a, q => fun i => by
    cases i with
    | zero =>
      rw [List.cons_append, cf_mul0, cf_add, cf_mul0, cf_shift]
      simp [Rat.add_zero]
    | succ i =>
      rw [List.cons_append, cf_mulS, mul_snoc p a q i, cf_add, cf_add, cf_mulS, cf_shift, cf_shift]
      simp only [List.length_cons, Nat.add_lt_add_iff_right, Nat.add_sub_add_right]
      grind
def rowV (p q : List Rat) (i j k : Nat) : Rat := cf (mulC (p.take i) q) k + cf (shiftP i (smul (cf p i) (q.take j))) k
theorem rowV_zero (p q : List Rat) (k : Nat) : rowV p q 0 0 k = 0 := by
  unfold rowV
  rw [cf_shift, cf_smul, cf_take]
  simp [mulC, Rat.add_zero]
theorem rowV_step (p q : List Rat) (i j k : Nat) : rowV p q i (j + 1) k = rowV p q i j k + if k = i + j then cf p i * cf q j else 0 := by
  unfold rowV
  rw [cf_shift, cf_shift, cf_smul, cf_smul, cf_take, cf_take]
  by_cases h : k < i
  · rw [if_pos h, if_pos h, if_neg (show ¬ k = i + j by omega)]; grind
  · rw [if_neg h, if_neg h]
    by_cases e : k = i + j
    · subst e
      rw [if_pos rfl, if_pos (show i + j - i < j + 1 by omega), if_neg (show ¬ i + j - i < j by omega), show i + j - i = j by omega]
      grind
    · rw [if_neg e]
      by_cases g : k - i < j
      · rw [if_pos g, if_pos (by omega)]; grind
      · rw [if_neg g, if_neg (by omega)]; grind
theorem rowV_row {p : List Rat} (q : List Rat) {i : Nat} (h : i < p.length) (k : Nat) : rowV p q i q.length k = rowV p q (i + 1) 0 k := by
  unfold rowV
  rw [List.take_length, List.take_zero]
  have e : p.take (i + 1) = p.take i ++ [cf p i] := by
    rw [List.take_add_one, List.getElem?_eq_getElem h, cf_eq h]; rfl
  rw [e, mul_snoc (p.take i) (cf p i) q k, cf_add, List.length_take, show min i p.length = i by omega, cf_shift (i + 1)]
  simp [smul, Rat.add_zero]
theorem rowV_all (p q : List Rat) (k : Nat) : rowV p q p.length 0 k = cf (mulC p q) k := by
  unfold rowV
  rw [List.take_length, cf_shift, cf_smul, cf_take]
  simp [Rat.add_zero]
theorem ok_cf {p : List Rat} {K : Nat} (h : ∀ x ∈ p, okQ K x) (hK : 1 < K) (i : Nat) : okQ K (cf p i) := by
  by_cases hi : i < p.length
  · rw [cf_eq hi]; exact h _ (List.getElem_mem hi)
  · rw [cf_ge (by omega)]; exact okQ_zero hK
theorem ok_row0 {p q : List Rat} {K : Nat} (hp : ∀ x ∈ p, okQ K x) (hq : ∀ x ∈ q, okQ K x) (hK : 1 < K) : ∀ (i : Nat), i ≤ p.length → ∀ k, okQ (2 * K * i + K) (rowV p q i 0 k)
  | 0, _, k => by rw [rowV_zero]; exact okQ_zero (by omega)
  | i + 1, h, k => by
    rw [← rowV_row q (show i < p.length by omega) k]
    have ih := ok_row0 hp hq hK i (by omega) k
    unfold rowV at ih ⊢
    rw [List.take_zero] at ih
    have e0 : cf (shiftP i (smul (cf p i) [])) k = 0 := by rw [cf_shift]; simp [smul]
    rw [e0, Rat.add_zero] at ih
    rw [List.take_length, cf_shift]
    have h2 : okQ (2 * K) (if k < i then 0 else cf (smul (cf p i) q) (k - i)) := by
      split
      · exact okQ_zero (by omega)
      · rw [cf_smul, Nat.two_mul]; exact (ok_cf hp hK i).mul (ok_cf hq hK _)
    exact (ih.add h2).mono (by rw [Nat.mul_add, Nat.mul_one]; omega)
theorem ok_row {p q : List Rat} {K : Nat} (hp : ∀ x ∈ p, okQ K x) (hq : ∀ x ∈ q, okQ K x) (hK : 1 < K) {i : Nat} (h : i ≤ p.length) (j k : Nat) : okQ (2 * K * i + 3 * K) (rowV p q i j k) := by
  have ih := ok_row0 hp hq hK i h k
  unfold rowV at ih ⊢
  rw [List.take_zero] at ih
  have e0 : cf (shiftP i (smul (cf p i) [])) k = 0 := by rw [cf_shift]; simp [smul]
  rw [e0, Rat.add_zero] at ih
  rw [cf_shift]
  have h2 : okQ (2 * K) (if k < i then 0 else cf (smul (cf p i) (q.take j)) (k - i)) := by
    split
    · exact okQ_zero (by omega)
    · rw [cf_smul, Nat.two_mul, cf_take]
      refine (ok_cf hp hK i).mul ?_
      split
      · exact ok_cf hq hK _
      · exact okQ_zero hK
  exact (ih.add h2).mono (by omega)
/-! ## Division -/
def rowR (r d : List Rat) (k : Nat) (c : Rat) (i : Nat) : List Rat := (List.range r.length).map fun j => cf r j - (if k ≤ j ∧ j < k + i then c * cf d (j - k) else 0)
theorem rowR_len (r d : List Rat) (k : Nat) (c : Rat) (i : Nat) : (rowR r d k c i).length = r.length := by simp [rowR]
theorem rowR_getD {r d : List Rat} {k : Nat} {c : Rat} {i j : Nat} (h : j < r.length) : (rowR r d k c i).getD j 0 = cf r j - (if k ≤ j ∧ j < k + i then c * cf d (j - k) else 0) := by
  simp [rowR, List.getD_eq_getElem?_getD, h]
theorem rowR_zero (r d : List Rat) (k : Nat) (c : Rat) : rowR r d k c 0 = r := by
  refine List.ext_getElem (by simp [rowR]) fun j g1 g2 => ?_
  simp only [rowR, List.getElem_map, List.getElem_range]
  rw [if_neg (by omega), cf_eq g2, Rat.sub_eq_add_neg, Rat.neg_zero, Rat.add_zero]
theorem rowR_set {r d : List Rat} {k : Nat} {c : Rat} {i : Nat} (h : k + i < r.length) : (rowR r d k c i).set (k + i) ((rowR r d k c i).getD (k + i) 0 - c * d.getD i 0) = rowR r d k c (i + 1) := by
  rw [rowR_getD h]
  refine List.ext_getElem (by simp [rowR]) fun j g1 g2 => ?_
  simp only [rowR, List.getElem_set, List.getElem_map, List.getElem_range]
  split
  · rename_i e
    subst e
    rw [if_neg (by omega), if_pos (by omega), show k + i - k = i by omega]
    show _ = cf r (k + i) - c * cf d i
    rw [Rat.sub_eq_add_neg (cf r (k + i)) 0, Rat.neg_zero, Rat.add_zero]
    rfl
  · rename_i e
    by_cases g : k ≤ j ∧ j < k + i
    · rw [if_pos g, if_pos (by omega)]
    · rw [if_neg g, if_neg (by omega)]
theorem rowR_all {r d : List Rat} (h : d.length ≤ r.length) : trimP (rowR r d (remK r d) (remC r d) d.length) = stepRP r d := by
  have e : trimP (stepRP r d) = stepRP r d := by unfold stepRP; exact trim_trim _
  rw [← e]
  refine trim_ext fun i => ?_
  rw [cf_stepRP]
  by_cases hi : i < r.length
  · show (rowR r d (remK r d) (remC r d) d.length).getD i 0 = _
    rw [rowR_getD hi]
    by_cases g : i < remK r d
    · rw [if_neg (by omega), if_pos g]
    · rw [if_neg g, if_pos (by unfold remK at *; omega)]
  · rw [cf_ge (by rw [rowR_len]; omega), cf_ge (by omega)]
    split
    · grind
    · rename_i g
      rw [cf_ge (p := d) (by unfold remK at *; omega)]
      grind
theorem rowR_ok {r d : List Rat} {k : Nat} {c : Rat} {K : Nat} (hr : ∀ x ∈ r, okQ K x) (hd : ∀ x ∈ d, okQ K x) (hc : okQ (2 * K) c) (hK : 1 < K) (i : Nat) : ∀ x ∈ rowR r d k c i, okQ (4 * K) x := fun x hx => by
  obtain ⟨j, _, rfl⟩ := List.mem_map.1 hx
  have h2 : okQ (3 * K) (if k ≤ j ∧ j < k + i then c * cf d (j - k) else 0) := by
    split
    · exact (hc.mul (ok_cf hd hK _)).mono (by omega)
    · exact okQ_zero (by omega)
  exact ((ok_cf hr hK j).sub h2).mono (by omega)
def updQ (v : Nat → Rat) (k : Nat) (c : Rat) (j : Nat) : Rat := if j = k then c else v j
theorem updQ_step {v : Nat → Rat} {m : Nat} {p r d : List Rat} (h0 : v (remK r d) = 0) (hm : remK r d < m) (h : Eqv (addC (mulC ((List.range m).map v) d) r) p) : Eqv (addC (mulC ((List.range m).map (updQ v (remK r d) (remC r d))) d) (stepRP r d)) p := by
  have e : Eqv ((List.range m).map (updQ v (remK r d) (remC r d))) (stepQP ((List.range m).map v) r d) := fun i => by
    unfold stepQP
    rw [cf_trim, cf_add, cf_shift]
    have cr : ∀ (g : Nat → Rat) i, cf ((List.range m).map g) i = if i < m then g i else 0 := fun g i => by
      unfold cf
      split
      · rename_i h; simp [List.getD_eq_getElem?_getD, h]
      · rename_i h; simp [List.getD_eq_getElem?_getD, h]
    rw [cr, cr]
    unfold updQ
    by_cases e : i = remK r d
    · subst e
      rw [if_pos hm, if_pos rfl, if_pos hm, h0, if_neg (by omega), Nat.sub_self, cf_zero, Rat.zero_add]
    · have e2 : (if i < remK r d then (0 : Rat) else cf [remC r d] (i - remK r d)) = 0 := by
        split
        · rfl
        · exact cf_ge (by show 1 ≤ i - remK r d; omega)
      rw [e2, Rat.add_zero, if_neg e]
  exact ((add_eqv (mul_eqv_l d e) (Eqv.refl _)).trans (stepRP_mul _ r d)).trans h
theorem divP_end {v : Nat → Rat} {m : Nat} {p r d : List Rat} (hp : Tr p) (hd : Tr d) (d0 : d ≠ []) (hr : Tr r) (hl : r.length < d.length) (h : Eqv (addC (mulC ((List.range m).map v) d) r) p) : divP p d = (trimP ((List.range m).map v), r) :=
  divP_unique hp hd d0 (tr_trim _) hr hl ((add_eqv (mul_eqv_l d (trim_eqv _)) (Eqv.refl _)).trans h)
theorem divP_start {p d : List Rat} {m : Nat} : Eqv (addC (mulC ((List.range m).map (fun _ => (0 : Rat))) d) p) p := fun i => by
  have e : ∀ i, cf ((List.range m).map (fun _ => (0 : Rat))) i = 0 := fun i => by
    unfold cf
    by_cases h : i < m <;> simp [List.getD_eq_getElem?_getD, h]
  have e2 : cf (mulC ((List.range m).map (fun _ => (0 : Rat))) d) i = 0 := by
    rw [mul_comm_eqv _ _ i]; exact mul_zero_r d _ e i
  rw [cf_add, e2, Rat.zero_add]
end Go.Vw

/-
  Sizes of quotients. Conditions: as each says.
-/
set_option linter.unusedVariables false
set_option linter.unusedSimpArgs false
namespace Go.Vw

end Go.Vw

/-
  How the changes of sign in a chain change on a short way: Sturm's rule for rational numbers. Conditions: as each says.
-/
set_option linter.unusedVariables false
set_option linter.unusedSimpArgs false
namespace Go.Vw
def ab (x : Rat) : Rat := if x < 0 then -x else x
theorem ab_nonneg (x : Rat) : 0 ≤ ab x := by unfold ab; split <;> grind
theorem ab_neg (x : Rat) : ab (-x) = ab x := by unfold ab; split <;> split <;> grind
theorem ab_sub (x y : Rat) : ab (x - y) ≤ ab x + ab y := by unfold ab; split <;> split <;> split <;> grind
theorem ab_pos {x : Rat} (h : x ≠ 0) : 0 < ab x := by unfold ab; split <;> grind
theorem ab_ge (x : Rat) : x ≤ ab x ∧ -(ab x) ≤ x := by unfold ab; split <;> grind
theorem ab_mul (x y : Rat) : ab (x * y) = ab x * ab y := by
  have h1 : ∀ a b : Rat, 0 ≤ a → 0 ≤ b → ab (a * b) = ab a * ab b := fun a b ha hb => by
    have := Rat.mul_nonneg ha hb
    unfold ab
    rw [if_neg (by grind), if_neg (by grind), if_neg (by grind)]
  by_cases hx : 0 ≤ x
  · by_cases hy : 0 ≤ y
    · exact h1 x y hx hy
    · have := h1 x (-y) hx (by grind)
      rw [ab_neg y] at this
      rw [← this, show x * -y = -(x * y) by grind, ab_neg]
  · by_cases hy : 0 ≤ y
    · have := h1 (-x) y (by grind) hy
      rw [ab_neg x] at this
      rw [← this, show -x * y = -(x * y) by grind, ab_neg]
    · have := h1 (-x) (-y) (by grind) (by grind)
      rw [ab_neg x, ab_neg y] at this
      rw [← this, show -x * -y = x * y by grind]
def sgQ (x : Rat) : Int := x.num.sign
theorem sg_pos {x : Rat} (h : 0 < x) : sgQ x = 1 := Int.sign_eq_one_of_pos (num_gt0.2 h)
theorem sg_neg {x : Rat} (h : x < 0) : sgQ x = -1 := Int.sign_eq_neg_one_of_neg (num_lt0.2 h)
theorem sg_cases (x : Rat) : (0 < x ∧ sgQ x = 1) ∨ (x = 0 ∧ sgQ x = 0) ∨ (x < 0 ∧ sgQ x = -1) := by
  by_cases h : 0 < x
  · exact .inl ⟨h, sg_pos h⟩
  · by_cases h2 : x < 0
    · exact .inr (.inr ⟨h2, sg_neg h2⟩)
    · have : x = 0 := by grind
      subst this; exact .inr (.inl ⟨rfl, rfl⟩)
theorem sg_near {x y : Rat} (h : ab (x - y) < ab x) : sgQ x = sgQ y ∧ sgQ x ≠ 0 := by
  rcases sg_cases x with ⟨h1, e1⟩ | ⟨h1, e1⟩ | ⟨h1, e1⟩
  · have : 0 < y := by
      rw [show ab x = x from by unfold ab; rw [if_neg (by grind)]] at h
      have := ab_ge (x - y)
      grind
    rw [e1, sg_pos this]; exact ⟨rfl, by decide⟩
  · subst h1; have := ab_nonneg (0 - y); have h0 : ab 0 = 0 := rfl; rw [h0] at h; grind
  · have : y < 0 := by
      rw [show ab x = -x from by unfold ab; rw [if_pos h1]] at h
      have := ab_ge (x - y)
      grind
    rw [e1, sg_neg this]; exact ⟨rfl, by decide⟩
def chg : Int → List Int → Int
  | _, [] => 0
  | a, s :: l => (if s ≠ 0 ∧ a ≠ 0 ∧ s ≠ a then 1 else 0) + chg (if s ≠ 0 then s else a) l
abbrev Fn := Rat → Rat
def sgs (l : List Fn) (x : Rat) : List Int := l.map fun f => sgQ (f x)
def vrs (l : List Fn) (x : Rat) : Int := chg 0 (sgs l x)
theorem chg_zero (a : Int) (l : List Int) : chg a (0 :: l) = chg a l := by simp [chg]
theorem chg_same {a : Int} (h : a ≠ 0) (l : List Int) : chg a (a :: l) = chg a l := by simp [chg, h]
theorem chg_diff {a s : Int} (h : a ≠ 0) (h2 : s ≠ 0) (h3 : s ≠ a) (l : List Int) : chg a (s :: l) = 1 + chg s l := by simp [chg, h, h2, h3]
theorem chg_first {s : Int} (h : s ≠ 0) (l : List Int) : chg 0 (s :: l) = chg s l := by simp [chg, h]
theorem chg_mid {a s : Int} (h : a ≠ 0) (hs : s = 0 ∨ s = a ∨ s = -a) (l : List Int) : chg a (s :: -a :: l) = 1 + chg (-a) l := by
  rcases hs with rfl | rfl | rfl
  · rw [chg_zero, chg_diff h (by omega) (by omega)]
  · rw [chg_same h, chg_diff h (by omega) (by omega)]
  · rw [chg_diff h (by omega) (by omega), chg_same (by omega)]
def mn (a b : Rat) : Rat := if a ≤ b then a else b
theorem mn_le {t a b : Rat} (h : t ≤ mn a b) : t ≤ a ∧ t ≤ b := by unfold mn at h; split at h <;> grind
theorem mn_pos {a b : Rat} (h : 0 < a) (k : 0 < b) : 0 < mn a b := by unfold mn; split <;> assumption
def Bd (D : Rat → Prop) (f : Fn) : Prop := ∃ M, 0 ≤ M ∧ ∀ x, D x → ab (f x) ≤ M
def Lp (D : Rat → Prop) (f : Fn) : Prop := ∃ L, 0 ≤ L ∧ ∀ x y, D x → D y → ab (f x - f y) ≤ L * ab (x - y)
def SC (D : Rat → Prop) : List Fn → Prop
  | [] => False
  | [c] => ∃ v, v ≠ 0 ∧ ∀ x, D x → c x = v
  | a :: b :: r => Lp D a ∧ Lp D b ∧ SC D (b :: r) ∧ match r with
    | [] => True
    | c :: _ => ∃ (Q : Fn) (k : Rat), 0 < k ∧ Bd D Q ∧ ∀ x, D x → a x = Q x * b x - k * c x
theorem div_pos' {a b : Rat} (ha : 0 < a) (hb : 0 < b) : 0 < a / b ∧ a / b * b = a := by
  have e : a / b * b = a := div_mul_cancel' (Rat.ne_of_gt hb)
  refine ⟨?_, e⟩
  refine Rat.not_le.1 fun h => ?_
  have := Rat.mul_le_mul_of_nonneg_right h (Rat.le_of_lt hb)
  rw [e, Rat.zero_mul] at this
  grind
theorem mul_le' {a b c : Rat} (h : a ≤ b) (hc : 0 ≤ c) : a * c ≤ b * c := Rat.mul_le_mul_of_nonneg_right h hc
theorem SC.far {D : Rat → Prop} : ∀ {r : List Fn} {a b : Fn}, SC D (a :: b :: r) → ∃ e, 0 < e ∧ ∀ x, D x → e ≤ ab (a x) ∨ e ≤ ab (b x)
  | [], a, b, h => by
    obtain ⟨_, _, ⟨v, hv, hb⟩, _⟩ := h
    exact ⟨ab v, ab_pos hv, fun x hx => .inr (by rw [hb x hx]; exact Rat.le_refl)⟩
  | c :: r, a, b, h => by
    obtain ⟨_, _, hs, Q, k, hk, ⟨M, hM, hQ⟩, hr⟩ := h
    obtain ⟨e, he, hf⟩ := SC.far hs
    obtain ⟨d1, d2⟩ := div_pos' (a := k * e) (b := 1 + M) (Rat.mul_pos hk he) (by grind)
    generalize k * e / (1 + M) = f at *
    refine ⟨if e ≤ f then e else f, by split <;> grind, fun x hx => ?_⟩
    have hfe : (if e ≤ f then e else f) ≤ f ∧ (if e ≤ f then e else f) ≤ e := by split <;> grind
    generalize (if e ≤ f then e else f) = g at *
    by_cases hb : g ≤ ab (b x)
    · exact .inr hb
    · left
      have hc : e ≤ ab (c x) := (hf x hx).resolve_left (by grind)
      have e1 := hr x hx
      have e2 : k * c x = Q x * b x - a x := by grind
      have e3 := ab_sub (Q x * b x) (a x)
      rw [← e2, ab_mul, ab_mul] at e3
      have e4 : ab k = k := by unfold ab; rw [if_neg (by grind)]
      rw [e4] at e3
      have e5 : e * k ≤ ab (c x) * k := mul_le' hc (by grind)
      have e6 : ab (Q x) * ab (b x) ≤ M * ab (b x) := mul_le' (hQ x hx) (ab_nonneg _)
      have e7 : ab (b x) * M ≤ g * M := mul_le' (by grind) hM
      have e8 : g * M ≤ f * M := mul_le' (by grind) hM
      grind
theorem near_lt {L d e t : Rat} (hL : 0 ≤ L) (he : 0 < e) (hd : d * (1 + L) ≤ e) (ht : t ≤ d) (h0 : 0 ≤ t) : L * t < e := by
  have h1 := mul_le' (a := t) (b := d) (c := L) ht hL
  by_cases hz : d = 0
  · subst hz; grind
  · grind
theorem SC.stay {D : Rat → Prop} : ∀ (n : Nat) {r : List Fn} {a : Fn}, r.length ≤ n → SC D (a :: r) → ∃ d, 0 < d ∧ ∀ x y, D x → D y → ab (x - y) ≤ d → sgQ (a x) ≠ 0 → sgQ (a x) = sgQ (a y) → chg (sgQ (a x)) (sgs r x) = chg (sgQ (a y)) (sgs r y)
  | _, [], a, _, _ => ⟨1, by decide, fun x y _ _ _ _ _ => rfl⟩
  | _, [b], a, _, h => by
    obtain ⟨_, _, ⟨v, hv, hb⟩, _⟩ := h
    refine ⟨1, by decide, fun x y hx hy _ h0 e => ?_⟩
    simp only [sgs, List.map_cons, List.map_nil]
    rw [hb x hx, hb y hy, e]
  | n + 1, b :: c :: r, a, hn, h => by
    obtain ⟨_, ⟨Lb, hLb, lb⟩, hs, Q, k, hk, ⟨M, hM, hQ⟩, hr⟩ := h
    have hs2 : SC D (c :: r) := hs.2.2.1
    obtain ⟨Lc, hLc, lc⟩ := hs.2.1
    obtain ⟨d1, p1, A1⟩ := SC.stay n (r := c :: r) (a := b) (by simpa using hn) hs
    obtain ⟨d2, p2, A2⟩ := SC.stay n (r := r) (a := c) (by simp at hn; omega) hs2
    obtain ⟨e, he, hf⟩ := SC.far hs
    obtain ⟨q1, q2⟩ := div_pos' (a := k * e) (b := 1 + M) (Rat.mul_pos hk he) (by grind)
    generalize k * e / (1 + M) = f at *
    obtain ⟨g, hg⟩ : ∃ g, (if e ≤ f then e else f) = g := ⟨_, rfl⟩
    have hg1 : 0 < g ∧ g ≤ e ∧ g ≤ f := by rw [← hg]; split <;> grind
    clear hg
    obtain ⟨d3, p3, m3⟩ : ∃ d, 0 < d ∧ d * (1 + Lb) = g / 2 := ⟨_, div_pos' (a := g / 2) (b := 1 + Lb) (by grind) (by grind)⟩
    obtain ⟨d4, p4, m4⟩ : ∃ d, 0 < d ∧ d * (1 + Lc) = e / 2 := ⟨_, div_pos' (a := e / 2) (b := 1 + Lc) (by grind) (by grind)⟩
    refine ⟨mn (mn d1 d2) (mn d3 d4), mn_pos (mn_pos p1 p2) (mn_pos p3 p4), fun x y hx hy hd h0 hsg => ?_⟩
    obtain ⟨hd12, hd34⟩ := mn_le hd
    obtain ⟨hd1, hd2⟩ := mn_le hd12
    obtain ⟨hd3, hd4⟩ := mn_le hd34
    clear hd12 hd34 hd
    have vb := lb x y hx hy
    have vc := lc x y hx hy
    have vb2 := near_lt (e := g / 2) hLb (by grind) (by grind) hd3 (ab_nonneg _)
    have vc2 := near_lt (e := e / 2) hLc (by grind) (by grind) hd4 (ab_nonneg _)
    simp only [sgs, List.map_cons]
    by_cases hb : g / 2 ≤ ab (b x)
    · obtain ⟨s1, s2⟩ := sg_near (x := b x) (y := b y) (by grind)
      have := A1 x y hx hy hd1 s2 s1
      simp only [sgs, List.map_cons] at this
      rw [← hsg]
      by_cases hc : sgQ (b x) = sgQ (a x)
      · rw [s1] at hc
        rw [s1, hc, chg_same h0, chg_same h0]
        rw [s1, hc] at this
        exact this
      · rw [chg_diff h0 s2 hc, chg_diff h0 (by rw [← s1]; exact s2) (by rw [← s1]; exact hc), this]
    · have hby : ab (b y) < g := by
        have := ab_sub (b x) (b x - b y)
        have e' : b x - (b x - b y) = b y := by grind
        rw [e'] at this
        grind
      have cx : e ≤ ab (c x) := (hf x hx).resolve_left (by grind)
      have cy : e ≤ ab (c y) := (hf y hy).resolve_left (by grind)
      obtain ⟨s1, s2⟩ := sg_near (x := c x) (y := c y) (by grind)
      have hopp : sgQ (c x) = - sgQ (a x) := by
        have e1 := hr x hx
        have e3 := ab_mul (Q x) (b x)
        have e6 : ab (Q x) * ab (b x) ≤ M * ab (b x) := mul_le' (hQ x hx) (ab_nonneg _)
        have e7 : ab (b x) * M ≤ g * M := mul_le' (by grind) hM
        have e8 : g * M ≤ f * M := mul_le' (by grind) hM
        have e9 := ab_ge (Q x * b x)
        have hlt : ab (Q x * b x) < k * e := by grind
        rcases sg_cases (c x) with ⟨h1, g1⟩ | ⟨h1, g1⟩ | ⟨h1, g1⟩
        · have e5 : e * k ≤ c x * k := mul_le' (by unfold ab at cx; rw [if_neg (by grind)] at cx; exact cx) (by grind)
          rw [g1, sg_neg (x := a x) (by grind)]; rfl
        · rw [g1] at s2; exact absurd rfl s2
        · have e5 : e * k ≤ (-(c x)) * k := mul_le' (by unfold ab at cx; rw [if_pos h1] at cx; exact cx) (by grind)
          rw [g1, sg_pos (x := a x) (by grind)]
      have hm : ∀ t : Rat, sgQ t = 0 ∨ sgQ t = sgQ (a x) ∨ sgQ t = - sgQ (a x) := fun t => by
        rcases sg_cases t with ⟨_, g1⟩ | ⟨_, g1⟩ | ⟨_, g1⟩ <;> rcases sg_cases (a x) with ⟨_, g2⟩ | ⟨_, g2⟩ | ⟨_, g2⟩ <;> first | (rw [g2] at h0; exact absurd rfl h0) | (rw [g1, g2]; decide)
      have := A2 x y hx hy hd2 s2 s1
      rw [← hsg, ← s1, hopp]
      rw [chg_mid h0 (hm (b x)), chg_mid h0 (hm (b y))]
      simp only [sgs] at this
      rw [← s1, hopp] at this
      rw [this]
def Cross (q : Fn) (x y : Rat) : Prop := (q x < 0 ∧ 0 ≤ q y) ∨ (0 < q x ∧ q y ≤ 0)
instance (q : Fn) (x y : Rat) : Decidable (Cross q x y) := by unfold Cross; exact inferInstance
theorem cross_up {u v : Rat} (h : u < v) : (if sgQ u = -1 then (1 : Int) else 0) - (if sgQ v = -1 then 1 else 0) = if (u < 0 ∧ 0 ≤ v) ∨ (0 < u ∧ v ≤ 0) then 1 else 0 := by
  rcases sg_cases u with ⟨k1, j1⟩ | ⟨k1, j1⟩ | ⟨k1, j1⟩ <;> rcases sg_cases v with ⟨k2, j2⟩ | ⟨k2, j2⟩ | ⟨k2, j2⟩ <;> rw [j1, j2] <;> (try (exfalso; grind)) <;> first | (rw [if_pos (by grind : (u < 0 ∧ 0 ≤ v) ∨ (0 < u ∧ v ≤ 0))]; decide) | (rw [if_neg (by grind : ¬ ((u < 0 ∧ 0 ≤ v) ∨ (0 < u ∧ v ≤ 0)))]; decide)
theorem cross_dn {u v : Rat} (h : v < u) : (if sgQ u = - -1 then (1 : Int) else 0) - (if sgQ v = - -1 then 1 else 0) = if (u < 0 ∧ 0 ≤ v) ∨ (0 < u ∧ v ≤ 0) then 1 else 0 := by
  rcases sg_cases u with ⟨k1, j1⟩ | ⟨k1, j1⟩ | ⟨k1, j1⟩ <;> rcases sg_cases v with ⟨k2, j2⟩ | ⟨k2, j2⟩ | ⟨k2, j2⟩ <;> rw [j1, j2] <;> (try (exfalso; grind)) <;> first | (rw [if_pos (by grind : (u < 0 ∧ 0 ≤ v) ∨ (0 < u ∧ v ≤ 0))]; decide) | (rw [if_neg (by grind : ¬ ((u < 0 ∧ 0 ≤ v) ∨ (0 < u ∧ v ≤ 0)))]; decide)
theorem SC.short {D : Rat → Prop} {q q1 d : Fn} {r : List Fn} (h : SC D (q :: q1 :: r)) {k : Rat} (hk : 0 < k) (hq : ∀ x, D x → q1 x = k * d x) {K : Rat} (hK : 0 ≤ K) (ht : ∀ x y, D x → D y → ab (q y - q x - (y - x) * d x) ≤ K * (ab (y - x) * ab (y - x))) :
    ∃ e, 0 < e ∧ ∀ x y, D x → D y → x < y → y - x ≤ e → vrs (q :: q1 :: r) x - vrs (q :: q1 :: r) y = if Cross q x y then 1 else 0 := by
  have hs1 : SC D (q1 :: r) := h.2.2.1
  obtain ⟨L0, hL0, l0⟩ := h.1
  obtain ⟨L1, hL1, l1⟩ := h.2.1
  obtain ⟨d0, p0, A0⟩ := SC.stay _ (Nat.le_refl _) h
  obtain ⟨d1, p1, A1⟩ := SC.stay _ (Nat.le_refl _) hs1
  obtain ⟨e, he, hf⟩ := SC.far h
  obtain ⟨d3, p3, m3⟩ : ∃ d, 0 < d ∧ d * (1 + L0) = e / 2 := ⟨_, div_pos' (a := e / 2) (b := 1 + L0) (by grind) (by grind)⟩
  obtain ⟨d4, p4, m4⟩ : ∃ d, 0 < d ∧ d * (1 + L1) = e / 2 := ⟨_, div_pos' (a := e / 2) (b := 1 + L1) (by grind) (by grind)⟩
  obtain ⟨u, pu, mu⟩ : ∃ d, 0 < d ∧ d * k = e := ⟨_, div_pos' (a := e) (b := k) he hk⟩
  obtain ⟨d5, p5, m5⟩ : ∃ d, 0 < d ∧ d * (1 + K) = u / 2 := ⟨_, div_pos' (a := u / 2) (b := 1 + K) (by grind) (by grind)⟩
  refine ⟨mn (mn d0 d1) (mn (mn d3 d4) d5), mn_pos (mn_pos p0 p1) (mn_pos (mn_pos p3 p4) p5), fun x y hx hy hxy hd => ?_⟩
  have hab : ab (x - y) = y - x := by unfold ab; rw [if_pos (by grind)]; grind
  have hab' : ab (y - x) = y - x := by unfold ab; rw [if_neg (by grind)]
  obtain ⟨hd01, hd35⟩ := mn_le hd
  obtain ⟨hd0, hd1⟩ := mn_le hd01
  obtain ⟨hd34, hd5⟩ := mn_le hd35
  obtain ⟨hd3, hd4⟩ := mn_le hd34
  clear hd01 hd35 hd34 hd
  have v0 := l0 x y hx hy
  have v1 := l1 x y hx hy
  rw [hab] at v0 v1
  have w0 := near_lt (e := e / 2) hL0 (by grind) (by grind) hd3 (by grind)
  have w1 := near_lt (e := e / 2) hL1 (by grind) (by grind) hd4 (by grind)
  unfold vrs
  by_cases hb : e / 2 ≤ ab (q x)
  · obtain ⟨s1, s2⟩ := sg_near (x := q x) (y := q y) (by grind)
    have := A0 x y hx hy (by rw [hab]; exact hd0) s2 s1
    have e1 : ∀ z, sgs (q :: q1 :: r) z = sgQ (q z) :: sgs (q1 :: r) z := fun z => rfl
    rw [e1, e1, chg_first s2, chg_first (by rw [← s1]; exact s2), this]
    have hc : ¬ Cross q x y := by
      unfold Cross
      rcases sg_cases (q x) with ⟨h1, g1⟩ | ⟨h1, g1⟩ | ⟨h1, g1⟩ <;> rcases sg_cases (q y) with ⟨h2, g2⟩ | ⟨h2, g2⟩ | ⟨h2, g2⟩ <;> rw [g1, g2] at s1 <;> first | (exact absurd s1 (by decide)) | (rw [g1] at s2; exact absurd rfl s2) | grind
    rw [if_neg hc]; omega
  · have hqy : ab (q y) < e := by
      have := ab_sub (q x) (q x - q y)
      have e' : q x - (q x - q y) = q y := by grind
      rw [e'] at this
      grind
    have cx : e ≤ ab (q1 x) := (hf x hx).resolve_left (by grind)
    obtain ⟨s1, s2⟩ := sg_near (x := q1 x) (y := q1 y) (by grind)
    have := A1 x y hx hy (by rw [hab]; exact hd1) s2 s1
    have e1 : ∀ z, sgs (q :: q1 :: r) z = sgQ (q z) :: sgQ (q1 z) :: sgs r z := fun z => rfl
    rw [e1, e1]
    have step : ∀ (a s : Int) (l : List Int), (a = 0 ∨ a = s ∨ a = -s) → s ≠ 0 → chg 0 (a :: s :: l) = (if a = -s then 1 else 0) + chg s l := fun a s l ha hs => by
      rcases ha with rfl | rfl | rfl
      · rw [chg_zero, chg_first hs, if_neg (by omega)]; omega
      · rw [chg_first hs, chg_same hs, if_neg (by omega)]; omega
      · rw [chg_first (by omega), chg_diff (by omega) hs (by omega), if_pos rfl]
    have hm : ∀ t : Rat, sgQ t = 0 ∨ sgQ t = sgQ (q1 x) ∨ sgQ t = - sgQ (q1 x) := fun t => by
      rcases sg_cases t with ⟨_, g1⟩ | ⟨_, g1⟩ | ⟨_, g1⟩ <;> rcases sg_cases (q1 x) with ⟨_, g2⟩ | ⟨_, g2⟩ | ⟨_, g2⟩ <;> first | (rw [g2] at s2; exact absurd rfl s2) | (rw [g1, g2]; decide)
    rw [← s1, step _ _ _ (hm (q x)) s2, step _ _ _ (hm (q y)) s2]
    rw [← s1] at this
    rw [this]
    -- the first function goes the way of the second one's sign
    have hT := ht x y hx hy
    rw [hab'] at hT
    have hge := ab_ge (q y - q x - (y - x) * d x)
    have hq1 := hq x hx
    have t1 : K * (y - x) < u / 2 := near_lt hK (by grind) (by grind) hd5 (by grind)
    have t2 : K * (y - x) * (y - x) ≤ u / 2 * (y - x) := mul_le' (Rat.le_of_lt t1) (by grind)
    rcases sg_cases (q1 x) with ⟨h1, g1⟩ | ⟨h1, g1⟩ | ⟨h1, g1⟩
    · have cx' : e ≤ k * d x := by rw [← hq1]; unfold ab at cx; rw [if_neg (by grind)] at cx; exact cx
      have hdx : u ≤ d x := by
        refine Rat.not_lt.1 fun h => ?_
        have := Rat.mul_lt_mul_of_pos_left h hk
        grind
      have t3 : u * (y - x) ≤ d x * (y - x) := mul_le' hdx (by grind)
      have t4 : 0 < u * (y - x) := Rat.mul_pos pu (by grind)
      have up : q x < q y := by grind
      rw [g1]
      have hc := cross_up up
      unfold Cross
      omega
    · rw [g1] at s2; exact absurd rfl s2
    · have cx' : e ≤ k * (-(d x)) := by
        have : k * (-(d x)) = -(q1 x) := by rw [hq1]; grind
        rw [this]; unfold ab at cx; rw [if_pos h1] at cx; exact cx
      have hdx : u ≤ -(d x) := by
        refine Rat.not_lt.1 fun h => ?_
        have := Rat.mul_lt_mul_of_pos_left h hk
        grind
      have t3 : u * (y - x) ≤ -(d x) * (y - x) := mul_le' hdx (by grind)
      have t4 : 0 < u * (y - x) := Rat.mul_pos pu (by grind)
      have dn : q y < q x := by grind
      rw [g1]
      have hc := cross_dn dn
      unfold Cross
      omega
end Go.Vw
