/-
  Contracts of functions of the program, and the layer that they are walked with: ScaA L01 OrdersF OrdersG ScaB L02 L03 L04 L05 PolA PolB PolH PolJ PolC PolK PolG PolL PolM. Conditions: as each says.
-/
import Derived.Test.YtcbadnbonoajjaaGreatA07
/-
  Tukey's biweight and the mean of biweights, in plain terms. Conditions: as each says.
-/
set_option linter.unusedVariables false
set_option linter.unusedSimpArgs false
set_option linter.unnecessarySimpa false
namespace Go.Vw
theorem mul_mono2 {a b c d : Rat} (h1 : a ≤ b) (h2 : c ≤ d) (h3 : 0 ≤ c) (h4 : 0 ≤ b) : a * c ≤ b * d :=
  Rat.le_trans (Rat.mul_le_mul_of_nonneg_right h1 h3) (Rat.mul_le_mul_of_nonneg_left h2 h4)
def rho (u : Rat) : Rat := if u < 0 then 0 else if 1 < u then 1 else 1 - (1 - u) * ((1 - u) * (1 - u))
theorem cube_le {b a : Rat} (h0 : 0 ≤ b) (h1 : b ≤ a) : b * (b * b) ≤ a * (a * a) :=
  mul_mono2 h1 (mul_mono2 h1 h1 h0 (Rat.le_trans h0 h1)) (Rat.mul_nonneg h0 h0) (Rat.le_trans h0 h1)
theorem rho_lo (u : Rat) : 0 ≤ rho u := by
  unfold rho
  split
  · exact Rat.le_refl
  · split
    · decide
    · have := cube_le (b := 1 - u) (a := 1) (by grind) (by grind)
      grind
theorem rho_hi (u : Rat) : rho u ≤ 1 := by
  unfold rho
  split
  · decide
  · split
    · exact Rat.le_refl
    · have h : 0 ≤ 1 - u := by grind
      have := Rat.mul_nonneg h (Rat.mul_nonneg h h)
      grind
theorem rho_one {u : Rat} (h : 1 ≤ u) : rho u = 1 := by
  unfold rho
  rw [if_neg (by grind)]
  split
  · rfl
  · have : u = 1 := by grind
    subst this
    decide +kernel
theorem rho_zero : rho 0 = 0 := by decide +kernel
theorem rho_mono {u w : Rat} (h : u ≤ w) : rho u ≤ rho w := by
  by_cases h0 : u < 0
  · have : rho u = 0 := by unfold rho; rw [if_pos h0]
    rw [this]; exact rho_lo w
  · by_cases h1 : 1 < w
    · rw [rho_one (u := w) (by grind)]; exact rho_hi u
    · unfold rho
      rw [if_neg h0, if_neg (by grind), if_neg (by grind), if_neg h1]
      have := cube_le (b := 1 - w) (a := 1 - u) (by grind) (by grind)
      grind
theorem rho_three {u : Rat} (h : 0 ≤ u) : rho u ≤ 3 * u := by
  unfold rho
  rw [if_neg (by grind)]
  split
  · grind
  · have h1 : 0 ≤ 3 - u := by grind
    have := Rat.mul_nonneg (Rat.mul_nonneg h h) h1
    grind
theorem rho_ok {u : Rat} {n : Nat} (h : okQ n u) (hn : 1 < n) : okQ (3 * n + 8) (rho u) := by
  unfold rho
  split
  · exact okQ_zero (by omega)
  · split
    · exact okQ_one.mono (by omega)
    · have h1 := okQ_one.sub h
      exact (okQ_one.sub (h1.mul (h1.mul h1))).mono (by omega)
def rhoL (r : List Rat) (s : Rat) : List Rat := r.map fun x => rho (x * x / s)
def mnS (r : List Rat) (s : Rat) : Rat := meanQ (rhoL r s)
def nzc (r : List Rat) : Nat := (r.filter fun x => decide (x ≠ 0)).length
def shrQ (r : List Rat) : Rat := ((nzc r : Int) : Rat) / ((r.length : Int) : Rat)
theorem rhoL_len (r : List Rat) (s : Rat) : (rhoL r s).length = r.length := List.length_map ..
theorem sumQ_mono {α : Type} {f g : α → Rat} : ∀ {l : List α}, (∀ x ∈ l, f x ≤ g x) → sumQ (l.map f) ≤ sumQ (l.map g)
  | [], _ => Rat.le_refl
  | x :: l, h => by
    rw [List.map_cons, List.map_cons, sumQ_cons, sumQ_cons]
    have h1 := h x List.mem_cons_self
    have h2 := sumQ_mono (l := l) fun y hy => h y (List.mem_cons_of_mem _ hy)
    grind
theorem sumQ_const {α : Type} (c : Rat) : ∀ (l : List α), sumQ (l.map fun _ => c) = ((l.length : Int) : Rat) * c
  | [] => by rw [List.map_nil, sumQ_nil]; exact (Rat.zero_mul c).symm
  | x :: l => by
    rw [List.map_cons, sumQ_cons, sumQ_const c l, List.length_cons, show ((l.length + 1 : Nat) : Int) = (l.length : Int) + 1 from rfl, Rat.intCast_add]
    grind
theorem nzc_sum : ∀ (r : List Rat), sumQ (r.map fun x => if x = 0 then (0 : Rat) else 1) = ((nzc r : Int) : Rat)
  | [] => rfl
  | x :: r => by
    rw [List.map_cons, sumQ_cons, nzc_sum r]
    unfold nzc
    by_cases h : x = 0
    · rw [if_pos h, List.filter_cons_of_neg (by simp [h]), Rat.zero_add]
    · rw [if_neg h, List.filter_cons_of_pos (by simp [h]), List.length_cons, show (((r.filter fun x => decide (x ≠ 0)).length + 1 : Nat) : Int) = ((r.filter fun x => decide (x ≠ 0)).length : Int) + 1 from rfl, Rat.intCast_add]
      grind
theorem len_pos {α : Type} {l : List α} (h : l ≠ []) : (0 : Rat) < ((l.length : Int) : Rat) := by
  have : 0 < l.length := List.length_pos_iff.2 h
  exact_mod_cast this
theorem divLe {a b c : Rat} (h : a ≤ b) (hc : 0 < c) : a / c ≤ b / c := by
  rw [Rat.div_def, Rat.div_def]
  exact Rat.mul_le_mul_of_nonneg_right h (Rat.le_of_lt (Rat.inv_pos.2 hc))
theorem div_nonneg' {a s : Rat} (h : 0 ≤ a) (hs : 0 < s) : 0 ≤ a / s := by
  rw [Rat.div_def]; exact Rat.mul_nonneg h (Rat.le_of_lt (Rat.inv_pos.2 hs))
theorem sq_nonneg' (x : Rat) : 0 ≤ x * x := by
  by_cases h : 0 ≤ x
  · exact Rat.mul_nonneg h h
  · have : 0 ≤ -x := by grind
    have := Rat.mul_nonneg this this
    grind
theorem mnS_eq {r : List Rat} {s : Rat} : mnS r s = sumQ (r.map fun x => rho (x * x / s)) / ((r.length : Int) : Rat) := by
  unfold mnS meanQ rhoL
  rw [List.length_map]
theorem mnS_shr {r : List Rat} {s : Rat} (hr : r ≠ []) (hs : 0 < s) : mnS r s ≤ shrQ r := by
  rw [mnS_eq]
  unfold shrQ
  refine divLe ?_ (len_pos hr)
  rw [← nzc_sum]
  refine sumQ_mono fun x _ => ?_
  split
  · next h => subst h; rw [show (0 : Rat) * 0 / s = 0 by grind, rho_zero]; exact Rat.le_refl
  · exact rho_hi _
theorem mnS_full {r : List Rat} {s : Rat} (hr : r ≠ []) (hs : 0 < s) (h : ∀ x ∈ r, x ≠ 0 → s ≤ x * x) : mnS r s = shrQ r := by
  rw [mnS_eq]
  unfold shrQ
  rw [← nzc_sum]
  congr 2
  refine List.map_congr_left fun x hx => ?_
  split
  · next h => subst h; rw [show (0 : Rat) * 0 / s = 0 by grind, rho_zero]
  · next h0 =>
    refine rho_one ?_
    have := divLe (h x hx h0) hs
    have e : s / s = 1 := by rw [Rat.div_def]; exact Rat.mul_inv_cancel s (by grind)
    rw [e] at this
    exact this
theorem mnS_up {r : List Rat} {s M : Rat} (hr : r ≠ []) (hs : 0 < s) (h : ∀ x ∈ r, x * x ≤ M) : mnS r s ≤ 3 * (M / s) := by
  have hp := len_pos hr
  rw [mnS_eq]
  have h1 : sumQ (r.map fun x => rho (x * x / s)) ≤ sumQ (r.map fun _ => 3 * (M / s)) := sumQ_mono fun x hx => by
    have a := rho_three (div_nonneg' (sq_nonneg' x) hs)
    have b := divLe (h x hx) hs
    grind
  rw [sumQ_const] at h1
  have h2 := divLe h1 hp
  have e : ((r.length : Int) : Rat) * (3 * (M / s)) / ((r.length : Int) : Rat) = 3 * (M / s) := by
    rw [Rat.mul_comm, Rat.div_def, Rat.mul_assoc, Rat.mul_inv_cancel _ (by grind), Rat.mul_one]
  rw [e] at h2
  exact h2
theorem mnS_mono {α : Type} {l : List α} {f g : α → Rat} {s : Rat} (hl : l ≠ []) (hs : 0 < s) (h : ∀ x ∈ l, f x * f x ≤ g x * g x) : mnS (l.map f) s ≤ mnS (l.map g) s := by
  rw [mnS_eq, mnS_eq, List.length_map, List.length_map, List.map_map, List.map_map]
  refine divLe (sumQ_mono fun x hx => ?_) (len_pos hl)
  exact rho_mono (divLe (h x hx) hs)
theorem mnS_perm {a b : List Rat} {s : Rat} (h : a.Perm b) : mnS a s = mnS b s := by
  rw [mnS_eq, mnS_eq, h.length_eq]
  congr 1
  have hs : ∀ {x y : List Rat}, x.Perm y → sumQ x = sumQ y := fun p => by
    induction p with
    | nil => rfl
    | cons x _ ih => rw [sumQ_cons, sumQ_cons, ih]
    | swap x y l => rw [sumQ_cons, sumQ_cons, sumQ_cons, sumQ_cons]; grind
    | trans _ _ i j => rw [i, j]
  exact hs (h.map _)
theorem ok_cf0 {l : List Rat} {K : Nat} (h : ∀ x ∈ l, okQ K x) (hK : 1 < K) (i : Nat) : okQ K (l.getD i 0) := by
  rw [List.getD_eq_getElem?_getD]
  cases e : l[i]? with
  | none => exact okQ_zero hK
  | some v => exact h v (List.mem_of_getElem? e)
theorem leastN {P : Nat → Prop} : ∀ (n : Nat), P n → ∃ j, j ≤ n ∧ P j ∧ ∀ i, i < j → ¬ P i
  | 0, h => ⟨0, Nat.le_refl _, h, fun i hi => absurd hi (Nat.not_lt_zero i)⟩
  | n + 1, h => by
    by_cases c : ∃ i, i ≤ n ∧ P i
    · obtain ⟨i, hi, pi⟩ := c
      clear h
      induction i using Nat.strongRecOn with
      | _ i ih =>
        by_cases d : ∃ k, k < i ∧ P k
        · obtain ⟨k, hk, pk⟩ := d
          exact ih k hk (by omega) pk
        · exact ⟨i, by omega, pi, fun k hk pk => d ⟨k, hk, pk⟩⟩
    · exact ⟨n + 1, Nat.le_refl _, h, fun i hi pi => c ⟨i, by omega, pi⟩⟩
def dbS (p : Rat) : Nat → Rat
  | 0 => p
  | n + 1 => dbS p n + dbS p n
def hvS (p : Rat) : Nat → Rat
  | 0 => p
  | n + 1 => hvS p n / 2
def biS (r : List Rat) (c b : Rat) (lo hi : Rat) : Nat → Rat × Rat
  | 0 => (lo, hi)
  | n + 1 => if b < mnS r (c * (((biS r c b lo hi n).1 + (biS r c b lo hi n).2) / 2)) then (((biS r c b lo hi n).1 + (biS r c b lo hi n).2) / 2, (biS r c b lo hi n).2) else ((biS r c b lo hi n).1, ((biS r c b lo hi n).1 + (biS r c b lo hi n).2) / 2)
theorem dbS_pos {p : Rat} (h : 0 < p) : ∀ n, 0 < dbS p n
  | 0 => h
  | n + 1 => by have := dbS_pos h n; show 0 < dbS p n + dbS p n; grind
theorem hvS_pos {p : Rat} (h : 0 < p) : ∀ n, 0 < hvS p n
  | 0 => h
  | n + 1 => by
    have := hvS_pos h n
    show 0 < hvS p n / 2
    grind
theorem dbS_ok {p : Rat} {k : Nat} (h : okQ k p) : ∀ n, okQ (k + 2 * n) (dbS p n)
  | 0 => h
  | n + 1 => by
    have e : dbS p (n + 1) = dbS p n * 2 := by show dbS p n + dbS p n = _; grind
    rw [e]
    exact ((dbS_ok h n).mul okQ_two2).mono (by omega)
theorem hvS_ok {p : Rat} {k : Nat} (h : okQ k p) : ∀ n, okQ (k + 2 * n) (hvS p n)
  | 0 => h
  | n + 1 => ((hvS_ok h n).div okQ_two2 (by decide)).mono (by omega)
theorem hvS_add (p : Rat) (m : Nat) : ∀ n, hvS p (m + n) = hvS (hvS p m) n
  | 0 => rfl
  | n + 1 => by show hvS p (m + n) / 2 = hvS (hvS p m) n / 2; rw [hvS_add p m n]
theorem hv_db (p : Rat) : ∀ n, hvS (dbS p n) n = p
  | 0 => rfl
  | n + 1 => by
    have e : hvS (dbS p (n + 1)) (1 + n) = p := by
      rw [hvS_add]
      show hvS ((dbS p n + dbS p n) / 2) n = p
      rw [show (dbS p n + dbS p n) / 2 = dbS p n by grind]
      exact hv_db p n
    have e2 : hvS (dbS p (n + 1)) (n + 1) = hvS (dbS p (n + 1)) (1 + n) := by rw [Nat.add_comm 1 n]
    exact e2.trans e
theorem biS_inv {r : List Rat} {c b lo hi : Rat} (h0 : 0 < lo) (h1 : lo ≤ hi) (h2 : b < mnS r (c * lo)) : ∀ n, lo ≤ (biS r c b lo hi n).1 ∧ (biS r c b lo hi n).1 ≤ (biS r c b lo hi n).2 ∧ b < mnS r (c * (biS r c b lo hi n).1) ∧ (biS r c b lo hi n).2 - (biS r c b lo hi n).1 = hvS (hi - lo) n
  | 0 => ⟨Rat.le_refl, h1, h2, rfl⟩
  | n + 1 => by
    obtain ⟨a, b', c', d⟩ := biS_inv (hi := hi) h0 h1 h2 n
    show lo ≤ (biS r c b lo hi (n + 1)).1 ∧ _ ∧ _ ∧ _ = hvS (hi - lo) n / 2
    rw [← d]
    have e : biS r c b lo hi (n + 1) = if b < mnS r (c * (((biS r c b lo hi n).1 + (biS r c b lo hi n).2) / 2)) then (((biS r c b lo hi n).1 + (biS r c b lo hi n).2) / 2, (biS r c b lo hi n).2) else ((biS r c b lo hi n).1, ((biS r c b lo hi n).1 + (biS r c b lo hi n).2) / 2) := rfl
    rw [e]
    generalize (biS r c b lo hi n).1 = u at *
    generalize (biS r c b lo hi n).2 = v at *
    split
    · next h => exact ⟨by simp only; grind, by simp only; grind, h, by simp only; grind⟩
    · exact ⟨a, by simp only; grind, c', by simp only; grind⟩
theorem biS_okS {r : List Rat} {c b lo hi : Rat} {k : Nat} (h1 : okQ k lo) (h2 : okQ k hi) : ∀ n, ∃ m, m + 2 = 2 ^ n * (k + 2) ∧ okI m (biS r c b lo hi n)
  | 0 => ⟨k, by omega, h1, h2⟩
  | n + 1 => by
    obtain ⟨m, e, o⟩ := biS_okS (r := r) (c := c) (b := b) h1 h2 n
    have hm : okQ (m + m + 2) (((biS r c b lo hi n).1 + (biS r c b lo hi n).2) / 2) := (o.1.add o.2).div okQ_two2 (by decide)
    refine ⟨m + m + 2, by rw [Nat.pow_succ, Nat.mul_assoc, Nat.mul_comm 2, ← Nat.mul_assoc, ← e]; omega, ?_⟩
    unfold biS
    split
    · exact ⟨hm, o.2.mono (by omega)⟩
    · exact ⟨o.1.mono (by omega), hm⟩
theorem biS_ok {r : List Rat} {c b lo hi : Rat} {k : Nat} (h1 : okQ k lo) (h2 : okQ k hi) {n : Nat} (hn : n ≤ 8) : okI (256 * (k + 2)) (biS r c b lo hi n) := by
  obtain ⟨m, e, o⟩ := biS_okS (r := r) (c := c) (b := b) h1 h2 n
  have h3 : 2 ^ n * (k + 2) ≤ 2 ^ 8 * (k + 2) := Nat.mul_le_mul_right _ (Nat.pow_le_pow_right (by decide) hn)
  have h4 : m ≤ 256 * (k + 2) := by omega
  exact ⟨o.1.mono h4, o.2.mono h4⟩
theorem hvS_half {x y : Rat} (h : x ≤ y) : ∀ n, hvS x n ≤ hvS y n
  | 0 => h
  | n + 1 => by have := hvS_half h n; show hvS x n / 2 ≤ hvS y n / 2; grind
theorem hvS_two (x : Rat) : ∀ n, hvS x n * twoQ n = x
  | 0 => by show x * twoQ 0 = x; rw [show twoQ 0 = 1 by decide +kernel]; exact Rat.mul_one x
  | n + 1 => by
    have h := hvS_two x n
    have e : twoQ (n + 1) = twoQ n * 2 := by rw [twoQ_eq, twoQ_eq, Nat.pow_succ]; exact_mod_cast rfl
    show hvS x n / 2 * twoQ (n + 1) = x
    rw [e]
    grind
theorem biS_narrow {r : List Rat} {c b lo hi : Rat} (h0 : 0 < lo) (h1 : hi ≤ lo + lo) (h2 : lo ≤ hi) (h3 : b < mnS r (c * lo)) (n : Nat) : (biS r c b lo hi n).2 - (biS r c b lo hi n).1 ≤ 1 / twoQ n * (biS r c b lo hi n).2 := by
  obtain ⟨a1, a2, a3, a4⟩ := biS_inv (r := r) (c := c) (b := b) h0 h2 h3 n
  rw [a4]
  have p := twoQ_pos n
  have e : 1 / twoQ n * (biS r c b lo hi n).2 = hvS (biS r c b lo hi n).2 n := by
    have h := hvS_two (biS r c b lo hi n).2 n
    generalize (biS r c b lo hi n).2 = w at *
    have h4 : 1 / twoQ n * (hvS w n * twoQ n) = hvS w n * (1 / twoQ n * twoQ n) := by grind
    rw [h, div_mul_cancel' (by grind), Rat.mul_one] at h4
    exact h4
  rw [e]
  exact hvS_half (by grind) n
end Go.Vw

/-
  Scales of residuals, by the program: small functions, the mean of the biweights. Conditions: as each says.
-/
set_option maxHeartbeats 8000000
namespace Go.Proofs.YtcbadnbonoajjaaGreat
open Go.Vw
attribute [local irreducible] awp awpL awpR

theorem leQRl (l : List Rat) : LeD (qsD l) (rsD (l.map rq)) := LeD.sl (by simp) fun i a b ha hb => by
  simp only [List.getElem?_map] at hb
  rw [ha] at hb
  simp only [Option.map_some, Option.some.injEq] at hb
  subst hb
  exact ⟨rfl, LeL.refl _⟩
theorem mscale_one : Ret Tryz.prog 93 [] (· = qD 1) := by
  have h := rational_FromIntW 1 (by decide) (by decide)
  rw [show (((1 : Int) : Rat)) = 1 from rfl] at h
  refine ret_of_awp tab Tryz.func93 rfl rfl (Nat.le_of_ble_eq_true rfl) (fun w0 F0 => ?_)
  repeat' (first | refine wG ?_ | refine wC h ?_ | refine wS ?_ ?_ <;> intro _ | refine finG ?_)
  rfl
theorem mscale_quotient (x y : Rat) (hx : okQ 10000000 x) (hy : okQ 10000000 y) (h0 : y ≠ 0) : Ret Tryz.prog 94 [qD x, qD y] (· = qD (x / y)) := by
  have d := rational_DivQ x y hx hy
  rw [if_neg h0] at d
  generalize x / y = q at *
  refine ret_of_awp tab Tryz.func94 rfl rfl (Nat.le_of_ble_eq_true rfl) (fun w0 F0 => ?_)
  repeat' (first | refine wG ?_ | refine wC d ?_ | refine wS ?_ ?_ <;> intro _ | refine finG ?_)
  rfl
theorem mscale_positiveR (x : R3) (hx : RatOk x 10000000) : Ret Tryz.prog 75 [rD x] (· = .bool (decide (0 < rv x))) := by
  have sg := rational_Sign x hx
  have z : 0 < (rv x).num.sign ↔ 0 < rv x := by rw [← num_gt0, Int.sign_pos_iff]
  rw [show decide (0 < rv x) = decide (0 < (rv x).num.sign) from decide_eq_decide.2 z.symm]
  generalize (rv x).num.sign = s at *
  clear z
  refine ret_of_awp tab Tryz.func75 rfl rfl (Nat.le_of_ble_eq_true rfl) (fun w0 F0 => ?_)
  repeat' (first | refine wG ?_ | refine wC sg ?_ | refine wS ?_ ?_ <;> intro _ | refine finG ?_)
  rfl
theorem mscale_double (x : Rat) (hx : okQ 10000000 x) : Ret Tryz.prog 61 [qD x] (· = qD (x + x)) := by
  have a := rational_AddQ x x hx hx
  generalize x + x = y at *
  refine ret_of_awp tab Tryz.func61 rfl rfl (Nat.le_of_ble_eq_true rfl) (fun w0 F0 => ?_)
  repeat' (first | refine wG ?_ | refine wC a ?_ | refine wS ?_ ?_ <;> intro _ | refine finG ?_)
  rfl
theorem mscale_halve (x : Rat) (hx : okQ 10000000 x) : Ret Tryz.prog 62 [qD x] (· = qD (x / 2)) := by
  have f := rational_FromIntW 2 (by decide) (by decide)
  rw [show (((2 : Int) : Rat)) = 2 from rfl] at f
  have d := mscale_quotient x 2 hx (okQ_two2.mono (by decide)) (by decide)
  generalize x / 2 = y at *
  generalize (2 : Rat) = z at *
  refine ret_of_awp tab Tryz.func62 rfl rfl (Nat.le_of_ble_eq_true rfl) (fun w0 F0 => ?_)
  repeat' (first | refine wG ?_ | refine wC f ?_ | refine wC d ?_ | refine rg 1 2 ?_ | refine wS ?_ ?_ <;> intro _ | refine finG ?_)
  rfl
theorem mscale_Rho (u : Rat) (hu : okQ 1000000 u) : Ret Tryz.prog 95 [qD u] (· = qD (rho u)) := by
  have o1 := mscale_one
  have sg := rational_SignQ u (hu.mono (by decide))
  have z : u.num.sign < 0 ↔ u < 0 := by rw [← num_lt0, ← Int.not_le, ← Int.not_le, Int.sign_nonneg_iff]
  have k1 : okQ 2 1 := okQ_one
  have cm := rational_CompareQ u 1 (hu.mono (by decide)) (k1.mono (by decide))
  have c := cmpQ_pos u 1
  have s1 := rational_SubQ 1 u (k1.mono (by decide)) (hu.mono (by decide))
  have ov : okQ 1000002 (1 - u) := (k1.sub hu).mono (by decide)
  have m1 := rational_MulQ (1 - u) (1 - u) (ov.mono (by decide)) (ov.mono (by decide))
  have m2 := rational_MulQ (1 - u) ((1 - u) * (1 - u)) (ov.mono (by decide)) ((ov.mul ov).mono (by decide))
  have s2 := rational_SubQ 1 ((1 - u) * ((1 - u) * (1 - u))) (k1.mono (by decide)) ((ov.mul (ov.mul ov)).mono (by decide))
  clear ov k1 hu
  unfold rho
  generalize (1 - u) * ((1 - u) * (1 - u)) = w3 at *
  generalize (1 - u) * (1 - u) = w2 at *
  generalize 1 - u = w1 at *
  generalize 1 - w3 = w4 at *
  generalize u.num.sign = s at *
  generalize cmpQ u 1 = k at *
  by_cases h1 : u < 0
  · rw [if_pos h1]
    have h2 := z.2 h1
    clear c z h1
    rw [show qD 0 = rD r0 from congrArg rD rq_zero]
    refine ret_of_awp tab Tryz.func95 rfl rfl (Nat.le_of_ble_eq_true rfl) (fun w0 F0 => ?_)
    repeat' (first | refine wG ?_ | refine wC sg ?_ | refine wC o1 ?_ | refine wC cm ?_ | refine wC s1 ?_ | refine wC m1 ?_ | refine wC m2 ?_ | refine wC s2 ?_ | refine rg 3 2 ?_ | refine rgK 5 4 [3] ?_ | refine rg 6 5 ?_ | refine wS ?_ ?_ <;> intro _ | (show retPost _ _ _ _ _; first | refine finF true rfl rfl sc ?_ | refine finF false rfl rfl sc ?_ | refine finC false rfl rfl sc sc ?_ | refine finN rfl rfl sc ?_ | refine finL true rfl rfl sc rfl (LeR.cons rfl leL LeR.nil) ?_ | refine finA true rfl rfl sc ?_ | refine finA false rfl rfl sc ?_ | refine finE true rfl rfl sc ?_ | refine finE false rfl rfl sc ?_))
    exact leL
  · rw [if_neg h1]
    have h2 : ¬ s < 0 := fun e => h1 (z.1 e)
    by_cases h3 : 1 < u
    · rw [if_pos h3]
      have h4 := c.2 h3
      clear c z h1 h3
      generalize (1 : Rat) = one at *
      refine ret_of_awp tab Tryz.func95 rfl rfl (Nat.le_of_ble_eq_true rfl) (fun w0 F0 => ?_)
      repeat' (first | refine wG ?_ | refine wC sg ?_ | refine wC o1 ?_ | refine wC cm ?_ | refine wC s1 ?_ | refine wC m1 ?_ | refine wC m2 ?_ | refine wC s2 ?_ | refine rg 3 2 ?_ | refine rgK 5 4 [3] ?_ | refine rg 6 5 ?_ | refine wS ?_ ?_ <;> intro _ | refine finG ?_)
      rfl
    · rw [if_neg h3]
      have h4 : ¬ 0 < k := fun e => h3 (c.1 e)
      clear c z h1 h3
      generalize (1 : Rat) = one at *
      refine ret_of_awp tab Tryz.func95 rfl rfl (Nat.le_of_ble_eq_true rfl) (fun w0 F0 => ?_)
      repeat' (first | refine wG ?_ | refine wC sg ?_ | refine wC o1 ?_ | refine wC cm ?_ | refine wC s1 ?_ | refine wC m1 ?_ | refine wC m2 ?_ | refine wC s2 ?_ | refine rg 3 2 ?_ | refine rgK 5 4 [3] ?_ | refine rg 6 5 ?_ | refine wS ?_ ?_ <;> intro _ | refine finG ?_)
      rfl
def scErr (n : Nat) (c b : Rat) (bits : Int) : Int := if n = 0 then 10 else if 1024 < n then 2 else if 0 < c ∧ 0 < b ∧ b < 1 ∧ 0 ≤ bits ∧ bits ≤ 128 then 0 else 1
def sizeErr (n : Nat) : Int := if n = 0 then 10 else if 1024 < n then 2 else 0
theorem mscale_size (r : List R3) (h : r.length ≤ 9223372036854775807) : Ret Tryz.prog 92 [rsD r] (· = .int .i64 (sizeErr r.length)) := by
  unfold sizeErr
  by_cases h0 : r.length = 0
  · rw [if_pos h0]
    refine ret_of_awp tab Tryz.func92 rfl rfl (Nat.le_of_ble_eq_true rfl) (fun w0 F0 => ?_)
    repeat' (first | refine wG ?_ | refine wS ?_ ?_ <;> intro _ | refine finG ?_)
    rfl
  · rw [if_neg h0]
    by_cases h1 : 1024 < r.length
    · rw [if_pos h1]
      refine ret_of_awp tab Tryz.func92 rfl rfl (Nat.le_of_ble_eq_true rfl) (fun w0 F0 => ?_)
      repeat' (first | refine wG ?_ | refine wS ?_ ?_ <;> intro _ | refine finG ?_)
      rfl
    · rw [if_neg h1]
      refine ret_of_awp tab Tryz.func92 rfl rfl (Nat.le_of_ble_eq_true rfl) (fun w0 F0 => ?_)
      repeat' (first | refine wG ?_ | refine wS ?_ ?_ <;> intro _ | refine finG ?_)
      rfl
theorem mscale_Check (r : List R3) (c b : R3) (bits : Int) (h : r.length ≤ 9223372036854775807) (hc : RatOk c 10000000) (hb : RatOk b 10000000) (b1 : -9223372036854775808 ≤ bits) (b2 : bits < 9223372036854775808) : Ret Tryz.prog 55 [rsD r, rD c, rD b, .int .i64 bits] (· = .int .i64 (scErr r.length (rv c) (rv b) bits)) := by
  have sz := mscale_size r h
  have p1 := mscale_positiveR c hc
  have p2 := mscale_positiveR b hb
  have o1 := mscale_one
  have cm := rational_Compare b (rq 1) hb (ok_rq (okQ_one.mono (by decide)))
  rw [rv_rq] at cm
  have c1 : 0 ≤ cmpQ (rv b) 1 ↔ ¬ rv b < 1 := by rw [← cmpQ_neg, Int.not_lt]
  by_cases e : sizeErr r.length = 0
  · have e' : scErr r.length (rv c) (rv b) bits = if 0 < rv c ∧ 0 < rv b ∧ rv b < 1 ∧ 0 ≤ bits ∧ bits ≤ 128 then 0 else 1 := by
      unfold scErr
      unfold sizeErr at e
      split at e
      · exact absurd e (by decide)
      · next h0 =>
        split at e
        · exact absurd e (by decide)
        · next h1 => rw [if_neg h0, if_neg h1]
    rw [e']
    rw [e] at sz
    generalize cmpQ (rv b) 1 = k at *
    generalize (1 : Rat) = one at *
    clear e e' h hc hb
    by_cases a1 : 0 < rv c
    · rw [decide_eq_true a1] at p1
      by_cases a2 : 0 < rv b
      · rw [decide_eq_true a2] at p2
        by_cases a3 : rv b < one
        · have a3' : ¬ 0 ≤ k := fun e => c1.1 e a3
          by_cases a4 : 0 ≤ bits ∧ bits ≤ 128
          · rw [if_pos ⟨a1, a2, a3, a4.1, a4.2⟩]
            clear c1 a1 a2 a3
            refine ret_of_awp tab Tryz.func55 rfl rfl (Nat.le_of_ble_eq_true rfl) (fun w0 F0 => ?_)
            repeat' (first | refine wG ?_ | refine wC sz ?_ | refine wC p1 ?_ | refine wC p2 ?_ | refine wC o1 ?_ | refine wC cm ?_ | refine rg 4 11 ?_ | refine wS ?_ ?_ <;> intro _ | refine finG ?_)
            rfl
          · rw [if_neg (fun q => a4 ⟨q.2.2.2.1, q.2.2.2.2⟩)]
            clear c1 a1 a2 a3
            by_cases a5 : bits < 0
            · refine ret_of_awp tab Tryz.func55 rfl rfl (Nat.le_of_ble_eq_true rfl) (fun w0 F0 => ?_)
              repeat' (first | refine wG ?_ | refine wC sz ?_ | refine wC p1 ?_ | refine wC p2 ?_ | refine wC o1 ?_ | refine wC cm ?_ | refine rg 4 11 ?_ | refine wS ?_ ?_ <;> intro _ | refine finG ?_)
              rfl
            · have a6 : 128 < bits := by omega
              refine ret_of_awp tab Tryz.func55 rfl rfl (Nat.le_of_ble_eq_true rfl) (fun w0 F0 => ?_)
              repeat' (first | refine wG ?_ | refine wC sz ?_ | refine wC p1 ?_ | refine wC p2 ?_ | refine wC o1 ?_ | refine wC cm ?_ | refine rg 4 11 ?_ | refine wS ?_ ?_ <;> intro _ | refine finG ?_)
              rfl
        · rw [if_neg (fun q => a3 q.2.2.1)]
          have a3' : 0 ≤ k := c1.2 a3
          clear c1 a1 a2 a3
          refine ret_of_awp tab Tryz.func55 rfl rfl (Nat.le_of_ble_eq_true rfl) (fun w0 F0 => ?_)
          repeat' (first | refine wG ?_ | refine wC sz ?_ | refine wC p1 ?_ | refine wC p2 ?_ | refine wC o1 ?_ | refine wC cm ?_ | refine rg 4 11 ?_ | refine wS ?_ ?_ <;> intro _ | refine finG ?_)
          rfl
      · rw [if_neg (fun q => a2 q.2.1)]
        rw [decide_eq_false a2] at p2
        clear c1 a1 a2
        refine ret_of_awp tab Tryz.func55 rfl rfl (Nat.le_of_ble_eq_true rfl) (fun w0 F0 => ?_)
        repeat' (first | refine wG ?_ | refine wC sz ?_ | refine wC p1 ?_ | refine wC p2 ?_ | refine wC o1 ?_ | refine wC cm ?_ | refine rg 4 11 ?_ | refine wS ?_ ?_ <;> intro _ | refine finG ?_)
        rfl
    · rw [if_neg (fun q => a1 q.1)]
      rw [decide_eq_false a1] at p1
      clear c1 a1
      refine ret_of_awp tab Tryz.func55 rfl rfl (Nat.le_of_ble_eq_true rfl) (fun w0 F0 => ?_)
      repeat' (first | refine wG ?_ | refine wC sz ?_ | refine wC p1 ?_ | refine wC p2 ?_ | refine wC o1 ?_ | refine wC cm ?_ | refine rg 4 11 ?_ | refine wS ?_ ?_ <;> intro _ | refine finG ?_)
      rfl
  · have e' : scErr r.length (rv c) (rv b) bits = sizeErr r.length := by
      unfold sizeErr at e
      unfold scErr sizeErr
      by_cases h0 : r.length = 0
      · rw [if_pos h0, if_pos h0]
      · rw [if_neg h0] at e
        by_cases h1 : 1024 < r.length
        · rw [if_neg h0, if_neg h0, if_pos h1, if_pos h1]
        · rw [if_neg h1] at e; exact absurd rfl e
    rw [e']
    generalize sizeErr r.length = z at *
    clear e' c1 h hc hb
    refine ret_of_awp tab Tryz.func55 rfl rfl (Nat.le_of_ble_eq_true rfl) (fun w0 F0 => ?_)
    repeat' (first | refine wG ?_ | refine wC sz ?_ | refine wC p1 ?_ | refine wC p2 ?_ | refine wC o1 ?_ | refine wC cm ?_ | refine rg 4 11 ?_ | refine wS ?_ ?_ <;> intro _ | refine finG ?_)
    rfl
theorem mscale_share (r : List Rat) (h0 : r ≠ []) (hl : r.length ≤ 1000) (ho : ∀ x ∈ r, okQ 10000000 x) : Ret Tryz.prog 56 [qsD r] (· = qD (shrQ r)) := by
  have og : ∀ i, okQ 10000000 (r.getD i 0) := fun i => ok_cf0 ho (by decide) i
  have hp : 0 < r.length := List.length_pos_iff.2 h0
  obtain ⟨N, hN⟩ : ∃ N : Nat → Nat, ∀ i, N i = nzc (r.take i) := ⟨_, fun _ => rfl⟩
  have n0 : N 0 = 0 := by rw [hN]; rfl
  have nS : ∀ i, i < r.length → N (i + 1) = N i + if (r.getD i 0).num.sign = 0 then 0 else 1 := fun i hi => by
    rw [hN, hN, List.take_add_one, List.getElem?_eq_getElem hi, List.getD_eq_getElem?_getD, List.getElem?_eq_getElem hi]
    unfold nzc
    rw [List.filter_append, List.length_append]
    congr 1
    show (List.filter _ [r[i]]).length = if (r[i]).num.sign = 0 then 0 else 1
    by_cases h : r[i] = 0
    · rw [if_pos (sign_zero_iff.2 h), List.filter_cons_of_neg (by simp [h])]; rfl
    · rw [if_neg (fun e => h (sign_zero_iff.1 e)), List.filter_cons_of_pos (by simp [h])]; rfl
  have nL : ∀ i, N i ≤ 1000 := fun i => by
    rw [hN]
    unfold nzc
    refine Nat.le_trans (List.length_filter_le _ _) ?_
    rw [List.length_take]; omega
  have hne : ((r.length : Int) : Rat) ≠ 0 := fun h => by have := Rat.intCast_eq_zero_iff.1 h; omega
  have f1 := rational_FromIntW (N r.length : Int) (by omega) (by have := nL r.length; omega)
  have f2 := rational_FromIntW (r.length : Int) (by omega) (by omega)
  have q1 := mscale_quotient ((N r.length : Int) : Rat) ((r.length : Int) : Rat) ((ok_intW (by have := nL r.length; omega)).mono (by decide)) ((ok_intW (by omega)).mono (by decide)) hne
  have e : ((N r.length : Int) : Rat) / ((r.length : Int) : Rat) = shrQ r := by unfold shrQ; rw [hN, List.take_of_length_le (Nat.le_refl _)]
  rw [e] at q1
  generalize shrQ r = sh at *
  generalize hz1 : ((N r.length : Int) : Rat) = z1 at *
  generalize ((r.length : Int) : Rat) = z2 at *
  clear hN e hne h0 ho
  refine ret_of_awp tab Tryz.func56 rfl rfl (Nat.le_of_ble_eq_true rfl) (fun w0 F0 => ?_)
  repeat' (first | refine wG ?_ | refine wS ?_ ?_ <;> intro _ | refine finG ?_)
  refine awp_loop1 (fun (i : Nat) => ([(0, .d (qsD r)), (2, .ptr 2 0), (3, .d (.int .i64 (N i))), (6, .d (qsD r)), (7, .d (.int .i64 r.length)), (8, .d (.int .i64 i))], [(2, .box 30 zR3)])) (fun i => i ≤ r.length) (fun i => r.length - i) 0 (by omega) ⟨rfl, rfl, by rw [n0]; rfl, rfl, rfl, rfl, rfl⟩ ⟨rfl, trivial⟩ (fun i hi => ?_)
  have nl := nL i
  by_cases h3 : i < r.length
  · have sg := rational_SignQ (r.getD i 0) (og i)
    have st := nS i h3
    clear nS nL og f1 f2 q1
    generalize (r.getD i 0).num.sign = s at *
    by_cases hs : s = 0
    · rw [if_pos hs, Nat.add_zero] at st
      subst hs
      repeat' (first | refine wG ?_ | refine wC sg ?_ | refine wS ?_ ?_ <;> intro _ | refine finG ?_)
      exact ⟨i + 1, by omega, by omega, ⟨rfl, rfl, iv (by omega), rfl, rfl, iv (by omega), rfl⟩, rfl, trivial⟩
    · rw [if_neg hs] at st
      repeat' (first | refine wG ?_ | refine wC sg ?_ | refine wS ?_ ?_ <;> intro _ | refine finG ?_)
      exact ⟨i + 1, by omega, by omega, ⟨rfl, rfl, iv (by omega), rfl, rfl, iv (by omega), rfl⟩, rfl, trivial⟩
  · have e : i = r.length := by omega
    subst e
    clear nS nL og
    repeat' (first | refine wG ?_ | refine wC f1 ?_ | refine wC f2 ?_ | refine wC q1 ?_ | refine wS ?_ ?_ <;> intro _ | refine finG ?_)
    rfl
theorem mscale_mean (r : List Rat) (c s : Rat) (h0 : r ≠ []) (hl : r.length ≤ 6) (ho : ∀ x ∈ r, okQ 2 x) (oc : okQ 2 c) (os : okQ 100000 s) (hs : c * s ≠ 0) : Ret Tryz.prog 58 [qsD r, qD c, qD s] (· = qD (mnS r (c * s))) ∧ okQ 5000000 (mnS r (c * s)) := by
  have og : ∀ i, okQ 2 (r.getD i 0) := fun i => ok_cf0 ho (by decide) i
  have hp : 0 < r.length := List.length_pos_iff.2 h0
  have m0 := rational_MulQ c s (oc.mono (by decide)) (os.mono (by decide))
  have ok : okQ 100002 (c * s) := (oc.mul os).mono (by decide)
  generalize c * s = k at *
  have oR : ∀ x ∈ rhoL r k, okQ 400000 x := fun x hx => by
    unfold rhoL at hx
    obtain ⟨y, hy, rfl⟩ := List.mem_map.1 hx
    exact (rho_ok (((ho y hy).mul (ho y hy)).div ok hs) (by decide)).mono (by decide)
  have oT : ∀ i, okQ 2400002 (sumQ ((rhoL r k).take i)) := fun i => (sumT_ok oR (n := 6) (by rw [rhoL_len]; exact hl) i).mono (by decide)
  obtain ⟨S, hS⟩ : ∃ S : Nat → Rat, ∀ i, S i = sumQ ((rhoL r k).take i) := ⟨_, fun _ => rfl⟩
  have s0 : S 0 = 0 := by rw [hS]; rfl
  have sS : ∀ i, i < r.length → S (i + 1) = S i + rho (r.getD i 0 * r.getD i 0 / k) := fun i hi => by
    rw [hS, hS, sumQ_take (by rw [rhoL_len]; exact hi)]
    congr 1
    unfold rhoL
    rw [List.getD_eq_getElem?_getD, List.getElem?_map, List.getElem?_eq_getElem hi, List.getD_eq_getElem?_getD, List.getElem?_eq_getElem hi]; rfl
  have oS : ∀ i, okQ 2400002 (S i) := fun i => by rw [hS]; exact oT i
  have hne : ((r.length : Int) : Rat) ≠ 0 := fun h => by have := Rat.intCast_eq_zero_iff.1 h; omega
  have on : okQ 10 ((r.length : Int) : Rat) := ok_intW (by omega)
  have f2 := rational_FromIntW (r.length : Int) (by omega) (by omega)
  have q1 := mscale_quotient (S r.length) ((r.length : Int) : Rat) ((oS _).mono (by decide)) (on.mono (by decide)) hne
  have e : S r.length / ((r.length : Int) : Rat) = mnS r k := by
    unfold mnS meanQ
    rw [hS, rhoL_len, List.take_of_length_le (by rw [rhoL_len]; exact Nat.le_refl _)]
  have oF : okQ 5000000 (mnS r k) := by rw [← e]; exact ((oS _).div on hne).mono (by decide)
  refine ⟨?_, oF⟩
  rw [e] at q1
  generalize mnS r k = mn at *
  generalize ((r.length : Int) : Rat) = z2 at *
  clear hS e hne h0 ho oR oT oF on oc os
  refine ret_of_awp tab Tryz.func58 rfl rfl (Nat.le_of_ble_eq_true rfl) (fun w0 F0 => ?_)
  repeat' (first | refine wG ?_ | refine wC m0 ?_ | refine rg 6 7 ?_ | refine rg 8 4 ?_ | refine wS ?_ ?_ <;> intro _ | refine finG ?_)
  refine awp_rebox 7 (rC (rq 0)) rfl rfl (by rw [rq_zero]; exact leL) ?_
  refine awp_loop1 (fun (i : Nat) => ([(0, .d (qsD r)), (6, .ptr 6 0), (7, .ptr 7 0), (8, .ptr 8 0), (14, .d (qsD r)), (15, .d (.int .i64 r.length)), (16, .d (.int .i64 i))], [(6, .box 30 zR3), (7, .box 30 ((rC (rq (S i))).map V.d)), (8, .box 30 ((rC (rq k)).map V.d))])) (fun i => i ≤ r.length) (fun i => r.length - i) 0 (by omega) ⟨rfl, rfl, rfl, rfl, rfl, rfl, rfl, rfl⟩ ⟨rfl, by rw [s0]; rfl, rfl, trivial⟩ (fun i hi => ?_)
  by_cases h3 : i < r.length
  · have st := sS i h3
    have o1 : okQ 4 (r.getD i 0 * r.getD i 0) := (og i).mul (og i)
    have m1 := rational_MulQ (r.getD i 0) (r.getD i 0) ((og i).mono (by decide)) ((og i).mono (by decide))
    have q2 := mscale_quotient (r.getD i 0 * r.getD i 0) k (o1.mono (by decide)) (ok.mono (by decide)) hs
    have o2 : okQ 100006 (r.getD i 0 * r.getD i 0 / k) := o1.div ok hs
    have rh := mscale_Rho (r.getD i 0 * r.getD i 0 / k) (o2.mono (by decide))
    have o3 := rho_ok o2 (by decide)
    have a1 := rational_AddQ (S i) (rho (r.getD i 0 * r.getD i 0 / k)) ((oS i).mono (by decide)) (o3.mono (by decide))
    rw [← st] at a1
    clear st o1 o2 o3 sS oS og f2 q1 s0 m0
    generalize rho (r.getD i 0 * r.getD i 0 / k) = y3 at *
    generalize r.getD i 0 * r.getD i 0 / k = y2 at *
    generalize r.getD i 0 * r.getD i 0 = y1 at *
    repeat' (first | refine wG ?_ | refine wC m1 ?_ | refine wC q2 ?_ | refine wC rh ?_ | refine wC a1 ?_ | refine rg 6 7 ?_ | refine rg 8 4 ?_ | refine wS ?_ ?_ <;> intro _ | refine finG ?_)
    exact ⟨i + 1, by omega, by omega, ⟨rfl, rfl, rfl, rfl, rfl, rfl, iv (by omega), rfl⟩, rfl, rfl, rfl, trivial⟩
  · have e : i = r.length := by omega
    subst e
    clear sS oS og s0 m0
    repeat' (first | refine wG ?_ | refine wC f2 ?_ | refine wC q1 ?_ | refine rg 6 7 ?_ | refine rg 8 4 ?_ | refine wS ?_ ?_ <;> intro _ | refine finG ?_)
    rfl
end Go.Proofs.YtcbadnbonoajjaaGreat

/-
  Estimates of lists in another order, of lists that are moved and scaled, and where estimates lie. Conditions: as each says.
-/
namespace Go.Vw
def estL (l : List Rat) (p : Rat) (g : Nat) : List Rat := [medLo l, medHi l, midQ l, qLo l p, qHi l p, medLo (hlL l), medHi (hlL l), trimQ l g, winQ l g, midQ (distQ l (midQ l)), qnQ l]
/-! ## Moved and scaled -/
/-! ## Where estimates lie -/
def Within (a b : Rat) (l : List Rat) : Prop := ∀ x ∈ l, a ≤ x ∧ x ≤ b
theorem getD_mem_in {l : List Rat} {i : Nat} (h : i < l.length) : l.getD i 0 ∈ l := by
  rw [List.getD_eq_getElem?_getD, List.getElem?_eq_getElem h]
  exact List.getElem_mem h
theorem Within.srt {a b : Rat} {l : List Rat} (h : Within a b l) : Within a b (srt l) := fun x hx => h x ((srt_perm l).subset hx)
theorem Within.get {a b : Rat} {l : List Rat} (h : Within a b l) {i : Nat} (hi : i < l.length) : a ≤ l.getD i 0 ∧ l.getD i 0 ≤ b := h _ (getD_mem_in hi)
theorem Within.med {a b : Rat} {l : List Rat} (h : Within a b l) (h0 : 0 < l.length) : (a ≤ medLo l ∧ medLo l ≤ b) ∧ (a ≤ medHi l ∧ medHi l ≤ b) ∧ a ≤ midQ l ∧ midQ l ≤ b := by
  have hl := srt_len l
  have h1 := h.srt.get (i := (l.length + 1) / 2 - 1) (by omega)
  have h2 := h.srt.get (i := l.length / 2) (by omega)
  refine ⟨h1, h2, ?_⟩
  unfold midQ medLo medHi
  constructor <;> grind
theorem Within.sum {a b : Rat} : ∀ {l : List Rat}, Within a b l → ((l.length : Int) : Rat) * a ≤ sumQ l ∧ sumQ l ≤ ((l.length : Int) : Rat) * b
  | [], _ => by
    rw [sumQ_nil, List.length_nil]
    rw [show (((0 : Nat) : Int) : Rat) = 0 from rfl]
    constructor <;> grind
  | x :: l, h => by
    obtain ⟨h1, h2⟩ := Within.sum (l := l) fun y hy => h y (List.mem_cons_of_mem _ hy)
    have hx := h x List.mem_cons_self
    rw [sumQ_cons, List.length_cons, show (((l.length + 1 : Nat) : Int) : Rat) = ((l.length : Int) : Rat) + 1 by rw [Int.natCast_add, Rat.intCast_add]; rfl]
    constructor <;> grind
theorem Within.mean {a b : Rat} {l : List Rat} (h : Within a b l) (h0 : 0 < l.length) : a ≤ meanQ l ∧ meanQ l ≤ b := by
  obtain ⟨h1, h2⟩ := h.sum
  have hp : (0 : Rat) < ((l.length : Int) : Rat) := by
    have : ((0 : Int) : Rat) < ((l.length : Int) : Rat) := Rat.intCast_lt_intCast.2 (by omega)
    exact this
  unfold meanQ
  generalize ((l.length : Int) : Rat) = n at *
  have e : sumQ l = (sumQ l / n) * n := (Rat.div_mul_cancel (by grind)).symm
  constructor
  · refine Rat.not_lt.1 fun hlt => ?_
    have := Rat.mul_lt_mul_of_pos_right hlt hp
    grind
  · refine Rat.not_lt.1 fun hlt => ?_
    have := Rat.mul_lt_mul_of_pos_right hlt hp
    grind
theorem Within.hl {a b : Rat} {l : List Rat} (h : Within a b l) : ∀ k, k ≤ l.length → Within a b (hlTake l k)
  | 0, _ => fun x hx => by simp [hlTake] at hx
  | k + 1, hk => fun x hx => by
    rw [hlTake, List.mem_append] at hx
    rcases hx with hx | hx
    · exact h.hl k (by omega) x hx
    · obtain ⟨y, hy, rfl⟩ := List.mem_map.1 hx
      have h1 := h y (List.mem_of_mem_take hy)
      have h2 := h.get (i := k) (by omega)
      constructor <;> grind
theorem Within.est {a b : Rat} {l : List Rat} (h : Within a b l) (h0 : 2 ≤ l.length) (hn : l.length ≤ 12) (p : Rat) {g : Nat} (hg : g ≤ (l.length - 1) / 2) : Within a b ((estL l p g).take 9) := by
  have hsl := srt_len l
  obtain ⟨m1, m2, m3⟩ := h.med (by omega)
  obtain ⟨h1, h2, _⟩ := (show Within a b (hlL l) from h.hl _ (Nat.le_refl _)).med (hlL_len hn (by omega)).2
  have q1 := h.srt.get (i := (min (qFirst p l.length) ((l.length : Int) - 1)).toNat) (by omega)
  have q2 := h.srt.get (i := (min (p * (l.length : Int)).floor ((l.length : Int) - 1)).toNat) (by omega)
  have t1 : a ≤ trimQ l g ∧ trimQ l g ≤ b := Within.mean (fun x hx => h.srt x (by unfold trimR at hx; exact List.mem_of_mem_drop (List.mem_of_mem_take hx))) (by unfold trimR; rw [List.length_take, List.length_drop, hsl]; omega)
  have w1 : a ≤ winQ l g ∧ winQ l g ≤ b := Within.mean (fun x hx => h.srt x (winL_mem _ g (by omega) g x hx)) (by rw [winL_len]; omega)
  intro x hx
  simp only [estL, List.take_succ_cons, List.take_zero, List.mem_cons, List.not_mem_nil, or_false] at hx
  rcases hx with rfl | rfl | rfl | rfl | rfl | rfl | rfl | rfl | rfl
  · exact m1
  · exact m2
  · exact m3
  · exact q1
  · exact q2
  · exact h1
  · exact h2
  · exact t1
  · exact w1
theorem within_srt {l : List Rat} (h0 : 0 < l.length) : Within ((srt l).getD 0 0) ((srt l).getD (l.length - 1) 0) l := fun x hx => by
  have hsl := srt_len l
  obtain ⟨i, hi, rfl⟩ := List.getElem_of_mem ((srt_perm l).symm.subset hx)
  have h1 := asc_getD (srt_asc l) (show 0 ≤ i by omega) hi
  have h2 := asc_getD (srt_asc l) (show i ≤ l.length - 1 by omega) (by omega)
  rw [List.getD_eq_getElem?_getD (i := i), List.getElem?_eq_getElem hi] at h1 h2
  exact ⟨h1, h2⟩
end Go.Vw

/-
  Permutations that are made of numbers. Conditions: as each says.
-/
namespace Go.Vw
def pick (l : List Rat) (q : List Int) : List Rat := q.map fun z => l.getD z.toNat 0
end Go.Vw

/-
  Powers of two near a number, and the search of a scale. Conditions: as each says.
-/
namespace Go.Vw
def blN (n : Nat) : Nat := if n = 0 then 0 else n.log2 + 1
theorem bl_len {n : Nat} (h : n ≠ 0) : 0 < (limbs n).length ∧ 0 < (limbs n).getD ((limbs n).length - 1) 0 ∧ (limbs n).getD ((limbs n).length - 1) 0 < 4294967296 ∧ 32 * (limbs n).length - (31 - ((limbs n).getD ((limbs n).length - 1) 0).log2) = n.log2 + 1 := by
  have h1 := lt_pow_length n
  have hl : 0 < (limbs n).length := by
    rcases Nat.eq_zero_or_pos (limbs n).length with e | e
    · rw [e] at h1; simp at h1; omega
    · exact e
  generalize hL : (limbs n).length = L at *
  obtain ⟨M, rfl⟩ : ∃ M, L = M + 1 := ⟨L - 1, by omega⟩
  have hge : B ^ M ≤ n := by
    rcases Nat.lt_or_ge n (B ^ M) with g | g
    · have := length_limbs_le g
      omega
    · exact g
  have hp : 0 < B ^ M := Nat.pow_pos (by decide)
  have hd : n / B ^ M < B := by
    rw [Nat.div_lt_iff_lt_mul hp, Nat.mul_comm, ← Nat.pow_succ]; exact h1
  rw [Nat.add_sub_cancel, getD_limbs, Nat.mod_eq_of_lt hd]
  have h0 : 1 ≤ n / B ^ M := by rw [Nat.le_div_iff_mul_le hp]; omega
  have e : B ^ M = 2 ^ (32 * M) := by rw [Nat.pow_mul]
  rw [e] at h0 hd ⊢
  have lg := log2_div h0
  rw [B_val] at hd
  have l32 : (n / 2 ^ (32 * M)).log2 < 32 := (Nat.log2_lt (by omega)).2 hd
  exact ⟨Nat.succ_pos _, h0, hd, by omega⟩
def twoZ (k : Int) : Rat := if k < 0 then 1 / twoQ k.natAbs else twoQ k.natAbs
theorem twoQ_add (a b : Nat) : twoQ (a + b) = twoQ a * twoQ b := by
  rw [twoQ_eq, twoQ_eq, twoQ_eq, Nat.pow_add]; exact_mod_cast rfl
theorem twoZ_sub (a b : Nat) : twoZ ((a : Int) - b) * twoQ b = twoQ a := by
  unfold twoZ
  split
  · next h =>
    have e : b = a + ((a : Int) - b).natAbs := by omega
    generalize ((a : Int) - b).natAbs = d at *
    subst e
    rw [twoQ_add]
    have := twoQ_pos d
    have hh : 1 / twoQ d * twoQ d = 1 := div_mul_cancel' (by grind)
    grind
  · next h =>
    have e : a = ((a : Int) - b).natAbs + b := by omega
    generalize ((a : Int) - b).natAbs = d at *
    subst e
    rw [twoQ_add]
theorem twoZ_pos (k : Int) : 0 < twoZ k := by
  unfold twoZ
  split
  · have := twoQ_pos k.natAbs
    rw [Rat.div_def, Rat.one_mul]
    exact Rat.inv_pos.2 this
  · exact twoQ_pos _
theorem okQ_twoB {n : Nat} (h : n ≤ 250) : okQ 10 (twoQ n) := by
  refine ⟨?_, ?_⟩
  · have e : (twoQ n).num.natAbs = 2 ^ n := by unfold twoQ; rw [Rat.num_intCast]; exact Int.natAbs_natCast _
    rw [e]
    exact two_len (by omega)
  · have e : (twoQ n).den = 1 := by unfold twoQ; exact Rat.den_intCast _
    rw [e, limbs_one]; decide
theorem okQ_twoZ {k : Int} (h : k.natAbs ≤ 250) : okQ 12 (twoZ k) := by
  unfold twoZ
  split
  · exact (okQ_one.div (okQ_twoB h) (twoQ_ne _)).mono (by decide)
  · exact (okQ_twoB h).mono (by decide)
theorem bl_bounds {n : Nat} (h : n ≠ 0) : 2 ^ blN n ≤ 2 * n ∧ n < 2 ^ blN n := by
  unfold blN
  rw [if_neg h]
  have h1 := Nat.log2_self_le h
  have h2 : n < 2 ^ (n.log2 + 1) := (Nat.log2_lt h).1 (Nat.lt_succ_self _)
  rw [Nat.pow_succ] at h2 ⊢
  omega
def abZ (v : Rat) : Int := (blN v.num.natAbs : Int) - blN v.den
theorem abZ_le {v : Rat} {k : Nat} (h : okQ k v) : (abZ v).natAbs ≤ 32 * k := by
  have key : ∀ n, (limbs n).length < k → blN n ≤ 32 * k := fun n hn => by
    unfold blN
    split
    · omega
    · next h0 =>
      have h1 := lt_pow_length n
      have h2 : n < 2 ^ (32 * (limbs n).length) := by rw [Nat.pow_mul]; exact h1
      have h3 := (Nat.log2_lt h0).2 h2
      omega
  have h1 := key _ h.1
  have h2 := key _ h.2
  unfold abZ
  omega
theorem abZ_near {v : Rat} (h : 0 < v) : v < 2 * twoZ (abZ v) ∧ twoZ (abZ v) < 2 * v := by
  have hn : 0 < v.num := num_gt0.2 h
  obtain ⟨a1, a2⟩ := bl_bounds (n := v.num.natAbs) (by omega)
  obtain ⟨b1, b2⟩ := bl_bounds (n := v.den) v.den_nz
  have e := twoZ_sub (blN v.num.natAbs) (blN v.den)
  have ev : v * ((v.den : Nat) : Rat) = ((v.num.natAbs : Nat) : Rat) := by
    have h3 : v * v.den = v.num := by
      have h4 := Rat.num_divInt_den v
      rw [Rat.divInt_eq_div] at h4
      have h5 := div_mul_cancel' (a := (v.num : Rat)) (b := (((v.den : Nat) : Int) : Rat)) (by exact_mod_cast v.den_nz)
      rw [h4] at h5
      exact h5
    rw [h3]
    have : v.num = (v.num.natAbs : Int) := by omega
    rw [this]; rfl
  unfold abZ
  have p := twoZ_pos ((blN v.num.natAbs : Int) - blN v.den)
  generalize twoZ ((blN v.num.natAbs : Int) - blN v.den) = t at *
  rw [twoQ_eq, twoQ_eq] at e
  generalize 2 ^ blN v.num.natAbs = A at *
  generalize 2 ^ blN v.den = C at *
  have a1' : ((A : Nat) : Rat) ≤ 2 * ((v.num.natAbs : Nat) : Rat) := by exact_mod_cast a1
  have a2' : ((v.num.natAbs : Nat) : Rat) < ((A : Nat) : Rat) := by exact_mod_cast a2
  have b1' : ((C : Nat) : Rat) ≤ 2 * ((v.den : Nat) : Rat) := by exact_mod_cast b1
  have b2' : ((v.den : Nat) : Rat) < ((C : Nat) : Rat) := by exact_mod_cast b2
  have d0 : (0 : Rat) < ((v.den : Nat) : Rat) := by exact_mod_cast (Nat.pos_of_ne_zero v.den_nz)
  generalize ((v.num.natAbs : Nat) : Rat) = N at *
  generalize ((v.den : Nat) : Rat) = D at *
  generalize ((A : Nat) : Rat) = A at *
  generalize ((C : Nat) : Rat) = C at *
  constructor
  · -- v D = N < A = t C <= 2 t D
    have h4 : t * C ≤ t * (2 * D) := Rat.mul_le_mul_of_nonneg_left b1' (Rat.le_of_lt p)
    refine Rat.not_le.1 fun k => ?_
    have h5 : 2 * t * D ≤ v * D := Rat.mul_le_mul_of_nonneg_right k (Rat.le_of_lt d0)
    grind
  · -- t C = A <= 2 N = 2 v D < 2 v C
    have h4 : v * D < v * C := Rat.mul_lt_mul_of_pos_left b2' h
    refine Rat.not_le.1 fun k => ?_
    have c0 : 0 ≤ C := by grind
    have h5 : 2 * v * C ≤ t * C := Rat.mul_le_mul_of_nonneg_right k c0
    grind
def mxS (l : List Rat) : Rat := l.foldl (fun m x => if m < x * x then x * x else m) 0
theorem mxS_snoc (l : List Rat) (x : Rat) : mxS (l ++ [x]) = if mxS l < x * x then x * x else mxS l := by
  unfold mxS; rw [List.foldl_append]; rfl
theorem mxS_aux : ∀ (l : List Rat) (m : Rat), 0 ≤ m → (∀ x ∈ l, x * x ≤ l.foldl (fun m x => if m < x * x then x * x else m) m) ∧ m ≤ l.foldl (fun m x => if m < x * x then x * x else m) m ∧ (l.foldl (fun m x => if m < x * x then x * x else m) m = m ∨ ∃ x ∈ l, l.foldl (fun m x => if m < x * x then x * x else m) m = x * x)
  | [], m, _ => ⟨fun x h => (nomatch h), Rat.le_refl, .inl rfl⟩
  | a :: l, m, hm => by
    rw [List.foldl_cons]
    have h0 : 0 ≤ (if m < a * a then a * a else m) := by split; exact sq_nonneg' a; exact hm
    obtain ⟨h1, h2, h3⟩ := mxS_aux l (if m < a * a then a * a else m) h0
    have h4 : m ≤ (if m < a * a then a * a else m) ∧ a * a ≤ (if m < a * a then a * a else m) := by split <;> grind
    refine ⟨fun x hx => ?_, Rat.le_trans h4.1 h2, ?_⟩
    · rcases List.mem_cons.1 hx with rfl | hx
      · exact Rat.le_trans h4.2 h2
      · exact h1 x hx
    · rcases h3 with h3 | ⟨x, hx, h3⟩
      · rw [h3]
        split
        · exact .inr ⟨a, List.mem_cons_self, rfl⟩
        · exact .inl rfl
      · exact .inr ⟨x, List.mem_cons_of_mem _ hx, h3⟩
theorem mxS_ge {l : List Rat} : ∀ x ∈ l, x * x ≤ mxS l := (mxS_aux l 0 Rat.le_refl).1
theorem mxS_is {l : List Rat} : mxS l = 0 ∨ ∃ x ∈ l, mxS l = x * x := (mxS_aux l 0 Rat.le_refl).2.2
theorem mxS_ok {l : List Rat} {k : Nat} (hk : 1 < k) (h : ∀ x ∈ l, okQ k x) : okQ (k + k) (mxS l) := by
  rcases mxS_is (l := l) with e | ⟨x, hx, e⟩
  · rw [e]; exact okQ_zero (by omega)
  · rw [e]; exact (h x hx).mul (h x hx)
theorem mxS_pos {l : List Rat} {b : Rat} (hb : 0 ≤ b) (h : b < shrQ l) : 0 < mxS l := by
  refine Rat.not_le.1 fun k => ?_
  have hz : ∀ x ∈ l, x = 0 := fun x hx => by
    have h1 := mxS_ge x hx
    have h2 := sq_nonneg' x
    have h3 : x * x = 0 := by grind
    rcases Rat.mul_eq_zero.1 h3 with e | e <;> exact e
  have : nzc l = 0 := by
    unfold nzc
    rw [List.length_eq_zero_iff, List.filter_eq_nil_iff]
    intro x hx
    simp [hz x hx]
  unfold shrQ at h
  rw [this] at h
  have e : ((0 : Nat) : Int) = 0 := rfl
  rw [e, Rat.div_def] at h
  have : ((0 : Int) : Rat) = 0 := rfl
  rw [this, Rat.zero_mul] at h
  grind
def Gd (x : Rat) : Prop := ∃ z : Int, -4000000 ≤ z ∧ z ≤ 4000000 ∧ x = Rat.divInt z 20160
theorem Gd.ok {x : Rat} (h : Gd x) : okQ 2 x := by
  obtain ⟨z, h1, h2, rfl⟩ := h
  refine okQ_divInt (by decide) ?_ ?_
  · rw [Nat.lt_succ_iff]
    exact length_limbs_le (show z.natAbs < B ^ 1 by rw [Nat.pow_one, B_val]; omega)
  · rw [Nat.lt_succ_iff]
    exact length_limbs_le (show (20160 : Int).natAbs < B ^ 1 by decide)
theorem Gd.eq {x : Rat} {z : Int} (h : x = Rat.divInt z 20160) : x * 20160 = (z : Rat) := by
  rw [h, Rat.divInt_eq_div]
  exact div_mul_cancel' (by decide)
theorem Gd.up {x : Rat} (h : Gd x) : x * x ≤ 40000 := by
  obtain ⟨z, h1, h2, e⟩ := h
  have e1 := Gd.eq e
  have h3 : (z : Rat) ≤ ((4000000 : Int) : Rat) := Rat.intCast_le_intCast.2 h2
  have h4 : ((-4000000 : Int) : Rat) ≤ (z : Rat) := Rat.intCast_le_intCast.2 h1
  have h5 : x ≤ 200 := by
    have : ((4000000 : Int) : Rat) = 4000000 := rfl
    grind
  have h6 : -200 ≤ x := by
    have : ((-4000000 : Int) : Rat) = -4000000 := rfl
    grind
  have h7 : 0 ≤ (200 - x) * (200 + x) := Rat.mul_nonneg (by grind) (by grind)
  grind
theorem Gd.low {x : Rat} (h : Gd x) (h0 : x ≠ 0) : 1 ≤ x * x * 406425600 := by
  obtain ⟨z, h1, h2, e⟩ := h
  have e1 := Gd.eq e
  have hz : z ≠ 0 := fun k => h0 (by rw [e, k]; decide +kernel)
  have h3 : 1 ≤ z * z := by
    rcases Int.lt_or_gt_of_ne hz with g | g
    · have := Int.mul_le_mul (show 1 ≤ -z by omega) (show 1 ≤ -z by omega) (by decide) (by omega)
      rw [Int.neg_mul_neg] at this
      omega
    · have := Int.mul_le_mul (show 1 ≤ z by omega) (show 1 ≤ z by omega) (by decide) (by omega)
      omega
  have h4 : ((1 : Int) : Rat) ≤ ((z * z : Int) : Rat) := Rat.intCast_le_intCast.2 h3
  rw [Rat.intCast_mul, ← e1] at h4
  have : ((1 : Int) : Rat) = 1 := rfl
  grind
structure Fam (r : List Rat) : Prop where
  ne : r ≠ []
  len : r.length ≤ 6
  gd : ∀ x ∈ r, Gd x
def pS (r : List Rat) (c : Rat) : Rat := twoZ (abZ (mxS r / c))
structure Scl (c : Rat) : Prop where
  pos : 0 < c
  up : c ≤ 5
  ok : okQ 2 c
theorem Fam.ok {r : List Rat} (h : Fam r) : ∀ x ∈ r, okQ 2 x := fun x hx => (h.gd x hx).ok
theorem pS_ok {r : List Rat} {c : Rat} (h : Fam r) (hc : Scl c) : (abZ (mxS r / c)).natAbs ≤ 250 := by
  have h1 : okQ 6 (mxS r / c) := ((mxS_ok (by decide) h.ok).div hc.ok (by have := hc.pos; grind)).mono (by decide)
  have := abZ_le h1
  omega
theorem dbS_eq (p : Rat) : ∀ n, dbS p n = p * twoQ n
  | 0 => by show p = p * twoQ 0; rw [show twoQ 0 = 1 by decide +kernel, Rat.mul_one]
  | n + 1 => by
    show dbS p n + dbS p n = _
    rw [dbS_eq p n, twoQ_add, show twoQ 1 = 2 by decide +kernel]
    grind
theorem sc_up {r : List Rat} {c : Rat} (h : Fam r) (hc : Scl c) (hs : 1 / 2 < shrQ r) : ¬ 1 / 2 < mnS r (c * dbS (pS r c) 4) := by
  have mp := mxS_pos (show (0 : Rat) ≤ 1 / 2 by decide +kernel) hs
  have c0 := hc.pos
  have vp : 0 < mxS r / c := by rw [Rat.div_def]; exact Rat.mul_pos mp (Rat.inv_pos.2 c0)
  obtain ⟨n1, n2⟩ := abZ_near vp
  have pp := twoZ_pos (abZ (mxS r / c))
  rw [dbS_eq, show twoQ 4 = 16 by decide +kernel]
  unfold pS
  have ev : mxS r / c * c = mxS r := div_mul_cancel' (by grind)
  generalize twoZ (abZ (mxS r / c)) = p at *
  have s0 : 0 < c * (p * 16) := Rat.mul_pos c0 (by grind)
  have up := mnS_up h.ne s0 (fun x hx => mxS_ge x hx)
  have q1 : mxS r / (c * (p * 16)) ≤ 1 / 8 := by
    have : mxS r ≤ 1 / 8 * (c * (p * 16)) := by
      have h5 : mxS r / c * c ≤ 2 * p * c := Rat.mul_le_mul_of_nonneg_right (Rat.le_of_lt n1) (Rat.le_of_lt c0)
      grind
    have h6 := divLe this s0
    have h7 : 1 / 8 * (c * (p * 16)) / (c * (p * 16)) = 1 / 8 := by
      rw [Rat.div_def, Rat.mul_assoc, Rat.mul_inv_cancel _ (by grind), Rat.mul_one]
    rw [h7] at h6
    exact h6
  intro k
  grind
theorem sc_low {r : List Rat} {c : Rat} (h : Fam r) (hc : Scl c) (hs : 1 / 2 < shrQ r) : 1 / 2 < mnS r (c * hvS (pS r c) 60) := by
  have mp := mxS_pos (show (0 : Rat) ≤ 1 / 2 by decide +kernel) hs
  have c0 := hc.pos
  have vp : 0 < mxS r / c := by rw [Rat.div_def]; exact Rat.mul_pos mp (Rat.inv_pos.2 c0)
  obtain ⟨n1, n2⟩ := abZ_near vp
  have pp := twoZ_pos (abZ (mxS r / c))
  have ev : mxS r / c * c = mxS r := div_mul_cancel' (by grind)
  have e := hvS_two (pS r c) 60
  have hp := hvS_pos (p := pS r c) pp 60
  have e2 : twoQ 60 = 1152921504606846976 := by decide +kernel
  rw [e2] at e
  have mu : mxS r ≤ 40000 := by
    rcases mxS_is (l := r) with q | ⟨x, hx, q⟩
    · rw [q]; decide
    · rw [q]; exact (h.gd x hx).up
  have hp2 : pS r c < 2 * (mxS r / c) := n2
  generalize hvS (pS r c) 60 = w at *
  have s0 : 0 < c * w := Rat.mul_pos c0 hp
  have h1 : c * w * 1152921504606846976 ≤ 80000 := by
    have h5 : pS r c * c ≤ 2 * (mxS r / c) * c := Rat.mul_le_mul_of_nonneg_right (Rat.le_of_lt hp2) (Rat.le_of_lt c0)
    rw [Rat.mul_assoc, ev] at h5
    have h6 : c * w * 1152921504606846976 = pS r c * c := by rw [Rat.mul_assoc, e, Rat.mul_comm]
    rw [h6]
    grind
  rw [mnS_full h.ne s0 (fun x hx h0 => by have := (h.gd x hx).low h0; grind)]
  exact hs
end Go.Vw

/-
  Scales of residuals, by the program: powers of two, the search of the scale. Conditions: as each says.
-/
set_option maxHeartbeats 8000000
namespace Go.Proofs.YtcbadnbonoajjaaGreat
open Go.Vw
attribute [local irreducible] awp awpL awpR

theorem mscale_length (n : Nat) (hn : (limbs n).length ≤ 1000000) : Ret Tryz.prog 96 [u32s (limbs n)] (· = .int .i64 (blN n)) := by
  by_cases h0 : n = 0
  · subst h0
    rw [limbs_zero]
    refine ret_of_awp tab Tryz.func96 rfl rfl (Nat.le_of_ble_eq_true rfl) (fun w0 F0 => ?_)
    repeat' (first | refine wG ?_ | refine wS ?_ ?_ <;> intro _ | refine finG ?_)
    rfl
  · obtain ⟨h1, h2, h3, h4⟩ := bl_len h0
    unfold blN
    rw [if_neg h0]
    have lz := bits_LeadingZeros32 _ h3 h2
    have hl : 31 - ((limbs n).getD ((limbs n).length - 1) 0).log2 ≤ 31 := by omega
    generalize 31 - ((limbs n).getD ((limbs n).length - 1) 0).log2 = k at *
    have e1 : (((limbs n).length : Int) - 1).toNat = (limbs n).length - 1 := by omega
    rw [← e1] at lz h3 h2
    generalize limbs n = L at *
    generalize n.log2 + 1 = m at *
    refine ret_of_awp tab Tryz.func96 rfl rfl (Nat.le_of_ble_eq_true rfl) (fun w0 F0 => ?_)
    repeat' (first | refine wG ?_ | refine wC lz ?_ | refine wS ?_ ?_ <;> intro _ | refine finG ?_)
    all_goals (refine congrArg (D.int .i64) ?_; omega)
theorem mscale_power (k : Int) (hk : k.natAbs ≤ 250) : Ret Tryz.prog 59 [.int .i64 k] (· = qD (twoZ k)) := by
  obtain ⟨n, hn⟩ : ∃ n, k.natAbs = n := ⟨_, rfl⟩
  have o1 := mscale_one
  have q1 := mscale_quotient 1 (twoQ n) (okQ_one.mono (by decide)) ((okQ_twoB (by omega)).mono (by decide)) (twoQ_ne n)
  have e2 : qD (twoQ n) = rD (false, limbs (2 ^ n), []) := congrArg rD (rq_two n)
  rw [e2] at q1
  have lt := limbs_two n
  unfold twoZ
  rw [hn]
  have hs : (2 : Nat) ^ (n % 32) < 4294967296 := Nat.lt_of_lt_of_le (Nat.pow_lt_pow_right (by decide) (Nat.mod_lt n (show 0 < 32 by decide))) (by decide)
  have em : (n : Int).tdiv 32 = ((n / 32 : Nat) : Int) := rfl
  have er : (n : Int).tmod 32 = ((n % 32 : Nat) : Int) := rfl
  have hn2 : n ≤ 250 := by omega
  have hd : n / 32 ≤ 7 := by omega
  have hr : n % 32 < 32 := Nat.mod_lt n (by decide)
  have hm : max k (-k) = (n : Int) := by omega
  have key : cut 0 ((n : Int) / 32 + 1).toNat ((List.replicate ((n : Int) / 32 + 1).toNat 0).set (n / 32) ((1 : Int) * 2 ^ ((n : Int) % 32).toNat % 4294967296).toNat) = limbs (2 ^ n) := by
    have e3 : ((n : Int) / 32 + 1).toNat = n / 32 + 1 := by omega
    have e4 : ((n : Int) % 32).toNat = n % 32 := by omega
    have e5 : ((1 : Int) * 2 ^ (n % 32) % 4294967296).toNat = 2 ^ (n % 32) := by
      have : (2 : Int) ^ (n % 32) = ((2 ^ (n % 32) : Nat) : Int) := by exact_mod_cast rfl
      rw [this]
      generalize (2 : Nat) ^ (n % 32) = t at *
      omega
    rw [e3, e4, e5, cut_zero, List.take_of_length_le (by rw [List.length_set, List.length_replicate]; exact Nat.le_refl _)]
    exact lt
  by_cases h0 : k < 0
  · rw [if_pos h0]
    generalize 1 / twoQ n = q at *
    refine ret_of_awp tab Tryz.func59 rfl rfl (Nat.le_of_ble_eq_true rfl) (fun w0 F0 => ?_)
    repeat' (first | refine stopA 3 tt ?_ | refine wG ?_ | refine wC o1 ?_ | refine wC q1 ?_ | refine rg 6 2 ?_ | refine wS ?_ ?_ <;> intro _ | refine finG ?_)
    refine stopOut ?_
    rw [hm]
    repeat' (first | refine stopA 4 tt ?_ | refine wG ?_ | refine wC o1 ?_ | refine wC q1 ?_ | refine rg 6 2 ?_ | refine wS ?_ ?_ <;> intro _ | refine finG ?_)
    refine stopOut ?_
    refine awp_frz 13 rfl ?_
    refine awp_cast 4 (u32s (limbs (2 ^ n))) rfl (by
      show LeD (.sl 1 (eN .u32) 0 (cut 0 ((n : Int) / 32 + 1).toNat ((List.replicate ((n : Int) / 32 + 1).toNat 0).set (n / 32) ((1 : Int) * 2 ^ ((n : Int) % 32).toNat % 4294967296).toNat))) (u32s (limbs (2 ^ n)))
      rw [key]; exact LeD.refl _) ?_
    generalize limbs (2 ^ n) = L at *
    clear hm key lt
    repeat' (first | refine wG ?_ | refine wC o1 ?_ | refine wC q1 ?_ | refine rg 6 2 ?_ | refine wS ?_ ?_ <;> intro _ | refine finG ?_)
    rfl
  · rw [if_neg h0, e2]
    refine ret_of_awp tab Tryz.func59 rfl rfl (Nat.le_of_ble_eq_true rfl) (fun w0 F0 => ?_)
    repeat' (first | refine stopA 3 tt ?_ | refine wG ?_ | refine wC o1 ?_ | refine wC q1 ?_ | refine rg 6 2 ?_ | refine wS ?_ ?_ <;> intro _ | refine finG ?_)
    refine stopOut ?_
    rw [hm]
    repeat' (first | refine stopA 4 tt ?_ | refine wG ?_ | refine wC o1 ?_ | refine wC q1 ?_ | refine rg 6 2 ?_ | refine wS ?_ ?_ <;> intro _ | refine finG ?_)
    refine stopOut ?_
    refine awp_frz 13 rfl ?_
    refine awp_cast 4 (u32s (limbs (2 ^ n))) rfl (by
      show LeD (.sl 1 (eN .u32) 0 (cut 0 ((n : Int) / 32 + 1).toNat ((List.replicate ((n : Int) / 32 + 1).toNat 0).set (n / 32) ((1 : Int) * 2 ^ ((n : Int) % 32).toNat % 4294967296).toNat))) (u32s (limbs (2 ^ n)))
      rw [key]; exact LeD.refl _) ?_
    generalize limbs (2 ^ n) = L at *
    clear hm key lt e2
    repeat' (first | refine wG ?_ | refine wC o1 ?_ | refine wC q1 ?_ | refine rg 6 2 ?_ | refine wS ?_ ?_ <;> intro _ | (show retPost _ _ _ _ _; first | refine finF true rfl rfl sc ?_ | refine finF false rfl rfl sc ?_ | refine finC false rfl rfl sc sc ?_ | refine finN rfl rfl sc ?_ | refine finL true rfl rfl sc rfl (LeR.cons rfl leL LeR.nil) ?_ | refine finA true rfl rfl sc ?_ | refine finA false rfl rfl sc ?_ | refine finE true rfl rfl sc ?_ | refine finE false rfl rfl sc ?_))
    exact leL
end Go.Proofs.YtcbadnbonoajjaaGreat

/-
  Scales of residuals, by the program: the search of the scale. Conditions: as each says.
-/
set_option maxHeartbeats 8000000
namespace Go.Proofs.YtcbadnbonoajjaaGreat
open Go.Vw
attribute [local irreducible] awp awpL awpR

theorem blN_le {n k : Nat} (hn : (limbs n).length < k) : blN n ≤ 32 * k := by
  unfold blN
  split
  · omega
  · next h0 =>
    have h1 := lt_pow_length n
    have h2 : n < 2 ^ (32 * (limbs n).length) := by rw [Nat.pow_mul]; exact h1
    have h3 := (Nat.log2_lt h0).2 h2
    omega
theorem mscale_lenD (v : Rat) (hv : okQ 1000 v) : Ret Tryz.prog 96 [u32s (dL v.den)] (· = .int .i64 (if v.den = 1 then 0 else (blN v.den : Int))) := by
  unfold dL
  by_cases h : v.den = 1
  · rw [if_pos h, if_pos h]
    have := mscale_length 0 (by rw [limbs_zero]; decide)
    rw [limbs_zero] at this
    exact this
  · rw [if_neg h, if_neg h]
    exact mscale_length v.den (Nat.le_trans (Nat.le_of_lt hv.2) (by decide))
theorem mscale_about (r : List Rat) (c : Rat) (h : Fam r) (hc : Scl c) : Ret Tryz.prog 60 [qsD r, qD c] (· = .int .i64 (abZ (mxS r / c))) := by
  have og : ∀ i, okQ 2 (r.getD i 0) := fun i => ok_cf0 h.ok (by decide) i
  have hl := h.len
  have om : ∀ i, okQ 4 (mxS (r.take i)) := fun i => mxS_ok (by decide) fun x hx => h.ok x (List.mem_of_mem_take hx)
  obtain ⟨M, hM⟩ : ∃ M : Nat → Rat, ∀ i, M i = mxS (r.take i) := ⟨_, fun _ => rfl⟩
  have m0 : M 0 = 0 := by rw [hM]; rfl
  have mS : ∀ i, i < r.length → M (i + 1) = if M i < r.getD i 0 * r.getD i 0 then r.getD i 0 * r.getD i 0 else M i := fun i hi => by
    rw [hM, hM, List.take_add_one, List.getElem?_eq_getElem hi, List.getD_eq_getElem?_getD, List.getElem?_eq_getElem hi]
    exact mxS_snoc _ _
  have oM : ∀ i, okQ 4 (M i) := fun i => by rw [hM]; exact om i
  have mE : M r.length = mxS r := by rw [hM, List.take_of_length_le (Nat.le_refl _)]
  have c0 : c ≠ 0 := by have := hc.pos; grind
  have q1 := mscale_quotient (M r.length) c ((oM _).mono (by decide)) (hc.ok.mono (by decide)) c0
  have ov : okQ 6 (M r.length / c) := (oM _).div hc.ok c0
  rw [← mE]
  generalize M r.length / c = v at *
  have l1 := mscale_length v.num.natAbs (Nat.le_trans (Nat.le_of_lt ov.1) (by decide))
  have l2 := mscale_lenD v (ov.mono (by decide))
  have b1 := blN_le ov.1
  have b2 := blN_le ov.2
  have e2 : max (1 : Int) (if v.den = 1 then 0 else (blN v.den : Int)) = blN v.den := by
    by_cases h1 : v.den = 1
    · rw [if_pos h1, h1]; decide +kernel
    · rw [if_neg h1]
      have := v.den_nz
      unfold blN
      rw [if_neg this]
      omega
  have b3 : (if v.den = 1 then 0 else (blN v.den : Int)) ≤ 1000 ∧ 0 ≤ (if v.den = 1 then 0 else (blN v.den : Int)) := by split <;> omega
  unfold abZ
  rw [← e2]
  generalize (if v.den = 1 then 0 else (blN v.den : Int)) = dz at *
  generalize blN v.num.natAbs = nz at *
  clear mE e2
  clear h hc hM om
  refine ret_of_awp tab Tryz.func60 rfl rfl (Nat.le_of_ble_eq_true rfl) (fun w0 F0 => ?_)
  repeat' (first | refine wG ?_ | refine rg 10 6 ?_ | refine wS ?_ ?_ <;> intro _ | refine finG ?_)
  refine awp_rebox 5 (rC (rq 0)) rfl rfl (by rw [rq_zero]; exact leL) ?_
  refine awp_loop1 (fun (i : Nat) => ([(0, .d (qsD r)), (3, .ptr 3 0), (4, .d (.int .i64 0)), (5, .ptr 5 0), (10, .d (qsD r)), (11, .d (.int .i64 r.length)), (12, .d (.int .i64 i))], [(3, .box 30 ((rC (rq c)).map V.d)), (5, .box 30 ((rC (rq (M i))).map V.d))])) (fun i => i ≤ r.length) (fun i => r.length - i) 0 (by omega) ⟨rfl, rfl, rfl, rfl, rfl, rfl, rfl, rfl⟩ ⟨rfl, by rw [m0]; rfl, trivial⟩ (fun i hi => ?_)
  by_cases h3 : i < r.length
  · have st := mS i h3
    have o1 : okQ 4 (r.getD i 0 * r.getD i 0) := (og i).mul (og i)
    have m1 := rational_MulQ (r.getD i 0) (r.getD i 0) ((og i).mono (by decide)) ((og i).mono (by decide))
    have cm := rational_CompareQ (r.getD i 0 * r.getD i 0) (M i) (o1.mono (by decide)) ((oM i).mono (by decide))
    have cp := cmpQ_pos (r.getD i 0 * r.getD i 0) (M i)
    clear mS oM og m0 q1 l1 l2 o1
    generalize r.getD i 0 * r.getD i 0 = y1 at *
    generalize cmpQ y1 (M i) = k at *
    by_cases hs : M i < y1
    · rw [if_pos hs] at st
      have hk := cp.2 hs
      clear cp hs
      repeat' (first | refine wG ?_ | refine wC m1 ?_ | refine wC cm ?_ | refine rg 10 6 ?_ | refine wS ?_ ?_ <;> intro _ | refine finG ?_)
      exact ⟨i + 1, by omega, by omega, ⟨rfl, rfl, rfl, rfl, rfl, rfl, iv (by omega), rfl⟩, rfl, by rw [st]; rfl, trivial⟩
    · rw [if_neg hs] at st
      have hk : ¬ 0 < k := fun e => hs (cp.1 e)
      clear cp hs
      repeat' (first | refine wG ?_ | refine wC m1 ?_ | refine wC cm ?_ | refine rg 10 6 ?_ | refine wS ?_ ?_ <;> intro _ | refine finG ?_)
      exact ⟨i + 1, by omega, by omega, ⟨rfl, rfl, rfl, rfl, rfl, rfl, iv (by omega), rfl⟩, rfl, by rw [st]; rfl, trivial⟩
  · have e : i = r.length := by omega
    subst e
    clear mS oM og m0
    repeat' (first | refine wG ?_ | refine wC q1 ?_ | refine wC l1 ?_ | refine wC l2 ?_ | refine rg 10 6 ?_ | refine wS ?_ ?_ <;> intro _ | refine finG ?_)
    all_goals (refine congrArg (D.int .i64) ?_; omega)
end Go.Proofs.YtcbadnbonoajjaaGreat

/-
  Scales of residuals, by the program: an interval of the squared scale. Conditions: residuals as small as Fam says, b = 1/2, at most 8 bits.
-/
set_option maxHeartbeats 8000000
namespace Go.Proofs.YtcbadnbonoajjaaGreat
open Go.Vw
attribute [local irreducible] awp awpL awpR

abbrev scB (r : List Rat) (c b : Rat) : List (Nat × Blk) := [(600, .box 23 [.d (qsD r)]), (601, .box 30 ((rC (rq c)).map V.d)), (602, .box 30 ((rC (rq b)).map V.d))]
theorem mscale_above (r : List Rat) (c b s : Rat) (h : Fam r) (hc : Scl c) (ob : okQ 10 b) (os : okQ 100000 s) (hs : 0 < s) : RetB Tryz.prog 57 [.d (qD s), .ptr 600 0, .ptr 601 0, .ptr 602 0] (lookB (scB r c b)) (.d (.bool (decide (b < mnS r (c * s))))) (lookB (scB r c b)) := by
  have p : 0 < c * s := Rat.mul_pos hc.pos hs
  obtain ⟨m1, om⟩ := mscale_mean r c s h.ne h.len h.ok hc.ok os (by grind)
  have cm := rational_CompareQ (mnS r (c * s)) b (om.mono (by decide)) (ob.mono (by decide))
  rw [show decide (b < mnS r (c * s)) = decide (0 < cmpQ (mnS r (c * s)) b) from decide_eq_decide.2 (cmpQ_pos _ _).symm]
  generalize cmpQ (mnS r (c * s)) b = k at *
  generalize mnS r (c * s) = m at *
  clear om p h hc ob os hs
  refine retB_of_awp tab [600, 601, 602] Tryz.func57 rfl rfl rfl (Nat.le_of_ble_eq_true rfl) rfl ⟨Nat.le_refl _, Nat.le_refl _, Nat.le_refl _, trivial⟩ (fun w0 F0 A io0 => ?_)
  repeat' (first | refine wG ?_ | refine wC m1 ?_ | refine wC cm ?_ | refine rg 1 5 ?_ | refine wS ?_ ?_ <;> intro _ | refine wB ?_ ?_)
  all_goals first | exact leVT | exact ⟨rfl, rfl, rfl, trivial⟩
theorem mscale_Scale0 (r : List Rat) (c b : R3) (bits : Int) (h0 : r ≠ []) (hl : r.length ≤ 1000) (ho : ∀ x ∈ r, okQ 1000000 x) (hc : RatOk c 10000000) (hb : RatOk b 10000000) (b1 : 0 ≤ bits) (b2 : bits ≤ 128) (c0 : 0 < rv c) (p0 : 0 < rv b) (p1 : rv b < 1) (hs : ¬ rv b < shrQ r) : Ret Tryz.prog 25 [qsD r, rD c, rD b, .int .i64 bits] (· = .tup [iD r0 r0, .int .i64 0]) := by
  have ck := mscale_Check (r.map rq) c b bits (by rw [List.length_map]; omega) hc hb (by omega) (by omega)
  have e : scErr (r.map rq).length (rv c) (rv b) bits = 0 := by
    unfold scErr
    have := List.length_pos_iff.2 h0
    rw [List.length_map, if_neg (by omega), if_neg (by omega), if_pos ⟨c0, p0, p1, b1, b2⟩]
  rw [e] at ck
  have ck' : Ret Tryz.prog 55 [qsD r, rD c, rD b, .int .i64 bits] (· = .int .i64 0) := ck.args (LeT.cons (leQRl r) (LeT.refl _))
  have sh := mscale_share r h0 hl (fun x hx => (ho x hx).mono (by decide))
  have osh : okQ 100 (shrQ r) := by
    have hn : nzc r ≤ r.length := List.length_filter_le _ _
    have hp := List.length_pos_iff.2 h0
    unfold shrQ
    exact ((ok_intW (by omega)).div (ok_intW (by omega)) (fun h => by have := Rat.intCast_eq_zero_iff.1 h; omega)).mono (by decide)
  have cm := rational_Compare (rq (shrQ r)) b (ok_rq (osh.mono (by decide))) hb
  rw [rv_rq] at cm
  have hk : cmpQ (shrQ r) (rv b) ≤ 0 := Int.not_lt.1 fun q => hs ((cmpQ_pos _ _).1 q)
  generalize cmpQ (shrQ r) (rv b) = k at *
  generalize shrQ r = z at *
  clear ck e hs ho osh p0 p1 c0
  refine ret_of_awp tab Tryz.func25 rfl rfl (Nat.le_of_ble_eq_true rfl) (fun w0 F0 => ?_)
  repeat' (first | refine wG ?_ | refine wC ck' ?_ | refine wC sh ?_ | refine wC cm ?_ | refine rg 4 3 ?_ | refine rg 12 3 ?_ | refine rg 14 5 ?_ | refine wS ?_ ?_ <;> intro _ | refine finTG ?_)
  exact leT
theorem mscale_Scale (r : List Rat) (c hf : Rat) (n : Nat) (h : Fam r) (hc : Scl c) (hn : n ≤ 8) (ehf : hf = 1 / 2) (hs : hf < shrQ r) : ∃ i : I2, Ret Tryz.prog 25 [qsD r, qD c, qD hf, .int .i64 n] (· = .tup [iQ i, .int .i64 0]) ∧ 0 < i.1 ∧ hf < mnS r (c * i.1) ∧ okI 39000 i := by
  have ob : okQ 10 hf := by rw [ehf]; exact (okQ_one.div okQ_two2 (by decide)).mono (by decide)
  have ck := mscale_Check (r.map rq) (rq c) (rq hf) n (by rw [List.length_map]; have := h.len; omega) (ok_rq (hc.ok.mono (by decide))) (ok_rq (ob.mono (by decide))) (by omega) (by omega)
  rw [rv_rq, rv_rq] at ck
  have e : scErr (r.map rq).length c hf n = 0 := by
    unfold scErr
    have := List.length_pos_iff.2 h.ne
    have := h.len
    rw [List.length_map, if_neg (by omega), if_neg (by omega), if_pos ⟨hc.pos, by rw [ehf]; decide +kernel, by rw [ehf]; decide +kernel, by omega, by omega⟩]
  rw [e] at ck
  have ck' : Ret Tryz.prog 55 [qsD r, qD c, qD hf, .int .i64 n] (· = .int .i64 0) := ck.args (LeT.cons (leQRl r) (LeT.refl _))
  have sh := mscale_share r h.ne (by have := h.len; omega) (fun x hx => (h.ok x hx).mono (by decide))
  have osh : okQ 100 (shrQ r) := by
    have hn : nzc r ≤ r.length := List.length_filter_le _ _
    have hp := List.length_pos_iff.2 h.ne
    have := h.len
    unfold shrQ
    exact ((ok_intW (by omega)).div (ok_intW (by omega)) (fun h => by have := Rat.intCast_eq_zero_iff.1 h; omega)).mono (by decide)
  have cm := rational_CompareQ (shrQ r) hf (osh.mono (by decide)) (ob.mono (by decide))
  have hk : ¬ cmpQ (shrQ r) hf ≤ 0 := fun q => absurd ((cmpQ_pos _ _).2 hs) (by omega)
  have ab := mscale_about r c h hc
  have pa := pS_ok h hc
  have pw := mscale_power (abZ (mxS r / c)) pa
  have op : okQ 12 (pS r c) := okQ_twoZ pa
  have pp : 0 < pS r c := twoZ_pos _
  have up := sc_up h hc (by rw [← ehf]; exact hs)
  have lw := sc_low h hc (by rw [← ehf]; exact hs)
  rw [← ehf] at up lw
  rw [show twoZ (abZ (mxS r / c)) = pS r c from rfl] at pw
  generalize pS r c = p at *
  generalize abZ (mxS r / c) = az at *
  obtain ⟨J, hJ, jn, jy⟩ := leastN (P := fun j => ¬ hf < mnS r (c * dbS p j)) 4 up
  have q0 : 0 < dbS p J := dbS_pos pp J
  have oq : okQ 20 (dbS p J) := (dbS_ok op J).mono (by omega)
  obtain ⟨I, hI, iy, iN⟩ := leastN (P := fun i => hf < mnS r (c * hvS (dbS p J) (i + 1))) (J + 59) (by
    show hf < mnS r (c * hvS (dbS p J) (J + 60))
    rw [hvS_add, hv_db]
    exact lw)
  have oD : ∀ j, j ≤ 4 → okQ 20 (dbS p j) ∧ 0 < dbS p j := fun j hj => ⟨(dbS_ok op j).mono (by omega), dbS_pos pp j⟩
  have oH : ∀ i, i ≤ 64 → okQ 148 (hvS (dbS p J) i) ∧ 0 < hvS (dbS p J) i := fun i hi => ⟨(hvS_ok oq i).mono (by omega), hvS_pos q0 i⟩
  have hlo : hvS (dbS p J) (I + 1) + hvS (dbS p J) (I + 1) = hvS (dbS p J) I := by
    show hvS (dbS p J) I / 2 + hvS (dbS p J) I / 2 = _
    grind
  have lop := (oH (I + 1) (by omega)).2
  have nar := biS_narrow (hi := hvS (dbS p J) I) lop (by rw [hlo]; exact Rat.le_refl) (by grind) iy n
  obtain ⟨K, hK, ky, kn⟩ := leastN (P := fun k => ¬ 1 / twoQ n * (biS r c hf (hvS (dbS p J) (I + 1)) (hvS (dbS p J) I) k).2 < (biS r c hf (hvS (dbS p J) (I + 1)) (hvS (dbS p J) I) k).2 - (biS r c hf (hvS (dbS p J) (I + 1)) (hvS (dbS p J) I) k).1) n (Rat.not_lt.2 nar)
  have oB : ∀ k, k ≤ 8 → okI 39000 (biS r c hf (hvS (dbS p J) (I + 1)) (hvS (dbS p J) I) k) := fun k hk => by
    have := biS_ok (r := r) (c := c) (b := hf) (oH (I + 1) (by omega)).1 (oH I (by omega)).1 hk
    exact ⟨this.1.mono (by decide), this.2.mono (by decide)⟩
  have iB : ∀ k, 0 < (biS r c hf (hvS (dbS p J) (I + 1)) (hvS (dbS p J) I) k).1 ∧ hf < mnS r (c * (biS r c hf (hvS (dbS p J) (I + 1)) (hvS (dbS p J) I) k).1) ∧ (biS r c hf (hvS (dbS p J) (I + 1)) (hvS (dbS p J) I) k).1 ≤ (biS r c hf (hvS (dbS p J) (I + 1)) (hvS (dbS p J) I) k).2 := fun k => by
    obtain ⟨a1, a2, a3, a4⟩ := biS_inv (r := r) (c := c) (b := hf) (hi := hvS (dbS p J) I) lop (by grind) iy k
    exact ⟨by grind, a3, a2⟩
  have sm : Ret Tryz.prog 59 [.int .i64 (-(n : Int))] (· = qD (1 / twoQ n)) := by
    have q := mscale_power (-(n : Int)) (by omega)
    have e : twoZ (-(n : Int)) = 1 / twoQ n := by
      unfold twoZ
      rw [Int.natAbs_neg, Int.natAbs_natCast]
      split
      · rfl
      · have : n = 0 := by omega
        subst this; decide +kernel
    rw [e] at q
    exact q
  have osm : okQ 12 (1 / twoQ n) := (okQ_one.div (okQ_twoB (by omega)) (twoQ_ne n)).mono (by decide)
  refine ⟨biS r c hf (hvS (dbS p J) (I + 1)) (hvS (dbS p J) I) K, ?_, (iB K).1, (iB K).2.1, (oB K (by omega)).1.mono (by decide), (oB K (by omega)).2.mono (by decide)⟩
  have av : ∀ s, okQ 100000 s → 0 < s → RetB Tryz.prog 57 [.d (qD s), .ptr 4 0, .ptr 5 0, .ptr 6 0] (lookB [(4, .box 23 [.d (qsD r)]), (5, .box 30 ((rC (rq c)).map V.d)), (6, .box 30 ((rC (rq hf)).map V.d))]) (.d (.bool (decide (hf < mnS r (c * s))))) (lookB [(4, .box 23 [.d (qsD r)]), (5, .box 30 ((rC (rq c)).map V.d)), (6, .box 30 ((rC (rq hf)).map V.d))]) := fun s os hs => (mscale_above r c hf s h hc ob os hs).ren [(600, 4), (601, 5), (602, 6)]
  obtain ⟨bi, hbi⟩ : ∃ bi : Nat → I2, ∀ k, bi k = biS r c hf (hvS (dbS p J) (I + 1)) (hvS (dbS p J) I) k := ⟨_, fun _ => rfl⟩
  have b0 : bi 0 = (hvS (dbS p J) (I + 1), hvS (dbS p J) I) := by rw [hbi]; rfl
  have bS : ∀ k, bi (k + 1) = if hf < mnS r (c * (((bi k).1 + (bi k).2) / 2)) then (((bi k).1 + (bi k).2) / 2, (bi k).2) else ((bi k).1, ((bi k).1 + (bi k).2) / 2) := fun k => by rw [hbi, hbi]; rfl
  have hz : ∀ i, hvS (dbS p J) (i + 1) = hvS (dbS p J) i / 2 := fun _ => rfl
  obtain ⟨hv, hhv⟩ : ∃ hv : Nat → Rat, ∀ i, hv i = hvS (dbS p J) i := ⟨_, fun _ => rfl⟩
  have hv0 : hv 0 = dbS p J := by rw [hhv]; rfl
  simp only [← hbi] at ky kn oB iB ⊢
  simp only [← hhv] at iy iN oH b0 hz
  obtain ⟨db, hdb⟩ : ∃ db : Nat → Rat, ∀ j, db j = dbS p j := ⟨_, fun _ => rfl⟩
  have d0 : db 0 = p := by rw [hdb]; rfl
  have dS : ∀ j, db (j + 1) = db j + db j := fun j => by rw [hdb, hdb]; rfl
  simp only [← hdb] at jn jy oD hv0 q0
  have am : ∀ s, ∃ m, mnS r (c * s) = m := fun s => ⟨_, rfl⟩
  generalize 1 / twoQ n = sml at *
  generalize cmpQ (shrQ r) hf = kz at *
  generalize shrQ r = shr at *
  obtain ⟨mv, hmv⟩ : ∃ mv : Rat → Rat, ∀ s, mv s = mnS r (c * s) := ⟨_, fun _ => rfl⟩
  simp only [← hmv] at av jn jy iy iN bS iB
  clear hbi hhv hdb nar lop hlo hmv lw up oq am e ehf
  refine ret_of_awp tab Tryz.func25 rfl rfl (Nat.le_of_ble_eq_true rfl) (fun w0 F0 => ?_)
  repeat' (first | refine wG ?_ | refine wC ck' ?_ | refine wC sh ?_ | refine wC cm ?_ | refine wC ab ?_ | refine wC pw ?_ | refine rg 4 3 ?_ | refine rg 12 3 ?_ | refine rg 14 5 ?_ | refine wS ?_ ?_ <;> intro _ | refine finG ?_)
  refine awp_loop1 (fun (j : Nat) => ([(3, .d (.int .i64 n)), (4, .ptr 4 0), (5, .ptr 5 0), (6, .ptr 6 0), (8, .ptr 8 0), (9, .d (.int .i64 0)), (11, .fn 57 [.ptr 4 0, .ptr 5 0, .ptr 6 0]), (12, .ptr 12 0)], [(4, .box 23 [.d (qsD r)]), (5, .box 30 ((rC (rq c)).map V.d)), (6, .box 30 ((rC (rq hf)).map V.d)), (8, .box 34 ([.bool false, .nils, .nils, .bool false, .nils, .nils].map V.d)), (12, .box 30 ((rC (rq (db j))).map V.d))])) (fun j => j ≤ J) (fun j => J - j) 0 (by omega) ⟨rfl, rfl, rfl, rfl, rfl, rfl, rfl, rfl, rfl⟩ ⟨rfl, rfl, rfl, rfl, by rw [d0]; rfl, trivial⟩ (fun j hj => ?_)
  have a1 := av (db j) ((oD j (by omega)).1.mono (by decide)) (oD j (by omega)).2
  by_cases h3 : j < J
  · rw [decide_eq_true (Decidable.not_not.1 (jy j h3))] at a1
    have dd := mscale_double (db j) ((oD j (by omega)).1.mono (by decide))
    rw [← dS j] at dd
    clear jn jy iy iN oH oD bS oB ky kn hs av
    repeat' (first | refine wG ?_ | refine wD [] a1 ?_ | refine wC dd ?_ | refine rg 4 3 ?_ | refine rg 12 3 ?_ | refine rg 14 5 ?_ | refine wS ?_ ?_ <;> intro _ | refine finG ?_)
    exact ⟨j + 1, by omega, by omega, ⟨rfl, rfl, rfl, rfl, rfl, rfl, rfl, rfl, rfl⟩, rfl, rfl, rfl, rfl, rfl, trivial⟩
  · have e : j = J := by omega
    subst e
    rw [decide_eq_false jn] at a1
    have hh := mscale_halve (db j) ((oD j (by omega)).1.mono (by decide))
    rw [← hv0, ← hz 0] at hh
    rw [← hv0] at a1
    rw [← hv0]
    clear jn jy oD
    repeat' (first | refine wG ?_ | refine wD [] a1 ?_ | refine wC hh ?_ | refine rg 4 3 ?_ | refine rg 12 3 ?_ | refine rg 14 5 ?_ | refine wS ?_ ?_ <;> intro _ | refine finG ?_)
    refine awp_loop1 (fun (i : Nat) => ([(3, .d (.int .i64 n)), (4, .ptr 4 0), (5, .ptr 5 0), (6, .ptr 6 0), (8, .ptr 8 0), (9, .d (.int .i64 0)), (11, .fn 57 [.ptr 4 0, .ptr 5 0, .ptr 6 0]), (12, .ptr 12 0), (13, .ptr 13 0)], [(4, .box 23 [.d (qsD r)]), (5, .box 30 ((rC (rq c)).map V.d)), (6, .box 30 ((rC (rq hf)).map V.d)), (8, .box 34 ([.bool false, .nils, .nils, .bool false, .nils, .nils].map V.d)), (12, .box 30 ((rC (rq (hv i))).map V.d)), (13, .box 30 ((rC (rq (hv (i + 1)))).map V.d))])) (fun i => i ≤ I) (fun i => I - i) 0 (by omega) ⟨rfl, rfl, rfl, rfl, rfl, rfl, rfl, rfl, rfl, rfl⟩ ⟨rfl, rfl, rfl, rfl, rfl, rfl, trivial⟩ (fun i hi => ?_)
    have a2 := av (hv (i + 1)) ((oH (i + 1) (by omega)).1.mono (by decide)) (oH (i + 1) (by omega)).2
    by_cases h4 : i < I
    · rw [decide_eq_false (iN i h4)] at a2
      have hh2 := mscale_halve (hv (i + 1)) ((oH (i + 1) (by omega)).1.mono (by decide))
      rw [← hz (i + 1)] at hh2
      clear iy iN oH bS oB ky kn hs av a1 hh
      repeat' (first | refine wG ?_ | refine wD [] a2 ?_ | refine wC hh2 ?_ | refine rg 4 3 ?_ | refine rg 12 3 ?_ | refine rg 14 5 ?_ | refine wS ?_ ?_ <;> intro _ | refine finG ?_)
      exact ⟨i + 1, by omega, by omega, ⟨rfl, rfl, rfl, rfl, rfl, rfl, rfl, rfl, rfl, rfl⟩, rfl, rfl, rfl, rfl, rfl, rfl, trivial⟩
    · have e : i = I := by omega
      subst e
      rw [decide_eq_true iy] at a2
      have e1 : hv i = (bi 0).2 := by rw [b0]
      have e2 : hv (i + 1) = (bi 0).1 := by rw [b0]
      rw [e2] at a2
      rw [e1, e2]
      clear iy iN oH hz b0 hh a1 e1 e2
      repeat' (first | refine wG ?_ | refine wD [] a2 ?_ | refine wC sm ?_ | refine rg 4 3 ?_ | refine rg 12 3 ?_ | refine rg 14 5 ?_ | refine wS ?_ ?_ <;> intro _ | refine finG ?_)
      refine awp_loop1 (fun (k : Nat) => ([(3, .d (.int .i64 n)), (4, .ptr 4 0), (5, .ptr 5 0), (6, .ptr 6 0), (8, .ptr 8 0), (9, .d (.int .i64 0)), (11, .fn 57 [.ptr 4 0, .ptr 5 0, .ptr 6 0]), (12, .ptr 12 0), (13, .ptr 13 0), (14, .ptr 14 0)], [(4, .box 23 [.d (qsD r)]), (5, .box 30 ((rC (rq c)).map V.d)), (6, .box 30 ((rC (rq hf)).map V.d)), (8, .box 34 ([.bool false, .nils, .nils, .bool false, .nils, .nils].map V.d)), (12, .box 30 ((rC (rq (bi k).2)).map V.d)), (13, .box 30 ((rC (rq (bi k).1)).map V.d)), (14, .box 30 ((rC (rq sml)).map V.d))])) (fun k => k ≤ K) (fun k => K - k) 0 (by omega) ⟨rfl, rfl, rfl, rfl, rfl, rfl, rfl, rfl, rfl, rfl, rfl⟩ ⟨rfl, rfl, rfl, rfl, rfl, rfl, rfl, trivial⟩ (fun k hk' => ?_)
      have ok := oB k (by omega)
      have s1 := rational_SubQ (bi k).2 (bi k).1 (ok.2.mono (by decide)) (ok.1.mono (by decide))
      have os1 := ok.2.sub ok.1
      have m1 := rational_MulQ sml (bi k).2 (osm.mono (by decide)) (ok.2.mono (by decide))
      have om1 := osm.mul ok.2
      have c1 := rational_CompareQ ((bi k).2 - (bi k).1) (sml * (bi k).2) (os1.mono (by decide)) (om1.mono (by decide))
      have cp := cmpQ_pos ((bi k).2 - (bi k).1) (sml * (bi k).2)
      have st := bS k
      have pk := (iB k).1
      by_cases h5 : k < K
      · have g1 := cp.2 (Decidable.not_not.1 (kn k h5))
        have ad := rational_AddQ (bi k).1 (bi k).2 (ok.1.mono (by decide)) (ok.2.mono (by decide))
        have oa := ok.1.add ok.2
        have hm := mscale_halve ((bi k).1 + (bi k).2) (oa.mono (by decide))
        have om := oa.div okQ_two2 (by decide)
        have a3 := av (((bi k).1 + (bi k).2) / 2) (om.mono (by decide)) (by have := (iB k).2.2; grind)
        generalize cmpQ ((bi k).2 - (bi k).1) (sml * (bi k).2) = cz at *
        generalize sml * (bi k).2 = y2 at *
        generalize (bi k).2 - (bi k).1 = y1 at *
        generalize ((bi k).1 + (bi k).2) / 2 = md at *
        generalize (bi k).1 + (bi k).2 = ad' at *
        by_cases h6 : hf < mv md
        · rw [decide_eq_true h6] at a3
          rw [if_pos h6] at st
          clear bS oB ky kn hs av a2 cp iB ok os1 om1 oa om
          repeat' (first | refine wG ?_ | refine wD [] a3 ?_ | refine wC s1 ?_ | refine wC m1 ?_ | refine wC c1 ?_ | refine wC ad ?_ | refine wC hm ?_ | refine rg 4 3 ?_ | refine rg 12 3 ?_ | refine rg 14 5 ?_ | refine wS ?_ ?_ <;> intro _ | refine finG ?_)
          exact ⟨k + 1, by omega, by omega, ⟨rfl, rfl, rfl, rfl, rfl, rfl, rfl, rfl, rfl, rfl, rfl⟩, rfl, rfl, rfl, rfl, by rw [st]; rfl, by rw [st]; rfl, rfl, trivial⟩
        · rw [decide_eq_false h6] at a3
          rw [if_neg h6] at st
          clear bS oB ky kn hs av a2 cp iB ok os1 om1 oa om
          repeat' (first | refine wG ?_ | refine wD [] a3 ?_ | refine wC s1 ?_ | refine wC m1 ?_ | refine wC c1 ?_ | refine wC ad ?_ | refine wC hm ?_ | refine rg 4 3 ?_ | refine rg 12 3 ?_ | refine rg 14 5 ?_ | refine wS ?_ ?_ <;> intro _ | refine finG ?_)
          exact ⟨k + 1, by omega, by omega, ⟨rfl, rfl, rfl, rfl, rfl, rfl, rfl, rfl, rfl, rfl, rfl⟩, rfl, rfl, rfl, rfl, by rw [st]; rfl, by rw [st]; rfl, rfl, trivial⟩
      · have e : k = K := by omega
        subst e
        have g1 : ¬ 0 < cmpQ ((bi k).2 - (bi k).1) (sml * (bi k).2) := fun q => ky (cp.1 q)
        generalize cmpQ ((bi k).2 - (bi k).1) (sml * (bi k).2) = cz at *
        generalize sml * (bi k).2 = y2 at *
        generalize (bi k).2 - (bi k).1 = y1 at *
        clear bS oB ky kn hs av a2 cp iB ok os1 om1 st
        repeat' (first | refine wG ?_ | refine wC s1 ?_ | refine wC m1 ?_ | refine wC c1 ?_ | refine rg 4 3 ?_ | refine rg 12 3 ?_ | refine rg 14 5 ?_ | refine wS ?_ ?_ <;> intro _ | refine finTG ?_)
        exact leT
end Go.Proofs.YtcbadnbonoajjaaGreat

/-
  Estimates of location, by the program: parts of an interval, distances. Conditions: as each says.
-/
set_option maxHeartbeats 8000000
namespace Go.Proofs.YtcbadnbonoajjaaGreat
open Go.Vw
attribute [local irreducible] awp awpL awpR

def endQ (x : I2) (n k : Int) : Rat := x.1 + (k : Rat) / (n : Rat) * (x.2 - x.1)
def partQ (x : I2) (n k : Int) : I2 := (endQ x n k, endQ x n (k + 1))
theorem endQ_ok {x : I2} {n k : Int} (hx : okI 100 x) (hn : 0 < n) (hn2 : n ≤ 1024) (hk : 0 ≤ k) (hk2 : k ≤ 1024) : okQ 400 (endQ x n k) := by
  have a : okQ 10 (k : Rat) := ok_intW (by omega)
  have b : okQ 10 (n : Rat) := ok_intW (by omega)
  have b0 : (n : Rat) ≠ 0 := fun h => by have := Rat.intCast_eq_zero_iff.1 h; omega
  exact (hx.1.add ((a.div b b0).mul (hx.2.sub hx.1))).mono (by decide)
theorem slocation_end (x : I2) (n k : Int) (hx : okI 100 x) (hn : 0 < n) (hn2 : n ≤ 1024) (hk : 0 ≤ k) (hk2 : k ≤ 1024) : Ret Tryz.prog 112 [.int .i64 k, .ptr [.int .i64 n] 0, .ptr (iC (rq x.1) (rq x.2)) 0] (· = qD (endQ x n k)) := by
  have f1 := rational_FromIntW k (by omega) (by omega)
  have f2 := rational_FromIntW n (by omega) (by omega)
  have a : okQ 10 (k : Rat) := ok_intW (by omega)
  have b : okQ 10 (n : Rat) := ok_intW (by omega)
  have b0 : (n : Rat) ≠ 0 := fun h => by have := Rat.intCast_eq_zero_iff.1 h; omega
  have d := rational_DivQ (k : Rat) (n : Rat) (a.mono (by decide)) (b.mono (by decide))
  rw [if_neg b0] at d
  have oq := a.div b b0
  have s1 := rational_SubQ x.2 x.1 (hx.2.mono (by decide)) (hx.1.mono (by decide))
  have os := hx.2.sub hx.1
  have m1 := rational_MulQ ((k : Rat) / (n : Rat)) (x.2 - x.1) (oq.mono (by decide)) (os.mono (by decide))
  have a1 := rational_AddQ x.1 ((k : Rat) / (n : Rat) * (x.2 - x.1)) (hx.1.mono (by decide)) ((oq.mul os).mono (by decide))
  unfold endQ
  generalize x.1 + (k : Rat) / (n : Rat) * (x.2 - x.1) = y4 at *
  generalize (k : Rat) / (n : Rat) * (x.2 - x.1) = y3 at *
  generalize (k : Rat) / (n : Rat) = y2 at *
  generalize x.2 - x.1 = y1 at *
  generalize (k : Rat) = kq at *
  generalize (n : Rat) = nq at *
  clear hx a b b0 oq os
  refine ret_of_awp tab Tryz.func112 rfl rfl (Nat.le_of_ble_eq_true rfl) (fun w0 F0 => ?_)
  repeat' (first | refine wG ?_ | refine wC f1 ?_ | refine wC f2 ?_ | refine wC d ?_ | refine wC s1 ?_ | refine wC m1 ?_ | refine wC a1 ?_ | refine rgK 1 10 [5] ?_ | refine rg 2 9 ?_ | refine wS ?_ ?_ <;> intro _ | refine finG ?_)
  rfl
theorem slocation_part (x : I2) (n k : Int) (hx : okI 100 x) (hn : 0 < n) (hn2 : n ≤ 1024) (hk : 0 ≤ k) (hk2 : k < 1024) : Ret Tryz.prog 86 [iQ x, .int .i64 k, .int .i64 n] (· = iQ (partQ x n k)) := by
  have e1 := slocation_end x n k hx hn hn2 hk (by omega)
  have e2 := slocation_end x n (k + 1) hx hn hn2 (by omega) (by omega)
  unfold partQ
  generalize endQ x n k = y1 at *
  generalize endQ x n (k + 1) = y2 at *
  clear hx
  refine ret_of_awp tab Tryz.func86 rfl rfl (Nat.le_of_ble_eq_true rfl) (fun w0 F0 => ?_)
  repeat' (first | refine stopA 1 tt ?_ | refine wG ?_ | refine wS ?_ ?_ <;> intro _ | refine finG ?_)
  refine stopOut ?_
  refine awp_frz 3 rfl ?_
  refine awp_frz 5 rfl ?_
  repeat' (first | refine wG ?_ | refine wC e1 ?_ | refine wC e2 ?_ | refine wS ?_ ?_ <;> intro _ | refine finG ?_)
  rfl
end Go.Proofs.YtcbadnbonoajjaaGreat

/-
  Polynomials as lists of coefficients: trimming, sums, products, values. Conditions: as each says.
-/
namespace Go.Vw
def cf (p : List Rat) (i : Nat) : Rat := p.getD i 0
@[simp] theorem cf_nil (i : Nat) : cf [] i = 0 := rfl
@[simp] theorem cf_zero (a : Rat) (p : List Rat) : cf (a :: p) 0 = a := rfl
@[simp] theorem cf_succ (a : Rat) (p : List Rat) (i : Nat) : cf (a :: p) (i + 1) = cf p i := rfl
theorem cf_ge {p : List Rat} {i : Nat} (h : p.length ≤ i) : cf p i = 0 := by simp [cf, List.getD_eq_getElem?_getD, h]
theorem cf_eq {p : List Rat} {i : Nat} (h : i < p.length) : cf p i = p[i] := by simp [cf, List.getD_eq_getElem?_getD, h]
def Eqv (p q : List Rat) : Prop := ∀ i, cf p i = cf q i
theorem Eqv.refl (p : List Rat) : Eqv p p := fun _ => rfl
theorem Eqv.symm {p q : List Rat} (h : Eqv p q) : Eqv q p := fun i => (h i).symm
theorem Eqv.trans {p q r : List Rat} (h : Eqv p q) (k : Eqv q r) : Eqv p r := fun i => (h i).trans (k i)
def trimP : List Rat → List Rat
  | [] => []
  | a :: p => match trimP p with
    | [] => if a = 0 then [] else [a]
    | b :: q => a :: b :: q
theorem cf_trim : ∀ (p : List Rat) (i : Nat), cf (trimP p) i = cf p i
  | [], i => rfl
  | a :: p, i => by
    have ih := cf_trim p
    unfold trimP
    split
    · rename_i h
      rw [h] at ih
      split
      · rename_i ha
        subst ha
        cases i with
        | zero => rfl
        | succ i => rw [cf_succ, ← ih]; rfl
      · cases i with
        | zero => rfl
        | succ i => rw [cf_succ, cf_succ, ← ih]
    · rename_i b q h
      rw [h] at ih
      cases i with
      | zero => rfl
      | succ i => rw [cf_succ, cf_succ]; exact ih i
theorem trim_eqv (p : List Rat) : Eqv (trimP p) p := cf_trim p
def Tr (p : List Rat) : Prop := p ≠ [] → cf p (p.length - 1) ≠ 0
theorem Tr.nil : Tr [] := fun h => absurd rfl h
theorem tr_trim : ∀ (p : List Rat), Tr (trimP p)
  | [] => Tr.nil
  | a :: p => by
    have ih := tr_trim p
    unfold trimP
    split
    · split
      · exact Tr.nil
      · rename_i h; exact fun _ => h
    · rename_i b q h
      rw [h] at ih
      intro _
      have := ih (by simp)
      simpa using this
theorem Tr.cf {p : List Rat} (h : Tr p) (h0 : 0 < p.length) : cf p (p.length - 1) ≠ 0 := h (fun e => by rw [e] at h0; simp at h0)
theorem Tr.len_le {p q : List Rat} (h : Tr p) (k : ∀ i, q.length ≤ i → Vw.cf p i = 0) : p.length ≤ q.length := by
  refine Nat.le_of_not_lt fun hl => ?_
  exact h.cf (by omega) (k _ (by omega))
theorem Tr.len_lt {p : List Rat} {n : Nat} (h : Tr p) (k : ∀ i, n ≤ i → Vw.cf p i = 0) : p.length ≤ n := by
  refine Nat.le_of_not_lt fun hl => ?_
  exact h.cf (by omega) (k _ (by omega))
theorem Tr.ext {p q : List Rat} (hp : Tr p) (hq : Tr q) (h : Eqv p q) : p = q := by
  have e : p.length = q.length := Nat.le_antisymm (hp.len_le fun i hi => by rw [h i]; exact cf_ge hi) (hq.len_le fun i hi => by rw [← h i]; exact cf_ge hi)
  refine List.ext_getElem e fun i h1 h2 => ?_
  have := h i
  rwa [cf_eq h1, cf_eq h2] at this
theorem trim_ext {p q : List Rat} (h : Eqv p q) : trimP p = trimP q := (tr_trim p).ext (tr_trim q) fun i => by rw [cf_trim, cf_trim, h i]
theorem trim_of {p : List Rat} (h : Tr p) : trimP p = p := (tr_trim p).ext h (trim_eqv p)
theorem trim_nil_iff (p : List Rat) : trimP p = [] ↔ ∀ i, cf p i = 0 := ⟨fun h i => by rw [← cf_trim, h]; rfl, fun h => (tr_trim p).ext Tr.nil fun i => by rw [cf_trim, h i]; rfl⟩
/-! ## Values -/
def evalP : List Rat → Rat → Rat
  | [], _ => 0
  | a :: p, x => evalP p x * x + a
theorem eval_zero : ∀ {p : List Rat} (x : Rat), (∀ i, cf p i = 0) → evalP p x = 0
  | [], x, _ => rfl
  | a :: p, x, h => by
    have h0 := h 0
    rw [cf_zero] at h0
    rw [evalP, eval_zero x (fun i => by have := h (i + 1); rwa [cf_succ] at this), h0]
    grind
theorem eval_ext : ∀ {p q : List Rat} (x : Rat), Eqv p q → evalP p x = evalP q x
  | [], q, x, h => (eval_zero (p := q) x (fun i => (h i).symm)).symm
  | a :: p, [], x, h => eval_zero (p := a :: p) x (fun i => h i)
  | a :: p, b :: q, x, h => by
    have h0 : a = b := h 0
    have ih := eval_ext (p := p) (q := q) x (fun i => h (i + 1))
    rw [evalP, evalP, ih, h0]
theorem eval_trim (p : List Rat) (x : Rat) : evalP (trimP p) x = evalP p x := eval_ext x (trim_eqv p)
/-! ## Sums and multiples, with zeros at the end -/
def addC : List Rat → List Rat → List Rat
  | [], q => q
  | p, [] => p
  | a :: p, b :: q => (a + b) :: addC p q
def smul (c : Rat) (p : List Rat) : List Rat := p.map (c * ·)
def shiftP (k : Nat) (p : List Rat) : List Rat := List.replicate k 0 ++ p
def negC (p : List Rat) : List Rat := smul (-1) p
def subC (p q : List Rat) : List Rat := addC p (negC q)
theorem cf_add : ∀ (p q : List Rat) (i : Nat), cf (addC p q) i = cf p i + cf q i
  | [], q, i => by simp only [addC, cf_nil]; grind
  | a :: p, [], i => by simp only [addC, cf_nil]; grind
  | a :: p, b :: q, 0 => by simp [addC]
  | a :: p, b :: q, i + 1 => by simp only [addC, cf_succ]; exact cf_add p q i
theorem cf_smul (c : Rat) : ∀ (p : List Rat) (i : Nat), cf (smul c p) i = c * cf p i
  | [], i => by simp [smul, Rat.mul_zero]
  | a :: p, 0 => by simp [smul]
  | a :: p, i + 1 => by have := cf_smul c p i; simpa [smul] using this
theorem cf_neg (p : List Rat) (i : Nat) : cf (negC p) i = - cf p i := by rw [negC, cf_smul]; grind
theorem cf_sub (p q : List Rat) (i : Nat) : cf (subC p q) i = cf p i - cf q i := by rw [subC, cf_add, cf_neg]; grind
theorem cf_shift (k : Nat) (p : List Rat) (i : Nat) : cf (shiftP k p) i = if i < k then 0 else cf p (i - k) := by
  unfold cf shiftP
  rw [List.getD_eq_getElem?_getD, List.getD_eq_getElem?_getD]
  split
  · rename_i h
    rw [List.getElem?_append_left (by simpa using h)]
    simp [h]
  · rename_i h
    rw [List.getElem?_append_right (by simp; omega)]
    simp
theorem eval_add : ∀ (p q : List Rat) (x : Rat), evalP (addC p q) x = evalP p x + evalP q x
  | [], q, x => by simp only [addC, evalP]; grind
  | a :: p, [], x => by simp only [addC, evalP]; grind
  | a :: p, b :: q, x => by simp only [addC, evalP, eval_add p q x]; grind
theorem eval_smul (c : Rat) : ∀ (p : List Rat) (x : Rat), evalP (smul c p) x = c * evalP p x
  | [], x => by simp [smul, evalP, Rat.mul_zero]
  | a :: p, x => by
    have ih := eval_smul c p x
    simp only [smul, List.map_cons, evalP] at ih ⊢
    rw [ih]; grind
theorem eval_sub (p q : List Rat) (x : Rat) : evalP (subC p q) x = evalP p x - evalP q x := by rw [subC, eval_add, negC, eval_smul]; grind
/-! ## Products -/
def mulC : List Rat → List Rat → List Rat
  | [], _ => []
  | a :: p, q => addC (smul a q) (0 :: mulC p q)
theorem eval_mul : ∀ (p q : List Rat) (x : Rat), evalP (mulC p q) x = evalP p x * evalP q x
  | [], q, x => by simp only [mulC, evalP]; grind
  | a :: p, q, x => by simp only [mulC, eval_add, eval_smul, evalP, eval_mul p q x]; grind
theorem cf_mul0 (a : Rat) (p q : List Rat) : cf (mulC (a :: p) q) 0 = a * cf q 0 := by simp only [mulC, cf_add, cf_smul, cf_zero]; grind
theorem cf_mulS (a : Rat) (p q : List Rat) (i : Nat) : cf (mulC (a :: p) q) (i + 1) = a * cf q (i + 1) + cf (mulC p q) i := by simp only [mulC, cf_add, cf_smul, cf_succ]
theorem mul_zero_r : ∀ (p : List Rat) (q : List Rat), (∀ i, cf q i = 0) → ∀ i, cf (mulC p q) i = 0
  | [], q, h, i => rfl
  | a :: p, q, h, 0 => by rw [cf_mul0, h]; grind
  | a :: p, q, h, i + 1 => by rw [cf_mulS, h, mul_zero_r p q h]; grind
theorem mul_eqv_r : ∀ (p : List Rat) {q q' : List Rat}, Eqv q q' → Eqv (mulC p q) (mulC p q')
  | [], q, q', h => Eqv.refl _
  | a :: p, q, q', h => fun i => by
    cases i with
    | zero => rw [cf_mul0, cf_mul0, h]
    | succ i => rw [cf_mulS, cf_mulS, h, mul_eqv_r p h i]
theorem mul_cons_r : ∀ (p : List Rat) (b : Rat) (q : List Rat), Eqv (mulC p (b :: q)) (addC (smul b p) (0 :: mulC p q))
  | [], b, q, i => by
    rw [cf_add]
    cases i <;> simp [mulC, smul] <;> grind
  | a :: p, b, q, 0 => by simp only [cf_mul0, cf_add, cf_smul, cf_zero]; grind
  | a :: p, b, q, i + 1 => by
    have ih := mul_cons_r p b q i
    rw [cf_add, cf_smul] at ih
    rw [cf_mulS, cf_add, cf_smul, cf_succ, cf_succ, cf_succ, ih]
    cases i with
    | zero => rw [cf_mul0, cf_zero]; grind
    | succ i => rw [cf_mulS, cf_succ]; grind
theorem mul_comm_eqv : ∀ (p q : List Rat), Eqv (mulC p q) (mulC q p)
  | [], q, i => by rw [mul_zero_r q [] (fun _ => rfl)]; rfl
  | a :: p, q, i => by
    have h := mul_cons_r q a p i
    have ih := mul_comm_eqv p q
    rw [h]
    cases i with
    | zero => simp only [cf_mul0, cf_add, cf_smul, cf_zero]; grind
    | succ i => rw [cf_mulS, cf_add, cf_smul, cf_succ, ih i]
theorem mul_eqv_l {p p' : List Rat} (q : List Rat) (h : Eqv p p') : Eqv (mulC p q) (mulC p' q) := ((mul_comm_eqv p q).trans (mul_eqv_r q h)).trans (mul_comm_eqv q p')
theorem mul_add_r : ∀ (p q r : List Rat), Eqv (mulC p (addC q r)) (addC (mulC p q) (mulC p r))
  | [], q, r, i => by simp only [mulC, cf_nil, cf_add]; grind
  | a :: p, q, r, 0 => by simp only [cf_mul0, cf_add]; grind
  | a :: p, q, r, i + 1 => by rw [cf_add, cf_mulS, cf_mulS, cf_mulS, mul_add_r p q r i, cf_add, cf_add]; grind
theorem mul_add_l (p q r : List Rat) : Eqv (mulC (addC p q) r) (addC (mulC p r) (mulC q r)) := fun i => by
  rw [mul_comm_eqv, mul_add_r, cf_add, cf_add, mul_comm_eqv r p, mul_comm_eqv r q]
theorem mul_smul_l (c : Rat) : ∀ (p q : List Rat), Eqv (mulC (smul c p) q) (smul c (mulC p q))
  | [], q, i => by simp [smul, mulC]
  | a :: p, q, 0 => by simp only [smul, List.map_cons, cf_mul0]; rw [← smul, cf_smul, cf_mul0]; grind
  | a :: p, q, i + 1 => by
    have ih := mul_smul_l c p q i
    rw [cf_smul] at ih
    simp only [smul, List.map_cons] at ih ⊢
    rw [cf_mulS, ih, ← smul, cf_smul, cf_mulS]; grind
theorem mul_smul_r (c : Rat) (p q : List Rat) : Eqv (mulC p (smul c q)) (smul c (mulC p q)) := fun i => by
  rw [mul_comm_eqv, mul_smul_l, cf_smul, cf_smul, mul_comm_eqv]
theorem mul_shift_l : ∀ (k : Nat) (p q : List Rat), Eqv (mulC (shiftP k p) q) (shiftP k (mulC p q))
  | 0, p, q => fun i => by simp [shiftP]
  | k + 1, p, q => fun i => by
    have e : ∀ (p : List Rat), shiftP (k + 1) p = 0 :: shiftP k p := fun p => by simp [shiftP, List.replicate_succ]
    rw [e, e]
    cases i with
    | zero => rw [cf_mul0, cf_zero]; grind
    | succ i => rw [cf_mulS, cf_succ, mul_shift_l k p q i]; grind
theorem mul_assoc_eqv : ∀ (p q r : List Rat), Eqv (mulC (mulC p q) r) (mulC p (mulC q r))
  | [], q, r, i => rfl
  | a :: p, q, r, i => by
    have h1 : Eqv (mulC (mulC (a :: p) q) r) (addC (mulC (smul a q) r) (mulC (0 :: mulC p q) r)) := mul_add_l _ _ _
    rw [h1, cf_add, mul_smul_l, cf_smul]
    cases i with
    | zero => rw [cf_mul0, cf_mul0]; grind
    | succ i => rw [cf_mulS, cf_mulS, mul_assoc_eqv p q r i]; grind
theorem mul_const (c : Rat) (q : List Rat) : Eqv (mulC [c] q) (smul c q) := fun i => by
  simp only [mulC, cf_add, cf_smul]
  cases i <;> simp <;> grind
theorem add_eqv {p p' q q' : List Rat} (h : Eqv p p') (k : Eqv q q') : Eqv (addC p q) (addC p' q') := fun i => by rw [cf_add, cf_add, h i, k i]
theorem shift_eqv {k : Nat} {p p' : List Rat} (h : Eqv p p') : Eqv (shiftP k p) (shiftP k p') := fun i => by rw [cf_shift, cf_shift, h (i - k)]
/-! ## The highest coefficient of a product -/
theorem mul_high : ∀ (p q : List Rat) (m n : Nat), (∀ i, m < i → cf p i = 0) → (∀ i, n < i → cf q i = 0) → cf (mulC p q) (m + n) = cf p m * cf q n ∧ ∀ i, m + n < i → cf (mulC p q) i = 0
  | [], q, m, n, h1, h2 => by simp [mulC, Rat.zero_mul]
  | a :: p, q, 0, n, h1, h2 => by
    have hp : ∀ i, cf p i = 0 := fun i => by have := h1 (i + 1) (by omega); rwa [cf_succ] at this
    have hz : ∀ i, cf (mulC p q) i = 0 := fun i => by rw [mul_comm_eqv]; exact mul_zero_r q p hp i
    refine ⟨?_, fun i hi => ?_⟩
    · rw [Nat.zero_add]
      cases n with
      | zero => rw [cf_mul0]; rfl
      | succ n => rw [cf_mulS, hz, cf_zero]; grind
    · cases i with
      | zero => omega
      | succ i => rw [cf_mulS, hz, h2 _ (by omega)]; grind
  | a :: p, q, m + 1, n, h1, h2 => by
    obtain ⟨e1, e2⟩ := mul_high p q m n (fun i hi => by have := h1 (i + 1) (by omega); rwa [cf_succ] at this) h2
    refine ⟨?_, fun i hi => ?_⟩
    · rw [show m + 1 + n = (m + n) + 1 by omega, cf_mulS, e1, h2 _ (by omega), cf_succ]; grind
    · cases i with
      | zero => omega
      | succ i => rw [cf_mulS, e2 _ (by omega), h2 _ (by omega)]; grind
theorem mul_len {p q : List Rat} (hp : Tr p) (hq : Tr q) (p0 : 0 < p.length) (q0 : 0 < q.length) : (trimP (mulC p q)).length = p.length + q.length - 1 ∧ cf (mulC p q) (p.length + q.length - 2) = cf p (p.length - 1) * cf q (q.length - 1) := by
  obtain ⟨e1, e2⟩ := mul_high p q (p.length - 1) (q.length - 1) (fun i hi => cf_ge (by omega)) (fun i hi => cf_ge (by omega))
  have h1 := hp.cf p0
  have h2 := hq.cf q0
  rw [show p.length - 1 + (q.length - 1) = p.length + q.length - 2 by omega] at e1 e2
  have hne : cf (mulC p q) (p.length + q.length - 2) ≠ 0 := by
    rw [e1]; intro h
    rcases Rat.mul_eq_zero.1 h with h | h
    · exact h1 h
    · exact h2 h
  refine ⟨Nat.le_antisymm ((tr_trim _).len_lt fun i hi => by rw [cf_trim]; exact e2 i (by omega)) (Nat.le_of_not_lt fun hl => hne ?_), e1⟩
  rw [← cf_trim]; exact cf_ge (by omega)
end Go.Vw

/-
  Polynomials: division with remainder, the derivative, the greatest common divisor. Conditions: as each says.
-/
namespace Go.Vw
def lead (p : List Rat) : Rat := cf p (p.length - 1)
theorem lead_ne {p : List Rat} (h : Tr p) (h0 : p ≠ []) : lead p ≠ 0 := h h0
theorem len_smul (c : Rat) (p : List Rat) : (smul c p).length = p.length := by simp [smul]
theorem tr_smul {c : Rat} {p : List Rat} (hc : c ≠ 0) (h : Tr p) : Tr (smul c p) := fun h0 => by
  rw [len_smul, cf_smul]
  intro e
  rcases Rat.mul_eq_zero.1 e with e | e
  · exact hc e
  · exact h (fun e => h0 (by rw [e]; rfl)) e
theorem lead_smul (c : Rat) (p : List Rat) : lead (smul c p) = c * lead p := by unfold lead; rw [len_smul, cf_smul]
theorem smul_smul (a b : Rat) (p : List Rat) : smul a (smul b p) = smul (a * b) p := by
  unfold smul; rw [List.map_map]; refine List.map_congr_left fun x _ => ?_
  simp only [Function.comp]; grind
theorem smul_one (p : List Rat) : smul 1 p = p := by
  unfold smul
  have : (fun x : Rat => 1 * x) = id := by funext x; simp [Rat.one_mul]
  rw [this, List.map_id]
theorem smul_eq_nil {c : Rat} {p : List Rat} : smul c p = [] ↔ p = [] := by unfold smul; exact List.map_eq_nil_iff
theorem ne_len {p : List Rat} (h : p ≠ []) : 0 < p.length := List.length_pos_iff.2 h
def remK (r d : List Rat) : Nat := r.length - d.length
def remC (r d : List Rat) : Rat := lead r / lead d
def stepRP (r d : List Rat) : List Rat := trimP (subC r (shiftP (remK r d) (smul (remC r d) d)))
def stepQP (q r d : List Rat) : List Rat := trimP (addC q (shiftP (remK r d) [remC r d]))
theorem cf_stepRP (r d : List Rat) (i : Nat) : cf (stepRP r d) i = cf r i - (if i < remK r d then 0 else remC r d * cf d (i - remK r d)) := by
  unfold stepRP; rw [cf_trim, cf_sub, cf_shift]; split
  · rfl
  · rw [cf_smul]
theorem stepRP_len {r d : List Rat} (hr : Tr r) (hd : Tr d) (d0 : d ≠ []) (h : d.length ≤ r.length) : (stepRP r d).length < r.length := by
  have h0 := ne_len d0
  have := (show Tr (stepRP r d) from tr_trim _).len_lt (n := r.length - 1) fun i hi => by
    rw [cf_stepRP]
    by_cases e : i = r.length - 1
    · subst e
      rw [if_neg (by unfold remK; omega)]
      have e2 : r.length - 1 - remK r d = d.length - 1 := by unfold remK; omega
      rw [e2]
      have hl := lead_ne hd d0
      unfold remC
      unfold lead at *
      grind
    · rw [cf_ge (by omega)]
      split
      · grind
      · rw [cf_ge (p := d) (by unfold remK; omega)]; grind
  omega
theorem stepRP_mul (q r d : List Rat) : Eqv (addC (mulC (stepQP q r d) d) (stepRP r d)) (addC (mulC q d) r) := fun i => by
  have h1 := mul_eqv_l d (trim_eqv (addC q (shiftP (remK r d) [remC r d]))) i
  have h2 := mul_add_l q (shiftP (remK r d) [remC r d]) d i
  have h3 := mul_shift_l (remK r d) [remC r d] d i
  have h4 := shift_eqv (k := remK r d) (mul_const (remC r d) d) i
  rw [cf_add, cf_add, cf_stepRP]
  unfold stepQP
  rw [h1, h2, cf_add, h3, h4, cf_shift]
  split
  · grind
  · rw [cf_smul]; grind
def divL : Nat → List Rat → List Rat → List Rat → List Rat × List Rat
  | 0, q, r, d => (q, r)
  | n + 1, q, r, d => if r.length < d.length then (q, r) else divL n (stepQP q r d) (stepRP r d) d
theorem divL_spec {d : List Rat} (hd : Tr d) (d0 : d ≠ []) : ∀ (n : Nat) (q r : List Rat), Tr r → r.length < n → Tr (divL n q r d).2 ∧ (divL n q r d).2.length < d.length ∧ Eqv (addC (mulC (divL n q r d).1 d) (divL n q r d).2) (addC (mulC q d) r)
  | 0, q, r, hr, h => by omega
  | n + 1, q, r, hr, h => by
    unfold divL
    split
    · rename_i h1; exact ⟨hr, h1, Eqv.refl _⟩
    · rename_i h1
      have hl := stepRP_len hr hd d0 (by omega)
      obtain ⟨a, b, c⟩ := divL_spec hd d0 n (stepQP q r d) (stepRP r d) (tr_trim _) (by omega)
      exact ⟨a, b, c.trans (stepRP_mul q r d)⟩
theorem divL_tr {d : List Rat} : ∀ (n : Nat) (q r : List Rat), Tr q → Tr (divL n q r d).1
  | 0, q, r, h => h
  | n + 1, q, r, h => by
    unfold divL; split
    · exact h
    · exact divL_tr n _ _ (tr_trim _)
def divP (p d : List Rat) : List Rat × List Rat := divL (p.length + 1) [] p d
def remP (p d : List Rat) : List Rat := (divP p d).2
theorem divP_spec {p d : List Rat} (hp : Tr p) (hd : Tr d) (d0 : d ≠ []) : Tr (divP p d).1 ∧ Tr (divP p d).2 ∧ (divP p d).2.length < d.length ∧ Eqv (addC (mulC (divP p d).1 d) (divP p d).2) p := by
  obtain ⟨a, b, c⟩ := divL_spec hd d0 (p.length + 1) [] p hp (by omega)
  refine ⟨divL_tr _ _ _ Tr.nil, a, b, c.trans fun i => ?_⟩
  rw [cf_add]; simp only [mulC, cf_nil]; grind
theorem div_unique {q r q' r' d : List Rat} (hd : Tr d) (d0 : d ≠ []) (h1 : r.length < d.length) (h2 : r'.length < d.length) (h : Eqv (addC (mulC q d) r) (addC (mulC q' d) r')) : Eqv q q' ∧ Eqv r r' := by
  have hz : trimP (subC q q') = [] := by
    refine Classical.byContradiction fun hne => ?_
    have hl := mul_len (tr_trim (subC q q')) hd (ne_len hne) (ne_len d0)
    have l1 := ne_len hne
    have l2 := ne_len d0
    have a1 := (tr_trim (subC q q')).cf l1
    have a2 := hd.cf l2
    generalize hN : (trimP (subC q q')).length + d.length - 2 = N at hl
    have e : cf (mulC (trimP (subC q q')) d) N = 0 := by
      rw [mul_eqv_l d (trim_eqv (subC q q')) N]
      have e1 : Eqv (mulC (subC q q') d) (subC (mulC q d) (mulC q' d)) := fun i => by
        have h3 : Eqv (mulC (negC q') d) (negC (mulC q' d)) := mul_smul_l (-1) q' d
        unfold subC
        rw [mul_add_l, cf_add, cf_add, h3 i]
      rw [e1 N, cf_sub]
      have := h N
      rw [cf_add, cf_add, cf_ge (p := r) (by omega), cf_ge (p := r') (by omega)] at this
      grind
    rw [hl.2] at e
    rcases Rat.mul_eq_zero.1 e with e | e
    · exact a1 e
    · exact a2 e
  have hq : Eqv q q' := fun i => by
    have := (trim_nil_iff _).1 hz i
    rw [cf_sub] at this; grind
  refine ⟨hq, fun i => ?_⟩
  have := h i
  rw [cf_add, cf_add, mul_eqv_l d hq i] at this
  grind
theorem divP_unique {p d q r : List Rat} (hp : Tr p) (hd : Tr d) (d0 : d ≠ []) (hq : Tr q) (hr : Tr r) (hl : r.length < d.length) (h : Eqv (addC (mulC q d) r) p) : divP p d = (q, r) := by
  obtain ⟨a, b, c, e⟩ := divP_spec hp hd d0
  obtain ⟨h1, h2⟩ := div_unique hd d0 c hl (e.trans h.symm)
  exact Prod.ext (a.ext hq h1) (b.ext hr h2)
/-! ## Multiples -/
theorem remP_smul {p d : List Rat} (hp : Tr p) (hd : Tr d) (d0 : d ≠ []) {a b : Rat} (ha : a ≠ 0) (hb : b ≠ 0) : remP (smul a p) (smul b d) = smul a (remP p d) := by
  obtain ⟨h1, h2, h3, h4⟩ := divP_spec hp hd d0
  have hab : a / b ≠ 0 := by
    intro h
    have : a = a / b * b := by grind
    rw [h] at this; grind
  have := divP_unique (p := smul a p) (d := smul b d) (q := smul (a / b) (divP p d).1) (r := smul a (divP p d).2) (tr_smul ha hp) (tr_smul hb hd) (by rw [ne_eq, smul_eq_nil]; exact d0) (tr_smul hab h1) (tr_smul ha h2) (by rw [len_smul, len_smul]; exact h3) (fun i => by
    rw [cf_add, mul_smul_l, cf_smul, mul_smul_r, cf_smul, cf_smul, cf_smul, ← h4 i, cf_add]
    grind)
  unfold remP
  rw [this]
def monicP (p : List Rat) : List Rat := smul (1 / lead p) p
theorem monic_smul {c : Rat} {p : List Rat} (hc : c ≠ 0) : monicP (smul c p) = monicP p := by
  unfold monicP
  rw [lead_smul, smul_smul]
  congr 1
  grind
theorem tr_monic {p : List Rat} (h : Tr p) : Tr (monicP p) := by
  by_cases h0 : p = []
  · subst h0; exact Tr.nil
  · have := lead_ne h h0
    exact tr_smul (by grind) h
theorem lead_monic {p : List Rat} (h : Tr p) (h0 : p ≠ []) : lead (monicP p) = 1 := by
  have := lead_ne h h0
  unfold monicP; rw [lead_smul]; grind
def gcdL : Nat → List Rat → List Rat → List Rat
  | 0, p, _ => monicP p
  | n + 1, p, q => if q = [] then monicP p else gcdL n q (remP p q)
theorem tr_rem {p d : List Rat} (hp : Tr p) (hd : Tr d) (d0 : d ≠ []) : Tr (remP p d) := (divP_spec hp hd d0).2.1
theorem rem_len {p d : List Rat} (hp : Tr p) (hd : Tr d) (d0 : d ≠ []) : (remP p d).length < d.length := (divP_spec hp hd d0).2.2.1
theorem gcdL_smul : ∀ (n : Nat) {p q : List Rat} {a b : Rat}, Tr p → Tr q → a ≠ 0 → b ≠ 0 → gcdL n (smul a p) (smul b q) = gcdL n p q
  | 0, p, q, a, b, hp, hq, ha, hb => monic_smul ha
  | n + 1, p, q, a, b, hp, hq, ha, hb => by
    unfold gcdL
    by_cases h : q = []
    · rw [if_pos h, if_pos (smul_eq_nil.2 h), monic_smul ha]
    · rw [if_neg h, if_neg (mt smul_eq_nil.1 h), remP_smul hp hq h ha hb]
      exact gcdL_smul n hq (tr_rem hp hq h) hb ha
theorem gcdL_fuel : ∀ (n m : Nat) {p q : List Rat}, Tr p → Tr q → q.length ≤ n → q.length ≤ m → gcdL n p q = gcdL m p q
  | 0, 0, p, q, _, _, _, _ => rfl
  | 0, m + 1, p, q, _, _, h, _ => by
    have : q = [] := List.eq_nil_of_length_eq_zero (by omega)
    unfold gcdL; rw [if_pos this]
  | n + 1, 0, p, q, _, _, _, h => by
    have : q = [] := List.eq_nil_of_length_eq_zero (by omega)
    unfold gcdL; rw [if_pos this]
  | n + 1, m + 1, p, q, hp, hq, h1, h2 => by
    unfold gcdL
    by_cases h : q = []
    · rw [if_pos h, if_pos h]
    · rw [if_neg h, if_neg h]
      have := rem_len hp hq h
      exact gcdL_fuel n m hq (tr_rem hp hq h) (by omega) (by omega)
def gcdP (p q : List Rat) : List Rat := gcdL q.length p q
theorem gcdP_nil (p : List Rat) : gcdP p [] = monicP p := rfl
theorem gcdP_step {p q : List Rat} (hp : Tr p) (hq : Tr q) (h : q ≠ []) {a b : Rat} (ha : a ≠ 0) (hb : b ≠ 0) : gcdP p q = gcdP (smul a q) (smul b (remP p q)) := by
  unfold gcdP
  rw [len_smul, gcdL_smul _ hq (tr_rem hp hq h) ha hb]
  obtain ⟨n, hn⟩ : ∃ n, q.length = n + 1 := ⟨q.length - 1, by have := ne_len h; omega⟩
  rw [hn]
  conv => lhs; unfold gcdL
  rw [if_neg h]
  have := rem_len hp hq h
  exact gcdL_fuel _ _ hq (tr_rem hp hq h) (by omega) (by omega)
/-! ## The derivative -/
def derC (p : List Rat) : List Rat := (p.mapIdx fun i x => (i : Rat) * x).drop 1
theorem cf_der (p : List Rat) (i : Nat) : cf (derC p) i = ((i + 1 : Nat) : Rat) * cf p (i + 1) := by
  unfold derC cf
  rw [List.getD_eq_getElem?_getD, List.getD_eq_getElem?_getD, List.getElem?_drop, List.getElem?_mapIdx, Nat.add_comm 1 i]
  cases p[i + 1]? with
  | none => simp [Rat.mul_zero]
  | some x => rfl
def derP (p : List Rat) : List Rat := trimP (derC p)
/-! ## Sturm's chain -/
def chainL (ch : List Rat → List Rat) : Nat → List Rat → List Rat → List (List Rat)
  | 0, _, _ => []
  | n + 1, a, b => if a = [] then [] else if b = [] then [a] else a :: chainL ch n b (ch (negC (remP a b)))
theorem tr_neg {p : List Rat} (h : Tr p) : Tr (negC p) := tr_smul (by decide) h
end Go.Vw

/-
  Polynomials: how long their coefficients are, over a common denominator. Conditions: as each says.
-/
namespace Go.Vw
def HtP (h : Nat) (p : List Rat) : Prop := ∃ (c : Int) (P : Nat → Int), c ≠ 0 ∧ ln c.natAbs < h ∧ ∀ i, ln (P i).natAbs < h ∧ cf p i = Rat.divInt (P i) c
theorem HtP.ok {h : Nat} {p : List Rat} (H : HtP h p) (i : Nat) : okQ h (cf p i) := by
  obtain ⟨c, P, c0, hc, hp⟩ := H
  rw [(hp i).2]
  exact okQ_divInt c0 (hp i).1 hc
theorem HtP.mono {h k : Nat} {p : List Rat} (H : HtP h p) (hk : h ≤ k) : HtP k p := by
  obtain ⟨c, P, c0, hc, hp⟩ := H
  exact ⟨c, P, c0, by omega, fun i => ⟨by have := (hp i).1; omega, (hp i).2⟩⟩
theorem HtP.eqv {h : Nat} {p q : List Rat} (H : HtP h p) (e : Eqv q p) : HtP h q := by
  obtain ⟨c, P, c0, hc, hp⟩ := H
  exact ⟨c, P, c0, hc, fun i => ⟨(hp i).1, (e i).trans (hp i).2⟩⟩
theorem HtP.trim {h : Nat} {p : List Rat} (H : HtP h p) : HtP h (trimP p) := H.eqv (trim_eqv p)
theorem HtP.zero {p : List Rat} (h : ∀ i, cf p i = 0) : HtP 2 p := ⟨1, fun _ => 0, by decide, by show ln 1 < 2; rw [ln_one]; decide, fun i => ⟨by show ln 0 < 2; rw [ln_zero]; decide, by rw [h i]; exact (Rat.zero_divInt 1).symm⟩⟩
theorem HtP.nil : HtP 2 [] := HtP.zero fun _ => rfl
theorem ln_mulZ {a b : Int} {h k : Nat} (ha : ln a.natAbs < h) (hb : ln b.natAbs < k) : ln (a * b).natAbs < h + k - 1 := by
  rw [Int.natAbs_mul]
  have := ln_mul a.natAbs b.natAbs
  omega
theorem ln_addZ {a b : Int} {h : Nat} (ha : ln a.natAbs < h) (hb : ln b.natAbs < h) : ln (a + b).natAbs < h + 1 := by
  have h1 := ln_mono (Int.natAbs_add_le a b)
  have h2 := ln_add1 (m := a.natAbs) (n := b.natAbs) (k := h - 1) (by omega) (by omega)
  omega
theorem ln_negZ {a : Int} {h : Nat} (ha : ln a.natAbs < h) : ln (-a).natAbs < h := by rw [Int.natAbs_neg]; exact ha
theorem ln_subZ {a b : Int} {h : Nat} (ha : ln a.natAbs < h) (hb : ln b.natAbs < h) : ln (a - b).natAbs < h + 1 := by
  rw [Int.sub_eq_add_neg]; exact ln_addZ ha (ln_negZ hb)
theorem divInt_mulR {a c k : Int} (hk : k ≠ 0) : Rat.divInt (a * k) (c * k) = Rat.divInt a c := Rat.divInt_mul_right hk
theorem HtP.neg {h : Nat} {p : List Rat} (H : HtP h p) : HtP h (negC p) := by
  obtain ⟨c, P, c0, hc, hp⟩ := H
  refine ⟨c, fun i => - P i, c0, hc, fun i => ⟨ln_negZ (hp i).1, ?_⟩⟩
  rw [cf_neg, (hp i).2, Rat.neg_divInt]
theorem HtP.smul {h k : Nat} {p : List Rat} {x : Rat} (H : HtP h p) (hx : okQ k x) : HtP (h + k) (smul x p) := by
  obtain ⟨c, P, c0, hc, hp⟩ := H
  obtain ⟨x1, x2⟩ := hx
  refine ⟨x.den * c, fun i => x.num * P i, Int.mul_ne_zero (den_ne x) c0, ?_, fun i => ⟨?_, ?_⟩⟩
  · have := ln_mulZ (a := (x.den : Int)) (h := k) (by rw [Int.natAbs_natCast]; exact x2) hc; omega
  · have := ln_mulZ (a := x.num) (h := k) x1 (hp i).1; dsimp only; omega
  · rw [cf_smul, (hp i).2]
    conv => lhs; rw [← Rat.num_divInt_den x]
    rw [Rat.divInt_mul_divInt]
theorem HtP.add {h k : Nat} {p q : List Rat} (H : HtP h p) (K : HtP k q) : HtP (h + k) (addC p q) := by
  obtain ⟨c, P, c0, hc, hp⟩ := H
  obtain ⟨d, Q, d0, hd, hq⟩ := K
  refine ⟨c * d, fun i => P i * d + Q i * c, Int.mul_ne_zero c0 d0, ?_, fun i => ⟨?_, ?_⟩⟩
  · have := ln_mulZ hc hd; omega
  · have h1 := ln_mulZ (hp i).1 hd
    have h2 := ln_mulZ (hq i).1 hc
    have := ln_addZ (a := P i * d) (b := Q i * c) (h := h + k - 1) h1 (by omega)
    dsimp only
    omega
  · rw [cf_add, (hp i).2, (hq i).2, Rat.divInt_add_divInt _ _ c0 d0]
theorem HtP.sub {h k : Nat} {p q : List Rat} (H : HtP h p) (K : HtP k q) : HtP (h + k) (subC p q) := H.add K.neg
theorem HtP.shift {h k : Nat} {p : List Rat} (H : HtP h p) : HtP h (shiftP k p) := by
  obtain ⟨c, P, c0, hc, hp⟩ := H
  refine ⟨c, fun i => if i < k then 0 else P (i - k), c0, hc, fun i => ?_⟩
  rw [cf_shift]
  dsimp only
  split
  · exact ⟨by show ln 0 < h; rw [ln_zero]; omega, (Rat.zero_divInt c).symm⟩
  · exact hp (i - k)
theorem divInt_ne {a c : Int} (h : Rat.divInt a c ≠ 0) : a ≠ 0 := fun e => h (by rw [e, Rat.zero_divInt])
theorem divInt_div2 {a b c d : Int} (hc : c ≠ 0) (hb : b ≠ 0) (hd : d ≠ 0) : Rat.divInt a c / Rat.divInt b d = Rat.divInt (a * d) (c * b) := by
  rw [Rat.div_def, Rat.inv_divInt, Rat.divInt_mul_divInt]
theorem HtP.monic {h : Nat} {p : List Rat} (H : HtP h p) : HtP (h + 1) (monicP p) := by
  obtain ⟨c, P, c0, hc, hp⟩ := H
  by_cases h0 : lead p = 0
  · refine (HtP.zero (p := monicP p) fun i => ?_).mono (by omega)
    unfold monicP
    rw [cf_smul, h0]
    have : (1 : Rat) / 0 = 0 := by rw [Rat.div_def, Rat.inv_zero, Rat.mul_zero]
    rw [this, Rat.zero_mul]
  · have e := (hp (p.length - 1)).2
    have hne := divInt_ne (a := P (p.length - 1)) (c := c) (by rw [← e]; exact h0)
    refine ⟨P (p.length - 1), P, hne, by have := (hp (p.length - 1)).1; omega, fun i => ⟨by have := (hp i).1; omega, ?_⟩⟩
    unfold monicP
    rw [cf_smul, (hp i).2]
    show 1 / cf p (p.length - 1) * _ = _
    rw [e]
    have : 1 / Rat.divInt (P (p.length - 1)) c * Rat.divInt (P i) c = Rat.divInt (P i) c / Rat.divInt (P (p.length - 1)) c := by grind
    rw [this, divInt_div2 c0 hne c0, Int.mul_comm c, divInt_mulR c0]
theorem HtP.stepRP {h l : Nat} {r d : List Rat} (H : HtP h r) (L : HtP l d) (hd : lead d ≠ 0) : HtP (h + l) (stepRP r d) := by
  obtain ⟨c, R, c0, hc, hr⟩ := H
  obtain ⟨e, E, e0, he, hE⟩ := L
  have e1 := (hE (d.length - 1)).2
  have e2 := (hr (r.length - 1)).2
  have hne := divInt_ne (a := E (d.length - 1)) (c := e) (by rw [← e1]; exact hd)
  have l0 := (hE (d.length - 1)).1
  have r0' := (hr (r.length - 1)).1
  refine ⟨c * E (d.length - 1), fun i => R i * E (d.length - 1) - (if i < remK r d then 0 else R (r.length - 1) * E (i - remK r d)), Int.mul_ne_zero c0 hne, ?_, fun i => ⟨?_, ?_⟩⟩
  · have := ln_mulZ hc l0; omega
  · have h1 := ln_mulZ (hr i).1 l0
    have h2 : ln (if i < remK r d then 0 else R (r.length - 1) * E (i - remK r d)).natAbs < h + l - 1 := by
      split
      · show ln 0 < _; rw [ln_zero]; omega
      · exact ln_mulZ r0' (hE (i - remK r d)).1
    have := ln_subZ h1 h2
    dsimp only
    omega
  · rw [cf_stepRP, (hr i).2]
    dsimp only
    split
    · rw [Int.sub_zero, divInt_mulR hne]; grind
    · have hq : remC r d * cf d (i - remK r d) = Rat.divInt (R (r.length - 1) * E (i - remK r d)) (c * E (d.length - 1)) := by
        unfold remC lead
        rw [e1, e2, (hE (i - remK r d)).2, divInt_div2 c0 hne e0, Rat.divInt_mul_divInt]
        rw [show R (r.length - 1) * e * E (i - remK r d) = R (r.length - 1) * E (i - remK r d) * e by rw [Int.mul_assoc, Int.mul_assoc, Int.mul_comm e], divInt_mulR e0]
      rw [hq, ← divInt_mulR (a := R i) (c := c) hne, Rat.sub_eq_add_neg, Rat.neg_divInt, Rat.divInt_add_divInt _ _ (Int.mul_ne_zero c0 hne) (Int.mul_ne_zero c0 hne), ← Int.add_mul, divInt_mulR (Int.mul_ne_zero c0 hne), ← Int.sub_eq_add_neg]
theorem divL_ht {d : List Rat} {l : Nat} (hd : Tr d) (d0 : d ≠ []) (L : HtP l d) : ∀ (n h : Nat) (q r : List Rat), Tr r → HtP h r → HtP (h + (r.length + 1 - d.length) * l) (divL n q r d).2
  | 0, h, q, r, hr, H => H.mono (by omega)
  | n + 1, h, q, r, hr, H => by
    unfold divL
    split
    · exact H.mono (by omega)
    · rename_i hl
      have h1 := stepRP_len hr hd d0 (by omega)
      have h2 := divL_ht hd d0 L n (h + l) (stepQP q r d) (stepRP r d) (tr_trim _) (H.stepRP L (lead_ne hd d0))
      refine h2.mono ?_
      obtain ⟨m, hm⟩ : ∃ m, r.length + 1 - d.length = m + 1 := ⟨r.length - d.length, by omega⟩
      have h3 : ((stepRP r d).length + 1 - d.length) * l ≤ m * l := Nat.mul_le_mul_right _ (by omega)
      rw [hm, Nat.add_mul]
      omega
theorem remP_ht {p d : List Rat} {h l : Nat} (hp : Tr p) (hd : Tr d) (d0 : d ≠ []) (H : HtP h p) (L : HtP l d) : HtP (h + (p.length + 1 - d.length) * l) (remP p d) := divL_ht hd d0 L _ _ _ _ hp H
end Go.Vw

/-
  Sizes along a chain of divisions. Conditions: as each says.
-/
namespace Go.Vw

theorem pow3_ge : ∀ e : Nat, 1 ≤ e → e + 2 ≤ 3 ^ e
  | 1, _ => by decide
  | e + 2, _ => by have := pow3_ge (e + 1) (by omega); rw [Nat.pow_succ]; omega
def Bud : Nat := 2000000
def Fit (n : Nat) (f : List Rat) (M : Nat) : Prop := HtP M f ∧ (M + 1) * 3 ^ n ≤ Bud
structure JS (a b : List Rat) (M : Nat) : Prop where
  ta : Tr a
  tb : Tr b
  lt : a ≠ [] → b.length < a.length
  ha : HtP M a
  hb : HtP M b
  bud : (M + 1) * 3 ^ a.length ≤ Bud
theorem JS.rem {a b : List Rat} {M : Nat} (h : JS a b M) (a0 : a ≠ []) (b0 : b ≠ []) : HtP ((a.length - b.length + 2) * M) (remP a b) ∧ ((a.length - b.length + 2) * M + 1 + 1) * 3 ^ b.length ≤ Bud ∧ M + (a.length + 1 - b.length) * M + M ≤ 2000000 ∧ (a.length - b.length + 2) * M ≤ 2000000 ∧ M ≤ (a.length - b.length + 2) * M := by
  have hl := h.lt a0
  have hb := ne_len b0
  obtain ⟨e, he⟩ : ∃ e, a.length - b.length = e := ⟨_, rfl⟩
  have e1 : 1 ≤ e := by omega
  have p := pow3_ge e e1
  have hr := remP_ht h.ta h.tb b0 h.ha h.hb
  rw [he]
  have e2 : a.length + 1 - b.length = e + 1 := by omega
  rw [e2] at hr ⊢
  have e3 : M + (e + 1) * M = (e + 2) * M := by rw [Nat.add_mul, Nat.add_mul]; omega
  rw [e3] at hr ⊢
  have e4 : 3 ^ a.length = 3 ^ e * 3 ^ b.length := by rw [← Nat.pow_add]; congr 1; omega
  have bud := h.bud
  rw [e4] at bud
  have k1 : (e + 2) * M + 1 + 1 ≤ (M + 1) * 3 ^ e := by
    have := Nat.mul_le_mul_left (M + 1) p
    have e5 : (M + 1) * (e + 2) = (e + 2) * M + (e + 2) := by rw [Nat.add_mul, Nat.mul_comm M]; omega
    omega
  have k2 : ((e + 2) * M + 1 + 1) * 3 ^ b.length ≤ Bud := by
    refine Nat.le_trans (Nat.mul_le_mul_right _ k1) ?_
    rw [Nat.mul_assoc]; exact bud
  have k3 : 3 ≤ 3 ^ b.length := by
    have := Nat.pow_le_pow_right (show 0 < 3 by decide) hb
    simpa using this
  have k4 : ((e + 2) * M + 1 + 1) * 3 ≤ Bud := Nat.le_trans (Nat.mul_le_mul_left _ k3) k2
  have k5 : M ≤ (e + 2) * M := Nat.le_mul_of_pos_left M (by omega)
  unfold Bud at k4
  exact ⟨hr, k2, by omega, by omega, k5⟩
structure ChOk (ch : List Rat → List Rat) : Prop where
  tr : ∀ p, Tr p → Tr (ch p)
  len : ∀ p, (ch p).length = p.length
  ht : ∀ p h, Tr p → HtP h p → HtP (h + 1) (ch p)
theorem ChOk.id : ChOk id := ⟨fun _ h => h, fun _ => rfl, fun _ _ _ h => h.mono (by omega)⟩
theorem JS.next {ch : List Rat → List Rat} (hc : ChOk ch) {a b : List Rat} {M : Nat} (h : JS a b M) (a0 : a ≠ []) (b0 : b ≠ []) : ∃ M', JS b (ch (negC (remP a b))) M' := by
  obtain ⟨h1, h2, _, _, h5⟩ := h.rem a0 b0
  have ht := tr_rem h.ta h.tb b0
  have hl := rem_len h.ta h.tb b0
  refine ⟨(a.length - b.length + 2) * M + 1, h.tb, hc.tr _ (tr_neg ht), fun _ => ?_, h.hb.mono (by omega), hc.ht _ _ (tr_neg ht) h1.neg, h2⟩
  rw [hc.len]
  show (smul (-1) _).length < _
  rw [len_smul]; exact hl
theorem JS.chain {ch : List Rat → List Rat} (hc : ChOk ch) : ∀ (n : Nat) {a b : List Rat} {M : Nat}, JS a b M → ∀ f ∈ chainL ch n a b, Tr f ∧ ∃ M', Fit f.length f M'
  | 0, _, _, _, _, f, hf => by simp [chainL] at hf
  | n + 1, a, b, M, h, f, hf => by
    rw [chainL] at hf
    split at hf
    · simp at hf
    · rename_i a0
      split at hf
      · simp only [List.mem_singleton] at hf
        subst hf
        exact ⟨h.ta, M, h.ha, h.bud⟩
      · rename_i b0
        rcases List.mem_cons.1 hf with rfl | hf
        · exact ⟨h.ta, M, h.ha, h.bud⟩
        · obtain ⟨M', h'⟩ := h.next hc a0 b0
          exact JS.chain hc n h' f hf
structure JG (p q : List Rat) : Prop where
  tp : Tr p
  tq : Tr q
  fit : ∃ M, HtP M p ∧ HtP M q ∧ (M + 1) * 3 ^ (if q.length < p.length then p.length else q.length + 1) ≤ Bud
theorem JG.step {p q : List Rat} (h : JG p q) (q0 : q ≠ []) : ∃ M, HtP M p ∧ HtP M q ∧ M + (p.length + 1 - q.length) * M + M ≤ 2000000 ∧ JG (monicP q) (remP p q) := by
  obtain ⟨M, h1, h2, h3⟩ := h.fit
  have hr := remP_ht h.tp h.tq q0 h1 h2
  have hl := rem_len h.tp h.tq q0
  have hq := ne_len q0
  have hml : (monicP q).length = q.length := len_smul _ _
  have hm := h2.monic
  have k3 : 3 ≤ 3 ^ q.length := by
    have := Nat.pow_le_pow_right (show 0 < 3 by decide) hq
    simpa using this
  obtain ⟨B, hB⟩ : ∃ B, (p.length + 1 - q.length) * M = B := ⟨_, rfl⟩
  have k1 : (M + B + 1 + 1) * 3 ^ q.length ≤ Bud := by
    by_cases c : q.length < p.length
    · rw [if_pos c] at h3
      obtain ⟨e, he⟩ : ∃ e, p.length - q.length = e := ⟨_, rfl⟩
      have p3 := pow3_ge e (by omega)
      have e4 : 3 ^ p.length = 3 ^ e * 3 ^ q.length := by rw [← Nat.pow_add]; congr 1; omega
      rw [e4, ← Nat.mul_assoc] at h3
      refine Nat.le_trans (Nat.mul_le_mul_right _ ?_) h3
      rw [show p.length + 1 - q.length = e + 1 by omega, Nat.add_mul, Nat.one_mul] at hB
      have := Nat.mul_le_mul_left (M + 1) p3
      have e5 : (M + 1) * (e + 2) = e * M + 2 * M + (e + 2) := by rw [Nat.add_mul, Nat.mul_add, Nat.mul_comm M e]; omega
      omega
    · rw [if_neg c, Nat.pow_succ, Nat.mul_comm (3 ^ q.length) 3, ← Nat.mul_assoc] at h3
      refine Nat.le_trans (Nat.mul_le_mul_right _ ?_) h3
      have : B ≤ M := by
        rw [← hB]
        rcases Nat.lt_or_ge (p.length + 1 - q.length) 1 with g | g
        · rw [show p.length + 1 - q.length = 0 by omega]; omega
        · rw [show p.length + 1 - q.length = 1 by omega]; omega
      omega
  have k2 := Nat.le_trans (Nat.mul_le_mul_left (M + B + 1 + 1) k3) k1
  unfold Bud at k2
  refine ⟨M, h1, h2, by omega, tr_monic h.tq, tr_rem h.tp h.tq q0, M + B + 1, hm.mono (by omega), (hB ▸ hr).mono (by omega), ?_⟩
  rw [hml, if_pos hl]
  exact k1
theorem JG.of {a b : List Rat} {M : Nat} (ta : Tr a) (tb : Tr b) (ha : HtP M a) (hb : HtP M b) (h : (M + 1) * 3 ^ (max a.length (b.length + 1)) ≤ Bud) : JG a b := ⟨ta, tb, M, ha, hb, by
  refine Nat.le_trans (Nat.mul_le_mul_left _ (Nat.pow_le_pow_right (by decide) ?_)) h
  split <;> omega⟩
end Go.Vw

/-
  Polynomials: products row by row, as a program forms them. Conditions: as each says.
-/
namespace Go.Vw

theorem ok_cf {p : List Rat} {K : Nat} (h : ∀ x ∈ p, okQ K x) (hK : 1 < K) (i : Nat) : okQ K (cf p i) := by
  by_cases hi : i < p.length
  · rw [cf_eq hi]; exact h _ (List.getElem_mem hi)
  · rw [cf_ge (by omega)]; exact okQ_zero hK
/-! ## Division -/
end Go.Vw

/-
  Sizes of quotients. Conditions: as each says.
-/
namespace Go.Vw

end Go.Vw

/-
  The greatest common divisor: it divides, and it goes with products. Conditions: as each says.
-/
namespace Go.Vw

def dvdP (g p : List Rat) : Prop := ∃ u, Eqv p (mulC u g)
theorem dvd_eqv {g p q : List Rat} (h : dvdP g p) (e : Eqv q p) : dvdP g q := by
  obtain ⟨u, hu⟩ := h
  exact ⟨u, e.trans hu⟩
theorem dvd_add {g p q : List Rat} (h : dvdP g p) (k : dvdP g q) : dvdP g (addC p q) := by
  obtain ⟨u, hu⟩ := h
  obtain ⟨v, hv⟩ := k
  exact ⟨addC u v, (add_eqv hu hv).trans (mul_add_l u v g).symm⟩
theorem dvd_mul {g p : List Rat} (u : List Rat) (h : dvdP g p) : dvdP g (mulC u p) := by
  obtain ⟨v, hv⟩ := h
  exact ⟨mulC u v, (mul_eqv_r u hv).trans (mul_assoc_eqv u v g).symm⟩
theorem dvd_nil (g : List Rat) : dvdP g [] := ⟨[], fun i => rfl⟩
theorem inv_lead {p : List Rat} (h : Tr p) (h0 : p ≠ []) : 1 / lead p ≠ 0 ∧ lead p * (1 / lead p) = 1 := by
  have hl := lead_ne h h0
  have h2 : lead p * (1 / lead p) = 1 := by rw [Rat.div_def, Rat.one_mul]; exact Rat.mul_inv_cancel _ hl
  exact ⟨fun e => by rw [e, Rat.mul_zero] at h2; exact absurd h2 (by decide), h2⟩
theorem dvd_monic (p : List Rat) (hT : Tr p) : dvdP (monicP p) p := by
  by_cases h0 : p = []
  · subst h0; exact dvd_nil _
  · refine ⟨[lead p], ?_⟩
    refine Eqv.symm ((mul_const (lead p) (monicP p)).trans ?_)
    unfold monicP
    rw [smul_smul, (inv_lead hT h0).2, smul_one]
    exact Eqv.refl _
theorem gcdL_dvd : ∀ (n : Nat) {p q : List Rat}, Tr p → Tr q → q.length ≤ n → dvdP (gcdL n p q) p ∧ dvdP (gcdL n p q) q
  | 0, p, q, hp, hq, h => by
    have : q = [] := List.length_eq_zero_iff.1 (by omega)
    subst this
    exact ⟨dvd_monic p hp, dvd_nil _⟩
  | n + 1, p, q, hp, hq, h => by
    rw [gcdL]
    split
    · rename_i e
      subst e
      exact ⟨dvd_monic p hp, dvd_nil _⟩
    · rename_i q0
      have hl := rem_len hp hq q0
      obtain ⟨a, b⟩ := gcdL_dvd n hq (tr_rem hp hq q0) (by omega)
      obtain ⟨s1, s2, s3, s4⟩ := divP_spec hp hq q0
      exact ⟨dvd_eqv (dvd_add (dvd_mul (divP p q).1 a) b) s4.symm, a⟩
theorem gcdP_dvd {p q : List Rat} (hp : Tr p) (hq : Tr q) : dvdP (gcdP p q) p ∧ dvdP (gcdP p q) q := gcdL_dvd _ hp hq (Nat.le_refl _)
theorem rem_of_dvd {g p : List Rat} (hp : Tr p) (hg : Tr g) (g0 : g ≠ []) (h : dvdP g p) : remP p g = [] := by
  obtain ⟨u, hu⟩ := h
  have hl := ne_len g0
  have e := divP_unique (q := trimP u) (r := []) hp hg g0 (tr_trim u) Tr.nil (by simpa using hl) (fun i => by
    rw [cf_add, mul_eqv_l g (trim_eqv u) i, ← hu i, cf_nil, Rat.add_zero])
  unfold remP
  rw [e]
def mulT (p q : List Rat) : List Rat := trimP (mulC p q)
theorem tr_mulT (p q : List Rat) : Tr (mulT p q) := tr_trim _
theorem mulT_len {p m : List Rat} (hp : Tr p) (hm : Tr m) (p0 : p ≠ []) (m0 : m ≠ []) : (mulT p m).length = p.length + m.length - 1 ∧ lead (mulT p m) = lead p * lead m := by
  obtain ⟨h1, h2⟩ := mul_len hp hm (ne_len p0) (ne_len m0)
  refine ⟨h1, ?_⟩
  have a := ne_len p0
  have b := ne_len m0
  unfold lead mulT
  rw [h1, cf_trim, show p.length + m.length - 1 - 1 = p.length + m.length - 2 by omega]
  exact h2
theorem mulT_ne {p m : List Rat} (hp : Tr p) (hm : Tr m) (p0 : p ≠ []) (m0 : m ≠ []) : mulT p m ≠ [] := fun h => by
  have := (mulT_len hp hm p0 m0).1
  rw [h] at this
  have a := ne_len p0
  have b := ne_len m0
  simp at this
  omega
theorem gcdP_tr {p q : List Rat} (hp : Tr p) (hq : Tr q) : Tr (gcdP p q) ∧ ((p ≠ [] ∨ q ≠ []) → gcdP p q ≠ [] ∧ lead (gcdP p q) = 1) := by
  have key : ∀ (n : Nat) {p q : List Rat}, Tr p → Tr q → q.length ≤ n → Tr (gcdL n p q) ∧ ((p ≠ [] ∨ q ≠ []) → gcdL n p q ≠ [] ∧ lead (gcdL n p q) = 1) := by
    intro n
    induction n with
    | zero =>
      intro p q hp hq h
      have : q = [] := List.length_eq_zero_iff.1 (by omega)
      subst this
      refine ⟨tr_monic hp, fun h => ?_⟩
      have p0 : p ≠ [] := h.resolve_right (fun h => h rfl)
      exact ⟨fun e => p0 (smul_eq_nil.1 e), lead_monic hp p0⟩
    | succ n ih =>
      intro p q hp hq h
      rw [gcdL]
      split
      · rename_i e
        subst e
        refine ⟨tr_monic hp, fun h => ?_⟩
        have p0 : p ≠ [] := h.resolve_right (fun h => h rfl)
        exact ⟨fun e => p0 (smul_eq_nil.1 e), lead_monic hp p0⟩
      · rename_i q0
        have hl := rem_len hp hq q0
        obtain ⟨a, b⟩ := ih hq (tr_rem hp hq q0) (by omega)
        exact ⟨a, fun _ => b (.inl q0)⟩
  exact key _ hp hq (Nat.le_refl _)
end Go.Vw

/-
  Sizes of products and of divisors. Conditions: as each says.
-/
namespace Go.Vw

theorem mul_num {k : Nat} {q : List Rat} {d : Int} (d0 : d ≠ 0) (Q : Nat → Int) (hq : ∀ i, ln (Q i).natAbs < k ∧ cf q i = Rat.divInt (Q i) d) {c : Int} (c0 : c ≠ 0) {h : Nat} : ∀ (p : List Rat) (P : Nat → Int), (∀ i, ln (P i).natAbs < h ∧ cf p i = Rat.divInt (P i) c) → ∃ R : Nat → Int, ∀ i, ln (R i).natAbs < h + k + p.length ∧ cf (mulC p q) i = Rat.divInt (R i) (c * d)
  | [], P, hp => ⟨fun _ => 0, fun i => ⟨by rw [show (0 : Int).natAbs = 0 from rfl, ln_zero]; have := (hq 0).1; have := (hp 0).1; simp; omega, by rw [show cf (mulC [] q) i = 0 from rfl]; exact (Rat.zero_divInt _).symm⟩⟩
  | a :: p, P, hp => by
    obtain ⟨R, hR⟩ := mul_num d0 Q hq c0 p (fun i => P (i + 1)) (fun i => hp (i + 1))
    have ha := hp 0
    rw [cf_zero] at ha
    have m0 : ∀ i, ln (P 0 * Q i).natAbs < h + k + p.length := fun i => by
      have := ln_mulZ ha.1 (hq i).1; omega
    refine ⟨fun i => match i with | 0 => P 0 * Q 0 | i + 1 => P 0 * Q (i + 1) + R i, fun i => ?_⟩
    cases i with
    | zero =>
      refine ⟨by have := m0 0; simp only [List.length_cons]; omega, ?_⟩
      rw [cf_mul0, ha.2, (hq 0).2, Rat.divInt_mul_divInt]
    | succ i =>
      refine ⟨?_, ?_⟩
      · have := ln_addZ (m0 (i + 1)) (hR i).1
        simp only [List.length_cons]; omega
      · rw [cf_mulS, (hR i).2, ha.2, (hq (i + 1)).2, Rat.divInt_mul_divInt, Rat.divInt_add_divInt _ _ (Int.mul_ne_zero c0 d0) (Int.mul_ne_zero c0 d0)]
        rw [← Int.add_mul, Rat.divInt_mul_right (Int.mul_ne_zero c0 d0)]
theorem HtP.mul {h k : Nat} {p q : List Rat} (H : HtP h p) (K : HtP k q) : HtP (h + k + p.length) (mulC p q) := by
  obtain ⟨c, P, c0, hc, hp⟩ := H
  obtain ⟨d, Q, d0, hd, hq⟩ := K
  obtain ⟨R, hR⟩ := mul_num d0 Q hq c0 p P hp
  refine ⟨c * d, R, Int.mul_ne_zero c0 d0, ?_, hR⟩
  have := ln_mulZ hc hd
  omega
theorem JG.gcd : ∀ (n : Nat) {p q : List Rat}, JG p q → q.length ≤ n → ∃ M, HtP (M + 1) (gcdP p q) ∧ (M + 1) * 3 ^ (gcdP p q).length ≤ Bud := by
  intro n
  induction n with
  | zero =>
    intro p q h hl
    have : q = [] := List.length_eq_zero_iff.1 (by omega)
    subst this
    obtain ⟨M, h1, h2, h3⟩ := h.fit
    rw [gcdP_nil]
    by_cases p0 : p = []
    · subst p0
      exact ⟨1, HtP.nil, by decide⟩
    · have := ne_len p0
      rw [if_pos (by simpa using this)] at h3
      exact ⟨M, h1.monic, by rw [show (monicP p).length = p.length from len_smul _ _]; exact h3⟩
  | succ n ih =>
    intro p q h hl
    by_cases q0 : q = []
    · subst q0; exact ih h (by simp)
    · obtain ⟨M, _, _, _, hs⟩ := h.step q0
      have e := gcdP_step h.tp h.tq q0 (a := 1 / lead q) (b := 1) (inv_lead h.tq q0).1 (by decide)
      rw [smul_one] at e
      rw [show gcdP p q = gcdP (monicP q) (remP p q) from e]
      exact ih hs (by have := rem_len h.tp h.tq q0; omega)
end Go.Vw

/-
  Sizes of quotients with one denominator, and of divisors with a budget. Conditions: as each says.
-/
namespace Go.Vw

def HtQ (h l : Nat) (r q : List Rat) : Prop := ∃ (c : Int) (P Q : Nat → Int), c ≠ 0 ∧ ln c.natAbs < h ∧ (∀ i, ln (P i).natAbs < h ∧ cf r i = Rat.divInt (P i) c) ∧ ∀ i, ln (Q i).natAbs < h + l ∧ cf q i = Rat.divInt (Q i) c
theorem HtQ.mono {h k l : Nat} {r q : List Rat} (H : HtQ h l r q) (hk : h ≤ k) : HtQ k l r q := by
  obtain ⟨c, P, Q, c0, hc, hp, hq⟩ := H
  exact ⟨c, P, Q, c0, by omega, fun i => ⟨by have := (hp i).1; omega, (hp i).2⟩, fun i => ⟨by have := (hq i).1; omega, (hq i).2⟩⟩
theorem HtQ.out {h l : Nat} {r q : List Rat} (H : HtQ h l r q) : HtP (h + l) q := by
  obtain ⟨c, P, Q, c0, hc, hp, hq⟩ := H
  exact ⟨c, Q, c0, by omega, hq⟩
theorem HtQ.step {h l : Nat} {r q d : List Rat} (H : HtQ h l r q) (L : HtP l d) (hd : lead d ≠ 0) (e : ∀ i, cf (stepQP q r d) i = if i = remK r d then remC r d else cf q i) : HtQ (h + l) l (stepRP r d) (stepQP q r d) := by
  obtain ⟨c, R, Q, c0, hc, hr, hq⟩ := H
  obtain ⟨f, E, e0, he, hE⟩ := L
  have e1 := (hE (d.length - 1)).2
  have e2 := (hr (r.length - 1)).2
  have hne := divInt_ne (a := E (d.length - 1)) (c := f) (by rw [← e1]; exact hd)
  have l0 := (hE (d.length - 1)).1
  have r0' := (hr (r.length - 1)).1
  refine ⟨c * E (d.length - 1), fun i => R i * E (d.length - 1) - (if i < remK r d then 0 else R (r.length - 1) * E (i - remK r d)), fun i => if i = remK r d then R (r.length - 1) * f else Q i * E (d.length - 1), Int.mul_ne_zero c0 hne, ?_, fun i => ⟨?_, ?_⟩, fun i => ?_⟩
  · have := ln_mulZ hc l0; omega
  · have h1 := ln_mulZ (hr i).1 l0
    have h2 : ln (if i < remK r d then 0 else R (r.length - 1) * E (i - remK r d)).natAbs < h + l - 1 := by
      split
      · show ln 0 < _; rw [ln_zero]; omega
      · exact ln_mulZ r0' (hE (i - remK r d)).1
    have := ln_subZ h1 h2
    dsimp only
    omega
  · rw [cf_stepRP, (hr i).2]
    dsimp only
    split
    · rw [Int.sub_zero, divInt_mulR hne]; grind
    · have hq : remC r d * cf d (i - remK r d) = Rat.divInt (R (r.length - 1) * E (i - remK r d)) (c * E (d.length - 1)) := by
        unfold remC lead
        rw [e1, e2, (hE (i - remK r d)).2, divInt_div2 c0 hne e0, Rat.divInt_mul_divInt]
        rw [show R (r.length - 1) * f * E (i - remK r d) = R (r.length - 1) * E (i - remK r d) * f by rw [Int.mul_assoc, Int.mul_assoc, Int.mul_comm f], divInt_mulR e0]
      rw [hq, ← divInt_mulR (a := R i) (c := c) hne, Rat.sub_eq_add_neg, Rat.neg_divInt, Rat.divInt_add_divInt _ _ (Int.mul_ne_zero c0 hne) (Int.mul_ne_zero c0 hne), ← Int.add_mul, divInt_mulR (Int.mul_ne_zero c0 hne), ← Int.sub_eq_add_neg]
  · rw [e]
    dsimp only
    split
    · refine ⟨by have := ln_mulZ r0' he; omega, ?_⟩
      unfold remC lead
      rw [e1, e2, divInt_div2 c0 hne e0]
    · refine ⟨by have := ln_mulZ (hq i).1 l0; omega, ?_⟩
      rw [(hq i).2, divInt_mulR hne]
end Go.Vw
