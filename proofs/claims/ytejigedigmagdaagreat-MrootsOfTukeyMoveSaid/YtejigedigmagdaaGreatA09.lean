/-
 Contracts of functions of the program, and the layer that they are walked with: PolX PolY HubA HubB HubC HubD VT VCl Z01 W13 W21 W22 VRf VRg Y01. Conditions: as each says.
-/
import Derived.RangeFuncRecord
import Derived.OrdersIn
import Derived.TacticsIn
import Derived.RangeFuncLeaves
import Derived.Test.YtejigedigmagdaaGreatA08
set_option linter.unnecessarySimpa false
set_option linter.unusedVariables false
set_option linter.unusedSimpArgs false
namespace Go.Vw
def mid2 (x : I2) : Rat := (x.1 + x.2) / 2
def hw (w : Rat) : Nat → Rat
 | 0 => w
 | k + 1 => hw w k / 2
theorem half_eq (x : Rat) : x / 2 * 2 = x := div_mul_cancel' (by decide)
theorem mid_bd {x : I2} (h : x.1 ≤ x.2) : x.1 ≤ mid2 x ∧ mid2 x ≤ x.2 ∧ (x.1 < x.2 → x.1 < mid2 x ∧ mid2 x < x.2) := by
 have e := half_eq (x.1 + x.2)
 unfold mid2
 generalize (x.1 + x.2) / 2 = m at *
 refine ⟨?_, ?_, fun hlt => ⟨?_, ?_⟩⟩ <;> grind
theorem least {P : Nat → Prop} : ∀ N : Nat, P N → ∃ k, k ≤ N ∧ P k ∧ ∀ j, j < k → ¬ P j
 | 0, h => ⟨0, Nat.le_refl _, h, fun j hj => absurd hj (Nat.not_lt_zero j)⟩
 | N + 1, h => by
  by_cases c : ∃ j, j ≤ N ∧ P j
  ·obtain ⟨j, hj, pj⟩ := c
   obtain ⟨k, hk, pk, hl⟩ := least j pj
   exact ⟨k, by omega, pk, hl⟩
  ·exact ⟨N + 1, Nat.le_refl _, h, fun j hj pj => c ⟨j, by omega, pj⟩⟩
termination_by N => N
decreasing_by all_goals (first | omega | skip)
theorem hw_two (w : Rat) : ∀ k, hw w k * twoQ k = w
 | 0 => by show w * twoQ 0 = w; rw [show twoQ 0 = 1 from rfl, Rat.mul_one]
 | k + 1 => by
  have e : twoQ (k + 1) = twoQ k * 2 := by
   rw [twoQ_eq, twoQ_eq, Nat.pow_succ, Rat.natCast_mul]; rfl
  have ih := hw_two w k
  have e2 := half_eq (hw w k)
  rw [e]
  show hw w k / 2 * (twoQ k * 2) = w
  generalize hw w k / 2 = d at *
  grind
theorem hw_add (w : Rat) (a : Nat) : ∀ b, hw (hw w a) b = hw w (a + b)
 | 0 => rfl
 | b + 1 => by show hw (hw w a) b / 2 = hw w (a + b) / 2; rw [hw_add w a b]
theorem hw_ok {w : Rat} {n : Nat} (h : okQ n w) : ∀ k, okQ (n + 3 * k) (hw w k)
 | 0 => h
 | k + 1 => by
  have o2 : okQ 3 (2 : Rat) := ⟨by show (limbs 2).length < 3; rw [limbs_small (by decide) (by decide)]; decide, by show (limbs 1).length < 3; rw [limbs_one]; decide⟩
  exact ((hw_ok h k).div o2 (by decide)).mono (by omega)
def Dy (D M j : Nat) (a : Rat) : Prop := ∃ A : Int, A.natAbs ≤ M * 2 ^ j ∧ a = Rat.divInt A ((D * 2 ^ j : Nat) : Int)
theorem Dy.next {D M j : Nat} {a : Rat} (h : Dy D M j a) : Dy D M (j + 1) a := by
 obtain ⟨A, h1, h2⟩ := h
 refine ⟨A * 2, ?_, ?_⟩
 ·rw [Int.natAbs_mul, Nat.pow_succ, ← Nat.mul_assoc]
  exact Nat.mul_le_mul_right 2 h1
 ·rw [h2, Nat.pow_succ, ← Nat.mul_assoc, Int.natCast_mul]
  exact (Rat.divInt_mul_right (by decide)).symm
theorem Dy.mid {D M j : Nat} (D0 : D ≠ 0) {a b : Rat} (h : Dy D M j a) (k : Dy D M j b) : Dy D M (j + 1) ((a + b) / 2) := by
 obtain ⟨A, h1, h2⟩ := h
 obtain ⟨E, k1, k2⟩ := k
 have n0 : ((D * 2 ^ j : Nat) : Int) ≠ 0 := by
  have := Nat.mul_pos (Nat.pos_of_ne_zero D0) (Nat.two_pow_pos j)
  omega
 refine ⟨A + E, ?_, ?_⟩
 ·have := Int.natAbs_add_le A E
  rw [Nat.pow_succ, ← Nat.mul_assoc]
  omega
 ·have e1 : a + b = Rat.divInt (A + E) ((D * 2 ^ j : Nat) : Int) := by
   rw [h2, k2, Rat.divInt_add_divInt _ _ n0 n0, ← Int.add_mul, Rat.divInt_mul_right n0]
  rw [e1, show (2 : Rat) = Rat.divInt 2 1 from rfl, divInt_div2 n0 (by decide) (by decide), Int.mul_one, Nat.pow_succ, ← Nat.mul_assoc, Int.natCast_mul (D * 2 ^ j) 2]
  rfl
theorem Dy.ok {D M j : Nat} (D0 : D ≠ 0) (hD : D < 4294967296 * 4294967296) (hM : M < 4294967296 * 4294967296 * 4294967296) {a : Rat} (h : Dy D M j a) : okQ (j / 32 + 5) a := by
 obtain ⟨A, h1, h2⟩ := h
 have n0 : ((D * 2 ^ j : Nat) : Int) ≠ 0 := by
  have := Nat.mul_pos (Nat.pos_of_ne_zero D0) (Nat.two_pow_pos j)
  omega
 obtain ⟨d1, d2⟩ := divInt_le A ((D * 2 ^ j : Nat) : Int) n0
 rw [← h2] at d1 d2
 have pw : 2 ^ j < B ^ (j / 32 + 1) := by
  have : B = 2 ^ 32 := rfl
  rw [this, ← Nat.pow_mul]
  exact Nat.pow_lt_pow_right (by decide) (by omega)
 have e4 : B ^ (j / 32 + 4) = 4294967296 * 4294967296 * 4294967296 * B ^ (j / 32 + 1) := by
  rw [show j / 32 + 4 = 3 + (j / 32 + 1) by omega, Nat.pow_add]; rfl
 have b1 : M * 2 ^ j < B ^ (j / 32 + 4) := by
  rw [e4]
  exact Nat.mul_lt_mul_of_lt_of_le hM (Nat.le_of_lt pw) (Nat.lt_of_le_of_lt (Nat.zero_le _) pw)
 have b2 : D * 2 ^ j < B ^ (j / 32 + 4) := by
  rw [e4]
  exact Nat.mul_lt_mul_of_lt_of_le (Nat.lt_trans hD (by decide)) (Nat.le_of_lt pw) (Nat.lt_of_le_of_lt (Nat.zero_le _) pw)
 have l1 := length_limbs_le (n := a.num.natAbs) (k := j / 32 + 4) (by omega)
 have l2 := length_limbs_le (n := a.den) (k := j / 32 + 4) (by
  rw [Int.natAbs_natCast] at d2
  omega)
 exact ⟨by omega, by omega⟩
theorem Dy.start {a b : Rat} (ha : okQ 2 a) (hb : okQ 2 b) : ∃ D M : Nat, D ≠ 0 ∧ D < 4294967296 * 4294967296 ∧ M < 4294967296 * 4294967296 * 4294967296 ∧ Dy D M 0 a ∧ Dy D M 0 b := by
 have lt : ∀ n, (limbs n).length < 2 → n < 4294967296 := fun n h => by
  have h1 := lt_pow_length n
  have h2 : B ^ (limbs n).length ≤ B ^ 1 := Nat.pow_le_pow_right (by decide) (by omega)
  have h3 : B ^ 1 = 4294967296 := rfl
  rw [h3] at h2
  exact Nat.lt_of_lt_of_le h1 h2
 have a1 := lt _ ha.1
 have a2 := lt _ ha.2
 have b1 := lt _ hb.1
 have b2 := lt _ hb.2
 have ea : Rat.divInt a.num a.den = a := Rat.num_divInt_den a
 have eb : Rat.divInt b.num b.den = b := Rat.num_divInt_den b
 have da := a.den_nz
 have db := b.den_nz
 have m1 : a.num.natAbs * b.den ≤ 4294967295 * 4294967295 := Nat.mul_le_mul (by omega) (by omega)
 have m2 : b.num.natAbs * a.den ≤ 4294967295 * 4294967295 := Nat.mul_le_mul (by omega) (by omega)
 have m3 : a.den * b.den ≤ 4294967295 * 4294967295 := Nat.mul_le_mul (by omega) (by omega)
 refine ⟨a.den * b.den, a.num.natAbs * b.den + b.num.natAbs * a.den, Nat.mul_ne_zero da db, by omega, by omega, ⟨a.num * b.den, ?_, ?_⟩, b.num * a.den, ?_, ?_⟩
 ·rw [Int.natAbs_mul, Int.natAbs_natCast, Nat.pow_zero]; omega
 ·rw [Nat.pow_zero, Nat.mul_one, Int.natCast_mul, Rat.divInt_mul_right (by omega), ea]
 ·rw [Int.natAbs_mul, Int.natAbs_natCast, Nat.pow_zero]; omega
 ·rw [Nat.pow_zero, Nat.mul_one, Nat.mul_comm, Int.natCast_mul, Rat.divInt_mul_right (by omega), eb]
theorem hullI_same {X : I2} (h : X.1 ≤ X.2) : hullI (takeI X.1 X.2) (takeI X.1 X.2) = X := by
 rw [takeI_of h]
 show ((([X.2, X.1, X.2].foldl minQ X.1), ([X.2, X.1, X.2].foldl maxQ X.1)) : I2) = X
 simp only [List.foldl_cons, List.foldl_nil]
 have e1 : minQ (minQ (minQ X.1 X.2) X.1) X.2 = X.1 := by unfold minQ; grind
 have e2 : maxQ (maxQ (maxQ X.1 X.2) X.1) X.2 = X.2 := by unfold maxQ; grind
 rw [e1, e2]
theorem two_add (a b : Nat) : twoQ (a + b) = twoQ a * twoQ b := by
 rw [twoQ_eq, twoQ_eq, twoQ_eq, Nat.pow_add, Rat.natCast_mul]
theorem two_mono {a b : Nat} (h : a ≤ b) : twoQ a ≤ twoQ b := by
 rw [twoQ_eq, twoQ_eq]
 exact Rat.natCast_le_natCast.2 (Nat.pow_le_pow_right (by decide) h)
theorem two_ge1 (a : Nat) : 1 ≤ twoQ a := by
 have := two_mono (Nat.zero_le a)
 rwa [show twoQ 0 = 1 from rfl] at this
theorem hw_pos (n : Nat) : 0 < hw 1 n := by
 have h := hw_two 1 n
 have p := twoQ_pos n
 refine Rat.not_le.1 fun hn => ?_
 have := mul_le' hn (Rat.le_of_lt p)
 rw [h, Rat.zero_mul] at this
 exact absurd this (by decide +kernel)
theorem hw_le_of {x : Rat} {n : Nat} (h : 1 ≤ x * twoQ n) : hw 1 n ≤ x := by
 have p := twoQ_pos n
 refine Rat.not_lt.1 fun hn => ?_
 have := Rat.mul_lt_mul_of_pos_right hn p
 rw [hw_two] at this
 grind
theorem ab_den (q : Rat) : ab q * ((q.den : Nat) : Rat) = ((q.num.natAbs : Nat) : Rat) := by
 have hd : ((q.den : Nat) : Rat) ≠ 0 := fun e => by
  have e0 : ((q.den : Nat) : Rat) = ((0 : Nat) : Rat) := e
  exact q.den_nz (Rat.natCast_inj.1 e0)
 have e : q * ((q.den : Nat) : Rat) = (q.num : Rat) := by
  have h1 : q = Rat.divInt q.num q.den := (Rat.num_divInt_den q).symm
  have h2 : q = (q.num : Rat) / (((q.den : Nat) : Int) : Rat) := by rw [← Rat.divInt_eq_div]; exact h1
  rw [Rat.intCast_natCast] at h2
  have h3 := div_mul_cancel' (a := (q.num : Rat)) hd
  rw [← h2] at h3
  exact h3
 have hn : (0 : Rat) ≤ ((q.den : Nat) : Rat) := by
  have e0 : ((0 : Nat) : Rat) = 0 := rfl
  rw [← e0]
  exact Rat.natCast_le_natCast.2 (Nat.zero_le _)
 have e2 : ab q * ((q.den : Nat) : Rat) = ab (q.num : Rat) := by
  rw [← e, ab_mul]
  congr 1
  unfold ab
  rw [if_neg (by grind)]
 rw [e2, ← Rat.intCast_natCast]
 unfold ab
 split
 ·rename_i hneg
  have : q.num < 0 := by
   have e0 : ((0 : Int) : Rat) = 0 := rfl
   rw [← e0] at hneg
   exact Rat.intCast_lt_intCast.1 hneg
  rw [← Rat.intCast_neg]
  congr 1
  omega
 ·rename_i hpos
  have : 0 ≤ q.num := by
   have e0 : ((0 : Int) : Rat) = 0 := rfl
   rw [← e0] at hpos
   refine Int.not_lt.1 fun h => hpos (Rat.intCast_lt_intCast.2 h)
  congr 1
  omega
theorem len_two {n H : Nat} (h : (limbs n).length < H) : n ≤ 2 ^ (32 * H) := by
 have h1 : n < B ^ (limbs n).length := lt_pow_length n
 have h2 : B ^ (limbs n).length ≤ B ^ H := Nat.pow_le_pow_right (by decide) (by omega)
 have : B = 2 ^ 32 := rfl
 rw [this, ← Nat.pow_mul, ← Nat.pow_mul] at h2
 rw [this, ← Nat.pow_mul] at h1
 omega
theorem ok_up {q : Rat} {H : Nat} (h : okQ H q) : ab q ≤ twoQ (32 * H) := by
 have e := ab_den q
 have d1 : (1 : Rat) ≤ ((q.den : Nat) : Rat) := by
  have e0 : ((1 : Nat) : Rat) = 1 := rfl
  rw [← e0]
  exact Rat.natCast_le_natCast.2 q.den_pos
 have n1 : ((q.num.natAbs : Nat) : Rat) ≤ twoQ (32 * H) := by
  rw [twoQ_eq]
  exact Rat.natCast_le_natCast.2 (len_two h.1)
 have := mul_le_mul' (Rat.le_refl (a := ab q)) d1 (by decide) (ab_nonneg q)
 rw [Rat.mul_one, e] at this
 exact Rat.le_trans this n1
theorem ok_low {q : Rat} {H : Nat} (h : okQ H q) (h0 : q ≠ 0) : hw 1 (32 * H) ≤ ab q := by
 refine hw_le_of ?_
 have e := ab_den q
 have n1 : (1 : Rat) ≤ ((q.num.natAbs : Nat) : Rat) := by
  have e0 : ((1 : Nat) : Rat) = 1 := rfl
  rw [← e0]
  refine Rat.natCast_le_natCast.2 ?_
  have : q.num ≠ 0 := fun e => h0 (Rat.num_eq_zero.1 e)
  omega
 have d2 : ((q.den : Nat) : Rat) ≤ twoQ (32 * H) := by
  rw [twoQ_eq]
  exact Rat.natCast_le_natCast.2 (len_two h.2)
 have hn : (0 : Rat) ≤ ((q.den : Nat) : Rat) := by
  have e0 : ((0 : Nat) : Rat) = 0 := rfl
  rw [← e0]
  exact Rat.natCast_le_natCast.2 (Nat.zero_le _)
 have := mul_le_mul' (Rat.le_refl (a := ab q)) d2 hn (ab_nonneg q)
 rw [e] at this
 exact Rat.le_trans n1 this
theorem ok_tail {H : Nat} {a : Rat} {p : List Rat} (h : ∀ i, okQ H (cf (a :: p) i)) : okQ H a ∧ ∀ i, okQ H (cf p i) := ⟨h 0, fun i => h (i + 1)⟩
theorem ev_up {H : Nat} : ∀ {p : List Rat}, (∀ i, okQ H (cf p i)) → ∀ x, ab x ≤ 4096 → ab (evalP p x) ≤ twoQ (32 * H + 13 * p.length)
 | [], h, x, hx => by
  have := two_ge1 (32 * H + 13 * 0)
  have e : ab (evalP [] x) = 0 := rfl
  rw [e]
  show 0 ≤ twoQ (32 * H + 13 * 0)
  grind
 | a :: p, h, x, hx => by
  obtain ⟨h1, h2⟩ := ok_tail h
  have ih := ev_up h2 x hx
  rw [ev_cons]
  have k1 := ab_add a (x * evalP p x)
  rw [ab_mul] at k1
  have k2 := mul_le_mul' hx ih (ab_nonneg _) (by decide)
  have k3 := ok_up h1
  have e1 : twoQ (32 * H + 13 * (a :: p).length) = twoQ (32 * H + 13 * p.length) * 8192 := by
   rw [List.length_cons, show 32 * H + 13 * (p.length + 1) = 32 * H + 13 * p.length + 13 by omega, two_add]
   rfl
  have e2 := two_mono (show 32 * H ≤ 32 * H + 13 * p.length by omega)
  have p0 := twoQ_pos (32 * H + 13 * p.length)
  rw [e1]
  grind
theorem lp_up {H : Nat} : ∀ {p : List Rat}, (∀ i, okQ H (cf p i)) → ∀ x y, ab x ≤ 4096 → ab y ≤ 4096 → ab (evalP p x - evalP p y) ≤ twoQ (32 * H + 14 * p.length) * ab (x - y)
 | [], h, x, y, hx, hy => by
  have := two_ge1 (32 * H + 14 * 0)
  have e : ab (evalP [] x - evalP [] y) = 0 := by show ab (0 - 0) = 0; decide +kernel
  rw [e]
  have := Rat.mul_nonneg (show 0 ≤ twoQ (32 * H + 14 * 0) by grind) (ab_nonneg (x - y))
  exact this
 | a :: p, h, x, y, hx, hy => by
  obtain ⟨h1, h2⟩ := ok_tail h
  have ih := lp_up h2 x y hx hy
  have M := ev_up h2 y hy
  rw [ev_cons, ev_cons]
  have e : a + x * evalP p x - (a + y * evalP p y) = x * (evalP p x - evalP p y) + (x - y) * evalP p y := by grind
  rw [e]
  have k1 := ab_add (x * (evalP p x - evalP p y)) ((x - y) * evalP p y)
  rw [ab_mul, ab_mul] at k1
  have k2 := mul_le_mul' hx ih (ab_nonneg _) (by decide)
  have k3 := mul_le_mul' M (Rat.le_refl (a := ab (x - y))) (ab_nonneg _) (Rat.le_of_lt (twoQ_pos _))
  have e1 : twoQ (32 * H + 14 * (a :: p).length) = twoQ (32 * H + 14 * p.length) * 16384 := by
   rw [List.length_cons, show 32 * H + 14 * (p.length + 1) = 32 * H + 14 * p.length + 14 by omega, two_add]
   rfl
  have e2 := two_mono (show 32 * H + 13 * p.length ≤ 32 * H + 14 * p.length by omega)
  have k4 := mul_le' e2 (ab_nonneg (x - y))
  rw [e1]
  have k5 := Rat.mul_nonneg (Rat.le_of_lt (twoQ_pos (32 * H + 14 * p.length))) (ab_nonneg (x - y))
  grind
def FarB (E : Nat) (a b : List Rat) : Prop := ∀ x, ab x ≤ 4096 → hw 1 E ≤ ab (evalP a x) ∨ hw 1 E ≤ ab (evalP b x)
theorem hw_mono {a b : Nat} (h : a ≤ b) : hw 1 b ≤ hw 1 a := by
 refine hw_le_of ?_
 have e := hw_two 1 a
 have := mul_le_mul' (Rat.le_refl (a := hw 1 a)) (two_mono h) (Rat.le_of_lt (twoQ_pos a)) (Rat.le_of_lt (hw_pos a))
 rw [e] at this
 exact this
theorem FarB.mono {E F : Nat} {a b : List Rat} (h : FarB E a b) (hE : E ≤ F) : FarB F a b := fun x hx => (h x hx).imp (fun e => Rat.le_trans (hw_mono hE) e) (fun e => Rat.le_trans (hw_mono hE) e)
theorem hw_split (a b : Nat) : hw 1 (a + b) = hw 1 a * hw 1 b := by
 have e1 := hw_two 1 (a + b)
 rw [two_add] at e1
 have e2 := hw_two 1 a
 have e3 := hw_two 1 b
 have pa := twoQ_pos a
 have pb := twoQ_pos b
 have : hw 1 a * hw 1 b * (twoQ a * twoQ b) = 1 := by
  have : hw 1 a * hw 1 b * (twoQ a * twoQ b) = (hw 1 a * twoQ a) * (hw 1 b * twoQ b) := by grind
  rw [this, e2, e3, Rat.one_mul]
 have pp := Rat.mul_pos pa pb
 have e4 : (hw 1 (a + b) - hw 1 a * hw 1 b) * (twoQ a * twoQ b) = 0 := by grind
 have := mul0 (a := twoQ a * twoQ b) (b := hw 1 (a + b) - hw 1 a * hw 1 b) (by rw [Rat.mul_comm]; exact e4) (Rat.ne_of_gt pp)
 grind
theorem FarB.step {a b c q : List Rat} {E κ m Hq : Nat} {k : Rat} (h : FarB E b c) (he : ∀ x, evalP a x = evalP q x * evalP b x - k * evalP c x) (hk : hw 1 κ ≤ k) (hq : ∀ i, okQ Hq (cf q i)) (hm : 32 * Hq + 13 * q.length + 1 ≤ m) : FarB (E + κ + m) a b := fun x hx => by
 by_cases hb : hw 1 (E + κ + m) ≤ ab (evalP b x)
 ·exact .inr hb
 ·left
  have hc : hw 1 E ≤ ab (evalP c x) := (h x hx).resolve_left fun e => hb (Rat.le_trans (hw_mono (by omega)) e)
  have e1 := he x
  have e2 : k * evalP c x = evalP q x * evalP b x - evalP a x := by grind
  have e3 := ab_sub (evalP q x * evalP b x) (evalP a x)
  have hk0 : 0 < k := by have := hw_pos κ; grind
  rw [← e2, ab_mul, ab_mul, show ab k = k by unfold ab; rw [if_neg (by grind)]] at e3
  have k1 := mul_le_mul' hk hc (Rat.le_of_lt (hw_pos E)) (Rat.le_of_lt hk0)
  have u1 := ev_up hq x hx
  have k2 := mul_le_mul' u1 (show ab (evalP b x) ≤ hw 1 (E + κ + m) by grind) (ab_nonneg _) (Rat.le_of_lt (twoQ_pos _))
  -- a power of two times the bound is at most half of it
  have t1 : hw 1 (E + κ + m) = hw 1 (κ + E) * hw 1 m := by rw [← hw_split]; congr 1; omega
  have t2 : twoQ (32 * Hq + 13 * q.length) * 2 ≤ twoQ m := by
   have := two_mono hm
   rw [two_add] at this
   exact this
  have t3 := hw_two 1 m
  have p1 := hw_pos m
  have p2 := hw_pos (κ + E)
  have t4 : twoQ (32 * Hq + 13 * q.length) * hw 1 m * 2 ≤ 1 := by
   have := mul_le' t2 (Rat.le_of_lt p1)
   grind
  have t5 : twoQ (32 * Hq + 13 * q.length) * hw 1 (E + κ + m) * 2 ≤ hw 1 (κ + E) := by
   have := mul_le' t4 (Rat.le_of_lt p2)
   rw [t1]
   grind
  have t6 : hw 1 (E + κ + m) * 2 ≤ hw 1 (κ + E) := by
   have h2 : hw 1 m * 2 ≤ 1 := by
    have h3 : (2 : Rat) ≤ twoQ m := by
     have h4 := two_mono (show 1 ≤ m by omega)
     rwa [show twoQ 1 = 2 from rfl] at h4
    have := mul_le' h3 (Rat.le_of_lt p1)
    grind
   have := mul_le' h2 (Rat.le_of_lt p2)
   rw [t1]
   grind
  rw [← hw_split] at k1
  grind
theorem ways2 {R : Rat → Rat → Prop} (tr : ∀ x y z, R x y → R y z → R x z) {e : Rat} (he : 0 < e) {lo hi : Rat} (hl : lo < hi) (h : ∀ x y, lo ≤ x → x < y → y ≤ hi → y - x ≤ e → R x y) : R lo hi := by
 have key : ∀ (N : Nat) (a : Rat), lo ≤ a → a < hi → hi - a ≤ (N : Rat) * e → R a hi := by
  intro N
  induction N with
  | zero =>
   intro a h1 h2 hN
   have e0 : ((0 : Nat) : Rat) = 0 := rfl
   rw [e0, Rat.zero_mul] at hN
   grind
  | succ N ih =>
   intro a h1 h2 hN
   by_cases hs : hi - a ≤ e
   ·exact h a hi h1 h2 Rat.le_refl hs
   ·refine tr a (a + e) hi (h a (a + e) h1 (by grind) (by grind) (by grind)) (ih (a + e) (by grind) (by grind) ?_)
    have e1 : ((N + 1 : Nat) : Rat) = (N : Rat) + 1 := by rw [Rat.natCast_add]; rfl
    rw [e1] at hN
    grind
 obtain ⟨N, hN⟩ := rat_le_nat ((hi - lo) / e)
 refine key N lo Rat.le_refl hl ?_
 have h3 := mul_le' hN (Rat.le_of_lt he)
 rwa [div_mul_cancel' (Rat.ne_of_gt he)] at h3
theorem sg_same {u v e : Rat} (he : 0 < e) (hu : e ≤ ab u) (hd : ab (u - v) < e) : (0 < u ∧ 0 < v) ∨ (u < 0 ∧ v < 0) := by
 have h := ab_ge (u - v)
 unfold ab at hu
 split at hu
 ·right; constructor <;> grind
 ·left; constructor <;> grind
theorem one_root {ch : List Rat → List Rat} (hc : ChS ch) {Q : List Rat} (tQ : Tr Q) (hb : Bez Q (derP Q)) {n E H : Nat} (hn : Q.length < n) (hf : FarB E Q (derP Q)) (h1 : ∀ i, okQ H (cf Q i)) (h2 : ∀ i, okQ H (cf (derP Q) i)) (hl : (derP Q).length ≤ Q.length) {lo hi : Rat} (l32 : -4096 ≤ lo) (h32 : hi ≤ 4096) (hlt : lo < hi) (hs : hi - lo ≤ hw 1 (E + (32 * H + 14 * Q.length) + 2)) : vrs ((chainL ch n Q (derP Q)).map evalP) lo - vrs ((chainL ch n Q (derP Q)).map evalP) hi ≤ 1 := by
 have dom : ∀ z, lo ≤ z → z ≤ hi → ab z ≤ 4096 := fun z a b => ab_le (by grind) (by grind)
 obtain ⟨e, he, hv⟩ := vrs_short hc (X := 4096) (by decide) tQ hb hn
 obtain ⟨K, hK, ht⟩ := taylor 4096 (by decide) Q
 generalize vrs ((chainL ch n Q (derP Q)).map evalP) = V at *
 have pe := hw_pos E
 -- how far the values go
 have var : ∀ (p : List Rat), (∀ i, okQ H (cf p i)) → p.length ≤ Q.length → ∀ x y, lo ≤ x → x ≤ hi → lo ≤ y → y ≤ hi → ab (evalP p x - evalP p y) * 4 ≤ hw 1 E := fun p hp hpl x y a b c d => by
  have k := lp_up hp x y (dom x a b) (dom y c d)
  have kd : ab (x - y) ≤ hi - lo := ab_le (by grind) (by grind)
  have t := two_mono (show 32 * H + 14 * p.length ≤ 32 * H + 14 * Q.length by omega)
  have k2 := mul_le_mul' t (Rat.le_trans kd hs) (ab_nonneg _) (Rat.le_of_lt (twoQ_pos _))
  have e1 : hw 1 (E + (32 * H + 14 * Q.length) + 2) = hw 1 E * hw 1 (32 * H + 14 * Q.length) * hw 1 2 := by rw [hw_split, hw_split]
  have e2 := hw_two 1 (32 * H + 14 * Q.length)
  have e3 : hw 1 2 * 4 = 1 := by decide +kernel
  rw [e1] at k2
  generalize hw 1 (32 * H + 14 * Q.length) = u at *
  generalize twoQ (32 * H + 14 * Q.length) = w at *
  generalize hw 1 2 = v at *
  have e4 : w * (hw 1 E * u * v) * 4 = hw 1 E := by
   have : w * (hw 1 E * u * v) * 4 = hw 1 E * (u * w) * (v * 4) := by grind
   rw [this, e2, e3, Rat.mul_one, Rat.mul_one]
  grind
 by_cases c : ∃ z, lo ≤ z ∧ z ≤ hi ∧ hw 1 E ≤ ab (evalP Q z)
 ·obtain ⟨z, z1, z2, z3⟩ := c
  have hz : V lo - V hi = 0 := by
   refine ways2 (R := fun x y => V x - V y = 0) (fun x y z a b => by omega) he hlt fun x y a b c d => ?_
   rw [hv x y (dom x a (by grind)) (dom y (by grind) c) b d]
   have v1 := var Q h1 (Nat.le_refl _) z x z1 z2 a (by grind)
   have v2 := var Q h1 (Nat.le_refl _) z y z1 z2 (by grind) c
   have s1 := sg_same (u := evalP Q z) (v := evalP Q x) pe z3 (by have := ab_nonneg (evalP Q z - evalP Q x); grind)
   have s2 := sg_same (u := evalP Q z) (v := evalP Q y) pe z3 (by have := ab_nonneg (evalP Q z - evalP Q y); grind)
   rw [if_neg (by unfold Cross; grind)]
  omega
 ·have far : ∀ z, lo ≤ z → z ≤ hi → hw 1 E ≤ ab (dEv Q z) := fun z a b => by
   rw [← eval_derP]
   exact (hf z (dom z a b)).resolve_left fun e => c ⟨z, a, b, e⟩
  obtain ⟨u, pu, mu⟩ : ∃ d, 0 < d ∧ d * (1 + K) = hw 1 E / 2 := ⟨_, div_pos' (a := hw 1 E / 2) (b := 1 + K) (by grind) (by grind)⟩
  obtain ⟨m1, m2⟩ := mn_le (Rat.le_refl (a := mn e u))
  have side : ∀ z, lo ≤ z → z ≤ hi → (0 < dEv Q lo ∧ 0 < dEv Q z) ∨ (dEv Q lo < 0 ∧ dEv Q z < 0) := fun z a b => by
   have v1 := var (derP Q) h2 hl lo z Rat.le_refl (Rat.le_of_lt hlt) a b
   rw [eval_derP, eval_derP] at v1
   exact sg_same pe (far lo Rat.le_refl (Rat.le_of_lt hlt)) (by have := ab_nonneg (dEv Q lo - dEv Q z); grind)
  have near : ∀ x y, lo ≤ x → x < y → y ≤ hi → y - x ≤ mn e u → (0 < dEv Q x → evalP Q x < evalP Q y) ∧ (dEv Q x < 0 → evalP Q y < evalP Q x) := fun x y a b c d => by
   have T := ht x y (dom x a (by grind)) (dom y (by grind) c)
   have hab : ab (y - x) = y - x := by unfold ab; rw [if_neg (by grind)]
   rw [hab] at T
   have g := ab_ge (evalP Q y - evalP Q x - (y - x) * dEv Q x)
   have f := far x a (by grind)
   have t1 : K * (y - x) < hw 1 E := near_lt hK pe (by grind) (Rat.le_trans d m2) (by grind)
   have t2 : K * (y - x) * (y - x) < hw 1 E * (y - x) := Rat.mul_lt_mul_of_pos_right t1 (by grind)
   constructor
   ·intro hp
    have : hw 1 E ≤ dEv Q x := by unfold ab at f; rw [if_neg (by grind)] at f; exact f
    have t3 := mul_le' this (show 0 ≤ y - x by grind)
    grind
   ·intro hp
    have : hw 1 E ≤ -(dEv Q x) := by unfold ab at f; rw [if_pos hp] at f; exact f
    have t3 := mul_le' this (show 0 ≤ y - x by grind)
    grind
  rcases side lo Rat.le_refl (Rat.le_of_lt hlt) with ⟨up, _⟩ | ⟨dn, _⟩
  ·have := ways2 (R := fun x y => evalP Q x < evalP Q y ∧ V x - V y = if evalP Q x < 0 ∧ 0 ≤ evalP Q y then 1 else 0) (fun x y z ⟨a1, a2⟩ ⟨b1, b2⟩ => ⟨by grind, by
    by_cases c1 : evalP Q x < 0 ∧ 0 ≤ evalP Q y
    ·rw [if_pos c1] at a2
     rw [if_neg (by grind)] at b2
     rw [if_pos (by grind)]; omega
    ·rw [if_neg c1] at a2
     by_cases c2 : evalP Q y < 0 ∧ 0 ≤ evalP Q z
     ·rw [if_pos c2] at b2
      rw [if_pos (by grind)]; omega
     ·rw [if_neg c2] at b2
      rw [if_neg (by grind)]; omega⟩) (mn_pos he pu) hlt fun x y a b c d => by
     have hx : 0 < dEv Q x := by
      rcases side x a (by grind) with ⟨_, h⟩ | ⟨h, _⟩
      ·exact h
      ·grind
     have hlt2 := (near x y a b c d).1 hx
     refine ⟨hlt2, ?_⟩
     rw [hv x y (dom x a (by grind)) (dom y (by grind) c) b (Rat.le_trans d m1)]
     by_cases c1 : evalP Q x < 0 ∧ 0 ≤ evalP Q y
     ·rw [if_pos c1, if_pos (.inl c1)]
     ·rw [if_neg c1, if_neg (by unfold Cross; grind)]
   have h3 := this.2
   split at h3 <;> omega
  ·have := ways2 (R := fun x y => evalP Q y < evalP Q x ∧ V x - V y = if 0 < evalP Q x ∧ evalP Q y ≤ 0 then 1 else 0) (fun x y z ⟨a1, a2⟩ ⟨b1, b2⟩ => ⟨by grind, by
    by_cases c1 : 0 < evalP Q x ∧ evalP Q y ≤ 0
    ·rw [if_pos c1] at a2
     rw [if_neg (by grind)] at b2
     rw [if_pos (by grind)]; omega
    ·rw [if_neg c1] at a2
     by_cases c2 : 0 < evalP Q y ∧ evalP Q z ≤ 0
     ·rw [if_pos c2] at b2
      rw [if_pos (by grind)]; omega
     ·rw [if_neg c2] at b2
      rw [if_neg (by grind)]; omega⟩) (mn_pos he pu) hlt fun x y a b c d => by
     have hx : dEv Q x < 0 := by
      rcases side x a (by grind) with ⟨h, _⟩ | ⟨_, h⟩
      ·grind
      ·exact h
     have hlt2 := (near x y a b c d).2 hx
     refine ⟨hlt2, ?_⟩
     rw [hv x y (dom x a (by grind)) (dom y (by grind) c) b (Rat.le_trans d m1)]
     by_cases c1 : 0 < evalP Q x ∧ evalP Q y ≤ 0
     ·rw [if_pos c1, if_pos (.inr c1)]
     ·rw [if_neg c1, if_neg (by unfold Cross; grind)]
   have h3 := this.2
   split at h3 <;> omega
def clampQ (d k : Rat) : Rat := if d < -k then -k else if k < d then k else d
def hub : List Rat → Rat → Rat → Rat
 | [], _, _ => 0
 | v :: x, k, t => clampQ (v - t) k + hub x k t
theorem clamp_mono {a b k : Rat} (hk : 0 < k) (h : a ≤ b) : clampQ a k ≤ clampQ b k := by
 unfold clampQ
 split <;> split <;> (try split) <;> (try split) <;> grind
theorem hub_mono {k : Rat} (hk : 0 < k) {t u : Rat} (h : t ≤ u) : ∀ x : List Rat, hub x k u ≤ hub x k t
 | [] => Rat.le_refl
 | v :: x => by
  have := hub_mono hk h x
  have c := clamp_mono hk (show v - u ≤ v - t by grind)
  unfold hub
  grind
theorem hub_append (k t : Rat) : ∀ (x y : List Rat), hub (x ++ y) k t = hub x k t + hub y k t
 | [], y => by show hub y k t = 0 + hub y k t; rw [Rat.zero_add]
 | v :: x, y => by
  have := hub_append k t x y
  show clampQ (v - t) k + hub (x ++ y) k t = clampQ (v - t) k + hub x k t + hub y k t
  rw [this]; grind
theorem hub_low {k : Rat} (hk : 0 < k) {t : Rat} : ∀ {x : List Rat}, x ≠ [] → (∀ v ∈ x, t < v) → 0 < hub x k t
 | [v], _, h => by
  have := h v List.mem_cons_self
  unfold hub hub clampQ
  rw [if_neg (by grind)]
  split <;> grind
 | v :: w :: x, _, h => by
  have ih := hub_low hk (t := t) (x := w :: x) (by simp) (fun u hu => h u (List.mem_cons_of_mem _ hu))
  have := h v List.mem_cons_self
  have c : 0 < clampQ (v - t) k := by
   unfold clampQ
   rw [if_neg (by grind)]
   split <;> grind
  show 0 < clampQ (v - t) k + hub (w :: x) k t
  grind
theorem hub_high {k : Rat} (hk : 0 < k) {t : Rat} : ∀ {x : List Rat}, x ≠ [] → (∀ v ∈ x, v < t) → hub x k t < 0
 | [v], _, h => by
  have := h v List.mem_cons_self
  unfold hub hub clampQ
  split
  ·grind
  ·rw [if_neg (by grind)]; grind
 | v :: w :: x, _, h => by
  have ih := hub_high hk (t := t) (x := w :: x) (by simp) (fun u hu => h u (List.mem_cons_of_mem _ hu))
  have := h v List.mem_cons_self
  have c : clampQ (v - t) k < 0 := by
   unfold clampQ
   split
   ·grind
   ·rw [if_neg (by grind)]; grind
  show clampQ (v - t) k + hub (w :: x) k t < 0
  grind
theorem hub_lin {k a b t : Rat} (hk : 0 < k) (h1 : a ≤ t) (h2 : t ≤ b) : ∀ {x : List Rat}, (∀ v ∈ x, (v - k ≤ a ∨ b ≤ v - k) ∧ (v + k ≤ a ∨ b ≤ v + k)) → (b - a) * hub x k t = (b - t) * hub x k a + (t - a) * hub x k b
 | [], _ => by unfold hub; grind
 | v :: x, h => by
  have ih := hub_lin hk h1 h2 (x := x) (fun u hu => h u (List.mem_cons_of_mem _ hu))
  obtain ⟨c1, c2⟩ := h v List.mem_cons_self
  have key : (b - a) * clampQ (v - t) k = (b - t) * clampQ (v - a) k + (t - a) * clampQ (v - b) k := by
   by_cases e : a = b
   ·have : t = a := by grind
    subst this
    subst e
    grind
   have hab : a < b := by grind
   rcases c1 with d1 | d1
   ·rcases c2 with d2 | d2
    ·have e1 : ∀ s, a ≤ s → clampQ (v - s) k = -k := fun s hs => by
      unfold clampQ
      split
      ·rfl
      ·rw [if_neg (by grind)]; grind
     rw [e1 t h1, e1 a Rat.le_refl, e1 b (Rat.le_of_lt hab)]; grind
    ·have e1 : ∀ s, a ≤ s → s ≤ b → clampQ (v - s) k = v - s := fun s hs hs2 => by
      unfold clampQ
      rw [if_neg (by grind), if_neg (by grind)]
     rw [e1 t h1 h2, e1 a Rat.le_refl (Rat.le_of_lt hab), e1 b (Rat.le_of_lt hab) Rat.le_refl]; grind
   ·have e1 : ∀ s, s ≤ b → clampQ (v - s) k = k := fun s hs => by
     unfold clampQ
     rw [if_neg (by grind)]
     split
     ·rfl
     ·grind
    rw [e1 t h2, e1 a (Rat.le_of_lt hab), e1 b Rat.le_refl]; grind
  show (b - a) * (clampQ (v - t) k + hub x k t) = (b - t) * (clampQ (v - a) k + hub x k a) + (t - a) * (clampQ (v - b) k + hub x k b)
  grind
structure HubSpec (x : List Rat) (k lo hi : Rat) : Prop where
 le : lo ≤ hi
 below : ∀ t, t < lo → 0 < hub x k t
 zero : ∀ t, lo ≤ t → t ≤ hi → hub x k t = 0
 above : ∀ t, hi < t → hub x k t < 0
theorem HubSpec.unique {x : List Rat} {k a b c d : Rat} (h : HubSpec x k a b) (g : HubSpec x k c d) : a = c ∧ b = d := by
 have key : ∀ {a b c d : Rat}, HubSpec x k a b → HubSpec x k c d → a ≤ c ∧ d ≤ b := fun {a b c d} h g => by
  constructor
  ·refine Rat.not_lt.1 fun e => ?_
   have h1 := g.zero c Rat.le_refl g.le
   have h2 := h.below c e
   grind
  ·refine Rat.not_lt.1 fun e => ?_
   have h1 := g.zero d g.le Rat.le_refl
   have h2 := h.above d e
   grind
 obtain ⟨a1, a2⟩ := key h g
 obtain ⟨b1, b2⟩ := key g h
 constructor <;> grind
theorem nbr {q : List Rat} (hs : q.Pairwise (· < ·)) {i : Nat} (h : i + 1 < q.length) {y : Rat} (hy : y ∈ q) : y ≤ q[i] ∨ q[i + 1] ≤ y := by
 obtain ⟨j, hj, rfl⟩ := List.getElem_of_mem hy
 have p := List.pairwise_iff_getElem.1 hs
 rcases Nat.lt_trichotomy j i with e | e | e
 ·exact .inl (Rat.le_of_lt (p j i hj (by omega) e))
 ·subst e; exact .inl Rat.le_refl
 ·rcases Nat.lt_trichotomy j (i + 1) with e2 | e2 | e2
  ·omega
  ·subst e2; exact .inr Rat.le_refl
  ·exact .inr (Rat.le_of_lt (p (i + 1) j h hj e2))
structure Brk (x : List Rat) (k : Rat) (q : List Rat) : Prop where
 asc : q.Pairwise (· < ·)
 lo : ∀ v ∈ x, v - k ∈ q
 hi : ∀ v ∈ x, v + k ∈ q
theorem Brk.lin {x q : List Rat} {k : Rat} (hk : 0 < k) (h : Brk x k q) {i : Nat} (hi : i + 1 < q.length) {t : Rat} (h1 : q[i] ≤ t) (h2 : t ≤ q[i + 1]) : (q[i + 1] - q[i]) * hub x k t = (q[i + 1] - t) * hub x k q[i] + (t - q[i]) * hub x k q[i + 1] :=
 hub_lin hk h1 h2 fun v hv => ⟨nbr h.asc hi (h.lo v hv), nbr h.asc hi (h.hi v hv)⟩
theorem pos_of_mul {a b : Rat} (ha : 0 < a) (h : 0 < a * b) : 0 < b := by
 rcases pos_cases h with ⟨_, p⟩ | ⟨p, _⟩
 ·exact p
 ·grind
theorem Brk.zeros {x q : List Rat} {k : Rat} (hk : 0 < k) (h : Brk x k q) {f l : Nat} (f0 : 0 < f) (hfl : f ≤ l) (hl : l + 1 < q.length) (zf : hub x k (q[f]'(by omega)) = 0) (zl : hub x k (q[l]'(by omega)) = 0) (pf : 0 < hub x k (q[f - 1]'(by omega))) (nl : hub x k q[l + 1] < 0) : HubSpec x k (q[f]'(by omega)) (q[l]'(by omega)) := by
 have p := List.pairwise_iff_getElem.1 h.asc
 refine ⟨?_, fun t ht => ?_, fun t h1 h2 => ?_, fun t ht => ?_⟩
 ·rcases Nat.lt_or_ge f l with e | e
  ·exact Rat.le_of_lt (p f l (by omega) (by omega) e)
  ·have : f = l := by omega
   subst this; exact Rat.le_refl
 ·obtain ⟨g, rfl⟩ : ∃ g, f = g + 1 := ⟨f - 1, by omega⟩
  simp only [Nat.add_sub_cancel] at pf
  by_cases c : t ≤ q[g]'(by omega)
  ·have := hub_mono hk c x; grind
  ·have e := h.lin hk (i := g) (by omega) (t := t) (by grind) (Rat.le_of_lt ht)
   rw [zf, Rat.mul_zero, Rat.add_zero] at e
   have h3 := Rat.mul_pos (show 0 < q[g + 1] - t by grind) pf
   exact pos_of_mul (a := q[g + 1] - q[g]) (by have := p g (g + 1) (by omega) (by omega) (by omega); grind) (by rw [e]; exact h3)
 ·have a := hub_mono hk h1 x
  have b := hub_mono hk h2 x
  grind
 ·by_cases c : q[l + 1] ≤ t
  ·have := hub_mono hk c x; grind
  ·have e := h.lin hk (i := l) hl (t := t) (Rat.le_of_lt ht) (by grind)
   rw [zl, Rat.mul_zero, Rat.zero_add] at e
   have h3 := Rat.mul_pos (show 0 < t - q[l]'(by omega) by grind) (show 0 < -hub x k q[l + 1] by grind)
   have h4 := pos_of_mul (a := q[l + 1] - q[l]'(by omega)) (b := -hub x k t) (by have := p l (l + 1) (by omega) hl (by omega); grind) (by grind)
   grind
theorem Brk.between {x q : List Rat} {k : Rat} (hk : 0 < k) (h : Brk x k q) {i : Nat} (hi : i + 1 < q.length) (p0 : 0 < hub x k q[i]) (n1 : hub x k q[i + 1] < 0) {t : Rat} (ht : (t - q[i]) * (hub x k q[i] - hub x k q[i + 1]) = hub x k q[i] * (q[i + 1] - q[i])) : HubSpec x k t t := by
 have p := List.pairwise_iff_getElem.1 h.asc i (i + 1) (by omega) hi (by omega)
 have lin := fun s h1 h2 => h.lin hk hi (t := s) h1 h2
 have hm := fun {s u : Rat} (e : s ≤ u) => hub_mono hk e x
 have mi := fun {s : Rat} => @hm s
 generalize ha : q[i] = a at *
 generalize hb : q[i + 1] = b at *
 generalize hA : hub x k a = A at *
 generalize hB : hub x k b = B at *
 have hab : 0 < b - a := by grind
 have hAB : 0 < A - B := by grind
 have t1 : a < t := by
  have h1 := Rat.mul_pos p0 hab
  rw [← ht] at h1
  have := pos_of_mul hAB (by rw [Rat.mul_comm]; exact h1)
  grind
 have t2 : t < b := by
  have h1 : (b - t) * (A - B) = (b - a) * (-B) := by grind
  have h2 := Rat.mul_pos hab (show 0 < -B by grind)
  rw [← h1] at h2
  have := pos_of_mul hAB (by rw [Rat.mul_comm]; exact h2)
  grind
 -- the sum at a place between the ends, times their distance
 have val : ∀ s, a ≤ s → s ≤ b → (b - a) * hub x k s = (t - s) * (A - B) := fun s h1 h2 => by
  rw [lin s h1 h2]
  grind
 refine ⟨Rat.le_refl, fun s hs => ?_, fun s h1 h2 => ?_, fun s hs => ?_⟩
 ·by_cases c : s ≤ a
  ·have := hm c; grind
  ·have e := val s (by grind) (by grind)
   exact pos_of_mul hab (by rw [e]; exact Rat.mul_pos (by grind) hAB)
 ·have : s = t := by grind
  subst this
  have e := val s (by grind) (by grind)
  rw [Rat.sub_self, Rat.zero_mul] at e
  exact mul0 e (Rat.ne_of_gt hab)
 ·by_cases c : b ≤ s
  ·have := hm c; grind
  ·have e := val s (by grind) (by grind)
   have h3 := Rat.mul_pos (show 0 < s - t by grind) hAB
   have := pos_of_mul hab (b := -hub x k s) (by grind)
   grind
def cmpFrom : Rat → List Rat → List Rat
 | _, [] => []
 | a, b :: l => if b = a then cmpFrom a l else b :: cmpFrom b l
def cmpL : List Rat → List Rat
 | [] => []
 | a :: l => a :: cmpFrom a l
theorem cmpFrom_mem : ∀ (l : List Rat) (a x : Rat), (x ∈ l → x = a ∨ x ∈ cmpFrom a l) ∧ (x ∈ cmpFrom a l → x ∈ l)
 | [], a, x => by simp [cmpFrom]
 | b :: l, a, x => by
  unfold cmpFrom
  split
  ·rename_i e
   obtain ⟨h1, h2⟩ := cmpFrom_mem l a x
   refine ⟨fun h => ?_, fun h => List.mem_cons_of_mem _ (h2 h)⟩
   rcases List.mem_cons.1 h with rfl | h
   ·exact .inl e
   ·exact h1 h
  ·obtain ⟨h1, h2⟩ := cmpFrom_mem l b x
   refine ⟨fun h => ?_, fun h => ?_⟩
   ·rcases List.mem_cons.1 h with rfl | h
    ·exact .inr List.mem_cons_self
    ·rcases h1 h with rfl | h
     ·exact .inr List.mem_cons_self
     ·exact .inr (List.mem_cons_of_mem _ h)
   ·rcases List.mem_cons.1 h with rfl | h
    ·exact List.mem_cons_self
    ·exact List.mem_cons_of_mem _ (h2 h)
theorem cmpL_mem {l : List Rat} {x : Rat} : x ∈ cmpL l ↔ x ∈ l := by
 cases l with
 | nil => simp [cmpL]
 | cons a l =>
  obtain ⟨h1, h2⟩ := cmpFrom_mem l a x
  unfold cmpL
  rw [List.mem_cons, List.mem_cons]
  exact ⟨fun h => h.elim .inl (fun h => .inr (h2 h)), fun h => h.elim .inl h1⟩
theorem cmpFrom_asc : ∀ (l : List Rat) (a : Rat), (∀ x ∈ l, a ≤ x) → l.Pairwise (· ≤ ·) → (∀ x ∈ cmpFrom a l, a < x) ∧ (cmpFrom a l).Pairwise (· < ·)
 | [], a, _, _ => by simp [cmpFrom]
 | b :: l, a, h, hp => by
  obtain ⟨p1, p2⟩ := List.pairwise_cons.1 hp
  unfold cmpFrom
  split
  ·exact cmpFrom_asc l a (fun x hx => h x (List.mem_cons_of_mem _ hx)) p2
  ·rename_i e
   obtain ⟨i1, i2⟩ := cmpFrom_asc l b p1 p2
   have hb := h b List.mem_cons_self
   refine ⟨fun x hx => ?_, List.pairwise_cons.2 ⟨i1, i2⟩⟩
   rcases List.mem_cons.1 hx with rfl | hx
   ·grind
   ·have := i1 x hx; grind
theorem cmpL_asc {l : List Rat} (h : l.Pairwise (· ≤ ·)) : (cmpL l).Pairwise (· < ·) := by
 cases l with
 | nil => exact List.Pairwise.nil
 | cons a l =>
  obtain ⟨p1, p2⟩ := List.pairwise_cons.1 h
  obtain ⟨i1, i2⟩ := cmpFrom_asc l a p1 p2
  exact List.pairwise_cons.2 ⟨i1, i2⟩
theorem cmpFrom_len : ∀ (l : List Rat) (a : Rat), (cmpFrom a l).length ≤ l.length
 | [], a => Nat.le_refl _
 | b :: l, a => by
  unfold cmpFrom
  split
  ·have := cmpFrom_len l a; simp; omega
  ·have := cmpFrom_len l b; simp; omega
theorem cmpL_len (l : List Rat) : (cmpL l).length ≤ l.length := by
 cases l with
 | nil => exact Nat.le_refl _
 | cons a l => have := cmpFrom_len l a; simp [cmpL]; omega
theorem cmpFrom_snoc : ∀ (l : List Rat) (a b : Rat), cmpFrom a (l ++ [b]) = cmpFrom a l ++ (if b = (a :: l).getLastD 0 then [] else [b])
 | [], a, b => by simp only [List.nil_append, cmpFrom, List.getLastD_cons, List.getLastD_nil]
 | c :: l, a, b => by
  have e : (a :: c :: l).getLastD 0 = (c :: l).getLastD 0 := by simp [List.getLastD_cons]
  rw [e, List.cons_append]
  simp only [cmpFrom]
  split
  ·rename_i h
   rw [cmpFrom_snoc l a b, h]
  ·rw [cmpFrom_snoc l c b, List.cons_append]
def endsF : List Rat → Rat → List Rat
 | [], _ => []
 | v :: x, r => (v - r) :: (v + r) :: endsF x r
theorem endsF_mem {r : Rat} : ∀ {x : List Rat} {v : Rat}, v ∈ x → v - r ∈ endsF x r ∧ v + r ∈ endsF x r
 | u :: x, v, h => by
  rcases List.mem_cons.1 h with rfl | h
  ·exact ⟨List.mem_cons_self, List.mem_cons_of_mem _ List.mem_cons_self⟩
  ·obtain ⟨a, b⟩ := endsF_mem (r := r) h
   exact ⟨List.mem_cons_of_mem _ (List.mem_cons_of_mem _ a), List.mem_cons_of_mem _ (List.mem_cons_of_mem _ b)⟩
theorem endsF_inv {r : Rat} : ∀ {x : List Rat} {y : Rat}, y ∈ endsF x r → ∃ v ∈ x, y = v - r ∨ y = v + r
 | u :: x, y, h => by
  unfold endsF at h
  rcases List.mem_cons.1 h with rfl | h
  ·exact ⟨u, List.mem_cons_self, .inl rfl⟩
  ·rcases List.mem_cons.1 h with rfl | h
   ·exact ⟨u, List.mem_cons_self, .inr rfl⟩
   ·obtain ⟨v, h1, h2⟩ := endsF_inv h
    exact ⟨v, List.mem_cons_of_mem _ h1, h2⟩
theorem endsF_len (r : Rat) : ∀ x : List Rat, (endsF x r).length = 2 * x.length
 | [] => rfl
 | v :: x => by have := endsF_len r x; simp [endsF]; omega
theorem endsF_snoc (r v : Rat) : ∀ x : List Rat, endsF (x ++ [v]) r = endsF x r ++ [v - r, v + r]
 | [] => rfl
 | u :: x => by have := endsF_snoc r v x; simp only [List.cons_append, endsF, this]
def endsQ (x : List Rat) (k : Rat) : List Rat := cmpL (srt (endsF x k))
theorem endsQ_mem {x : List Rat} {k y : Rat} : y ∈ endsQ x k ↔ y ∈ endsF x k := by
 unfold endsQ
 rw [cmpL_mem]
 exact ⟨fun h => (srt_perm _).subset h, fun h => (srt_perm _).symm.subset h⟩
theorem endsQ_brk (x : List Rat) (k : Rat) : Brk x k (endsQ x k) := ⟨cmpL_asc (srt_asc _), fun v hv => endsQ_mem.2 (endsF_mem hv).1, fun v hv => endsQ_mem.2 (endsF_mem hv).2⟩
theorem endsQ_len (x : List Rat) (k : Rat) : (endsQ x k).length ≤ 2 * x.length := by
 have := cmpL_len (srt (endsF x k))
 rw [srt_len, endsF_len] at this
 exact this
def hubV (x : List Rat) (k : Rat) (j : Nat) : Rat := hub x k ((endsQ x k).getD j 0)
theorem getD_in {q : List Rat} {j : Nat} (h : j < q.length) : q.getD j 0 = q[j] := by rw [List.getD_eq_getElem?_getD, List.getElem?_eq_getElem h]; rfl
theorem asc_le {q : List Rat} (hs : q.Pairwise (· < ·)) {i j : Nat} (hij : i ≤ j) (hj : j < q.length) : q[i]'(by omega) ≤ q[j] := by
 rcases Nat.lt_or_ge i j with e | e
 ·exact Rat.le_of_lt (List.pairwise_iff_getElem.1 hs i j (by omega) hj e)
 ·have : i = j := by omega
  subst this; exact Rat.le_refl
theorem hubV_anti {x : List Rat} {k : Rat} (hk : 0 < k) {i j : Nat} (hij : i ≤ j) (hj : j < (endsQ x k).length) : hubV x k j ≤ hubV x k i := by
 unfold hubV
 rw [getD_in hj, getD_in (show i < _ by omega)]
 exact hub_mono hk (asc_le (endsQ_brk x k).asc hij hj) x
theorem endsQ_pos {x : List Rat} {k : Rat} (x0 : x ≠ []) : 0 < (endsQ x k).length := by
 obtain ⟨v, hv⟩ := List.exists_mem_of_ne_nil x x0
 exact List.length_pos_of_mem ((endsQ_brk x k).lo v hv)
theorem hubV_first {x : List Rat} {k : Rat} (hk : 0 < k) (x0 : x ≠ []) : 0 < hubV x k 0 := by
 have h0 := endsQ_pos (k := k) x0
 unfold hubV
 rw [getD_in h0]
 refine hub_low hk x0 fun v hv => ?_
 obtain ⟨j, hj, e⟩ := List.getElem_of_mem ((endsQ_brk x k).lo v hv)
 have := asc_le (endsQ_brk x k).asc (Nat.zero_le j) hj
 grind
theorem hubV_last {x : List Rat} {k : Rat} (hk : 0 < k) (x0 : x ≠ []) : hubV x k ((endsQ x k).length - 1) < 0 := by
 have h0 := endsQ_pos (k := k) x0
 unfold hubV
 rw [getD_in (by omega)]
 refine hub_high hk x0 fun v hv => ?_
 obtain ⟨j, hj, e⟩ := List.getElem_of_mem ((endsQ_brk x k).hi v hv)
 have := asc_le (endsQ_brk x k).asc (show j ≤ (endsQ x k).length - 1 by omega) (by omega)
 grind
structure HubZ (x : List Rat) (k : Rat) (f l : Nat) : Prop where
 f0 : 0 < f
 fl : f ≤ l
 ln : l + 1 < (endsQ x k).length
 pos : ∀ j, j < f → 0 < hubV x k j
 zero : ∀ j, f ≤ j → j ≤ l → hubV x k j = 0
 neg : ∀ j, l < j → j < (endsQ x k).length → hubV x k j < 0
structure HubN (x : List Rat) (k : Rat) (i : Nat) : Prop where
 i0 : 0 < i
 ln : i < (endsQ x k).length
 pos : ∀ j, j < i → 0 < hubV x k j
 neg : ∀ j, i ≤ j → j < (endsQ x k).length → hubV x k j < 0
theorem hub_cases {x : List Rat} {k : Rat} (hk : 0 < k) (x0 : x ≠ []) : (∃ f l, HubZ x k f l) ∨ ∃ i, HubN x k i := by
 have h0 := endsQ_pos (k := k) x0
 have hf := hubV_first hk x0
 have hl := hubV_last hk x0
 obtain ⟨f, f1, f2, f3⟩ := least (P := fun j => ¬ 0 < hubV x k j) ((endsQ x k).length - 1) (by grind)
 obtain ⟨g, g1, g2, g3⟩ := least (P := fun j => hubV x k j < 0) ((endsQ x k).length - 1) hl
 have fp : 0 < f := Nat.pos_of_ne_zero fun e => by subst e; exact f2 hf
 have hfg : f ≤ g := Nat.le_of_not_lt fun e => by have := f3 g e; grind
 have pos : ∀ j, j < f → 0 < hubV x k j := fun j hj => Classical.byContradiction fun e => f3 j hj e
 have neg : ∀ j, g ≤ j → j < (endsQ x k).length → hubV x k j < 0 := fun j h1 h2 => by have := hubV_anti hk h1 h2; grind
 by_cases e : f = g
 ·subst e
  exact .inr ⟨f, fp, by omega, pos, neg⟩
 ·refine .inl ⟨f, g - 1, fp, by omega, by omega, pos, fun j h1 h2 => ?_, fun j h1 h2 => neg j (by omega) h2⟩
  have a := hubV_anti hk h1 (show j < (endsQ x k).length by omega)
  have b := g3 j (by omega)
  grind
theorem HubZ.spec {x : List Rat} {k : Rat} (hk : 0 < k) {f l : Nat} (h : HubZ x k f l) : HubSpec x k ((endsQ x k).getD f 0) ((endsQ x k).getD l 0) := by
 have e : ∀ j, j < (endsQ x k).length → hubV x k j = hub x k ((endsQ x k).getD j 0) := fun j hj => rfl
 have hfl := h.fl
 have hln := h.ln
 have hf0 := h.f0
 have a1 := h.zero f (Nat.le_refl _) h.fl
 have a2 := h.zero l h.fl (Nat.le_refl _)
 have a3 := h.pos (f - 1) (by omega)
 have a4 := h.neg (l + 1) (by omega) h.ln
 unfold hubV at a1 a2 a3 a4
 rw [getD_in (by omega)] at a1 a2 a3 a4
 rw [getD_in (by omega), getD_in (by omega)]
 exact (endsQ_brk x k).zeros hk h.f0 h.fl h.ln a1 a2 a3 a4
theorem HubN.spec {x : List Rat} {k : Rat} (hk : 0 < k) {i : Nat} (h : HubN x k i) {t : Rat} (ht : (t - (endsQ x k).getD (i - 1) 0) * (hubV x k (i - 1) - hubV x k i) = hubV x k (i - 1) * ((endsQ x k).getD i 0 - (endsQ x k).getD (i - 1) 0)) : HubSpec x k t t := by
 obtain ⟨j, rfl⟩ : ∃ j, i = j + 1 := ⟨i - 1, by have := h.i0; omega⟩
 have hln := h.ln
 have a1 := h.pos j (by omega)
 have a2 := h.neg (j + 1) (Nat.le_refl _) h.ln
 unfold hubV at a1 a2 ht
 rw [Nat.add_sub_cancel, getD_in (show j < _ by omega), getD_in hln] at ht
 rw [getD_in (by omega)] at a1 a2
 exact (endsQ_brk x k).between hk hln a1 a2 ht
theorem HubSpec.between {x : List Rat} {k lo hi m M : Rat} (hk : 0 < k) (x0 : x ≠ []) (h : HubSpec x k lo hi) (h1 : ∀ v ∈ x, m ≤ v) (h2 : ∀ v ∈ x, v ≤ M) : m ≤ lo ∧ hi ≤ M := by
 constructor
 ·refine Rat.not_lt.1 fun e => ?_
  have a := hub_low hk x0 (t := lo) fun v hv => by have := h1 v hv; grind
  have b := h.zero lo Rat.le_refl h.le
  grind
 ·refine Rat.not_lt.1 fun e => ?_
  have a := hub_high hk x0 (t := hi) fun v hv => by have := h2 v hv; grind
  have b := h.zero hi h.le Rat.le_refl
  grind
def sumR : List Rat → Rat
 | [] => 0
 | v :: x => v + sumR x
theorem hub_near {k t : Rat} : ∀ {x : List Rat}, (∀ v ∈ x, -k ≤ v - t ∧ v - t ≤ k) → hub x k t = sumR x - ((x.length : Nat) : Rat) * t
 | [], _ => by show (0 : Rat) = 0 - ((0 : Nat) : Rat) * t; have : ((0 : Nat) : Rat) = 0 := rfl; rw [this]; grind
 | v :: x, h => by
  have ih := hub_near (x := x) fun u hu => h u (List.mem_cons_of_mem _ hu)
  obtain ⟨a, b⟩ := h v List.mem_cons_self
  have c : clampQ (v - t) k = v - t := by
   unfold clampQ
   rw [if_neg (by grind), if_neg (by grind)]
  have e : (((v :: x).length : Nat) : Rat) = ((x.length : Nat) : Rat) + 1 := by rw [List.length_cons, Rat.natCast_add]; rfl
  show clampQ (v - t) k + hub x k t = v + sumR x - _
  rw [c, ih, e]; grind
theorem HubSpec.mean {x : List Rat} {k lo hi m M mu : Rat} (x0 : x ≠ []) (h : HubSpec x k lo hi) (h1 : ∀ v ∈ x, m ≤ v) (h2 : ∀ v ∈ x, v ≤ M) (hmM : m ≤ M) (hk : M - m < k) (hmu : mu * ((x.length : Nat) : Rat) = sumR x) : lo = mu ∧ hi = mu := by
 obtain ⟨b1, b2⟩ := h.between (by grind) x0 h1 h2
 have hn : (0 : Rat) < ((x.length : Nat) : Rat) := by
  have e0 : ((0 : Nat) : Rat) = 0 := rfl
  rw [← e0]
  exact Rat.natCast_lt_natCast.2 (List.length_pos_iff.2 x0)
 have key : ∀ t, m ≤ t → t ≤ M → hub x k t = 0 → t = mu := fun t a b e => by
  rw [hub_near fun v hv => by have := h1 v hv; have := h2 v hv; constructor <;> grind, ← hmu] at e
  have : (mu - t) * ((x.length : Nat) : Rat) = 0 := by grind
  rw [Rat.mul_comm] at this
  have := mul0 this (Rat.ne_of_gt hn)
  grind
 have hle := h.le
 exact ⟨key lo b1 (by grind) (h.zero lo Rat.le_refl h.le), key hi (by grind) b2 (h.zero hi h.le Rat.le_refl)⟩
end Go.Vw
set_option linter.unusedSectionVars false
namespace Go.Vw
open Go.RowKit
def copyL {α : Type} (l : List α) (o n : Nat) (l2 : List α) : List α := l.take o ++ (l2.take n ++ l.drop (o + min n l2.length))
theorem copyL_len {α : Type} {l l2 : List α} {o n : Nat} (h : o + n ≤ l.length) : (copyL l o n l2).length = l.length := by
 unfold copyL; simp; omega
theorem copyL_get {α : Type} {l l2 : List α} {o n : Nat} (h : o + n ≤ l.length) (j : Nat) : (copyL l o n l2)[j]? = if o ≤ j ∧ j < o + min n l2.length then l2[j - o]? else l[j]? := by
 unfold copyL
 have hA : (l.take o).length = o := by simp; omega
 have hB : (l2.take n).length = min n l2.length := by simp
 by_cases h1 : j < o
 ·rw [List.getElem?_append_left (by omega), List.getElem?_take, if_pos h1, if_neg (by omega)]
 ·rw [List.getElem?_append_right (by omega), hA]
  by_cases h2 : j - o < min n l2.length
  ·rw [List.getElem?_append_left (by omega), List.getElem?_take, if_pos (by omega), if_pos (by omega)]
  ·rw [List.getElem?_append_right (by omega), hB, List.getElem?_drop, if_neg (by omega)]
   congr 1; omega
section
variable {X : Ctx} {T : TypeId → Option TyD} (hT : TabOk X.P T) {all : Array Oper} {s : St} {x y : Operand} {t ty e : TypeId} {pos : String} {after : Array Edge} {g : Option (Nat × Bool)} {d : Option Tmp} {td ed : TyD} {k o n : Nat} {α : Type} {en : α → List D} {z : α} {l l2 : List α}
 (hg : gd all s ⟨d, .call ⟨.builtin .copy, #[x, y], #[t, t]⟩, ty, pos, after, g⟩ = some true) (hd : dstOk X.N d = true) (ht : T t = some td) (hds : td.desc = .slice e) (he : T e = some ed)
include hT hg hd ht hds he
end
section
variable {X : Ctx} {all : Array Oper} {o : Oper} {rest : List Oper} {Q : Exit → St → Prop} {s : St} {td ed : TyD} {α : Type} {en : α → List D} {z : α} {l l2 : List α}
end
section
variable {ex : Bool} {X : Ctx} {all : Array Oper} {o : Oper} {pre rest : List Oper} {Q : Exit → St → Prop} {s : St} {td ed : TyD} {α : Type} {en : α → List D} {z : α} {l : List α}
end
def Conv (X : Ctx) (s s' : St) : Prop := ∀ io F a w, SR X io F s a w → ∃ io' F', SR X io' F' s' a w
section
variable {X : Ctx} {s s' s'' : St}
theorem Conv.refl : Conv X s s := fun io F _ _ hs => ⟨io, F, hs⟩
theorem Conv.trans (h : Conv X s s') (k : Conv X s' s'') : Conv X s s'' := fun io F a w hs => by
 obtain ⟨io', F', hs'⟩ := h io F a w hs
 exact k io' F' a w hs'
theorem Conv.cast (t : Nat) {x : D} (y : D) (ht : s.tmps t = .d x) (hle : LeD x y) : Conv X s (s.put (some t) (.d y)) := fun io F a w hs => by
 refine ⟨io, F, hs.kept, fun u => ?_, hs.nt, hs.df, hs.bl, hs.inj, hs.ff, hs.f0, hs.st⟩
 rw [put_keys]
 simp only [St.put]
 cases hb : Nat.beq u t with
 | true =>
  have := Nat.eq_of_beq_eq_true hb
  subst this
  have hv := hs.tm u
  rw [ht] at hv
  simp only [cond_true, VR] at hv ⊢
  exact hle F w _ hv
 | false => simpa using hs.tm u
theorem Conv.frz (k : Nat) {b : Blk} (hk : s.blk k = some b) : Conv X s (s.sub k (some b)) := fun io F a w hs => by
 obtain ⟨F', hs', _⟩ := hs.freeze k hk
 exact ⟨io, F', hs'⟩
end
theorem run_clearOp {P : Program} {ev : Operand → Value} {dst : Option Tmp} {y : Operand} {t ty : TypeId} {pos : String} {after : Array Edge} {g : Option (Nat × Bool)} {w w' : World} {v : Value} (hv : (Builtin.clear_ #[t] ty #[ev y]).run P w = .ok v w') : (execOp ev ⟨dst, .call ⟨.builtin .clear, #[y], #[t]⟩, ty, pos, after, g⟩).run P w = .ok (.value v) w' := by
 simp [execOp, resolve, invoke, builtin, hv]
section
variable {X : Ctx} {T : TypeId → Option TyD} (hT : TabOk X.P T) {all : Array Oper} {s : St} {x : Operand} {t ty e : TypeId} {pos : String} {after : Array Edge} {g : Option (Nat × Bool)} {d : Option Tmp} {td ed : TyD} {k o n : Nat} {α : Type} {en : α → List D} {z : α} {l : List α}
 (hg : gd all s ⟨d, .call ⟨.builtin .clear, #[x], #[t]⟩, ty, pos, after, g⟩ = some true) (hd : dstOk X.N d = true) (ht : T t = some td) (hds : td.desc = .slice e) (he : T e = some ed)
include hT hg hd ht hds he
theorem e_clear (hx : s.opd x = .own k o n e ed.size) (hk : s.blk k = some (.data e ed.size en z l)) (hn : o + n ≤ l.length) (hzo : zeroOk ed = true) (le : LeL (D.ofV ed.zero).cells (en z)) :
    E1 X all s ⟨d, .call ⟨.builtin .clear, #[x], #[t]⟩, ty, pos, after, g⟩ ((s.withBlk k (.data e ed.size en z (copyL l o n (List.replicate n z)))).put d (.d .undef)) := by
  intro io F a w hs K Q hQ
  have hw := gd_sound (fun t _ => hs.tm t) hg
  obtain ⟨i, hi, his, hib, hiz⟩ := (hT _ _ he).inf
  obtain ⟨z1, z2, z3, z4⟩ := zeroOk_sound (F := F) (w := w) hzo
  have hund := (hT _ _ ht).und
  rw [hds] at hund
  have hv := hs.opd x
  rw [hx] at hv
  have hbr := hs.bl k _ hk
  simp only [BR] at hbr
  have lrep : (List.replicate n z).length = n := List.length_replicate
  have zero : n = 0 → (∃ p c, a.eval x = .slice p 0 c) → opWp X.P all ⟨d, .call ⟨.builtin .clear, #[x], #[t]⟩, ty, pos, after, g⟩ a w K Q := fun h0 ⟨p, c, e1⟩ => by
    have hself : copyL l o n (List.replicate n z) = l := by
      refine List.ext_getElem? fun j => ?_
      rw [copyL_get hn, if_neg (by omega)]
    have hst : s.withBlk k (.data e ed.size en z (copyL l o n (List.replicate n z))) = s := by
      rw [hself]
      refine St.eta (funext fun t => rfl) (funext fun j => ?_) rfl
      by_cases e' : j = k
      · subst e'; rw [withBlk_same, hk]
      · rw [withBlk_ne e']
    have hrun : (Builtin.clear_ #[t] ty #[a.eval x]).run X.P w = .ok (.tuple #[]) w := by
      rw [e1]
      cases p <;> simp [Builtin.clear_, run_underlying hund]
    refine opWp_value hw (run_clearOp hrun) (hQ io F _ _ ?_)
    rw [hst]
    exact hs.put (dstOk_sound hd) (VR.undef _)
  simp only [VR] at hv
  rcases hv with ⟨_, e1, h0, _⟩ | ⟨b, cap, arr, hio, e1, hcap, hcm, hh, hsz, hln⟩
  · exact zero h0 ⟨_, _, e1⟩
  · by_cases hm0 : n = 0
    · subst hm0; exact zero rfl ⟨_, _, e1⟩
    · rcases hbr with ⟨g, _⟩ | ⟨b', arr', g1, hF, hA, g4, hr⟩
      · rw [g] at hio; cases hio
      · rw [hio] at g1; cases g1
        rw [hh] at g4; cases g4
        have hlra := lra_replicate z1 z2 z3 z4 le n n (Nat.le_refl _)
        obtain ⟨news, n1, n2, n3, n4⟩ := lra_vals (List.replicate n z) 0 hlra
        rw [lrep] at n1
        have hflat : news = (List.replicate n ed.zero.cells.toList).flatten := by
          refine List.ext_getElem? fun j => ?_
          by_cases hj : j < news.length
          · have := n2 j hj
            rw [← this, Nat.zero_add, List.getElem?_toArray]
          · have hlen : (List.replicate n ed.zero.cells.toList).flatten.length = n * ed.size := by simp [z1]
            rw [List.getElem?_eq_none (by omega), List.getElem?_eq_none (by omega)]
        have hfit : o * ed.size + news.length ≤ arr.size := by
          rw [hsz, n1, Nat.add_mul]
          have : n * ed.size ≤ cap * ed.size := Nat.mul_le_mul_right _ (by omega)
          omega
        have hst := run_storeCells_at X.P b (o * ed.size) e news 0 arr w hh (by simpa using hfit) n4
        simp only [Nat.add_zero] at hst
        have hrow : (Builtin.zeroCells ed.zero.cells n).toList = news := by
          have := range_zero ed.zero.cells (by omega) n
          unfold Builtin.zeroCells
          rw [this, hflat]
        have hrun : (Builtin.clear_ #[t] ty #[a.eval x]).run X.P w = .ok (.tuple #[]) (w.setRow b (putRow arr (o * ed.size) news)) := by
          rw [e1]
          have e3 : (arr.toList.take (o * ed.size) ++ news ++ arr.toList.drop (o * ed.size + news.length)).toArray = putRow arr (o * ed.size) news := by unfold putRow; rw [List.append_assoc]
          rw [e3] at hst
          obtain ⟨n', rfl⟩ : ∃ n', n = n' + 1 := ⟨n - 1, by omega⟩
          simp [Builtin.clear_, run_underlying hund, zeroValue, typeInfo, hi, hiz, hrow, hst]
        refine opWp_value hw (run_clearOp hrun) (hQ io F _ _ (SR.put (hs.write (by rw [hk]; simp) hio hF hA hh (putRow_size hfit) (nb := .data e ed.size en z (copyL l o n (List.replicate n z))) (by rw [ln_of hk]; simp [Blk.ln, copyL_len hn]) (.inl ⟨_, _, en, z, _, rfl, fun j c' hj => ?_⟩)) (dstOk_sound hd) (VR.undef _)))
        rw [Nat.zero_add]
        rw [copyL_get hn, lrep, Nat.min_self] at hj
        split at hj
        · rename_i hc
          obtain ⟨q1, q2⟩ := n3 (j - o) c' hj
          refine ⟨q1, DRA.congr (fun i' hi' => ?_) q2⟩
          have h1 : (j - o) * ed.size + o * ed.size = j * ed.size := by rw [← Nat.add_mul]; congr 1; omega
          have h2 : (j - o + 1) * ed.size ≤ n * ed.size := Nat.mul_le_mul_right _ (by omega)
          rw [Nat.add_mul] at h2
          rw [putRow_get hfit, if_pos (by omega)]
          congr 1; omega
        · rename_i hc
          obtain ⟨q1, q2⟩ := hr j c' hj
          refine ⟨q1, DRA.congr (fun i' hi' => ?_) q2⟩
          rw [Nat.zero_add, putRow_get hfit, if_neg]
          intro hcc
          by_cases hjo : j < o
          · have : (j + 1) * ed.size ≤ o * ed.size := Nat.mul_le_mul_right _ hjo
            rw [Nat.add_mul] at this; omega
          · have : (o + n) * ed.size ≤ j * ed.size := Nat.mul_le_mul_right _ (by omega)
            rw [Nat.add_mul] at this; omega
end
section
variable {X : Ctx} {all : Array Oper} {o : Oper} {rest : List Oper} {Q : Exit → St → Prop} {s : St} {td ed : TyD} {α : Type} {en : α → List D} {z : α} {l : List α}
theorem stepClear {d : Option Tmp} {t : TypeId} {c : Call} {x : Operand} {e : TypeId} {k i n : Nat} (hop : o.op = .call c) (hc : c = ⟨.builtin .clear, #[x], #[t]⟩) (hdst : o.dst = d) (hg : gd all s o = some true) (hd : dstOk X.N d = true) (ht : X.T t = some td) (hds : td.desc = .slice e) (he : X.T e = some ed) (hx : s.opd x = .own k i n e ed.size) (hk : s.blk k = some (.data e ed.size en z l)) (hz : zeroOk ed = true) (le : LeL (D.ofV ed.zero).cells (en z)) (hn : i + n ≤ l.length) (r : awpL X all rest Q ((s.withBlk k (.data e ed.size en z (copyL l i n (List.replicate n z)))).put d (.d .undef))) : awpL X all (o :: rest) Q s := by
 obtain ⟨dst, op, ty, pos, after, g⟩ := o
 cases hop; cases hdst; subst hc
 exact awpL_step (e_clear X.ok hg hd ht hds he hx hk hn hz le) r
end
end Go.Vw
set_option maxHeartbeats 8000000
namespace Go.Proofs.YtejigedigmagdaaGreat
open Go.Vw
attribute [local irreducible] awp awpL awpR
theorem cmpL_take0 (l : List Rat) (h : l.length < 2) : cmpL l = l := by
 match l, h with
 | [], _ => rfl
 | [a], _ => rfl
theorem cmpL_snoc {l : List Rat} (h : l ≠ []) (b : Rat) : cmpL (l ++ [b]) = cmpL l ++ (if b = l.getLastD 0 then [] else [b]) := by
 cases l with
 | nil => exact absurd rfl h
 | cons a l =>
  show a :: cmpFrom a (l ++ [b]) = a :: cmpFrom a l ++ _
  rw [cmpFrom_snoc]; rfl
theorem cmpL_step {l : List Rat} {p : Nat} (h0 : 0 < p) (hp : p < l.length) : cmpL (l.take (p + 1)) = cmpL (l.take p) ++ (if l.getD p 0 = l.getD (p - 1) 0 then [] else [l.getD p 0]) := by
 have e : l.take (p + 1) = l.take p ++ [l.getD p 0] := by
  rw [List.take_add_one, List.getD_eq_getElem?_getD, List.getElem?_eq_getElem hp]; rfl
 have hne : l.take p ≠ [] := fun e => by
  have := congrArg List.length e
  rw [List.length_take, List.length_nil] at this
  omega
 have hl : (l.take p).getLastD 0 = l.getD (p - 1) 0 := by
  rw [List.getLastD_eq_getLast?, List.getLast?_eq_getElem?, List.length_take, List.getElem?_take, if_pos (by omega), show min p l.length - 1 = p - 1 by omega]
  rw [List.getD_eq_getElem?_getD]
 rw [e, cmpL_snoc hne, hl]
theorem asc_eq (x y : Rat) (hx : okQ 100000 x) (hy : okQ 100000 y) : Ret Tryz.prog 133 [qD x, qD y] (· = .bool (decide (x = y))) := by
 have cm := rational_CompareQ x y (hx.mono (by decide)) (hy.mono (by decide))
 have e : (cmpQ x y = 0) ↔ x = y := by
  unfold cmpQ
  constructor
  ·intro h
   split at h
   ·cases h
   ·split at h
    ·cases h
    ·grind
  ·intro h
   rw [h, if_neg Rat.lt_irrefl, if_neg Rat.lt_irrefl]
 by_cases h : x = y
 ·rw [e.2 h] at cm
  rw [decide_eq_true h]
  clear e
  refine ret_of_awp tab Tryz.func133 rfl rfl (lblz rfl) (fun w0 F0 => ?_)
  repeat' (first | refine wG ?_ | refine wC cm ?_ | refine wS ?_ ?_ <;> intro _ | refine finG ?_)
  rfl
 ·have h2 : cmpQ x y ≠ 0 := fun k => h (e.1 k)
  rw [decide_eq_false h]
  generalize cmpQ x y = c at *
  clear e
  refine ret_of_awp tab Tryz.func133 rfl rfl (lblz rfl) (fun w0 F0 => ?_)
  repeat' (first | refine wG ?_ | refine wC cm ?_ | refine wS ?_ ?_ <;> intro _ | refine finG ?_)
  simp [h2]
theorem compact_B (l : List Rat) (hl : l.length ≤ 1000) (ho : ∀ x ∈ l, okQ 100000 x) : RetB Tryz.prog 131 [qO l.length, .d (.fn 133 [])] (lookB [(500, qB l)]) (qO (cmpL l).length) (lookB [(500, qB (cmpL l ++ List.replicate (l.length - (cmpL l).length) 0))]) := by
 have hc := cmpL_len l
 have og : ∀ i, okQ 100000 (l.getD i 0) := fun i => ok_cf ho (by decide) i
 refine retB_of_awp tab [500] Tryz.func131 rfl rfl rfl (lblz rfl) rfl ⟨by show l.length ≤ (cmpL l ++ List.replicate (l.length - (cmpL l).length) 0).length; simp; omega, trivial⟩ (fun w0 F0 A io0 => ?_)
 by_cases h2 : l.length < 2
 ·have e := cmpL_take0 l h2
  rw [e, Nat.sub_self]
  clear hc og ho
  repeat' (first | refine wG ?_ | refine rg 6 10 ?_ | refine rg 11 10 ?_ | refine wS ?_ ?_ <;> intro _ | refine wB ?_ ?_)
  all_goals first | exact leVT | exact ⟨blkEq (by simp), trivial⟩
 ·repeat' (first | refine wG ?_ | refine rg 6 10 ?_ | refine rg 11 10 ?_ | refine wS ?_ ?_ <;> intro _ | refine wB ?_ ?_)
  refine awp_loop1 (fun (k : Nat) => ([(0, qO l.length), (1, .d (.fn 133 [])), (5, .d (.int .i64 k))], [(500, qB l)])) (fun k => 1 ≤ k ∧ k ≤ l.length ∧ cmpL (l.take k) = l.take k) (fun k => l.length - k) 1 ⟨Nat.le_refl _, by omega, cmpL_take0 _ (by rw [List.length_take]; omega)⟩ ⟨rfl, rfl, rfl, rfl⟩ ⟨rfl, trivial⟩ (fun k hk => ?_)
  obtain ⟨k1, k2, k3⟩ := hk
  by_cases h3 : k < l.length
  ·have st := cmpL_step (l := l) k1 h3
   have e1 : ((k : Int) - 1).toNat = k - 1 := by omega
   have cq := asc_eq (l.getD k 0) (l.getD ((k : Int) - 1).toNat 0) (og _) (og _)
   rw [e1] at cq
   by_cases h4 : l.getD k 0 = l.getD (k - 1) 0
   ·rw [decide_eq_true h4] at cq
    rw [← e1] at cq
    rw [if_pos h4, List.append_nil, k3] at st
    obtain ⟨k0, rfl⟩ : ∃ k0, k = k0 + 1 := ⟨k - 1, by omega⟩
    have e1' : ((((k0 + 1 : Nat) : Int)) - 1).toNat = k0 := by omega
    repeat' (first | refine wG ?_ | refine wC cq ?_ | refine rg 6 10 ?_ | refine rg 11 10 ?_ | refine wS ?_ ?_ <;> intro _ | refine wB ?_ ?_)
    have hl0 : 0 < l.length := by omega
    refine awp_loop3 (fun (L : List Rat) (m j : Nat) => ([(0, qO l.length), (1, .d (.fn 133 [])), (5, .d (.int .i64 m)), (6, .own 500 (k0 + 1) (l.length - (k0 + 1)) 27 3), (7, .d (.int .i64 j))], [(500, qB L)])) (fun L m j => 1 ≤ j ∧ k0 + 1 + j ≤ l.length ∧ m + 1 ≤ k0 + 1 + j ∧ 1 ≤ m ∧ L.length = l.length ∧ L.take m = cmpL (l.take (k0 + 1 + j)) ∧ ∀ i, k0 + 1 + j ≤ i + 1 → i < l.length → L.getD i 0 = l.getD i 0) (fun L m j => l.length - j) l (k0 + 1) 1 ⟨Nat.le_refl _, by omega, by omega, by omega, rfl, by rw [← st], fun _ _ _ => rfl⟩ ⟨rfl, rfl, rfl, rfl, rfl, rfl⟩ ⟨rfl, trivial⟩ (fun L m j hj => ?_)
    obtain ⟨j1, j2, j3, j4, j5, j6, j7⟩ := hj
    by_cases h5 : k0 + 1 + j < l.length
    ·have cs := cmpL_step (l := l) (p := k0 + 1 + j) (by omega) h5
     have ej : ((j : Int) - 1).toNat = j - 1 := by omega
     have g1 := j7 (k0 + 1 + j) (by omega) h5
     have g2 := j7 (k0 + 1 + j - 1) (by omega) (by omega)
     have cq2 := asc_eq (L.getD (k0 + 1 + j) 0) (L.getD (k0 + 1 + ((j : Int) - 1).toNat) 0) (by rw [g1]; exact og _) (by rw [ej, show k0 + 1 + (j - 1) = k0 + 1 + j - 1 by omega, g2]; exact og _)
     have e3 : L.getD (k0 + 1 + ((j : Int) - 1).toNat) 0 = l.getD (k0 + 1 + j - 1) 0 := by rw [ej, show k0 + 1 + (j - 1) = k0 + 1 + j - 1 by omega, g2]
     by_cases h6 : l.getD (k0 + 1 + j) 0 = l.getD (k0 + 1 + j - 1) 0
     ·rw [decide_eq_true (show L.getD (k0 + 1 + j) 0 = L.getD (k0 + 1 + ((j : Int) - 1).toNat) 0 by rw [g1, e3]; exact h6)] at cq2
      rw [if_pos h6, List.append_nil] at cs
      have j6' : L.take m = cmpL (l.take (k0 + 1 + (j + 1))) := by
       show L.take m = cmpL (l.take (k0 + 1 + j + 1))
       rw [cs, j6]
      clear og ho hc st cs k3 h4 h6 j6 g1 g2 e3 cq
      repeat' (first | refine wG ?_ | refine wC cq2 ?_ | refine rg 6 10 ?_ | refine rg 11 10 ?_ | refine wS ?_ ?_ <;> intro _ | refine wB ?_ ?_)
      exact ⟨L, m, j + 1, ⟨by omega, by omega, by omega, j4, j5, j6', fun i a b => j7 i (by omega) b⟩, by omega, ⟨rfl, rfl, rfl, rfl, iv (by omega), rfl⟩, rfl, trivial⟩
     ·rw [decide_eq_false (show ¬ L.getD (k0 + 1 + j) 0 = L.getD (k0 + 1 + ((j : Int) - 1).toNat) 0 by rw [g1, e3]; exact h6)] at cq2
      rw [if_neg h6] at cs
      obtain ⟨L2, hL2⟩ : ∃ L2, L.set m (L.getD (k0 + 1 + j) 0) = L2 := ⟨_, rfl⟩
      have l2 : L2.length = l.length := by rw [← hL2, List.length_set]; exact j5
      have j6' : L2.take (m + 1) = cmpL (l.take (k0 + 1 + (j + 1))) := by
       show L2.take (m + 1) = cmpL (l.take (k0 + 1 + j + 1))
       rw [cs, ← j6, ← hL2, List.take_add_one, List.getElem?_set, if_pos rfl, if_pos (by omega), List.take_set_of_le (Nat.le_refl m), g1]
       rfl
      have j7' : ∀ i, k0 + 1 + (j + 1) ≤ i + 1 → i < l.length → L2.getD i 0 = l.getD i 0 := fun i a b => by
       rw [← hL2, List.getD_eq_getElem?_getD, List.getElem?_set, if_neg (by omega), ← List.getD_eq_getElem?_getD]
       exact j7 i (by omega) b
      clear og ho hc st cs k3 h4 h6 j6 g1 g2 e3 cq j7
      repeat' (first | refine wG ?_ | refine wC cq2 ?_ | refine rg 6 10 ?_ | refine rg 11 10 ?_ | refine wS ?_ ?_ <;> intro _ | refine wB ?_ ?_)
      exact ⟨L2, m + 1, j + 1, ⟨by omega, by omega, by omega, by omega, l2, j6', j7'⟩, by omega, ⟨rfl, rfl, iv (by omega), rfl, iv (by omega), rfl⟩, blkEq hL2, trivial⟩
    ·have ee : k0 + 1 + j = l.length := by omega
     rw [ee, List.take_of_length_le (Nat.le_refl _)] at j6
     have hm : m = (cmpL l).length := by rw [← j6, List.length_take]; omega
     have hcop : copyL L m (l.length - m) (List.replicate (l.length - m) 0) = cmpL l ++ List.replicate (l.length - (cmpL l).length) 0 := by
      unfold copyL
      rw [j6, List.take_of_length_le (by rw [List.length_replicate]; omega), List.length_replicate, Nat.min_self, List.drop_eq_nil_of_le (by omega), List.append_nil, hm]
     obtain ⟨m0, rfl⟩ : ∃ m0, m = m0 + 1 := ⟨m - 1, by omega⟩
     rw [← hm] at hcop ⊢
     clear og ho st k3 h4 cq j6 j7
     repeat' (first | refine stopA 14 tt ?_ | refine wG ?_ | refine rg 6 10 ?_ | refine rg 11 10 ?_ | refine wS ?_ ?_ <;> intro _ | refine wB ?_ ?_)
     refine stopOut ?_
     refine awp_seq ?_
     refine awp_region ?_
     refine goL ?_
     refine goL ?_
     refine goL ?_
     refine stepClear (en := qC) (z := 0) rfl rfl rfl rfl rfl rfl rfl rfl rfl rfl rfl (by rw [show (qC 0 : List D) = rC r0 from congrArg rC (by decide +kernel : rq 0 = r0)]; exact leL) (by show m0 + 1 + (l.length - (m0 + 1)) ≤ L.length; omega) ?_
     repeat' (first | refine wG ?_ | refine rg 6 10 ?_ | refine rg 11 10 ?_ | refine wS ?_ ?_ <;> intro _ | refine wB ?_ ?_)
     all_goals first | exact leVT | exact ⟨blkEq hcop, trivial⟩
   ·rw [decide_eq_false h4] at cq
    rw [if_neg h4, k3] at st
    have st2 : cmpL (l.take (k + 1)) = l.take (k + 1) := by
     rw [st, List.take_add_one, List.getD_eq_getElem?_getD, List.getElem?_eq_getElem h3]; rfl
    rw [← e1] at cq
    clear og ho hc st k3 h4
    repeat' (first | refine wG ?_ | refine wC cq ?_ | refine rg 6 10 ?_ | refine rg 11 10 ?_ | refine wS ?_ ?_ <;> intro _ | refine wB ?_ ?_)
    exact ⟨k + 1, ⟨by omega, by omega, st2⟩, by omega, ⟨rfl, rfl, iv (by omega), rfl⟩, rfl, trivial⟩
  ·have e : k = l.length := by omega
   subst e
   rw [List.take_of_length_le (Nat.le_refl _)] at k3
   rw [k3, Nat.sub_self]
   clear hc og ho
   repeat' (first | refine wG ?_ | refine rg 6 10 ?_ | refine rg 11 10 ?_ | refine wS ?_ ?_ <;> intro _ | refine wB ?_ ?_)
   all_goals first | exact leVT | exact ⟨blkEq (by simp), trivial⟩
theorem made_ModW (k n : Int) (hk : -9223372036854775808 ≤ k) (hk' : k < 9223372036854775808) (h : 0 < n) (h' : n < 10000000) : Ret Tryz.prog 17 [.int .i64 k, .int .i64 n] (· = .int .i64 (k % n)) := by
 obtain ⟨t1, t2, t3⟩ := tmodFact k n h
 rw [t3]
 refine ret_of_awp tab Tryz.func17 rfl rfl (lblz rfl) (fun w0 F0 => ?_)
 repeat' (first | refine wG ?_ | refine wS ?_ ?_ <;> intro _ | refine finG ?_)
 ·rename_i hc; rw [if_pos hc]
 ·rename_i hc; rw [if_neg hc]
def numQ (v : Int) : Rat := Rat.divInt (v % 61 - 30) (1 + v.tdiv 61 % 4)
theorem made_Number (v : Int) (h1 : -9223372036854775808 ≤ v) (h2 : v < 9223372036854775808) : Ret Tryz.prog 22 [.int .i64 v] (· = qD (numQ v)) := by
 have hb : -9223372036854775808 ≤ v.tdiv 61 ∧ v.tdiv 61 < 9223372036854775808 := by
  rcases Int.le_total 0 v with h | h
  ·rw [Int.tdiv_eq_ediv_of_nonneg h]; omega
  ·obtain ⟨m, rfl⟩ : ∃ m : Int, v = -m := ⟨-v, by omega⟩
   rw [Int.neg_tdiv, Int.tdiv_eq_ediv_of_nonneg (show 0 ≤ m by omega)]; omega
 have m1 := made_ModW v 61 h1 h2 (by decide) (by decide)
 have m2 := made_ModW (v.tdiv 61) 4 hb.1 hb.2 (by decide) (by decide)
 have hw : IntKind.i64.wrap (v.tdiv 61) = v.tdiv 61 := Go.IntWalk.i64_in _ (by omega)
 have f := ref03_FractionQ (v % 61 - 30) (1 + v.tdiv 61 % 4) (by omega) (by omega) (by omega) (by omega)
 unfold numQ
 have r1 := Int.emod_nonneg v (show (61 : Int) ≠ 0 by decide)
 have r2 := Int.emod_lt_of_pos v (show (0 : Int) < 61 by decide)
 have r3 := Int.emod_nonneg (v.tdiv 61) (show (4 : Int) ≠ 0 by decide)
 have r4 := Int.emod_lt_of_pos (v.tdiv 61) (show (0 : Int) < 4 by decide)
 generalize v.tdiv 61 % 4 = z at *
 generalize v % 61 = y at *
 rw [← hw] at m2
 clear hw hb
 refine ret_of_awp tab Tryz.func22 rfl rfl (lblz rfl) (fun w0 F0 => ?_)
 repeat' (first | refine wG ?_ | refine wC m1 ?_ | refine wC m2 ?_ | refine wC f ?_ | refine wS ?_ ?_ <;> intro _ | refine finG ?_)
 all_goals rfl
theorem made_Numbers (l : List Int) (m : Nat) (hl : l.length ≤ 9223372036854775807) (hx : I64 l) (hm : m ≤ 1000) : Ret Tryz.prog 15 [i64s l, .int .i64 m] (· = qsD ((l.take m).map numQ)) := by
 refine ret_of_awp tab Tryz.func15 rfl rfl (lblz rfl) (fun w0 F0 => ?_)
 repeat' (first | refine wG ?_ | refine wS ?_ ?_ <;> intro _ | refine finG ?_)
 refine awp_adopt 5 500 27 3 qC 0 rfl ?_
 refine awp_loop1 (fun (i : Nat) => ([(0, .d (i64s l)), (1, .d (.int .i64 m)), (5, .own 500 0 ((l.take i).map numQ).length 27 3), (6, .d (.int .i64 i))], [(500, .data 27 3 qC 0 ((l.take i).map numQ))])) (fun i => i ≤ l.length ∧ i ≤ m) (fun i => m - i) 0 ⟨by omega, by omega⟩ ⟨rfl, rfl, rfl, rfl, rfl⟩ ⟨rfl, trivial⟩ (fun i hi => ?_)
 obtain ⟨i1, i2⟩ := hi
 have hlen : ((l.take i).map numQ).length = i := by simp; omega
 by_cases h3 : i < l.length ∧ i < m
 ·obtain ⟨h4, h5⟩ := h3
  have hg := hx.getD i
  have hn := made_Number (l.getD i 0) hg.1 hg.2
  have e : (l.take i).map numQ ++ [numQ (l.getD i 0)] = (l.take (i + 1)).map numQ := by
   rw [List.take_add_one, List.map_append, List.getElem?_eq_getElem h4, List.getD_eq_getElem?_getD, List.getElem?_eq_getElem h4]
   rfl
  repeat' (first | refine wG ?_ | refine wC hn ?_ | refine wS ?_ ?_ <;> intro _ | refine finG ?_)
  exact ⟨i + 1, ⟨by omega, by omega⟩, by omega, ⟨rfl, rfl, by rw [← e]; rfl, iv (by omega), rfl⟩, by rw [← e]; rfl, trivial⟩
 ·have e : l.take i = l.take m := by
   by_cases h4 : i < l.length
   ·rw [show i = m by omega]
   ·rw [List.take_of_length_le (by omega), List.take_of_length_le (by omega)]
  rw [e] at hlen ⊢
  repeat' (first | refine wG ?_ | refine wS ?_ ?_ <;> intro _ | refine finG ?_)
  all_goals rfl
theorem sameQT (x : Rat) (h : okQ 1000000000 x) : Ret Tryz.prog 25 [qD x, qD x] (· = .bool true) := by
 have := ref03_Same (rq x) (rq x) ⟨Nat.lt_trans (ok_rq h).lm (by decide), Nat.lt_trans (ok_rq h).ld (by decide)⟩ ⟨Nat.lt_trans (ok_rq h).lm (by decide), Nat.lt_trans (ok_rq h).ld (by decide)⟩
 rw [decide_eq_true rfl] at this
 exact this
theorem ref03_AbsQ (x : Rat) (h : okQ 1000000 x) : Ret Tryz.prog 50 [qD x] (· = qD (absQ x)) := by
 have sg := ref03_SignQ x (h.mono (by decide))
 have n1 := ref03_Neg (rq x) (ok_rq (h.mono (by decide)))
 rw [rv_rq] at n1
 have n2 := ref03_TakeQ x (h.mono (by decide))
 have hs : x.num.sign < 0 ↔ x < 0 := by rw [← num_lt0, ← Int.not_le, ← Int.not_le, Int.sign_nonneg_iff]
 generalize x.num.sign = s at *
 unfold absQ
 by_cases c : x < 0
 ·have hn := hs.2 c
  rw [if_pos c]
  clear hs
  refine ret_of_awp tab Tryz.func50 rfl rfl (lblz rfl) (fun w0 F0 => ?_)
  repeat' (first | refine wG ?_ | refine wC sg ?_ | refine wC n1 ?_ | refine wS ?_ ?_ <;> intro _ | refine finG ?_)
  rfl
 ·have hn := mt hs.1 c
  rw [if_neg c]
  clear hs
  refine ret_of_awp tab Tryz.func50 rfl rfl (lblz rfl) (fun w0 F0 => ?_)
  repeat' (first | refine wG ?_ | refine wC sg ?_ | refine wC n2 ?_ | refine wS ?_ ?_ <;> intro _ | refine finG ?_)
  rfl
end Go.Proofs.YtejigedigmagdaaGreat
namespace Go.Vw
open Go.RowKit
def wf (ro : Option Nat) : Fence := { fn := fun _ => True, depth := none, alive := false, round := ro }
def noDef (ops : List Oper) : Bool := ops.all fun o => match o.op with | .defer _ => false | _ => true
theorem noDef_of {ops : List Oper} (h : noDef ops = true) {o : Oper} (ho : o ∈ ops) : ∀ c, o.op ≠ .defer c := fun c e => by
 have := List.all_eq_true.1 h o ho
 rw [e] at this; cases this
def plainOp (o : Oper) : Bool := match o.op with | .move _ | .assign _ | .load _ _ | .store _ _ _ => true | _ => false
section
variable {ro : Option Nat} {n : Nat} {P : Program} {all : Array Oper} {o : Oper} {a : Act} {w : World} {K K' : Act → World → Prop} {Q Q' : Exit → Act → World → Prop}
theorem calls_in {f : FuncId} {vs : Array Value} {R R' : Ending → World → Prop} (h : Calls P f vs w R) (hr : ∀ e w', R e w' → R' e w') : CallsIn (wf ro) n P f vs w R' :=
 CallsIn.mono (show CallsIn Fence.wide n P f vs w R from callsIn_wide.2 h) hr
theorem oper_in (m : List Deferred) (hm : m = [] ∨ plainOp o = true) (hd : ∀ c, o.op ≠ .defer c) (hK : ∀ a w, K a w → K' { a with defers := m ++ a.defers } w) (hQ : ∀ e a w, e ≠ .normal → Q e a w → Q' e { a with defers := m ++ a.defers } w) (h : o.wp P a w K Q) : o.wpIn (wf ro) n P { a with defers := m ++ a.defers } w K' Q' := by
 unfold Oper.wp at h
 unfold Oper.wpIn
 refine ⟨fun f _ => trivial, ?_⟩
 rw [show (wf ro).round = ro from rfl, Oper.semAt_eq ro _ o hd]
 have hev : ({ a with defers := m ++ a.defers } : Act).eval = a.eval := rfl
 rw [hev]
 have hput : ∀ v, ({ a with defers := m ++ a.defers } : Act).put o.dst v = { (a.put o.dst v) with defers := m ++ (a.put o.dst v).defers } := fun v => by
  cases o.dst <;> rfl
 have hlo : LetsOut Q → LetsOut Q' := fun ⟨a, w, h⟩ => ⟨_, w, hQ _ _ _ (by simp) h⟩
 have hnd : ∀ d w', plainOp o = true → (execOp a.eval o).run P w ≠ .ok (.defer d) w' := fun d w' hp e => by
  obtain ⟨dst, op, ty, pos, after, g⟩ := o
  unfold plainOp at hp
  cases op <;> simp only at hp <;> first | cases hp | skip
  all_goals simp only [execOp, Sem.run_bind, Sem.run_pure] at e
  ·cases e
  ·cases e
  ·rename_i t x
   cases h2 : (Instr.loadAt t (a.eval x)).run P w <;> rw [h2] at e <;> simp [Result.andThen] at e
  ·rename_i t x y
   cases h2 : (Instr.storeAt t (a.eval x) (a.eval y)).run P w <;> rw [h2] at e <;> simp [Result.andThen] at e
 generalize hr : (execOp a.eval o).run P w = r at *
 cases r with
 | ok x w' =>
  cases x with
  | value v => simp only [Oper.upon, Oper.uponIn] at h ⊢; rw [hput]; exact hK _ _ h
  | skip => simp only [Oper.upon, Oper.uponIn] at h ⊢; rw [hput]; exact hK _ _ h
  | defer d =>
   rcases hm with rfl | hp
   ·simp only [Oper.upon, Oper.uponIn] at h ⊢
    exact hK _ _ h
   ·exact absurd rfl (hnd d w' hp)
  | enter f args =>
   simp only [Oper.upon, Oper.uponIn] at h ⊢
   refine ⟨fun h => by simp [wf] at h, calls_in h fun e w'' he => ?_⟩
   cases e with
   | returned v => simp only at he ⊢; rw [hput]; exact hK _ _ he
   | panicked chain => exact hQ _ _ _ (by simp) he
   | outgrown => exact hlo he
  | row row args =>
   simp only [Oper.upon, Oper.uponIn] at h ⊢
   refine ⟨fun h => by simp [wf] at h, fun c cs hr => ?_⟩
   obtain ⟨v, w2, q, st⟩ := h c cs
   refine ⟨v, w2, ?_, (show StepsIn (Machine.fenced P Fence.wide) P _ _ from stepsIn_wide.2 st)⟩
   show K' _ _
   rw [hput]; exact hK _ _ q
  | _ => simp only [Oper.upon] at h
 | halt x w' => cases x <;> simp only [Oper.upon, Oper.uponIn] at h ⊢ <;> first | exact h.elim | exact hQ _ _ _ (by simp) h
abbrev Act.mk' (m : List Deferred) (a : Act) : Act := { a with defers := m ++ a.defers }
theorem put_mk (m : List Deferred) (a : Act) (d : Option Tmp) (v : Value) : Act.put (Act.mk' m a) d v = Act.mk' m (a.put d v) := by cases d <;> rfl
theorem list_in (m : List Deferred) {l2 : List Oper} : ∀ (l1 : List Oper), (∀ o ∈ l1, (∀ c, o.op ≠ .defer c) ∧ (m = [] ∨ plainOp o = true)) → ∀ (a : Act) (w : World), (∀ a w, Q .normal a w → wpListIn (wf ro) n P all Q' l2 (Act.mk' m a) w) → (∀ e a w, e ≠ .normal → Q e a w → Q' e (Act.mk' m a) w) → ¬ LetsOut Q → wpList P all Q l1 a w → wpListIn (wf ro) n P all Q' (l1 ++ l2) (Act.mk' m a) w
 | [], _, a, w, h2, _, _, h => h2 _ _ h
 | o :: l1, hd, a, w, h2, hQ, hlo, h => by
  simp only [wpList] at h
  simp only [List.cons_append, wpListIn]
  split at h
  ·rename_i hw
   rw [if_pos hw]
   rcases h with h | ⟨_, h⟩
   ·exact oper_in m (hd o (by simp)).2 (hd o (by simp)).1 (fun a w hk => list_in m l1 (fun o ho => hd o (by simp [ho])) a w h2 hQ hlo hk) hQ h
   ·exact absurd h hlo
  ·rename_i hw
   rw [if_neg hw, put_mk]
   exact ⟨fun f _ => trivial, list_in m l1 (fun o ho => hd o (by simp [ho])) _ w h2 hQ hlo h⟩
theorem op_in (hd : ∀ o ∈ all.toList, ∀ c, o.op ≠ .defer c) (hlo : ¬ LetsOut Q) {i : Nat} (hK : ∀ a w, K a w → K' a w) (h : wpOp P all Q i K a w) : wpOpIn (wf ro) n P all Q i K' a w := by
 unfold wpOp at h
 unfold wpOpIn
 split
 ·rename_i ho; rw [ho] at h; exact hK _ _ h
 ·rename_i o ho
  rw [ho] at h
  simp only at h
  split at h
  ·rename_i hw
   rw [if_pos hw]
   rcases h with h | ⟨_, h⟩
   ·exact oper_in (K' := K') (Q' := Q) [] (.inl rfl) (hd o (by rw [Array.mem_toList_iff]; exact Array.mem_of_getElem? ho)) (fun a w hk => hK _ _ hk) (fun _ _ _ _ h => h) h
   ·exact absurd h hlo
  ·rename_i hw
   rw [if_neg hw]
   exact ⟨fun f _ => trivial, hK _ _ h⟩
theorem any_in {md : Region.Mode} (hd : ∀ o ∈ all.toList, ∀ c, o.op ≠ .defer c) (hlo : ¬ LetsOut Q) : ∀ (fuel : Nat) (listed : Array Bool) (a : Act) (w : World), wpAny P md all Q fuel listed a w → wpAnyIn (wf ro) n P md all Q fuel listed a w
 | 0, _, _, _, h => h
 | fuel + 1, listed, a, w, h => ⟨h.1, fun i hi => op_in hd hlo (fun a w hk => any_in hd hlo fuel _ a w hk) (h.2 i hi)⟩
end
theorem operIn_post {ro : Option Nat} {n : Nat} {P : Program} {o : Oper} {a : Act} {w : World} {K K' : Act → World → Prop} {Q Q' : Exit → Act → World → Prop} (hK : ∀ a w, K a w → K' a w) (hQ : ∀ e a w, Q e a w → Q' e a w) (h : o.wpIn (wf ro) n P a w K Q) : o.wpIn (wf ro) n P a w K' Q' := by
 unfold Oper.wpIn at *
 refine ⟨h.1, ?_⟩
 have h := h.2
 have hlo : LetsOut Q → LetsOut Q' := fun ⟨a, w, h⟩ => ⟨_, w, hQ _ _ _ h⟩
 generalize (o.semAt (wf ro).round a.eval).run P w = r at *
 cases r with
 | ok x w' =>
  cases x <;> simp only [Oper.uponIn] at h ⊢ <;>
   first
    | exact hK _ _ h
    | exact ⟨h.1, CallsIn.mono h.2 (fun e w'' he => by cases e <;> first | exact hK _ _ he | exact hQ _ _ _ he | exact hlo he)⟩
    | exact ⟨h.1, RowsIn.mono h.2 (fun _ _ he => hK _ _ he)⟩
    | exact ⟨h.1, RoundIn.mono h.2 (fun e w'' he => by cases e <;> first | exact hK _ _ he | exact hQ _ _ _ he | exact hlo he)⟩
 | halt x w' => cases x <;> simp only [Oper.uponIn] at h ⊢ <;> first | exact h | exact hQ _ _ _ h
theorem wpAnyIn_post {ro : Option Nat} {n : Nat} {P : Program} {md : Region.Mode} {all : Array Oper} {Q Q' : Exit → Act → World → Prop} (hQ : ∀ e a w, Q e a w → Q' e a w) : ∀ (fuel : Nat) (listed : Array Bool) (a : Act) (w : World), wpAnyIn (wf ro) n P md all Q fuel listed a w → wpAnyIn (wf ro) n P md all Q' fuel listed a w
 | 0, _, _, _, h => ⟨h.1, hQ _ _ _ h.2⟩
 | fuel + 1, listed, a, w, h => ⟨fun e => hQ _ _ _ (h.1 e), fun i hi => by
  have := h.2 i hi
  unfold wpOpIn at *
  split
  ·rename_i ho; rw [ho] at this; exact wpAnyIn_post hQ fuel _ a w this
  ·rename_i o ho
   rw [ho] at this
   simp only at this
   split at this
   ·rename_i hw; rw [if_pos hw]; exact operIn_post (fun a w h => wpAnyIn_post hQ fuel _ a w h) hQ this
   ·rename_i hw; rw [if_neg hw]; exact ⟨this.1, wpAnyIn_post hQ fuel _ _ w this.2⟩⟩
def liftM (m : List Deferred) (X : Ctx) (Q : Exit → St → Prop) : Exit → Act → World → Prop := fun e a w => ∃ a0, a = Act.mk' m a0 ∧ lift X Q e a0 w
def awpI (ro : Option Nat) (m : List Deferred) (X : Ctx) (c : Code) (Q : Exit → St → Prop) (s : St) : Prop := ∀ n io F a w, SR X io F s a w → c.wpIn (wf ro) n X.P (liftM m X Q) (Act.mk' m a) w
def awpLI (ro : Option Nat) (X : Ctx) (all : Array Oper) (l : List Oper) (Q : Exit → St → Prop) (s : St) : Prop := ∀ n io F a w, SR X io F s a w → wpListIn (wf ro) n X.P all (liftM [] X Q) l a w
def NoOut (Q : Exit → St → Prop) : Prop := ∀ s, ¬ Q .outgrown s
theorem NoOut.then {K : St → Prop} {Q : Exit → St → Prop} (h : NoOut Q) : NoOut (andThen K Q) := fun s hs => h s hs
theorem NoOut.block {id : Nat} {Q : Exit → St → Prop} (h : NoOut Q) : NoOut (inBlock id Q) := fun s hs => h s hs
theorem NoOut.none : NoOut (fun _ _ => False) := fun _ h => h
theorem noLets {X : Ctx} {Q : Exit → St → Prop} (h : NoOut Q) : ¬ LetsOut (lift X Q) := fun ⟨a, w, s, io, F, hq, _⟩ => h s hq
def split' (K : St → Prop) : Exit → St → Prop := andThen K (fun _ _ => False)
section
variable {ro : Option Nat} {m : List Deferred} {X : Ctx} {Q : Exit → St → Prop} {s : St}
theorem awpI_seq {x y : Code} (h : awpI ro m X x (andThen (awpI ro m X y Q) Q) s) : awpI ro m X (.seq x y) Q s := fun n io F a w hs =>
 wpIn_seq (wpIn_mono (h n io F a w hs) fun e a w ⟨a0, ea, s', io', F', hq, hs'⟩ => by
  subst ea
  cases e <;> first | exact hq _ _ _ _ _ hs' | exact ⟨a0, rfl, s', io', F', hq, hs'⟩)
theorem awpI_skip (h : Q .normal s) : awpI ro m X .skip Q s := fun n io F a _ hs => wpIn_skip ⟨a, rfl, s, io, F, h, hs⟩
theorem awpI_ret (h : Q .ret s) : awpI ro m X .ret Q s := fun n io F a _ hs => wpIn_ret ⟨a, rfl, s, io, F, h, hs⟩
theorem awpI_exit {id : Nat} (h : Q (.exit id) s) : awpI ro m X (.exit id) Q s := fun n io F a _ hs => wpIn_exit ⟨a, rfl, s, io, F, h, hs⟩
theorem awpI_block {id : Nat} {c : Code} (h : awpI ro m X c (inBlock id Q) s) : awpI ro m X (.block id c) Q s := fun n io F a w hs =>
 wpIn_block (wpIn_mono (h n io F a w hs) fun e a w ⟨a0, ea, s', io', F', hq, hs'⟩ => by
  subst ea
  cases e with
  | exit n =>
   simp only [inBlock, Exit.inBlock] at hq ⊢
   split <;> rename_i h
   ·subst h; simp only [Nat.beq_refl] at hq; exact ⟨a0, rfl, s', io', F', hq, hs'⟩
   ·have : Nat.beq n id = false := beq_of_ne h
    rw [this] at hq; exact ⟨a0, rfl, s', io', F', hq, hs'⟩
  | normal => exact ⟨a0, rfl, s', io', F', hq, hs'⟩
  | goto l => exact ⟨a0, rfl, s', io', F', hq, hs'⟩
  | ret => exact ⟨a0, rfl, s', io', F', hq, hs'⟩
  | panic c => exact ⟨a0, rfl, s', io', F', hq, hs'⟩
  | outgrown => exact ⟨a0, rfl, s', io', F', hq, hs'⟩)
theorem awpI_cond {c : Operand} {x y : Code} {t : Bool} (hc : s.opd c = .d (.bool t)) (h1 : t = true → awpI ro m X x Q s) (h2 : t = false → awpI ro m X y Q s) : awpI ro m X (.cond c x y) Q s := fun n io F a w hs => by
 have := hs.opd c
 rw [hc] at this
 simp only [VR, DR] at this
 have hev : (Act.mk' m a).eval c = .bool t := this
 exact wpIn_cond_split hev (fun e => h1 e _ _ _ _ _ hs) (fun e => h2 e _ _ _ _ _ hs)
theorem awpI_region {id : Nat} {l : List Oper} (h : awpL X l.toArray l Q s) (hQ : NoOut Q) (hd : noDef l = true := by rfl) (hm : m = [] ∨ l.all plainOp = true := by first | exact .inl rfl | exact .inr rfl) : awpI ro m X (.region id l.toArray false) Q s := fun n io F a w hs => by
 refine wpIn_region_lit ?_
 have := list_in (ro := ro) (n := n) (all := l.toArray) (Q' := liftM m X Q) m (l2 := []) l (fun o ho => ⟨noDef_of hd ho, hm.imp (fun h => h) fun h => List.all_eq_true.1 h o ho⟩) a w (fun a w h => wpListIn_nil ⟨a, rfl, h⟩) (fun e a w _ h => ⟨a, rfl, h⟩) (noLets hQ) (h io F a w hs)
 rwa [List.append_nil] at this
theorem awpI_parts {id : Nat} (l1 l2 : List Oper) (h : awpL X (l1 ++ l2).toArray l1 (split' (awpLI ro X (l1 ++ l2).toArray l2 Q)) s) (hd : noDef l1 = true := by rfl) : awpI ro [] X (.region id (l1 ++ l2).toArray false) Q s := fun n io F a w hs => by
 refine wpIn_region_lit ?_
 exact list_in (ro := ro) (n := n) (all := (l1 ++ l2).toArray) (Q' := liftM [] X Q) [] (l2 := l2) l1 (fun o ho => ⟨noDef_of hd ho, .inl rfl⟩) a w (fun a w ⟨s', io', F', hq, hs'⟩ => hq n io' F' a w hs') (fun e a w hne ⟨s', io', F', hq, hs'⟩ => by cases e <;> first | (exact absurd rfl hne) | exact hq.elim) (noLets NoOut.none.then) (h io F a w hs)
theorem awpLI_all {all : Array Oper} {l : List Oper} (h : awpL X all l Q s) (hQ : NoOut Q) (hd : noDef l = true := by rfl) : awpLI ro X all l Q s := fun n io F a w hs => by
 have := list_in (ro := ro) (n := n) (all := all) (Q' := liftM [] X Q) [] (l2 := []) l (fun o ho => ⟨noDef_of hd ho, .inl rfl⟩) a w (fun a w h => wpListIn_nil ⟨a, rfl, h⟩) (fun e a w _ h => ⟨a, rfl, h⟩) (noLets hQ) (h io F a w hs)
 rwa [List.append_nil] at this
theorem awpI_any {id : Nat} {ops : List Oper} (hm : X.P.follows .mixedOrders = true) (h : regAny X ops Q s) (hQ : NoOut Q) (hd : noDef ops = true) : awpI ro [] X (.region id ops.toArray true) Q s := fun n io F a w hs => by
 refine wpIn_region_any hm ?_
 have := any_in (ro := ro) (n := n) (all := ops.toArray) (fun o ho => noDef_of hd (by simpa using ho)) (noLets hQ) _ _ _ _ (h io F a w hs)
 exact wpAnyIn_post (fun e a w h => ⟨a, rfl, h⟩) _ _ _ _ this
end
theorem awpI_loop1 {ro : Option Nat} {α : Type} {X : Ctx} {c : Code} {Q : Exit → St → Prop} {s : St} (st : α → List (Nat × V) × List (Nat × Blk)) (I : α → Prop) (mu : α → Nat) (x0 : α) (h0 : I x0) (ht : AllT s (st x0).1) (hb : AllB s (st x0).2)
    (round : ∀ x, I x → awpI ro [] X c (andThen (fun s' => ∃ y, I y ∧ mu y < mu x ∧ AllT s' (st y).1 ∧ AllB s' (st y).2) Q) (St.of (st x).1 (st x).2)) (hc : ∀ x, (coverT (st x).2 (st x).1 && coverB (st x).2 (st x).2) = true := by exact fun _ => rfl) : awpI ro [] X (.loop c) Q s := by
  intro n io F a w hs b k cs hro hb' hr
  have key : ∀ n' x io F a w, mu x = n' → I x → SR X io F (St.of (st x).1 (st x).2) a w → ∃ e a' w', liftM [] X Q e a' w' ∧ ArrivesIn (Machine.fenced X.P (wf ro)) X.P (lone (b.atR a (.code c :: .inLoop c :: k)) cs w) b k cs e a' w' := by
    intro n'
    induction n' using Nat.strongRecOn with
    | _ n' ih =>
      intro x io F a w hn hI hs
      obtain ⟨e, a₁, w₁, ⟨a0, ea, s₁, io₁, F₁, hq, hs₁⟩, harr⟩ := round x hI n io F a w hs b (.inLoop c :: k) cs hro hb' hr
      have ea : a₁ = a0 := ea
      subst ea
      cases e with
      | normal =>
        obtain ⟨y, hI₁, hlt, hty, hby⟩ := hq
        obtain ⟨e₂, a₂, w₂, hq₂, harr₂⟩ := ih (mu y) (hn ▸ hlt) y io₁ F₁ a₁ w₁ rfl hI₁ (hs₁.slots hty hby (hc y))
        exact ⟨e₂, a₂, w₂, hq₂, .of_steps (StepsIn.trans harr (.one (fenced_calm hb' hr rfl) stepR_inLoop)) harr₂⟩
      | exit id => exact ⟨_, a₁, w₁, ⟨a₁, rfl, s₁, io₁, F₁, hq, hs₁⟩, .pass (x := .inLoop c) rfl (fun _ _ => .inl (by simp)) harr⟩
      | goto l => exact ⟨_, a₁, w₁, ⟨a₁, rfl, s₁, io₁, F₁, hq, hs₁⟩, .pass (x := .inLoop c) rfl (fun _ _ => .inl (by simp)) harr⟩
      | ret => exact ⟨_, a₁, w₁, ⟨a₁, rfl, s₁, io₁, F₁, hq, hs₁⟩, .pass (x := .inLoop c) rfl (fun _ _ => .inl (by simp)) harr⟩
      | panic ch => exact ⟨_, a₁, w₁, ⟨a₁, rfl, s₁, io₁, F₁, hq, hs₁⟩, .pass (x := .inLoop c) rfl (fun _ _ => .inl (by simp)) harr⟩
      | outgrown => exact ⟨_, a₁, w₁, ⟨a₁, rfl, s₁, io₁, F₁, hq, hs₁⟩, .pass (x := .inLoop c) rfl (fun _ _ => .inl (by simp)) harr⟩
  obtain ⟨e, a', w', hq, harr⟩ := key _ x0 io F a w rfl h0 (hs.slots ht hb (hc x0))
  exact ⟨e, a', w', hq, .of_steps (.one (fenced_calm hb' hr rfl) stepR_loop) harr⟩
def YieldC (P : Program) (L : Nat) (A0 F0 : Nat → Prop) (w0 : World) (io0 : Nat → Option Nat) (xs : List V) (bs bs' : List (Nat × Blk)) : Prop :=
 ∀ io F w (vs : Array Value), Kept A0 w0 w → (∀ b, F0 b → F b) → (∀ b, F b → b < w.heap.size ∧ (F0 b ∨ w0.heap.size ≤ b ∨ A0 b)) → (∀ k, lookB bs k ≠ none → io k = io0 k) → vs.size = xs.length → VRT ⟨io, lnO (lookB bs)⟩ F w (fun i => vs[i]?) 0 xs → BsR (OwnA (lookB bs) io) w.heap.size io F w (lookB bs) →
  ∃ fn tmps assign body, (Instr.yield L vs).run P w = .ok (.round L fn tmps assign body) w ∧ ∀ n, RoundIn Fence.wide n P L fn tmps assign body w fun e w' => e = .returned (.bool true) ∧ ∃ io' F', Kept (OwnA (lookB bs) io) w w' ∧ (∀ b, F b → F' b) ∧ (∀ b, F' b → b < w'.heap.size ∧ (F b ∨ w.heap.size ≤ b ∨ OwnA (lookB bs) io b)) ∧ (∀ k, lookB bs k ≠ none → io' k = io k) ∧ BsR (OwnA (lookB bs) io) w.heap.size io' F' w' (lookB bs')
section
variable {X : Ctx} {all : Array Oper} {s : St} {o : Oper} {rest : List Oper} {Q : Exit → St → Prop} {c : Call}
theorem run_yieldOp {P : Program} {ev : Operand → Value} {w : World} {y : Operand} {L : Nat} (hop : o.op = .call c) (hcal : c.callee = .value y) (hev : ev y = .func (.yield L) #[] #[]) : (execOp ev o).run P w = (Instr.yield L (c.args.map ev)).run P w := by
 obtain ⟨dst, op, ty, pos, after, g⟩ := o
 cases hop
 simp [execOp, resolve, hcal, hev, Deferred.ofValue, invoke]
theorem lI_yield {y : Operand} {L : Nat} {d : Tmp} {xs : List V} {bs bs' : List (Nat × Blk)} (hY : YieldC X.P L X.A X.F0 X.w0 X.io0 xs bs bs') (hg : gd all s o = some true) (hop : o.op = .call c) (hcal : c.callee = .value y) (hy : s.opd y = .d (.raw (.func (.yield L) #[] #[]))) (hdst : o.dst = some d) (hd : dstOk X.N (some d) = true) (le : LeVT (c.args.toList.map s.opd) xs) (hB : AllB s bs) (hKs : ∀ k, lookB bs k ≠ none → k ∈ X.K) (hxr : ∀ k ∈ V.refsL xs, lookB bs k ≠ none) (hBr : ∀ k b, lookB bs k = some b → ∀ j ∈ b.refs, lookB bs j ≠ none) (hBr' : ∀ k b, lookB bs' k = some b → ∀ j ∈ b.refs, lookB bs' j ≠ none) (hkeep : ∀ k, lookB bs k ≠ none ↔ lookB bs' k ≠ none) (hln : ∀ k, lookB bs k ≠ none → lnO (lookB bs) k ≤ lnO (lookB bs') k) (k : awpLI none X all rest Q ((s.over bs').put (some d) (.d (.bool true)))) : awpLI none X all (o :: rest) Q s := fun n io F a w hs => by
 have hBs : ∀ k b, lookB bs k = some b → s.blk k = some b := fun k b hk => (lookB_of hB k b hk).1
 have hev := hs.opd y
 rw [hy] at hev
 simp only [VR, DR] at hev
 have hargs : VRT (s.keys io) F w (fun i => (c.args.map a.eval)[i]?) 0 (c.args.toList.map s.opd) := by
  rw [VRT_iff]
  intro i x hx
  simp only [List.getElem?_map, Option.map_eq_some_iff] at hx
  obtain ⟨p, hp, rfl⟩ := hx
  refine ⟨a.eval p, ?_, hs.opd p⟩
  have hp' : c.args[i]? = some p := by simpa using hp
  simp [Array.getElem?_map, hp']
 have hlnB : ∀ k, lookB bs k ≠ none → s.ln k ≤ lnO (lookB bs) k := fun k hk => by
  obtain ⟨b, hb⟩ := Option.ne_none_iff_exists'.1 hk
  rw [lnO_of hb, ln_of (hBs k b hb)]; exact Nat.le_refl _
 have hargs2 : VRT ⟨io, lnO (lookB bs)⟩ F w (fun i => (c.args.map a.eval)[i]?) 0 xs := VRT.agree (io := s.keys io) _ _ _ (fun k hk => ⟨rfl, hlnB k (hxr k hk)⟩) (le.2 _ _ _ _ _ hargs)
 obtain ⟨fn, tmps, assign, body, h1, h2⟩ := hY io F w (c.args.map a.eval) hs.kept hs.f0 hs.ff (fun k hk => hs.st k (hKs k hk)) (by rw [le.1]; simp) hargs2 (hs.lendB hBs hBr)
 simp only [wpListIn]
 rw [if_pos (gd_sound (fun t _ => hs.tm t) hg)]
 unfold Oper.wpIn
 refine ⟨fun f _ => trivial, ?_⟩
 rw [show (wf none).round = none from rfl, Oper.semAt_none, run_yieldOp hop hcal hev, h1]
 simp only [Oper.uponIn]
 refine ⟨fun h => by simp [wf] at h, RoundIn.mono (h2 (n - 1)) fun e w' ⟨he, io', F', g1, g2, g3, g4, g6⟩ => ?_⟩
 subst he
 obtain ⟨key, _⟩ := hs.afterB [] hBs (fun k hk => (hkeep k).1 hk) hln hBr' (fun k hk => .inl ((hkeep k).2 hk)) (fun k hk => by simp at hk) g1 g2 g3 g4 g6
 have hp := key.put (dst := some d) (x := .d (.bool true)) (v := .bool true) (dstOk_sound hd) (by simp only [VR, DR])
 rw [hdst]
 exact k n _ _ _ _ hp
end
theorem lookB_keys : ∀ {bs : List (Nat × Blk)} {j : Nat}, lookB bs j ≠ none ↔ j ∈ bs.map (·.1)
 | [], j => by simp [lookB]
 | (k, b) :: r, j => by
  simp only [lookB, List.map_cons, List.mem_cons]
  by_cases e : j = k
  ·subst e; simp
  ·rw [beq_of_ne e]; simp only [cond_false, e, false_or]; exact lookB_keys
structure BsFam (bs : Nat → List (Nat × Blk)) (ks : List Nat) : Prop where
 keys : ∀ k, (bs k).map (·.1) = ks
 cov : ∀ k, coverR (bs k) (bs k) = true
 covB : ∀ k, coverB (bs k) (bs k) = true
 own : ∀ k, AllB (St.of [] (bs k)) (bs k)
 ln : ∀ k, LnLe (bs (k + 1)) (bs k)
theorem allB_blk {s s' : St} : ∀ {l : List (Nat × Blk)}, (∀ k, hasKey l k = true → s'.blk k = s.blk k) → AllB s l → AllB s' l
 | [], _, _ => trivial
 | (k, b) :: r, h, hb => ⟨(h k (by simp [hasKey, lookB])).trans hb.1, allB_blk (fun j hj => h j (by
  unfold hasKey at *
  simp only [lookB]
  cases Nat.beq j k <;> simp_all)) hb.2⟩
theorem BsFam.of {bs : Nat → List (Nat × Blk)} {ks : List Nat} (h : BsFam bs ks) {k : Nat} {s : St} (hs : s.blk = lookB (bs k)) : AllB s (bs k) := allB_blk (s := St.of [] (bs k)) (fun j _ => by rw [hs]; rfl) (h.own k)
theorem BsFam.over {bs : Nat → List (Nat × Blk)} {ks : List Nat} (h : BsFam bs ks) {k : Nat} {s : St} : AllB (s.over (bs k)) (bs k) := allB_blk (s := St.of [] (bs k)) (fun j hj => by
 unfold hasKey at hj
 simp only [St.over, St.of]
 split at hj
 ·rename_i b hb; rw [hb]
 ·cases hj) (h.own k)
theorem BsFam.same {bs : Nat → List (Nat × Blk)} {ks : List Nat} (h : BsFam bs ks) {k : Nat} {s s' : St} (hs : s'.blk = (s.over (bs k)).blk) : AllB s' (bs k) := allB_blk (s := s.over (bs k)) (fun j _ => congrFun hs j) h.over
theorem lnLe_lnO {bs bs' : List (Nat × Blk)} (h : LnLe bs' bs) {k : Nat} (hk : lookB bs k ≠ none) : lnO (lookB bs) k ≤ lnO (lookB bs') k := by
 obtain ⟨b, hb⟩ := Option.ne_none_iff_exists'.1 hk
 rw [lnO_of hb]
 exact LnLe_spec h _ (lookB_mem hb)
theorem BsFam.has {bs : Nat → List (Nat × Blk)} {ks : List Nat} (h : BsFam bs ks) (k j : Nat) : lookB (bs k) j ≠ none ↔ j ∈ ks := by rw [lookB_keys, h.keys]
theorem BsFam.lnO {bs : Nat → List (Nat × Blk)} {ks : List Nat} (h : BsFam bs ks) {j : Nat} (hj : j ∈ ks) : ∀ k, Vw.lnO (lookB (bs 0)) j ≤ Vw.lnO (lookB (bs k)) j
 | 0 => Nat.le_refl _
 | k + 1 => Nat.le_trans (h.lnO hj k) (lnLe_lnO (h.ln k) ((h.has k j).2 hj))
theorem BsFam.refs {bs : Nat → List (Nat × Blk)} {ks : List Nat} (h : BsFam bs ks) (k : Nat) : ∀ j b, lookB (bs k) j = some b → ∀ i ∈ b.refs, lookB (bs k) i ≠ none := fun j b hj i hi => coverR_spec (h.cov k) _ (lookB_mem hj) i hi
structure Iter (P : Program) (gf : FuncId) (caps : List D) (N : Nat) (xs : Nat → List D) : Prop where
 enters : Enters P gf
 run : ∀ (bs : Nat → List (Nat × Blk)) (ks : List Nat), BsFam bs ks → ∀ (L : Nat) (io : Nat → Option Nat) (F : Nat → Prop) (w : World) (vs : Array Value), (∀ b, F b → b < w.heap.size) → vs.size = caps.length + 1 → DRT F w (fun i => vs[i]?) 0 (.raw (.func (.yield L) #[] #[]) :: caps) → BsR (OwnA (lookB (bs 0)) io) w.heap.size io F w (lookB (bs 0)) →
  (∀ k, k < N → YieldC P L (OwnA (lookB (bs 0)) io) F w io ((xs k).map V.d) (bs k) (bs (k + 1))) → ∀ n, CallsIn Fence.wide n P gf vs w (RetPost io F w (bs 0) (.tup []) (bs N))
theorem iter_of_awpI {P : Program} {T : TypeId → Option TyD} (hT : TabOk P T) {gf : FuncId} {fn : Func} {c : Code} (hf : P.funcs[gf]? = some fn) (hname : (fn.name == "runtime.NumGoroutine") = false) (hb : fn.body = some c) {caps : List D} {N : Nat} {xs : Nat → List D} (hn : caps.length + 1 ≤ fn.ntmps)
    (h : ∀ bs ks, BsFam bs ks → ∀ L w0 F0 A io0, (∀ k, k < N → YieldC P L A F0 w0 io0 ((xs k).map V.d) (bs k) (bs (k + 1))) → awpI none [] ⟨P, T, hT, fn.ntmps, w0, A, F0, ks, io0⟩ c (retPostB T fn (.tup []) (bs N)) (St.initB (.d (.raw (.func (.yield L) #[] #[])) :: caps.map V.d) (bs 0))) : Iter P gf caps N xs := by
  refine ⟨⟨fn, hf, hname, by rw [hb]; rfl⟩, fun bs ks hfam L io F w vs hF hl hv hbs hY n => ?_⟩
  refine callsIn_of_wp hf hb trivial ?_ rfl
  have hv' : VRT ⟨io, lnO (lookB (bs 0))⟩ F w (fun i => vs[i]?) 0 (.d (.raw (.func (.yield L) #[] #[])) :: caps.map V.d) := drt_toV (io := ⟨io, lnO (lookB (bs 0))⟩) hv
  have hs := sr_initB hT (N := fn.ntmps) (ks := ks) (xs := .d (.raw (.func (.yield L) #[] #[])) :: caps.map V.d) (by simpa using hl) (by simpa using hn) hF hv' hbs
  refine wpIn_mono (h bs ks hfam L w F _ io hY n _ _ _ _ hs) fun e a' w' ⟨a0, ea, s', io', F', hq, hs'⟩ => ?_
  have ea : a' = a0 := ea
  subst ea
  have hks : ∀ j ∈ ks, hasKey (bs N) j = true := fun j hj => by
    have := (hfam.has N j).2 hj
    obtain ⟨b, hb⟩ := Option.ne_none_iff_exists'.1 this
    unfold hasKey; rw [hb]
  have hko : ∀ l : List Nat, (∀ j ∈ l, hasKey (bs N) j = true) → keysOk (bs N) l = true := fun l => by
    induction l with
    | nil => intro _; rfl
    | cons a l ih => intro hl; simp only [keysOk, Bool.and_eq_true]; exact ⟨hl a (by simp), ih fun j hj => hl j (by simp [hj])⟩
  have hcov : (keysOk (bs N) ks && keysOk (bs N) (V.tup []).refs && coverR (bs N) (bs N)) = true := by
    simp only [Bool.and_eq_true]
    exact ⟨⟨hko ks hks, rfl⟩, hfam.cov N⟩
  cases e <;> simp only [retPostB] at hq <;> first | exact hq.elim | exact retB_fin (hfam.keys 0) hcov hs' hq
theorem lI_yieldF {X : Ctx} {all : Array Oper} {s : St} {o : Oper} {rest : List Oper} {Q : Exit → St → Prop} {c : Call} {y : Operand} {L : Nat} {d : Tmp} {xs : List D} {bs : Nat → List (Nat × Blk)} {k : Nat} (hfam : BsFam bs X.K) (hY : YieldC X.P L X.A X.F0 X.w0 X.io0 (xs.map V.d) (bs k) (bs (k + 1))) (hg : gd all s o = some true) (hop : o.op = .call c) (hcal : c.callee = .value y) (hy : s.opd y = .d (.raw (.func (.yield L) #[] #[]))) (hdst : o.dst = some d) (hd : dstOk X.N (some d) = true) (le : LeVT (c.args.toList.map s.opd) (xs.map V.d)) (hB : AllB s (bs k)) (r : awpLI none X all rest Q ((s.over (bs (k + 1))).put (some d) (.d (.bool true)))) : awpLI none X all (o :: rest) Q s := by
 have hrx : ∀ (l : List D), V.refsL (l.map V.d) = [] := fun l => by
  induction l with
  | nil => rfl
  | cons a l ih => simp [V.refsL, V.refs, ih]
 exact lI_yield hY hg hop hcal hy hdst hd le hB (fun j hj => (hfam.has k j).1 hj) (fun j hj => by rw [hrx] at hj; simp at hj) (hfam.refs k) (hfam.refs (k + 1)) (fun j => by rw [hfam.has, hfam.has]) (fun j hj => lnLe_lnO (hfam.ln k) hj) r
theorem BR.cellsAt {A : Nat → Prop} {n0 : Nat} {io : Keys} {F : Nat → Prop} {w : World} {k : Nat} {b : Blk} (h : BR A n0 io F w k b) {c : Nat} (e : io.io k = some c) : ∃ arr ty, w.heap[c]? = some (.cells arr ty (0, 0)) := by
 cases b with
 | data ty sz en z l =>
  simp only [BR] at h
  rcases h with ⟨h0, _⟩ | ⟨c', arr, g1, g2, g3, g4, _⟩
  ·rw [h0] at e; cases e
  ·rw [g1] at e; cases e; exact ⟨_, _, g4⟩
 | box ty cells =>
  simp only [BR] at h
  obtain ⟨c', arr, g1, g2, g3, g4, _⟩ := h
  rw [g1] at e; cases e; exact ⟨_, _, g4⟩
 | hole ty sz en z l i v =>
  simp only [BR] at h
  obtain ⟨c', arr, g1, g2, g3, g4, _⟩ := h
  rw [g1] at e; cases e; exact ⟨_, _, g4⟩
theorem BR.area {A A' : Nat → Prop} {n0 n0' : Nat} {io : Keys} {F : Nat → Prop} {w : World} {k : Nat} {b : Blk} (hA : ∀ c, io.io k = some c → A' c ∨ n0' ≤ c) (h : BR A n0 io F w k b) : BR A' n0' io F w k b := by
 cases b with
 | data ty sz e z l =>
  simp only [BR] at h ⊢
  rcases h with h | ⟨b, arr, g1, g2, g3, g4, g5⟩
  ·exact .inl h
  ·exact .inr ⟨b, arr, g1, g2, hA _ g1, g4, g5⟩
 | box ty cells =>
  simp only [BR] at h ⊢
  obtain ⟨b, arr, g1, g2, g3, g4, g5⟩ := h
  exact ⟨b, arr, g1, g2, hA _ g1, g4, g5⟩
 | hole ty sz e z l i v =>
  simp only [BR] at h ⊢
  obtain ⟨b, arr, g1, g2, g3, g4, g5⟩ := h
  exact ⟨b, arr, g1, g2, hA _ g1, g4, g5⟩
structure Turn (L : Nat) (w w' : World) : Prop where
 other : ∀ b, b ≠ L → w'.heap[b]? = w.heap[b]?
 size : w'.heap.size = w.heap.size
 nc : ∀ arr ty fz, w.heap[L]? ≠ some (.cells arr ty fz)
 nc' : ∀ arr ty fz, w'.heap[L]? ≠ some (.cells arr ty fz)
 os : w'.os = w.os
 tape : w'.tape = w.tape
 output : w'.output = w.output
theorem Turn.shapes {L : Nat} {w w' : World} (h : Turn L w w') : Shapes w w' := fun b arr ty fz hb => by
 by_cases e : b = L
 ·subst e; exact absurd hb (h.nc _ _ _)
 ·exact ⟨arr, (h.other b e).trans hb, rfl⟩
theorem turn_putObj {w : World} {L : Nat} {r r' : Loop} (h : w.heap[L]? = some (.loop r)) : Turn L w (w.putObj L (.loop r')) :=
 ⟨fun b hb => World.putObj_heap_other hb, by simp, fun arr ty fz e => (by rw [h] at e; cases e), fun arr ty fz e => (by rw [World.putObj_heap_same (lt_of_heap h)] at e; cases e), rfl, rfl, rfl⟩
theorem SR.rebase {X : Ctx} {io : Nat → Option Nat} {F : Nat → Prop} {s : St} {a : Act} {w w' : World} {L : Nat} (hs : SR X io F s a w) (ht : Turn L w w') (hL : ¬ F L) : SR ⟨X.P, X.T, X.ok, X.N, w', OwnA s.blk io, F, X.K, io⟩ io F s a w' := by
 have hi : ∀ k, (s.keys io).io k = (s.keys io).io k ∧ (s.keys io).ln k ≤ (s.keys io).ln k := fun k => ⟨rfl, Nat.le_refl _⟩
 have hst : Stays F w w' := fun b hb => ht.other b fun e => hL (e ▸ hb)
 refine ⟨⟨rfl, rfl, rfl, Nat.le_refl _, fun _ _ _ => rfl, Shapes.refl _⟩, fun t => VR.mono hi (fun _ h => h) hst ht.shapes _ _ (hs.tm t), hs.nt, DfR.mono hi (fun _ h => h) hst ht.shapes _ _ hs.df, fun k b hk => ?_, hs.inj, fun b hb => ⟨by show b < w'.heap.size; rw [ht.size]; exact (hs.ff b hb).1, .inl hb⟩, fun b hb => hb, fun k _ => rfl⟩
 have hbr := hs.bl k b hk
 have hm : BR X.A X.w0.heap.size (s.keys io) F w' k b := BR.mono hi (fun _ h => h) hst ht.shapes (fun c o e1 e2 e3 => by
  obtain ⟨arr, ty, hc⟩ := hbr.cellsAt e1
  have hne : c ≠ L := fun e => by subst e; exact ht.nc _ _ _ hc
  exact ⟨(ht.other c hne).trans e2, e3⟩) hbr
 exact BR.area (fun c hc => .inl ⟨k, by rw [hk]; simp, hc⟩) hm
theorem of_keys (ts : List (Nat × V)) (bs : List (Nat × Blk)) (io : Nat → Option Nat) : (St.of ts bs).keys io = ⟨io, lnO (lookB bs)⟩ := by unfold St.keys; rw [lnO_eq]; rfl
theorem refs_lookT {t k : Nat} : ∀ {ts : List (Nat × V)}, k ∈ (lookT ts t).refs → k ∈ V.refsL (ts.map (·.2))
 | [], h => by simp [lookT, V.refs] at h
 | (j, v) :: r, h => by
  simp only [lookT] at h
  simp only [List.map_cons, V.refsL, List.mem_append]
  cases hb : Nat.beq t j with
  | true => rw [hb] at h; exact .inl h
  | false => rw [hb] at h; exact .inr (refs_lookT h)
theorem SR.again {X : Ctx} {io : Nat → Option Nat} {F : Nat → Prop} {ts : List (Nat × V)} {bs0 bsk : List (Nat × Blk)} {ks : List Nat} {a : Act} {w w2 : World} (hs : SR X io F (St.of ts bs0) a w) (hrefs : keysOk bs0 (V.refsL (ts.map (·.2))) = true) (hln : ∀ k, lookB bs0 k ≠ none → lnO (lookB bs0) k ≤ lnO (lookB bsk) k) {io1 : Nat → Option Nat} {F1 : Nat → Prop} (hst : Stays F w w2) (hsh : Shapes w w2) (hF : ∀ b, F b → F1 b) (hF1 : ∀ b, F1 b → b < w2.heap.size) (hio : ∀ k, lookB bs0 k ≠ none → io1 k = io k) {A : Nat → Prop} {n0 : Nat} (hbs : BsR A n0 io1 F1 w2 (lookB bsk)) : SR ⟨X.P, X.T, X.ok, X.N, w2, OwnA (lookB bsk) io1, F1, ks, io1⟩ io1 F1 (St.of ts bsk) { tmps := a.tmps, defers := [] } w2 := by
 refine ⟨⟨rfl, rfl, rfl, Nat.le_refl _, fun _ _ _ => rfl, Shapes.refl _⟩, fun t => ?_, hs.nt, rfl, fun k b hk => ?_, hbs.inj, fun b hb => ⟨hF1 b hb, .inl hb⟩, fun b hb => hb, fun k _ => rfl⟩
 ·rw [of_keys]
  have h0 := hs.tm t
  rw [of_keys] at h0
  have h1 : VR ⟨io1, lnO (lookB bsk)⟩ F w (lookT ts t) (a.tmps.getD t undef) := VR.agree (io := ⟨io, lnO (lookB bs0)⟩) _ _ (fun k hk => by
   have := hasKey_ne (keysOk_spec hrefs k (refs_lookT hk))
   exact ⟨hio k this, hln k this⟩) h0
  exact VR.mono (fun k => ⟨rfl, Nat.le_refl _⟩) hF hst hsh _ _ h1
 ·rw [of_keys]
  exact BR.area (fun c hc => .inl ⟨k, by rw [show lookB bsk k = some b from hk]; simp, hc⟩) (hbs.br k b hk)
theorem BR.turn {A : Nat → Prop} {n0 : Nat} {io : Keys} {F : Nat → Prop} {w w' : World} {k : Nat} {b : Blk} {L : Nat} (ht : Turn L w w') (hL : ¬ F L) (h : BR A n0 io F w k b) : BR A n0 io F w' k b :=
 BR.mono (fun k => ⟨rfl, Nat.le_refl _⟩) (fun _ h => h) (fun b hb => ht.other b fun e => hL (e ▸ hb)) ht.shapes (fun c o e1 e2 e3 => by
  obtain ⟨arr, ty, hc⟩ := h.cellsAt e1
  have hne : c ≠ L := fun e => by subst e; exact ht.nc _ _ _ hc
  exact ⟨(ht.other c hne).trans e2, e3⟩) h
theorem BsR.turn {A : Nat → Prop} {n0 : Nat} {io : Nat → Option Nat} {F : Nat → Prop} {w w' : World} {B : Nat → Option Blk} {L : Nat} (ht : Turn L w w') (hL : ¬ F L) (h : BsR A n0 io F w B) : BsR A n0 io F w' B := ⟨fun k b hk => (h.br k b hk).turn ht hL, h.inj⟩
theorem BsR.area {A A' : Nat → Prop} {n0 n0' : Nat} {io : Nat → Option Nat} {F : Nat → Prop} {w : World} {B : Nat → Option Blk} (hA : ∀ c, A c ∨ n0 ≤ c → A' c ∨ n0' ≤ c) (h : BsR A n0 io F w B) : BsR A' n0' io F w B := ⟨fun k b hk => BR.agree hA rfl (fun j _ => ⟨rfl, Nat.le_refl _⟩) (h.br k b hk), h.inj⟩
theorem SR.lent {X : Ctx} {io : Nat → Option Nat} {F : Nat → Prop} {s : St} {a : Act} {w : World} (hs : SR X io F s a w) {bs : List (Nat × Blk)} (hB : AllB s bs) (hc : coverR bs bs = true) : BsR X.A X.w0.heap.size io F w (lookB bs) := by
 have hln : ∀ k, lookB bs k ≠ none → s.ln k ≤ lnO (lookB bs) k := fun k hk => by
  obtain ⟨b, hb⟩ := Option.ne_none_iff_exists'.1 hk
  rw [ln_of (lookB_of hB k b hb).1, lnO_of hb]; exact Nat.le_refl _
 exact ⟨fun k b hk => BR.agree (io := s.keys io) (io' := ⟨io, lnO (lookB bs)⟩) (fun _ h => h) rfl (fun j hj => ⟨rfl, hln j (coverR_spec hc _ (lookB_mem hk) j hj)⟩) (hs.bl k b (lookB_of hB k b hk).1), fun k k' b e1 e2 e3 e4 => by
  obtain ⟨b1, hb1⟩ := Option.ne_none_iff_exists'.1 e1
  obtain ⟨b2, hb2⟩ := Option.ne_none_iff_exists'.1 e2
  exact hs.inj k k' b (by rw [(lookB_of hB k b1 hb1).1]; simp) (by rw [(lookB_of hB k' b2 hb2).1]; simp) e3 e4⟩
theorem SR.ownIn {X : Ctx} {io : Nat → Option Nat} {F : Nat → Prop} {s : St} {a : Act} {w : World} (hs : SR X io F s a w) {c : Nat} (h : OwnA s.blk io c) : X.A c ∨ X.w0.heap.size ≤ c := by
 obtain ⟨k, hk, e⟩ := h
 obtain ⟨b, hb⟩ := Option.ne_none_iff_exists'.1 hk
 exact ((hs.bl k b hb).notF e).2.1
def liftE (X : Ctx) (Q : Exit → St → Prop) : Exit → Act → World → Prop := fun e a w => ∃ (D : Nat) (a0 : Act) (w1 : World) (A1 F1 : Nat → Prop) (K1 : List Nat) (io1 io : Nat → Option Nat) (F : Nat → Prop) (s : St),
 a = Act.mk' [{ target := .collected D, args := #[] }] a0 ∧ Q e s ∧ SR ⟨X.P, X.T, X.ok, X.N, w1, A1, F1, K1, io1⟩ io F s a0 w ∧ Kept X.A X.w0 w1 ∧ (∀ b, A1 b → X.A b ∨ X.w0.heap.size ≤ b) ∧ (∀ b, X.F0 b → F1 b) ∧ (∀ b, F1 b → X.F0 b ∨ X.w0.heap.size ≤ b ∨ X.A b) ∧
 D < w1.heap.size ∧ w1.heap[D]? = some (.deferred (some [])) ∧ ¬ A1 D ∧ ¬ F1 D ∧ X.w0.heap.size ≤ D
def awpE (X : Ctx) (c : Code) (Q : Exit → St → Prop) (s : St) : Prop := ∀ n io F a w, SR X io F s a w → c.wpIn Fence.wide n X.P (liftE X Q) a w
def awpEB (X : Ctx) (b rest : Code) (Q : Exit → St → Prop) (s : St) : Prop := ∀ n io F a w, SR X io F s a w → b.wpIn Fence.wide n X.P (Exit.then (rest.wpIn Fence.wide n X.P (liftE X Q)) (fun _ _ _ => False)) a w
theorem awpE_seq {X : Ctx} {x y : Code} {Q : Exit → St → Prop} {s : St} (h : awp X x (split' (awpE X y Q)) s) : awpE X (.seq x y) Q s := fun n io F a w hs =>
 wpIn_seq (wpIn_mono (wpIn_wide.2 (h io F a w hs)) fun e a w ⟨s', io', F', hq, hs'⟩ => by
  cases e <;> first | exact hq _ _ _ _ _ hs' | exact hq.elim)
theorem awpE_seq2 {X : Ctx} {x b rest : Code} {Q : Exit → St → Prop} {s : St} (h : awp X x (split' (awpEB X b rest Q)) s) : awpE X (.seq (.seq x b) rest) Q s := fun n io F a w hs =>
 wpIn_seq (wpIn_seq (wpIn_mono (wpIn_wide.2 (h io F a w hs)) fun e a w ⟨s', io', F', hq, hs'⟩ => by
  cases e with
  | normal =>
   refine wpIn_mono (hq n _ _ _ _ hs') fun e a w hp => ?_
   cases e <;> first | exact hp | exact hp.elim
  | _ => exact hq.elim))
section
variable {X : Ctx} {ts : List (Nat × V)} {bs : Nat → List (Nat × Blk)} {ks : List Nat} {N : Nat} {g : Operand} {p1 p2 : Tmp} {assign body rest : Code} {gf : FuncId} {caps : List D} {x1 x2 : Nat → D} {Q : Exit → St → Prop}
theorem awpEB_range {id : Nat} (hfam : BsFam bs ks) (hg : (St.of ts (bs 0)).opd g = .d (.fn gf caps)) (hit : Iter X.P gf caps N (fun k => [x1 k, x2 k])) (htr : keysOk (bs 0) (V.refsL (ts.map (·.2))) = true) (hp1 : p1 < X.N) (hp2 : p2 < X.N)
    (hround : ∀ k, k < N → ∀ L w0 F0 A io0, awpI (some L) [] ⟨X.P, X.T, X.ok, X.N, w0, A, F0, ks, io0⟩ assign (split' (fun s1 => ∀ w0 F0 A io0, awpI (some L) [] ⟨X.P, X.T, X.ok, X.N, w0, A, F0, ks, io0⟩ body (split' (fun s' => s'.dfs = [] ∧ AllB s' (bs (k + 1)))) s1)) (((St.of ts (bs k)).put (some p1) (.d (x1 k))).put (some p2) (.d (x2 k))))
    (hrest : ∀ D w0 F0 A io0, awpI none [{ target := .collected D, args := #[] }] ⟨X.P, X.T, X.ok, X.N, w0, A, F0, ks, io0⟩ rest Q (St.of ts (bs N))) : awpEB X (.block id (.rangeFunc g #[p1, p2] assign body)) rest Q (St.of ts (bs 0)) := by
  intro n io F a w hs
  have hdef : a.defers = [] := hs.df
  have hgv := hs.opd g
  rw [hg] at hgv
  simp only [VR, DR] at hgv
  obtain ⟨arr, hge, harl, hara⟩ := hgv
  refine wpIn_block (wpIn_rangeFunc ?_)
  intro fn hfn
  obtain ⟨rec, hrec⟩ : ∃ rec : LoopState → Option Code → Loop, rec = fun st pe => { state := st, pending := pe, fn, tmps := a.tmps, params := #[p1, p2], assign, body, defers := w.heap.size } := ⟨_, rfl⟩
  obtain ⟨w1, hw1⟩ : ∃ w1, (w.alloc (.deferred (some []))).alloc (.loop (rec .ready none)) = w1 := ⟨_, rfl⟩
  have hsz1 : w1.heap.size = w.heap.size + 2 := by rw [← hw1]; simp [World.size_alloc]
  have hL1 : w1.heap[w.heap.size + 1]? = some (.loop (rec .ready none)) := by
    rw [← hw1]; have := World.alloc_heap_new (w.alloc (.deferred (some []))) (.loop (rec .ready none)); rwa [World.size_alloc] at this
  have hD1 : w1.heap[w.heap.size]? = some (.deferred (some [])) := by
    rw [← hw1]; exact (Below.heap_alloc _ _ _ (by simp)).trans (World.alloc_heap_new w _)
  have hb1 : Below w.heap.size w w1 := by
    rw [← hw1]; exact ((Below.refl _ w).alloc (Nat.le_refl _) _).alloc (by simp) _
  have hs1 : SR X io F (St.of ts (bs 0)) a w1 := hs.grow hb1 (fun _ h => h) (fun _ h => .inl h)
  obtain ⟨A0, hA0⟩ : ∃ A0, OwnA (lookB (bs 0)) io = A0 := ⟨_, rfl⟩
  have hownlt : ∀ b, A0 b → b < w.heap.size ∧ (X.A b ∨ X.w0.heap.size ≤ b) ∧ ¬ F b := fun b hb => by
    rw [← hA0] at hb
    obtain ⟨k, hk, e⟩ := hb
    obtain ⟨bl, hbl⟩ := Option.ne_none_iff_exists'.1 hk
    have := (hs.bl k bl hbl).notF e
    exact ⟨this.2.2, this.2.1, this.1⟩
  have hLA : ¬ A0 (w.heap.size + 1) := fun h => by have := (hownlt _ h).1; omega
  have hDA : ¬ A0 w.heap.size := fun h => by have := (hownlt _ h).1; omega
  have hFlt : ∀ b, F b → b < w.heap.size := fun b h => (hs.ff b h).1
  have hkept1 : Kept X.A X.w0 w1 := hs1.kept
  refine ⟨w.heap.size + 1, [{ target := .collected w.heap.size, args := #[] }], w1, { target := .fn (.func gf) arr, args := #[.func (.yield (w.heap.size + 1)) #[] #[]] }, w1, gf, #[.func (.yield (w.heap.size + 1)) #[] #[]] ++ arr, w1, ?_, ?_, fun _ _ => trivial, ?_, fun h => by simp [Fence.wide] at h, ?_⟩
  · rw [← hw1, hrec]; exact run_enterLoop_outer _ _ _ _ _
  · simp only [resolve, hge]
    simp [go_sem]
  · simp only [invoke]
    simp [run_enter hit.enters]
  have hYs : ∀ k, k < N → YieldC X.P (w.heap.size + 1) A0 F w1 io [.d (x1 k), .d (x2 k)] (bs k) (bs (k + 1)) := by
    intro k hk io1 F1 w2 vs hkept hF1 hF1s hio hvsz hv hbs
    have hL2 : w2.heap[w.heap.size + 1]? = some (.loop (rec .ready none)) := (hkept.block _ (by omega) hLA).trans hL1
    have hA1 : ∀ c, OwnA (lookB (bs k)) io1 c → A0 c := fun c ⟨j, hj, e⟩ => by
      rw [← hA0]
      exact ⟨j, (hfam.has 0 j).2 ((hfam.has k j).1 hj), by rw [← hio j hj]; exact e⟩
    have hsz2 : w1.heap.size ≤ w2.heap.size := hkept.size
    have hFL1 : ¬ F1 (w.heap.size + 1) := fun h => by
      rcases (hF1s _ h).2 with h | h | h
      · have := hFlt _ h; omega
      · omega
      · exact hLA h
    obtain ⟨v1, v2, rfl⟩ : ∃ v1 v2, vs = #[v1, v2] := by
      obtain ⟨l⟩ := vs
      simp at hvsz
      match l, hvsz with
      | [v1, v2], _ => exact ⟨v1, v2, rfl⟩
    simp only [List.map_cons, List.map_nil, VRT, VR] at hv
    obtain ⟨⟨u1, hu1, hd1⟩, ⟨u2, hu2, hd2⟩, _⟩ := hv
    simp at hu1 hu2
    subst hu1 hu2
    have hst2 : Stays F w w2 := fun b hb => (hkept.block b (by have := hFlt b hb; omega) (fun h => (hownlt b h).2.2 hb)).trans (hb1.block b (hFlt b hb))
    have hsh2 : Shapes w w2 := (shapes_of_below hb1).trans hkept.shape
    have hs2 := SR.again (ks := ks) hs htr (bsk := bs k) (fun j hj => hfam.lnO ((hfam.has 0 j).1 hj) k) hst2 hsh2 hF1 (fun b hb => (hF1s b hb).1) (fun j hj => hio j ((hfam.has k j).2 ((hfam.has 0 j).1 hj))) hbs
    have hs2' := (hs2.put (dst := some p1) (x := .d (x1 k)) (v := v1) (fun d e => by cases e; exact hp1) (by simp only [VR]; exact hd1)).put (dst := some p2) (x := .d (x2 k)) (v := v2) (fun d e => by cases e; exact hp2) (by simp only [VR]; exact hd2)
    refine ⟨fn, ((rec .ready none).params.zip #[v1, v2]).foldl (fun tmps (t, a) => tmps.setIfInBounds t a) (rec .ready none).tmps, assign, body, ?_, fun n' => roundIn_of_wpIn trivial ?_⟩
    · have h0 := run_yield (P := X.P) (args := #[v1, v2]) hL2 (by rw [hrec]; rfl)
      rw [show (rec .ready none).fn = fn from by rw [hrec], show (rec .ready none).assign = assign from by rw [hrec], show (rec .ready none).body = body from by rw [hrec]] at h0
      exact h0
    have hr1 := hround k hk (w.heap.size + 1) w2 F1 (OwnA (lookB (bs k)) io1) io1 n' io1 F1 _ w2 hs2'
    have htm : (Act.put (Act.put { tmps := a.tmps, defers := [] } (some p1) v1) (some p2) v2) = { tmps := ((rec .ready none).params.zip #[v1, v2]).foldl (fun tmps (t, a) => tmps.setIfInBounds t a) (rec .ready none).tmps, defers := [] } := by
      rw [hrec]; simp [Act.put]
    rw [htm] at hr1
    refine wpIn_mono hr1 fun e a3 w3 ⟨a30, ea, s3, io3, F3, hq3, hs3⟩ => ?_
    have ea : a3 = a30 := ea
    subst ea
    have en : e = .normal := by cases e <;> first | rfl | exact hq3.elim
    subst en
    have hnA1 : ¬ OwnA (lookB (bs k)) io1 (w.heap.size + 1) := fun h => hLA (hA1 _ h)
    have hL3 : w3.heap[w.heap.size + 1]? = some (.loop (rec .ready none)) := (hs3.kept.block _ (by show w.heap.size + 1 < w2.heap.size; omega) hnA1).trans hL2
    have hFL3 : ¬ F3 (w.heap.size + 1) := fun h => by
      rcases (hs3.ff _ h).2 with h | h | h
      · exact hFL1 h
      · have h : w2.heap.size ≤ w.heap.size + 1 := h; omega
      · exact hnA1 h
    refine ⟨_, run_beginRound hL3 (by rw [hrec]), ?_⟩
    have ht4 := turn_putObj (r' := { rec .ready none with state := .busy }) hL3
    obtain ⟨w4, hw4⟩ : ∃ w4, w3.putObj (w.heap.size + 1) (.loop { rec .ready none with state := .busy }) = w4 := ⟨_, rfl⟩
    have hL4 : w4.heap[w.heap.size + 1]? = some (.loop { rec .ready none with state := .busy }) := by
      rw [← hw4]; exact World.putObj_heap_same (lt_of_heap hL3)
    rw [hw4] at ht4 ⊢
    have hs4 := hs3.rebase ht4 hFL3
    have hnA3 : ¬ OwnA s3.blk io3 (w.heap.size + 1) := fun h => by
      rcases hs3.ownIn h with h | h
      · exact hnA1 h
      · have h : w2.heap.size ≤ w.heap.size + 1 := h; omega
    refine wpIn_mono (hq3 _ _ _ _ n' _ _ _ _ hs4) fun e a5 w5 ⟨a50, ea, s5, io5, F5, hq5, hs5⟩ => ?_
    have en : e = .normal := by cases e <;> first | rfl | exact hq5.elim
    subst en
    have hsz4 : w4.heap.size = w3.heap.size := ht4.size
    have hsz3 : w2.heap.size ≤ w3.heap.size := hs3.kept.size
    have hsz5 : w4.heap.size ≤ w5.heap.size := hs5.kept.size
    have hL5 : w5.heap[w.heap.size + 1]? = some (.loop { rec .ready none with state := .busy }) := (hs5.kept.block _ (by show w.heap.size + 1 < w4.heap.size; omega) hnA3).trans hL4
    have hFL5 : ¬ F5 (w.heap.size + 1) := fun h => by
      rcases (hs5.ff _ h).2 with h | h | h
      · exact hFL3 h
      · have h : w4.heap.size ≤ w.heap.size + 1 := h; omega
      · exact hnA3 h
    have ht6 := turn_putObj (r' := rec .ready none) hL5
    have hend5 : (Instr.endRound (w.heap.size + 1) none).run X.P w5 = .ok (.bool true) (w5.putObj (w.heap.size + 1) (.loop (rec .ready none))) := by
      have h0 := run_endRound (P := X.P) none hL5
      rw [hrec] at h0 ⊢
      exact h0
    refine ⟨_, _, hend5, rfl, io5, F5, ?_, fun b hb => hs5.f0 b (hs3.f0 b hb), fun b hb => ?_, fun j hj => ?_, ?_⟩
    · refine ⟨?_, ?_, ?_, ?_, fun b hb1' hb2 => ?_, ?_⟩
      · exact ht6.os.trans (hs5.kept.os.trans (ht4.os.trans hs3.kept.os))
      · exact ht6.tape.trans (hs5.kept.tape.trans (ht4.tape.trans hs3.kept.tape))
      · exact ht6.output.trans (hs5.kept.output.trans (ht4.output.trans hs3.kept.output))
      · rw [ht6.size]; omega
      · by_cases e : b = w.heap.size + 1
        · subst e
          rw [World.putObj_heap_same (lt_of_heap hL5), hL2]
        · rw [ht6.other b e]
          refine (hs5.kept.block b (by show b < w4.heap.size; omega) fun h => ?_).trans ((ht4.other b e).trans (hs3.kept.block b hb1' hb2))
          rcases hs3.ownIn h with h | h
          · exact hb2 h
          · have h : w2.heap.size ≤ b := h; omega
      · exact ((hs3.kept.shape.trans ht4.shapes).trans hs5.kept.shape).trans ht6.shapes
    · obtain ⟨q1, q2⟩ := hs5.ff b hb
      refine ⟨by rw [ht6.size]; exact q1, ?_⟩
      rcases q2 with h | h | h
      · rcases (hs3.ff b h).2 with h | h | h
        · exact .inl h
        · exact .inr (.inl h)
        · exact .inr (.inr h)
      · have h : w4.heap.size ≤ b := h
        exact .inr (.inl (by omega))
      · rcases hs3.ownIn h with h | h
        · exact .inr (.inr h)
        · exact .inr (.inl h)
    · have hjk : j ∈ ks := (hfam.has k j).1 hj
      exact (hs5.st j hjk).trans (hs3.st j hjk)
    · refine BsR.turn ht6 hFL5 (BsR.area (fun c hc => ?_) (hs5.lent hq5.2 (hfam.cov (k + 1))))
      rcases hc with h | h
      · exact hs3.ownIn h
      · have h : w4.heap.size ≤ c := h
        exact .inr (by omega)
  have hcalls := hit.run bs ks hfam (w.heap.size + 1) io F w1 (#[.func (.yield (w.heap.size + 1)) #[] #[]] ++ arr) (fun b h => by have := hFlt b h; omega) (by simp [harl]; omega) (by
    simp only [DRT, DR]
    refine ⟨⟨.func (.yield (w.heap.size + 1)) #[] #[], by rw [Array.getElem?_append_left (by simp)]; rfl, rfl⟩, ?_⟩
    rw [DRT_iff]
    intro i c hi
    obtain ⟨v, h1, _, h3⟩ := DRA_iff.1 hara i c hi
    refine ⟨v, ?_, DR.mono (fun _ h => h) (fun b h => hb1.block b (hFlt b h)) _ _ h3⟩
    rw [Array.getElem?_append_right (by simp)]
    simpa using h1) (hs1.lendB (fun k b h => h) (hfam.refs 0)) (by rw [hA0]; exact hYs) (n - 1)
  refine CallsIn.mono hcalls fun e w3 hpost => ?_
  obtain ⟨v, io', F', rfl, g1, g2, g3, g4, _, g6⟩ := hpost
  rw [hA0] at g1 g3 g6
  have hL3 : w3.heap[w.heap.size + 1]? = some (.loop (rec .ready none)) := (g1.block _ (by omega) hLA).trans hL1
  have hend := run_endLoop (P := X.P) hL3 (by rw [hrec]; simp)
  have ht4 := turn_putObj (r' := { rec .ready none with state := .exhausted }) hL3
  obtain ⟨w4, hw4⟩ : ∃ w4, w3.putObj (w.heap.size + 1) (.loop { rec .ready none with state := .exhausted }) = w4 := ⟨_, rfl⟩
  rw [hw4] at hend ht4
  rw [show (rec .ready none).pending = none from by rw [hrec]] at hend
  refine ⟨none, w4, hend, ?_⟩
  have hFL3 : ¬ F' (w.heap.size + 1) := fun h => by
    rcases (g3 _ h).2 with h | h | h
    · have := hFlt _ h; omega
    · omega
    · exact hLA h
  have hFD : ¬ F' w.heap.size := fun h => by
    rcases (g3 _ h).2 with h | h | h
    · have := hFlt _ h; omega
    · omega
    · exact hDA h
  have hsz3 : w1.heap.size ≤ w3.heap.size := g1.size
  have hst4 : Stays F w w4 := fun b hb => (ht4.other b (by have := hFlt b hb; omega)).trans ((g1.block b (by have := hFlt b hb; omega) (fun h => (hownlt b h).2.2 hb)).trans (hb1.block b (hFlt b hb)))
  have hsh4 : Shapes w w4 := ((shapes_of_below hb1).trans g1.shape).trans ht4.shapes
  have hs4 := SR.again (ks := ks) hs htr (bsk := bs N) (fun j hj => hfam.lnO ((hfam.has 0 j).1 hj) N) hst4 hsh4 g2 (fun b hb => by rw [ht4.size]; exact (g3 b hb).1) g4 (g6.turn ht4 hFL3)
  have hA1 : ∀ c, OwnA (lookB (bs N)) io' c → A0 c := fun c ⟨j, hj, e⟩ => by
    rw [← hA0]
    have h0 : lookB (bs 0) j ≠ none := (hfam.has 0 j).2 ((hfam.has N j).1 hj)
    exact ⟨j, h0, by rw [← g4 j h0]; exact e⟩
  have hsz0 : X.w0.heap.size ≤ w.heap.size := hs.kept.size
  show Exit.inBlock id _ .normal _ w4
  simp only [Exit.inBlock, Exit.then]
  have hr := hrest w.heap.size w4 F' (OwnA (lookB (bs N)) io') io' n io' F' _ w4 hs4
  have hact : (Act.mk' [{ target := .collected w.heap.size, args := #[] }] { tmps := a.tmps, defers := [] }) = { a with defers := [{ target := .collected w.heap.size, args := #[] }] ++ a.defers } := by rw [hdef]
  rw [hact] at hr
  refine wpIn_mono hr fun e a5 w5 ⟨a50, ea, s5, io5, F5, hq5, hs5⟩ => ?_
  refine ⟨w.heap.size, a50, w4, OwnA (lookB (bs N)) io', F', ks, io', io5, F5, s5, ea, hq5, hs5, ?_, fun b hb => (hownlt b (hA1 b hb)).2.1, fun b hb => g2 b (hs.f0 b hb), fun b hb => ?_, by rw [ht4.size]; omega, ?_, fun h => hDA (hA1 _ h), hFD, hsz0⟩
  · refine ⟨ht4.os.trans (g1.os.trans (hb1.os.trans hs.kept.os)), ht4.tape.trans (g1.tape.trans (hb1.tape.trans hs.kept.tape)), ht4.output.trans (g1.output.trans (hb1.output.trans hs.kept.output)), by rw [ht4.size]; omega, fun b e1 e2 => ?_, hs.kept.shape.trans hsh4⟩
    refine (ht4.other b (by omega)).trans ((g1.block b (by omega) (fun h => ?_)).trans ((hb1.block b (by omega)).trans (hs.kept.block b e1 e2)))
    rcases (hownlt b h).2.1 with h | h
    · exact e2 h
    · omega
  · rcases (g3 b hb).2 with h | h | h
    · exact (hs.ff b h).2
    · exact .inr (.inl (by omega))
    · rcases (hownlt b h).2.1 with h | h
      · exact .inr (.inr h)
      · exact .inr (.inl h)
  · exact (ht4.other _ (by omega)).trans ((g1.block _ (by omega) hDA).trans hD1)
end
theorem turn_def {w : World} {D : Nat} {r r' : Option (List Deferred)} (h : w.heap[D]? = some (.deferred r)) : Turn D w (w.putObj D (.deferred r')) :=
 ⟨fun b hb => World.putObj_heap_other hb, by simp, fun arr ty fz e => (by rw [h] at e; cases e), fun arr ty fz e => (by rw [World.putObj_heap_same (lt_of_heap h)] at e; cases e), rfl, rfl, rfl⟩
theorem SR.lentIn {X : Ctx} {io : Nat → Option Nat} {F : Nat → Prop} {s : St} {a : Act} {w : World} (hs : SR X io F s a w) {b : Nat} (h : Lent s io F b) : b < w.heap.size ∧ (X.F0 b ∨ X.w0.heap.size ≤ b ∨ X.A b) := by
 rcases h with h | ⟨k, hk, e⟩
 ·exact hs.ff b h
 ·obtain ⟨bl, hbl⟩ := Option.ne_none_iff_exists'.1 hk
  have := (hs.bl k bl hbl).notF e
  refine ⟨this.2.2, ?_⟩
  rcases this.2.1 with h | h
  ·exact .inr (.inr h)
  ·exact .inr (.inl h)
theorem nout_retB {T : TypeId → Option TyD} {fn : Func} {y : V} {bs : List (Nat × Blk)} : NoOut (retPostB T fn y bs) := fun s h => h
theorem nout_ret {T : TypeId → Option TyD} {fn : Func} {R : D → Prop} : NoOut (retPost T fn R) := fun s h => h
theorem nout {Q : Exit → St → Prop} (h : NoOut Q := by
 repeat' (first | exact Go.Vw.NoOut.none | exact Go.Vw.nout_retB | exact Go.Vw.nout_ret | apply Go.Vw.NoOut.then | apply Go.Vw.NoOut.block)) : NoOut Q := h
section
variable {ro : Option Nat} {X : Ctx} {Q : Exit → St → Prop} {s : St}
theorem awpI_cut {id : Nat} (k : Nat) {l : List Oper} (hQ : NoOut Q) (h : awpL X l.toArray (l.take k) (split' (awpLI ro X l.toArray (l.drop k) Q)) s) (hd : noDef (l.take k) = true := by rfl) : awpI ro [] X (.region id l.toArray false) Q s := by
 have := awpI_parts (ro := ro) (id := id) (l.take k) (l.drop k) (by rw [List.take_append_drop]; exact h) hd
 rwa [List.take_append_drop] at this
theorem awpI_regE {ex : Bool} {id : Nat} (n : Nat) (ks : List Nat) {ops : List Oper} (hQ : NoOut Q) (hm : X.P.follows .mixedOrders = true) (hok : ordOk ex ops.toArray n = true) (hak : allocKeys ops.toArray = ks) (hK : (ks.all fun k => !(X.K.contains k)) = true) (hd : noDef ops = true) (h : awpR ex X ops.toArray (ops.take n) (ops.drop n) Q (s.kills ks)) : awpI ro [] X (.region id ops.toArray true) Q s := by
 subst hak
 obtain ⟨s1, h1, h2⟩ := h
 exact awpI_any hm (any_region_ord n hok hK h1 h2) hQ hd
end
theorem ret_of_awpE {P : Program} {T : TypeId → Option TyD} (hT : TabOk P T) {f : FuncId} {fn : Func} {c : Code} (hf : P.funcs[f]? = some fn) (hname : (fn.name == "runtime.NumGoroutine") = false) (hb : fn.body = some c) {ds : List D} (hn : ds.length ≤ fn.ntmps) {R : D → Prop}
    (h : ∀ w0 F0, awpE ⟨P, T, hT, fn.ntmps, w0, fun _ => False, F0, [], fun _ => none⟩ c (retPost T fn R) (St.init ds)) : Ret P f ds R := by
  refine ⟨⟨fn, hf, hname, by rw [hb]; rfl⟩, fun F w vs hF hl hv => ?_⟩
  refine callsIn_wide.1 (callsIn_of_wp_marks (n := 0) hf hb trivial ?_)
  refine wpIn_mono (h w F 0 _ _ _ _ (sr_init hT hl hn hF hv)) fun e a' w' ⟨D, a0, w1, A1, F1, K1, io1, io', F', s', ea, hq, hs', hk1, hA1, hF1, hF1s, hD, hDh, hAD, hFD, hDw⟩ => ?_
  have fin : (s'.dfs = [] ∧ ∃ m C r r', resOf T m s' fn.results.toList = some (C, r) ∧ C ∧ LeD r r' ∧ R r') → LeavesInM Fence.wide 0 P fn a'.tmps (fun e w' => ∃ v r F', e = .returned v ∧ R r ∧ Below w.heap.size w w' ∧ (∀ b, F b → F' b) ∧ (∀ b, F' b → F b ∨ (w.heap.size ≤ b ∧ b < w'.heap.size)) ∧ DR F' w' r v) a'.defers .returning w' := fun ⟨hd, m, C, r, r', h1, h2, hle, h3⟩ => by
    have hDw1 : w'.heap[D]? = some (.deferred (some [])) := (hs'.kept.block D hD hAD).trans hDh
    have hFD' : ¬ F' D := fun h => by
      rcases (hs'.ff D h).2 with h | h | h
      · exact hFD h
      · have h : w1.heap.size ≤ D := h; omega
      · exact hAD h
    have ht := turn_def (r' := none) hDw1
    obtain ⟨w2, hw2⟩ : ∃ w2, w'.putObj D (.deferred none) = w2 := ⟨_, rfl⟩
    have htake := run_takeDeferred (P := P) hDw1
    rw [hw2] at ht htake
    have hs2 := hs'.rebase ht hFD'
    obtain ⟨v, hv, hd'⟩ := resOf_sound hT hs2 fn h1 h2
    have hdf := hs'.df
    rw [hd] at hdf
    have hdf : a0.defers = [] := hdf
    have hsz1 : w1.heap.size ≤ w'.heap.size := hs'.kept.size
    rw [ea]
    show LeavesInM _ _ _ _ _ _ ([{ target := .collected D, args := #[] }] ++ a0.defers) _ _
    rw [hdf]
    refine ⟨by simp, .inl ⟨D, w2, rfl, htake, ?_⟩⟩
    refine ⟨v, hv, v, r', Lent s' io' F', rfl, h3, ⟨?_, ?_, ?_, ?_, fun k hk => ?_⟩, fun b hb => .inl (hs'.f0 b (hF1 b hb)), fun b hb => ?_, hle _ _ _ hd'⟩
    · exact ht.os.trans (hs'.kept.os.trans hk1.os)
    · exact ht.tape.trans (hs'.kept.tape.trans hk1.tape)
    · exact ht.output.trans (hs'.kept.output.trans hk1.output)
    · rw [ht.size]
      have h1 : w.heap.size ≤ w1.heap.size := hk1.size
      omega
    · have h1 : w.heap.size ≤ w1.heap.size := hk1.size
      have h2 : w.heap.size ≤ D := hDw
      refine (ht.other k (by omega)).trans ((hs'.kept.block k (by show k < w1.heap.size; omega) fun h => ?_).trans (hk1.block k hk fun h => h))
      rcases hA1 k h with h | h
      · exact h
      · have h : w.heap.size ≤ k := h
        omega
    · obtain ⟨q1, q2⟩ := hs'.lentIn hb
      have h1 : w.heap.size ≤ w1.heap.size := hk1.size
      have q1' : b < w2.heap.size := by rw [ht.size]; exact q1
      rcases q2 with h | h | h
      · rcases hF1s b h with h | h | h
        · exact .inl h
        · exact .inr ⟨h, q1'⟩
        · exact h.elim
      · have h : w1.heap.size ≤ b := h
        exact .inr ⟨by omega, q1'⟩
      · rcases hA1 b h with h | h
        · exact h.elim
        · exact .inr ⟨h, q1'⟩
  cases e <;> simp only [retPost] at hq <;> first | exact hq.elim | exact fin hq
theorem vra_toD {io : Keys} {F : Nat → Prop} {w : World} {g : Nat → Option Value} : ∀ {ds : List D} {off : Nat}, VRA io F w g off (ds.map V.d) → DRA F w g off ds
 | [], _, _ => by simp only [DRA]
 | x :: xs, off, h => by
  simp only [List.map_cons, VRA, VR] at h
  simp only [DRA]
  exact ⟨h.1, vra_toD h.2⟩
theorem Conv.box {X : Ctx} {s : St} (k : Nat) {ty : TypeId} {cs : List D} (cs' : List D) (hk : s.blk k = some (.box ty (cs.map V.d))) (hle : LeL cs cs') : Conv X s (s.withBlk k (.box ty (cs'.map V.d))) := fun io F a w hs => by
 have hb : ∀ j, (s.withBlk k (.box ty (cs'.map V.d))).blk j = none ↔ s.blk j = none := fun j => by
  by_cases e : j = k
  ·subst e; rw [withBlk_same, hk]; simp
  ·rw [withBlk_ne e]
 have hln : (s.withBlk k (.box ty (cs'.map V.d))).ln = s.ln := by
  funext j
  by_cases e : j = k
  ·subst e; rw [ln_of withBlk_same, ln_of hk]; rfl
  ·unfold St.ln; rw [withBlk_ne e]
 have hkeys : (s.withBlk k (.box ty (cs'.map V.d))).keys io = s.keys io := by unfold St.keys; rw [hln]
 refine ⟨io, F, hs.kept, fun t => by rw [hkeys]; exact hs.tm t, hs.nt, by rw [hkeys]; exact hs.df, fun j b hj => ?_, fun j j' b e1 e2 => hs.inj j j' b (fun h => e1 ((hb j).2 h)) (fun h => e2 ((hb j').2 h)), hs.ff, hs.f0, hs.st⟩
 rw [hkeys]
 by_cases e : j = k
 ·subst e
  rw [withBlk_same] at hj
  cases hj
  have := hs.bl j _ hk
  simp only [BR] at this ⊢
  obtain ⟨b, arr, g1, g2, g3, g4, g5⟩ := this
  exact ⟨b, arr, g1, g2, g3, g4, DRA.toV (hle.2 _ _ _ _ (vra_toD g5))⟩
 ·rw [withBlk_ne e] at hj
  exact hs.bl j b hj
theorem awpEB_conv {X : Ctx} {b rest : Code} {Q : Exit → St → Prop} {s s' : St} (hc : Conv X s s') (h : awpEB X b rest Q s') : awpEB X b rest Q s := fun n io F a w hs => by
 obtain ⟨io', F', hs'⟩ := hc io F a w hs
 exact h n io' F' a w hs'
theorem awp_conv {X : Ctx} {c : Code} {Q : Exit → St → Prop} {s s' : St} (hc : Conv X s s') (h : awp X c Q s') : awp X c Q s := fun io F a w hs => by
 obtain ⟨io', F', hs'⟩ := hc io F a w hs
 exact h io' F' a w hs'
theorem awpEB_slots {X : Ctx} {b rest : Code} {Q : Exit → St → Prop} {s : St} (ts : List (Nat × V)) (bs : List (Nat × Blk)) (ht : AllT s ts) (hb : AllB s bs) (h : awpEB X b rest Q (St.of ts bs)) (hc : (coverT bs ts && coverB bs bs) = true := by rfl) : awpEB X b rest Q s := fun n io F a w hs => h n io F a w (hs.slots ht hb hc)
end Go.Vw
namespace Go.Proofs.YtejigedigmagdaaGreat
open Go.Vw
attribute [local irreducible] awp awpL awpR
theorem rv_r0 : rv r0 = 0 := by decide +kernel
theorem ok_r0K : RatOk r0 10000000 := by
 have := ok_rq (q := 0) (k := 10000000) ⟨by decide +kernel, by decide +kernel⟩
 rwa [show rq 0 = r0 by decide +kernel] at this
theorem sign_num (q : Rat) : q.num.sign = 0 ↔ q = 0 := by
 rw [Int.sign_eq_zero_iff_zero]; exact Rat.num_eq_zero
theorem cf_rv {l : List R3} {i : Nat} (h : i < l.length) : cf (l.map rv) i = rv (l.getD i r0) := gRv h
theorem polynomial_TrimB (l : List R3) (hn : l.length ≤ 1000) (hl : ∀ r ∈ l, RatOk r 10000000) : RetB Tryz.prog 149 [.d (rsD l)] (lookB []) (qO (trimP (l.map rv)).length) (lookB [(500, qB (trimP (l.map rv)))]) := by
 obtain ⟨n, hN⟩ : ∃ n, (trimP (l.map rv)).length = n := ⟨_, rfl⟩
 have hnl : n ≤ l.length := by rw [← hN]; exact Nat.le_trans (trim_len _) (by simp)
 have ex : ∀ a, a ≤ l.length → (∀ i, a ≤ i → i < l.length → cf (l.map rv) i = 0) → (0 < a → cf (l.map rv) (a - 1) ≠ 0) → a = n := fun a h1 h2 h3 => by
  rw [← hN, trim_take (n := a) (by simpa using h1) (fun i h h' => h2 i h (by simpa using h')) h3, List.length_take, List.length_map]; omega
 have htr : trimP (l.map rv) = (l.map rv).take n := by
  refine trim_take (by simpa using hnl) (fun i h _ => ?_) (fun h => ?_)
  ·rw [← cf_trim]; exact cf_ge (by omega)
  ·rw [← cf_trim, ← hN]
   have := (tr_trim (l.map rv)).cf (by omega)
   exact this
 rw [hN, htr]
 refine retB_of_awp tab [] Tryz.func149 rfl rfl rfl (lblz rfl) rfl trivial (fun w0 F0 A io0 => ?_)
 repeat' (first | refine stopA 2 tt ?_ | refine wG ?_ | refine wS ?_ ?_ <;> intro _ | refine wB ?_ ?_)
 refine stopOut ?_
 refine awp_meet1 (fun (_ : Unit) => ([(0, .d (rsD l)), (3, .d (.int .i64 n))], [])) (fun _ => True) (fun _ _ => ?_) ?_
 rotate_left
 ·repeat' (first | refine wG ?_ | refine wS ?_ ?_ <;> intro _ | refine wB ?_ ?_)
  refine awp_loop1 (fun (a : Nat) => ([(0, .d (rsD l)), (3, .d (.int .i64 a))], [])) (fun a => a ≤ l.length ∧ ∀ i, a ≤ i → i < l.length → cf (l.map rv) i = 0) (fun a => a) l.length ⟨Nat.le_refl _, fun i h1 h2 => by omega⟩ ⟨rfl, rfl, rfl⟩ trivial (fun a ha => ?_)
  obtain ⟨a1, a2⟩ := ha
  have ea : ((a : Int) - 1).toNat = a - 1 := by omega
  have e2 := ex a a1 a2
  by_cases c : 0 < a
  ·have cm := rational_Sign (l.getD ((a : Int) - 1).toNat r0) (by rw [ea]; exact gMem (fun r hr => (hl r hr).up (by decide)) (by omega))
   have hz := sign_num (rv (l.getD ((a : Int) - 1).toNat r0))
   rw [ea] at hz
   rw [cf_rv (by omega)] at e2
   have a3 : rv (l.getD (a - 1) r0) = 0 → ∀ i, a - 1 ≤ i → i < l.length → cf (l.map rv) i = 0 := fun h i h1 h2 => by
    by_cases e : i = a - 1
    ·rw [e, cf_rv (by omega)]; exact h
    ·exact a2 i (by omega) h2
   rw [ea] at cm
   generalize (rv (l.getD (a - 1) r0)) = x at *
   generalize x.num.sign = z at *
   rw [← ea] at cm
   clear ex hl htr
   repeat' (first | refine wG ?_ | refine wC cm ?_ | refine wS ?_ ?_ <;> intro _ | refine wB ?_ ?_)
   ·exact ⟨a - 1, ⟨by omega, a3 (hz.1 ‹_›)⟩, by omega, ⟨rfl, iv (by omega), rfl⟩, trivial⟩
   ·exact ⟨(), trivial, ⟨rfl, iv (by rw [e2 fun _ h => ‹¬ _› (hz.2 h)]), rfl⟩, trivial⟩
  ·clear ex hl htr
   repeat' (first | refine wG ?_ | refine wS ?_ ?_ <;> intro _ | refine wB ?_ ?_)
   exact ⟨(), trivial, ⟨rfl, iv (by rw [e2 fun h => absurd h c]), rfl⟩, trivial⟩
 ·clear ex
  repeat' (first | refine wG ?_ | refine wS ?_ ?_ <;> intro _ | refine wB ?_ ?_)
  refine awp_adopt 4 500 27 3 qC 0 rfl ?_
  refine awp_loop1 (fun (i : Nat) => ([(4, qO i), (24, .d (rsD (l.take n))), (25, .d (.int .i64 n)), (26, .d (.int .i64 i))], [(500, qB ((l.map rv).take i))])) (fun i => i ≤ n) (fun i => n - i) 0 (by omega) ⟨rfl, rfl, iv (by rw [List.length_take]; omega), rfl, rfl⟩ ⟨rfl, trivial⟩ (fun i hi => ?_)
  have hlt : (l.take n).length = n := by rw [List.length_take]; omega
  have hlq : ((l.map rv).take i).length = i := by rw [List.length_take, List.length_map]; omega
  by_cases h3 : i < n
  ·have e1 : (l.take n).getD i r0 = l.getD i r0 := by simp [List.getD_eq_getElem?_getD, h3]
   have g1 := gMem hl (show i < l.length by omega)
   have ad := rational_Add ((l.take n).getD i r0) r0 (by rw [e1]; exact g1.up (by decide)) (ok_r0K.up (by decide))
   rw [rv_r0, Rat.add_zero] at ad
   have et : (l.map rv).take i ++ [rv ((l.take n).getD i r0)] = (l.map rv).take (i + 1) := by
    rw [e1, List.take_add_one, List.getElem?_map, List.getD_eq_getElem?_getD, List.getElem?_eq_getElem (show i < l.length by omega)]; rfl
   generalize rv ((l.take n).getD i r0) = x at *
   clear hl htr g1 e1
   repeat' (first | refine wG ?_ | refine wC ad ?_ | refine wS ?_ ?_ <;> intro _ | refine wB ?_ ?_)
   exact ⟨i + 1, by omega, by omega, ⟨ownEq (by rw [List.length_append, hlq]; rfl), rfl, rfl, iv (by omega), rfl⟩, blkEq et, trivial⟩
  ·have e : i = n := by omega
   subst e
   clear hl htr
   repeat' (first | refine wG ?_ | refine wS ?_ ?_ <;> intro _ | refine wB ?_ ?_)
   all_goals first | exact leVT | exact ⟨rfl, trivial⟩
end Go.Proofs.YtejigedigmagdaaGreat
