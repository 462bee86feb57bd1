/-
  Contracts of functions of the program, and the layer that they are walked with: ItvC ItvD Plots W04 PlotsB W05 W02 W06 W07. Conditions: as each says.
-/
import Derived.Test.YtoppaphffnojdaaGreatA09
/-
  Intervals of rational numbers: what holds of the results of the operations. Conditions: as each says.
-/
set_option linter.unusedVariables false
set_option linter.unusedSimpArgs false
namespace Go.Vw
/-- A number lies in an interval. -/
def In (i : I2) (v : Rat) : Prop := i.1 ≤ v ∧ v ≤ i.2
theorem containsI_iff {i : I2} {v : Rat} : containsI i v = true ↔ In i v := by unfold containsI In; simp
theorem withinI_iff {i j : I2} : withinI i j = true ↔ j.1 ≤ i.1 ∧ i.2 ≤ j.2 := by unfold withinI; simp
theorem withinI_of {i j : I2} (h1 : In j i.1) (h2 : In j i.2) : withinI i j = true := withinI_iff.2 ⟨h1.1, h2.2⟩
theorem In.mono {i j : I2} {v : Rat} (h : withinI i j = true) (hv : In i v) : In j v := by
  have := withinI_iff.1 h
  exact ⟨Rat.le_trans this.1 hv.1, Rat.le_trans hv.2 this.2⟩
theorem foldl_minQ_le : ∀ (l : List Rat) (m : Rat), l.foldl minQ m ≤ m ∧ ∀ x ∈ l, l.foldl minQ m ≤ x
  | [], m => ⟨Rat.le_refl, by simp⟩
  | x :: l, m => by
    have h := foldl_minQ_le l (minQ m x)
    have h2 := minQ_le m x
    refine ⟨Rat.le_trans h.1 h2.1, ?_⟩
    intro y hy
    rcases List.mem_cons.1 hy with e | e
    · rw [e]; exact Rat.le_trans h.1 h2.2
    · exact h.2 y e
theorem foldl_maxQ_le : ∀ (l : List Rat) (m : Rat), m ≤ l.foldl maxQ m ∧ ∀ x ∈ l, x ≤ l.foldl maxQ m
  | [], m => ⟨Rat.le_refl, by simp⟩
  | x :: l, m => by
    have h := foldl_maxQ_le l (maxQ m x)
    have h2 := maxQ_le m x
    refine ⟨Rat.le_trans h2.1 h.1, ?_⟩
    intro y hy
    rcases List.mem_cons.1 hy with e | e
    · rw [e]; exact Rat.le_trans h2.2 h.1
    · exact h.2 y e
theorem minQ_mem (x y : Rat) : minQ x y = x ∨ minQ x y = y := by unfold minQ; split <;> simp
theorem maxQ_mem (x y : Rat) : maxQ x y = x ∨ maxQ x y = y := by unfold maxQ; split <;> simp
theorem foldl_minQ_mem : ∀ (l : List Rat) (m : Rat), l.foldl minQ m ∈ m :: l
  | [], m => by simp
  | x :: l, m => by
    have h := foldl_minQ_mem l (minQ m x)
    rw [List.foldl_cons]
    rcases List.mem_cons.1 h with e | e
    · rw [e]; rcases minQ_mem m x with e | e <;> rw [e] <;> simp
    · simp [e]
theorem foldl_maxQ_mem : ∀ (l : List Rat) (m : Rat), l.foldl maxQ m ∈ m :: l
  | [], m => by simp
  | x :: l, m => by
    have h := foldl_maxQ_mem l (maxQ m x)
    rw [List.foldl_cons]
    rcases List.mem_cons.1 h with e | e
    · rw [e]; rcases maxQ_mem m x with e | e <;> rw [e] <;> simp
    · simp [e]
theorem hullL_in {x : Rat} {l : List Rat} : ∀ v ∈ x :: l, In (hullL x l) v := by
  intro v hv
  have h1 := foldl_minQ_le l x
  have h2 := foldl_maxQ_le l x
  rcases List.mem_cons.1 hv with e | e
  · rw [e]; exact ⟨h1.1, h2.1⟩
  · exact ⟨h1.2 v e, h2.2 v e⟩
theorem hullL_lo (x : Rat) (l : List Rat) : (hullL x l).1 ∈ x :: l := foldl_minQ_mem l x
theorem hullL_hi (x : Rat) (l : List Rat) : (hullL x l).2 ∈ x :: l := foldl_maxQ_mem l x
theorem hullL_inc (x : Rat) (l : List Rat) : (hullL x l).1 ≤ (hullL x l).2 := hullL_le l x x Rat.le_refl
theorem mulR {a b c : Rat} (h : a ≤ b) (hc : 0 ≤ c) : a * c ≤ b * c := Rat.mul_le_mul_of_nonneg_right h hc
theorem mulRn {a b c : Rat} (h : a ≤ b) (hc : c ≤ 0) : b * c ≤ a * c := by
  have := Rat.mul_le_mul_of_nonneg_right (c := -c) h (by grind)
  grind
/-- A product lies between the products with the ends. -/
theorem lin {m n x y a b : Rat} (h1 : a ≤ x) (h2 : x ≤ b) (ha : m ≤ a * y ∧ a * y ≤ n) (hb : m ≤ b * y ∧ b * y ≤ n) : m ≤ x * y ∧ x * y ≤ n := by
  rcases Rat.le_total (a := 0) (b := y) with h | h
  · exact ⟨Rat.le_trans ha.1 (mulR h1 h), Rat.le_trans (mulR h2 h) hb.2⟩
  · exact ⟨Rat.le_trans hb.1 (mulRn h2 h), Rat.le_trans (mulRn h1 h) ha.2⟩
theorem in_mulI {a b : I2} {x y : Rat} (hx : In a x) (hy : In b y) : In (mulI a b) (x * y) := by
  have hc : ∀ v ∈ [a.1 * b.1, a.1 * b.2, a.2 * b.1, a.2 * b.2], In (mulI a b) v := hullL_in
  have c1 := hc (a.1 * b.1) (by simp)
  have c2 := hc (a.1 * b.2) (by simp)
  have c3 := hc (a.2 * b.1) (by simp)
  have c4 := hc (a.2 * b.2) (by simp)
  unfold In at *
  have k1 := lin hy.1 hy.2 (y := a.1) (m := (mulI a b).1) (n := (mulI a b).2) (by rw [Rat.mul_comm]; exact c1) (by rw [Rat.mul_comm]; exact c2)
  have k2 := lin hy.1 hy.2 (y := a.2) (m := (mulI a b).1) (n := (mulI a b).2) (by rw [Rat.mul_comm]; exact c3) (by rw [Rat.mul_comm]; exact c4)
  exact lin hx.1 hx.2 (by rw [Rat.mul_comm]; exact k1) (by rw [Rat.mul_comm]; exact k2)
theorem in_lo {a : I2} (h : a.1 ≤ a.2) : In a a.1 := ⟨Rat.le_refl, h⟩
theorem in_hi {a : I2} (h : a.1 ≤ a.2) : In a a.2 := ⟨h, Rat.le_refl⟩
theorem mulI_ends {a b : I2} (ha : a.1 ≤ a.2) (hb : b.1 ≤ b.2) : (∃ x y, In a x ∧ In b y ∧ (mulI a b).1 = x * y) ∧ (∃ x y, In a x ∧ In b y ∧ (mulI a b).2 = x * y) := by
  have key : ∀ v ∈ [a.1 * b.1, a.1 * b.2, a.2 * b.1, a.2 * b.2], ∃ x y, In a x ∧ In b y ∧ v = x * y := by
    intro v hv
    simp only [List.mem_cons, List.not_mem_nil, or_false] at hv
    rcases hv with h | h | h | h
    · exact ⟨_, _, in_lo ha, in_lo hb, h⟩
    · exact ⟨_, _, in_lo ha, in_hi hb, h⟩
    · exact ⟨_, _, in_hi ha, in_lo hb, h⟩
    · exact ⟨_, _, in_hi ha, in_hi hb, h⟩
  exact ⟨key _ (hullL_lo _ _), key _ (hullL_hi _ _)⟩
theorem mulI_le (a b : I2) : (mulI a b).1 ≤ (mulI a b).2 := hullL_inc _ _
theorem within_mul {a b c : I2} (ha : a.1 ≤ a.2) (hb : b.1 ≤ b.2) (h : withinI a c = true) : withinI (mulI a b) (mulI c b) = true := by
  obtain ⟨⟨x, y, hx, hy, e1⟩, ⟨u, v, hu, hv, e2⟩⟩ := mulI_ends ha hb
  refine withinI_of ?_ ?_
  · rw [e1]; exact in_mulI (hx.mono h) hy
  · rw [e2]; exact in_mulI (hu.mono h) hv
theorem within_add {a b c : I2} (h : withinI a c = true) : withinI (addI a b) (addI c b) = true := by
  have := withinI_iff.1 h
  refine withinI_iff.2 ?_
  unfold addI
  constructor <;> simp only <;> grind
theorem within_sub {a b c : I2} (h : withinI a c = true) : withinI (subI a b) (subI c b) = true := by
  have := withinI_iff.1 h
  refine withinI_iff.2 ?_
  unfold subI
  constructor <;> simp only <;> grind
theorem addI_le {a b : I2} (ha : a.1 ≤ a.2) (hb : b.1 ≤ b.2) : (addI a b).1 ≤ (addI a b).2 := by unfold addI; simp only; grind
theorem subI_le {a b : I2} (ha : a.1 ≤ a.2) (hb : b.1 ≤ b.2) : (subI a b).1 ≤ (subI a b).2 := by unfold subI; simp only; grind
theorem in_add {a b : I2} {x y : Rat} (hx : In a x) (hy : In b y) : In (addI a b) (x + y) := by
  unfold In addI at *; simp only; constructor <;> grind
theorem in_sub {a b : I2} {x y : Rat} (hx : In a x) (hy : In b y) : In (subI a b) (x - y) := by
  unfold In subI at *; simp only; constructor <;> grind
theorem sqI_ends {a : I2} (ha : a.1 ≤ a.2) : (∃ x, In a x ∧ (sqI a).1 = x * x) ∧ (∃ x, In a x ∧ (sqI a).2 = x * x) := by
  have key : ∀ v ∈ [a.1 * a.1, a.2 * a.2], ∃ x, In a x ∧ v = x * x := by
    intro v hv
    simp only [List.mem_cons, List.not_mem_nil, or_false] at hv
    rcases hv with h | h
    · exact ⟨_, in_lo ha, h⟩
    · exact ⟨_, in_hi ha, h⟩
  unfold sqI
  split
  · rename_i h
    exact ⟨⟨0, containsI_iff.1 h, by show (0 : Rat) = 0 * 0; rw [Rat.mul_zero]⟩, key _ (hullL_hi _ _)⟩
  · exact ⟨key _ (hullL_lo _ _), key _ (hullL_hi _ _)⟩
theorem sq_le {x y : Rat} (hx : 0 ≤ x) (h : x ≤ y) : x * x ≤ y * y := by
  have h1 := mulR h hx
  have h2 := mulR h (Rat.le_trans hx h)
  have h3 := Rat.mul_comm x y
  grind
theorem sq_le_neg {x y : Rat} (hx : x ≤ 0) (h : y ≤ x) : x * x ≤ y * y := by
  have := sq_le (x := -x) (y := -y) (by grind) (by grind)
  grind
theorem in_sqI {a : I2} {x : Rat} (hx : In a x) : In (sqI a) (x * x) := by
  have hc : ∀ v ∈ [a.1 * a.1, a.2 * a.2], In (hullL (a.1 * a.1) [a.2 * a.2]) v := hullL_in
  have c1 := hc (a.1 * a.1) (by simp)
  have c2 := hc (a.2 * a.2) (by simp)
  have hup : x * x ≤ (hullL (a.1 * a.1) [a.2 * a.2]).2 := by
    rcases Rat.le_total (a := 0) (b := x) with h | h
    · exact Rat.le_trans (sq_le h hx.2) c2.2
    · exact Rat.le_trans (sq_le_neg h hx.1) c1.2
  unfold sqI
  split
  · exact ⟨square_nonneg x, hup⟩
  · rename_i h
    refine ⟨?_, hup⟩
    have hn : ¬ In a 0 := fun hc => h (containsI_iff.2 hc)
    rcases Rat.le_total (a := 0) (b := a.1) with h0 | h0
    · exact Rat.le_trans c1.1 (sq_le h0 hx.1)
    · have h2 : a.2 ≤ 0 := by
        rcases Rat.le_total (a := a.2) (b := 0) with h3 | h3
        · exact h3
        · exact absurd ⟨h0, h3⟩ hn
      exact Rat.le_trans c2.1 (sq_le_neg h2 hx.2)
theorem sqI_le {a : I2} (ha : a.1 ≤ a.2) : (sqI a).1 ≤ (sqI a).2 := by
  obtain ⟨_, ⟨x, hx, e⟩⟩ := sqI_ends ha
  rw [e]; exact (in_sqI hx).1
theorem within_sq {a c : I2} (ha : a.1 ≤ a.2) (h : withinI a c = true) : withinI (sqI a) (sqI c) = true := by
  obtain ⟨⟨x, hx, e1⟩, ⟨u, hu, e2⟩⟩ := sqI_ends ha
  refine withinI_of ?_ ?_
  · rw [e1]; exact in_sqI (hx.mono h)
  · rw [e2]; exact in_sqI (hu.mono h)
theorem within_sq_mul {a : I2} (ha : a.1 ≤ a.2) : withinI (sqI a) (mulI a a) = true := by
  obtain ⟨⟨x, hx, e1⟩, ⟨u, hu, e2⟩⟩ := sqI_ends ha
  refine withinI_of ?_ ?_
  · rw [e1]; exact in_mulI hx hx
  · rw [e2]; exact in_mulI hu hu
theorem inv_anti {x y : Rat} (hx : 0 < x) (h : x ≤ y) : 1 / y ≤ 1 / x := by
  have hy : 0 < y := by grind
  have hxi : 0 < x⁻¹ := Rat.inv_pos.2 hx
  have hyi : 0 < y⁻¹ := Rat.inv_pos.2 hy
  have h1 := mulR (mulR h (Rat.le_of_lt hxi)) (Rat.le_of_lt hyi)
  have e1 : x * x⁻¹ = 1 := Rat.mul_inv_cancel x (Rat.ne_of_gt hx)
  have e2 : y * y⁻¹ = 1 := Rat.mul_inv_cancel y (Rat.ne_of_gt hy)
  rw [Rat.div_def, Rat.div_def, Rat.one_mul, Rat.one_mul]
  rw [e1, Rat.one_mul, Rat.mul_assoc, Rat.mul_comm x⁻¹, ← Rat.mul_assoc, e2, Rat.one_mul] at h1
  exact h1
theorem div_neg' (x : Rat) : 1 / (-x) = -(1 / x) := by
  rw [Rat.div_def, Rat.div_def, Rat.one_mul, Rat.one_mul]
  by_cases h : x = 0
  · rw [h]; simp
  · apply Rat.inv_eq_of_mul_eq_one
    have := Rat.mul_inv_cancel x h
    grind
theorem in_inv {b : I2} {y : Rat} (h0 : containsI b 0 = false) (hy : In b y) : y ≠ 0 ∧ In (1 / b.2, 1 / b.1) (1 / y) := by
  have hn : ¬ In b 0 := fun hc => by rw [containsI_iff.2 hc] at h0; exact absurd h0 (by decide)
  rcases Rat.le_total (a := b.1) (b := 0) with h | h
  · have h2 : b.2 < 0 := by
      rcases Rat.le_total (a := 0) (b := b.2) with h3 | h3
      · exact absurd ⟨h, h3⟩ hn
      · refine Rat.lt_of_le_of_ne h3 (fun e => hn ⟨h, by rw [e]; exact Rat.le_refl⟩)
    have hy0 : y < 0 := by have := hy.2; grind
    have k1 := inv_anti (x := -b.2) (y := -y) (by grind) (by have := hy.2; grind)
    have k2 := inv_anti (x := -y) (y := -b.1) (by grind) (by have := hy.1; grind)
    rw [div_neg', div_neg'] at k1 k2
    exact ⟨Rat.ne_of_lt hy0, by show 1 / b.2 ≤ 1 / y; grind, by show 1 / y ≤ 1 / b.1; grind⟩
  · have h1 : 0 < b.1 := by
      refine Rat.lt_of_le_of_ne h (fun e => hn ⟨by rw [← e]; exact Rat.le_refl, ?_⟩)
      exact Rat.le_trans h (Rat.le_trans hy.1 hy.2)
    have hy0 : 0 < y := by have := hy.1; grind
    exact ⟨Rat.ne_of_gt hy0, inv_anti hy0 hy.2, inv_anti h1 hy.1⟩
theorem in_div {a b : I2} {x y : Rat} (h0 : containsI b 0 = false) (hx : In a x) (hy : In b y) : In (divI a b) (x / y) := by
  have h := in_mulI hx (in_inv h0 hy).2
  rw [show x * (1 / y) = x / y by rw [Rat.div_def, Rat.div_def, Rat.one_mul]] at h
  exact h
theorem hullI_le (a b : I2) : (hullI a b).1 ≤ (hullI a b).2 := hullL_inc _ _
theorem within_hull (a b : I2) : withinI a (hullI a b) = true ∧ withinI b (hullI a b) = true := by
  have hc : ∀ v ∈ [a.1, a.2, b.1, b.2], In (hullI a b) v := hullL_in
  exact ⟨withinI_of (hc _ (by simp)) (hc _ (by simp)), withinI_of (hc _ (by simp)) (hc _ (by simp))⟩
theorem meetI_some {a b m : I2} (h : meetI a b = some m) : m.1 ≤ m.2 ∧ withinI m a = true ∧ withinI m b = true ∧ m = (maxQ a.1 b.1, minQ a.2 b.2) := by
  unfold meetI at h
  split at h
  · exact absurd h (by simp)
  · rename_i hh
    have e := (Option.some.inj h).symm
    subst e
    have h1 := maxQ_le a.1 b.1
    have h2 := minQ_le a.2 b.2
    exact ⟨Rat.not_lt.1 hh, withinI_iff.2 ⟨h1.1, h2.1⟩, withinI_iff.2 ⟨h1.2, h2.2⟩, rfl⟩
theorem meetI_iff (a b : I2) (v : Rat) : (containsI a v && containsI b v) = (match meetI a b with | none => false | some m => containsI m v) := by
  rw [Bool.eq_iff_iff, Bool.and_eq_true, containsI_iff, containsI_iff]
  have h1 := maxQ_le a.1 b.1
  have h2 := minQ_le a.2 b.2
  have e1 := maxQ_mem a.1 b.1
  have e2 := minQ_mem a.2 b.2
  cases hm : meetI a b with
  | none =>
    simp only [Bool.false_eq_true, iff_false]
    intro ⟨p, q⟩
    unfold meetI at hm
    split at hm
    · rename_i hh
      have k1 : maxQ a.1 b.1 ≤ v := by rcases e1 with e | e <;> rw [e]; exact p.1; exact q.1
      have k2 : v ≤ minQ a.2 b.2 := by rcases e2 with e | e <;> rw [e]; exact p.2; exact q.2
      exact absurd (Rat.le_trans k1 k2) (Rat.not_le.2 hh)
    · exact absurd hm (by simp)
  | some m =>
    have hs := meetI_some hm
    simp only
    rw [containsI_iff]
    constructor
    · intro ⟨p, q⟩
      rw [hs.2.2.2]
      exact ⟨by show maxQ a.1 b.1 ≤ v; rcases e1 with e | e <;> rw [e]; exact p.1; exact q.1, by show v ≤ minQ a.2 b.2; rcases e2 with e | e <;> rw [e]; exact p.2; exact q.2⟩
    · intro p
      exact ⟨p.mono hs.2.1, p.mono hs.2.2.1⟩
theorem sqI_zero {a : I2} (ha : a.1 ≤ a.2) : decide ((sqI a).1 = 0) = containsI a 0 := by
  cases hc : containsI a 0 with
  | true => unfold sqI; rw [hc]; simp
  | false =>
    rw [decide_eq_false_iff_not]
    intro h
    obtain ⟨⟨x, hx, e⟩, _⟩ := sqI_ends ha
    rw [e] at h
    have h0 : x = 0 := by rcases Rat.mul_eq_zero.1 h with h | h <;> exact h
    rw [h0] at hx
    rw [containsI_iff.2 hx] at hc
    exact absurd hc (by decide)
end Go.Vw

/-
  Square roots in intervals: what holds of the interval of a root. Conditions: as each says.
-/
set_option linter.unusedVariables false
set_option linter.unusedSimpArgs false
namespace Go.Vw
theorem twoQ_eq (n : Nat) : twoQ n = ((2 ^ n : Nat) : Rat) := rfl
theorem twoQ_pos (n : Nat) : 0 < twoQ n := by
  have h := twoQ_ne n
  have h2 : (0 : Rat) ≤ twoQ n := by
    rw [twoQ_eq]
    exact Rat.natCast_nonneg
  grind
theorem rt_self_le (m : Nat) : rt m ≤ m := rt_le (by rw [Nat.mul_add, Nat.add_mul]; have := Nat.zero_le (m * m); omega)
theorem two_len {n k : Nat} (h : n / 32 + 1 < k) : (limbs (2 ^ n)).length < k := by
  rw [← limbs_two n, List.length_set, List.length_replicate]; exact h
theorem okQ_two {n : Nat} (h : n ≤ 128) : okQ 10 (twoQ n) := by
  refine ⟨?_, ?_⟩
  · have e : (twoQ n).num.natAbs = 2 ^ n := by unfold twoQ; rw [Rat.num_intCast]; exact Int.natAbs_natCast _
    rw [e]
    exact two_len (by omega)
  · have e : (twoQ n).den = 1 := by unfold twoQ; exact Rat.den_intCast _
    rw [e, limbs_one]; decide
theorem rq_two (n : Nat) : rq (twoQ n) = (false, limbs (2 ^ n), []) := by
  have e : (twoQ n).num = ((2 ^ n : Nat) : Int) := by unfold twoQ; exact Rat.num_intCast _
  have e2 : (twoQ n).den = 1 := by unfold twoQ; exact Rat.den_intCast _
  unfold rq
  rw [e, e2, Int.natAbs_natCast, decide_eq_false (Int.not_lt.2 (Int.natCast_nonneg _))]
  rfl
theorem rq_natI (m : Nat) : rq (((m : Nat) : Int) : Rat) = (false, limbs m, []) := by
  unfold rq
  rw [Rat.num_intCast, Rat.den_intCast, Int.natAbs_natCast, decide_eq_false (by omega)]
  rfl
theorem okQ_natI {m k : Nat} (h : (limbs m).length < k) (hk : 1 < k) : okQ k (((m : Nat) : Int) : Rat) := by
  refine ⟨?_, ?_⟩
  · rw [Rat.num_intCast, Int.natAbs_natCast]; exact h
  · rw [Rat.den_intCast, limbs_one]; exact hk
theorem floor_len {q : Rat} {k : Nat} (h : okQ k q) : (limbs q.floor.natAbs).length < k := by
  rw [Rat.floor_def]
  exact Nat.lt_of_le_of_lt (limbs_len_mono (Int.natAbs_ediv_le_natAbs _ _)) h.1
theorem rootN_len {v : Rat} {n k : Nat} (h : okQ k v) (hn : n ≤ 128) : (limbs (rootN v n)).length < k + 20 := by
  unfold rootN
  exact Nat.lt_of_le_of_lt (limbs_len_mono (rt_self_le _)) (floor_len (h.mul ((okQ_two hn).mul (okQ_two hn))))
theorem mulL {a b c : Rat} (h : a ≤ b) (hc : 0 ≤ c) : c * a ≤ c * b := Rat.mul_le_mul_of_nonneg_left h hc
theorem div_mul_cancel' {a b : Rat} (h : b ≠ 0) : a / b * b = a := by rw [Rat.div_def, Rat.mul_assoc, Rat.inv_mul_cancel b h, Rat.mul_one]
theorem root_spec {v : Rat} (hv : 0 ≤ v) (n : Nat) : 0 ≤ rootLo v n ∧ rootLo v n * rootLo v n ≤ v ∧ v < (rootLo v n + 1 / twoQ n) * (rootLo v n + 1 / twoQ n) := by
  have ht := twoQ_pos n
  have hne := twoQ_ne n
  have h0 : (0 : Rat) ≤ v * (twoQ n * twoQ n) := Rat.mul_nonneg hv (Rat.mul_nonneg (Rat.le_of_lt ht) (Rat.le_of_lt ht))
  have f1 := Rat.floor_le (v * (twoQ n * twoQ n))
  have f2 := Rat.lt_floor_add_one (v * (twoQ n * twoQ n))
  rw [Rat.intCast_add] at f2
  have f0 : 0 ≤ (v * (twoQ n * twoQ n)).floor := Rat.le_floor_iff.2 h0
  have hi := rootHi_eq v n
  unfold rootLo rootN at *
  generalize (v * (twoQ n * twoQ n)).floor = f at *
  obtain ⟨m, rfl⟩ := Int.eq_ofNat_of_zero_le f0
  rw [Int.natAbs_natCast] at *
  have hs := rt_spec m
  generalize rt m = r at *
  generalize twoQ n = t at *
  have s1 : ((r : Nat) : Rat) * ((r : Nat) : Rat) ≤ ((m : Nat) : Rat) := by rw [← Rat.natCast_mul]; exact Rat.natCast_le_natCast.2 hs.1
  have s2 : ((m : Nat) : Rat) + 1 ≤ (((r : Nat) : Rat) + 1) * (((r : Nat) : Rat) + 1) := by
    have : ((m + 1 : Nat) : Rat) ≤ (((r + 1) * (r + 1) : Nat) : Rat) := Rat.natCast_le_natCast.2 hs.2
    rw [Rat.natCast_mul, Rat.natCast_add, Rat.natCast_add] at this
    exact this
  have s0 : (0 : Rat) ≤ ((r : Nat) : Rat) := Rat.natCast_nonneg
  rw [Rat.intCast_natCast] at *
  generalize ((r : Nat) : Rat) = x at *
  generalize ((m : Nat) : Rat) = y at *
  have e1 : x / t * t = x := div_mul_cancel' hne
  have e2 : 1 / t * t = 1 := div_mul_cancel' hne
  have tt : 0 < t * t := Rat.mul_pos ht ht
  generalize x / t = a at *
  generalize 1 / t = e at *
  have q1 : (a * a) * (t * t) = x * x := by rw [← e1]; grind
  have q2 : ((a + e) * (a + e)) * (t * t) = (x + 1) * (x + 1) := by rw [← e1, ← e2]; grind
  have f2' : v * (t * t) < y + 1 := f2
  refine ⟨?_, ?_, ?_⟩
  · refine Rat.le_of_mul_le_mul_right (c := t) ?_ ht
    rw [e1, Rat.zero_mul]; exact s0
  · refine Rat.le_of_mul_le_mul_right (c := t * t) ?_ tt
    rw [q1]; exact Rat.le_trans s1 f1
  · refine Rat.lt_of_mul_lt_mul_right (c := t * t) ?_ (Rat.le_of_lt tt)
    rw [q2]; grind
theorem rootI_le {v : Rat} (n : Nat) : (rootI v n).1 ≤ (rootI v n).2 := by
  unfold rootI
  split
  · exact Rat.le_refl
  · have ht := twoQ_pos n
    have : 0 ≤ 1 / twoQ n := by rw [Rat.div_def, Rat.one_mul]; exact Rat.le_of_lt (Rat.inv_pos.2 ht)
    show rootLo v n ≤ rootLo v n + 1 / twoQ n
    grind
theorem rootI_spec {v : Rat} (hv : 0 ≤ v) (n : Nat) : 0 ≤ (rootI v n).1 ∧ containsI (sqI (rootI v n)) v = true ∧ (((rootI v n).2 - (rootI v n).1) * twoQ n = 0 → (rootI v n).1 * (rootI v n).1 = v) ∧ (((rootI v n).2 - (rootI v n).1) * twoQ n ≠ 0 → ((rootI v n).2 - (rootI v n).1) * twoQ n = 1 ∧ v < (rootI v n).2 * (rootI v n).2 ∧ (rootI v n).1 * (rootI v n).1 < v) := by
  obtain ⟨h0, h1, h2⟩ := root_spec hv n
  have hle := rootI_le (v := v) n
  have ht := twoQ_pos n
  have hne := twoQ_ne n
  have c1 := in_sqI (in_lo hle)
  have c2 := in_sqI (in_hi hle)
  have e2 : 1 / twoQ n * twoQ n = 1 := div_mul_cancel' hne
  unfold rootI at *
  split
  · rename_i h
    rw [if_pos h] at *
    simp only at *
    refine ⟨h0, ?_, fun _ => h, fun hc => ?_⟩
    · rw [h] at c1; exact containsI_iff.2 c1
    · exact absurd (by grind) hc
  · rename_i h
    rw [if_neg h] at *
    simp only at *
    have hlt : rootLo v n * rootLo v n < v := Rat.lt_of_le_of_ne h1 h
    have ew : (rootLo v n + 1 / twoQ n - rootLo v n) * twoQ n = 1 := by rw [← e2]; grind
    refine ⟨h0, containsI_iff.2 ⟨Rat.le_trans c1.1 (Rat.le_of_lt hlt), Rat.le_trans (Rat.le_of_lt h2) c2.2⟩, fun hc => ?_, fun _ => ⟨ew, h2, hlt⟩⟩
    rw [ew] at hc
    exact absurd hc (by decide)
end Go.Vw

/-
  The cell of a number between two others. Conditions: as each says.
-/
set_option linter.unusedVariables false
set_option linter.unusedSimpArgs false
namespace Go.Vw
def okP (v lo hi : Rat) (c : Int) : Bool := decide (lo < hi) && decide (1 ≤ c) && decide (lo ≤ v) && decide (v ≤ hi)
def cellZ (v lo hi : Rat) (c : Int) : Int := min ((v - lo) / (hi - lo) * c).floor (c - 1)
theorem cell_comm (v lo hi : Rat) (c : Int) : (v - lo) * c / (hi - lo) = (v - lo) / (hi - lo) * c := by
  rw [Rat.div_def, Rat.div_def, Rat.mul_assoc, Rat.mul_assoc, Rat.mul_comm (c : Rat)]
theorem frac_bounds {w d : Rat} (hd : 0 < d) (h0 : 0 ≤ w) (h1 : w ≤ d) : 0 ≤ w / d ∧ w / d ≤ 1 ∧ (w < d → w / d < 1) := by
  have e : w / d * d = w := div_mul_cancel' (Rat.ne_of_gt hd)
  refine ⟨?_, ?_, fun h => ?_⟩
  · refine Rat.le_of_mul_le_mul_right (c := d) ?_ hd
    rw [e, Rat.zero_mul]; exact h0
  · refine Rat.le_of_mul_le_mul_right (c := d) ?_ hd
    rw [e, Rat.one_mul]; exact h1
  · refine Rat.lt_of_mul_lt_mul_right (c := d) ?_ (Rat.le_of_lt hd)
    rw [e, Rat.one_mul]; exact h
theorem cell_floor {v lo hi : Rat} {c : Int} (h : lo < hi) (hc : 1 ≤ c) (h1 : lo ≤ v) (h2 : v ≤ hi) : 0 ≤ ((v - lo) / (hi - lo) * c).floor ∧ ((v - lo) / (hi - lo) * c).floor ≤ c ∧ (v < hi → ((v - lo) / (hi - lo) * c).floor < c) := by
  have hb := frac_bounds (w := v - lo) (d := hi - lo) (by grind) (by grind) (by grind)
  have hc0 : (0 : Rat) ≤ (c : Rat) := by
    have : ((0 : Int) : Rat) ≤ (c : Rat) := Rat.intCast_le_intCast.2 (by omega)
    exact this
  have hcp : (0 : Rat) < (c : Rat) := by
    have : ((0 : Int) : Rat) < (c : Rat) := Rat.intCast_lt_intCast.2 (by omega)
    exact this
  generalize (v - lo) / (hi - lo) = f at *
  refine ⟨?_, ?_, fun h => ?_⟩
  · exact Rat.le_floor_iff.2 (Rat.mul_nonneg hb.1 hc0)
  · have h3 : f * c ≤ (c : Rat) := by
      have := Rat.mul_le_mul_of_nonneg_right hb.2.1 hc0
      rwa [Rat.one_mul] at this
    have h4 := Rat.le_trans (Rat.floor_le (f * c)) h3
    exact Rat.intCast_le_intCast.1 h4
  · refine Rat.floor_lt_iff.2 ?_
    have := Rat.mul_lt_mul_of_pos_right (hb.2.2 (by grind)) hcp
    rwa [Rat.one_mul] at this
theorem cell_top {lo hi : Rat} {c : Int} (h : lo < hi) (hc : 1 ≤ c) : cellZ hi lo hi c = c - 1 := by
  unfold cellZ
  have e : (hi - lo) / (hi - lo) = 1 := by rw [Rat.div_def]; exact Rat.mul_inv_cancel _ (by grind)
  rw [e, Rat.one_mul, Rat.floor_intCast]
  omega
theorem cell_in {v lo hi : Rat} {c : Int} (h : okP v lo hi c = true) : 0 ≤ cellZ v lo hi c ∧ cellZ v lo hi c < c := by
  unfold okP at h
  simp only [Bool.and_eq_true, decide_eq_true_eq] at h
  obtain ⟨⟨⟨h1, h2⟩, h3⟩, h4⟩ := h
  have := cell_floor h1 h2 h3 h4
  unfold cellZ
  omega
end Go.Vw

set_option linter.unusedVariables false
set_option linter.unusedSimpArgs false
set_option maxHeartbeats 8000000
namespace Go.Proofs.YtoppaphffnojdaaGreat
open Go.Vw
attribute [local irreducible] awp awpL awpR

theorem ref02_ToIntN (n : Nat) (h : n < 9223372036854775808) : Ret Tryz.prog 38 [zD (n : Int)] (· = .tup [.int .i64 n, .bool true]) := by
  have ln := u64_len (v := n) (by omega)
  have hv := ref02_TakeZ (n : Int) (by rw [Int.natAbs_natCast]; omega)
  rw [zD_nat] at hv ⊢
  have hu := ref01_UintN n (by omega)
  refine ret_of_awp tab Tryz.func38 rfl rfl (Nat.le_of_ble_eq_true rfl) (fun w0 F0 => ?_)
  repeat' (first
    | (show awpL _ _ _ _ _; first | refine goL ?_ | refine cl 78 tt rfl rfl rfl (hr := hv) (k := ?_) | refine cl 79 tt rfl rfl rfl (hr := hu) (k := ?_) | (refine gdLD rfl rfl (fun _ => ?_) (fun _ => ?_) <;> try (exfalso; omega)) | (refine gdLN rfl rfl (fun _ => ?_) (fun _ => ?_) <;> try (exfalso; omega)) | refine gdL rfl rfl (fun _ => ?_) (fun _ => ?_))
    | (show awp _ _ _ _; first | refine goA ?_ | (refine awp_condD rfl (fun _ => ?_) (fun _ => ?_) <;> try (exfalso; omega)) | (refine awp_condN rfl (fun _ => ?_) (fun _ => ?_) <;> try (exfalso; omega)) | refine awp_cond rfl (fun _ => ?_) (fun _ => ?_))
    | (show andThen _ _ _ _; first | refine goN ?_)
    | (show inBlock _ _ _ _; first | refine goB ?_)
    | (show awpR _ _ _ _ _ _; first | refine goR ?_ | refine clR 78 tt rfl rfl rfl (hr := hv) (k := ?_) | refine clR 79 tt rfl rfl rfl (hr := hu) (k := ?_) | (refine gdRD rfl rfl (fun _ => ?_) (fun _ => ?_) <;> try (exfalso; omega)) | (refine gdRN rfl rfl (fun _ => ?_) (fun _ => ?_) <;> try (exfalso; omega)) | refine gdR rfl rfl (fun _ => ?_) (fun _ => ?_))
    | (show retPost _ _ _ _ _; first | refine finF true rfl rfl sc ?_ | refine finF false rfl rfl sc ?_ | refine finC false rfl rfl sc sc ?_ | refine finN rfl rfl sc ?_ | refine finL true rfl rfl sc rfl (LeR.cons rfl leL LeR.nil) ?_ | refine finE true rfl rfl sc ?_ | refine finE false rfl rfl sc ?_))
  rfl
theorem exact_Less (x y : R3) (hx : RatOk x 1000000) (hy : RatOk y 1000000) : Ret Tryz.prog 31 [rD x, rD y] (· = .bool (decide (rv x < rv y))) := by
  have hc := rational_Compare x y hx hy
  have hn := cmpQ_neg (rv x) (rv y)
  obtain ⟨c, hcc⟩ : ∃ c, cmpQ (rv x) (rv y) = c := ⟨_, rfl⟩
  rw [hcc] at hc hn
  rw [show decide (rv x < rv y) = decide (c < 0) from decide_eq_decide.2 hn.symm]
  refine ret_of_awp tab Tryz.func31 rfl rfl (Nat.le_of_ble_eq_true rfl) (fun w0 F0 => ?_)
  repeat' (first
    | (show awpL _ _ _ _ _; first | refine goL ?_ | refine cl 65 tt rfl rfl rfl (hr := hc) (k := ?_) | (refine gdLD rfl rfl (fun _ => ?_) (fun _ => ?_) <;> try (exfalso; omega)) | (refine gdLN rfl rfl (fun _ => ?_) (fun _ => ?_) <;> try (exfalso; omega)) | refine gdL rfl rfl (fun _ => ?_) (fun _ => ?_))
    | (show awp _ _ _ _; first | refine goA ?_ | (refine awp_condD rfl (fun _ => ?_) (fun _ => ?_) <;> try (exfalso; omega)) | (refine awp_condN rfl (fun _ => ?_) (fun _ => ?_) <;> try (exfalso; omega)) | refine awp_cond rfl (fun _ => ?_) (fun _ => ?_))
    | (show andThen _ _ _ _; first | refine goN ?_)
    | (show inBlock _ _ _ _; first | refine goB ?_)
    | (show awpR _ _ _ _ _ _; first | refine goR ?_ | refine clR 65 tt rfl rfl rfl (hr := hc) (k := ?_) | (refine gdRD rfl rfl (fun _ => ?_) (fun _ => ?_) <;> try (exfalso; omega)) | (refine gdRN rfl rfl (fun _ => ?_) (fun _ => ?_) <;> try (exfalso; omega)) | refine gdR rfl rfl (fun _ => ?_) (fun _ => ?_))
    | (show retPost _ _ _ _ _; first | refine finF true rfl rfl sc ?_ | refine finF false rfl rfl sc ?_ | refine finC false rfl rfl sc sc ?_ | refine finN rfl rfl sc ?_ | refine finL true rfl rfl sc rfl (LeR.cons rfl leL LeR.nil) ?_ | refine finE true rfl rfl sc ?_ | refine finE false rfl rfl sc ?_))
  rfl
theorem exact_QuotientQ (x y : Rat) (hx : okQ 1000000 x) (hy : okQ 1000000 y) (h0 : y ≠ 0) : Ret Tryz.prog 32 [qD x, qD y] (· = qD (x / y)) := by
  have hd := rational_DivQ x y hx hy
  rw [if_neg h0] at hd
  refine ret_of_awp tab Tryz.func32 rfl rfl (Nat.le_of_ble_eq_true rfl) (fun w0 F0 => ?_)
  repeat' (first
    | (show awpL _ _ _ _ _; first | refine goL ?_ | refine cl 66 tt rfl rfl rfl (hr := hd) (k := ?_) | (refine gdLD rfl rfl (fun _ => ?_) (fun _ => ?_) <;> try (exfalso; omega)) | (refine gdLN rfl rfl (fun _ => ?_) (fun _ => ?_) <;> try (exfalso; omega)) | refine gdL rfl rfl (fun _ => ?_) (fun _ => ?_))
    | (show awp _ _ _ _; first | refine goA ?_ | (refine awp_condD rfl (fun _ => ?_) (fun _ => ?_) <;> try (exfalso; omega)) | (refine awp_condN rfl (fun _ => ?_) (fun _ => ?_) <;> try (exfalso; omega)) | refine awp_cond rfl (fun _ => ?_) (fun _ => ?_))
    | (show andThen _ _ _ _; first | refine goN ?_)
    | (show inBlock _ _ _ _; first | refine goB ?_)
    | (show awpR _ _ _ _ _ _; first | refine goR ?_ | refine clR 66 tt rfl rfl rfl (hr := hd) (k := ?_) | (refine gdRD rfl rfl (fun _ => ?_) (fun _ => ?_) <;> try (exfalso; omega)) | (refine gdRN rfl rfl (fun _ => ?_) (fun _ => ?_) <;> try (exfalso; omega)) | refine gdR rfl rfl (fun _ => ?_) (fun _ => ?_))
    | (show retPost _ _ _ _ _; first | refine finF true rfl rfl sc ?_ | refine finF false rfl rfl sc ?_ | refine finC false rfl rfl sc sc ?_ | refine finN rfl rfl sc ?_ | refine finL true rfl rfl sc rfl (LeR.cons rfl leL LeR.nil) ?_ | refine finE true rfl rfl sc ?_ | refine finE false rfl rfl sc ?_))
  rfl
theorem rational_FromIntW (v : Int) (h1 : -9223372036854775808 ≤ v) (h2 : v < 9223372036854775808) : Ret Tryz.prog 37 [.int .i64 v] (· = qD (v : Rat)) := by
  have := rational_FromInt v h1 h2
  rw [← rq_int] at this
  exact this
theorem plot_Place (v lo hi : R3) (c : Int) (hv : RatOk v 100) (hl : RatOk lo 100) (hh : RatOk hi 100) (h1 : -9223372036854775808 ≤ c) (h2 : c < 9223372036854775808) : Ret Tryz.prog 14 [rD v, rD lo, rD hi, .int .i64 c] (· = if okP (rv v) (rv lo) (rv hi) c then .tup [.int .i64 (cellZ (rv v) (rv lo) (rv hi) c), .bool true] else .tup [.int .i64 0, .bool false]) := by
  have l1 := exact_Less lo hi (hl.up (by decide)) (hh.up (by decide))
  have l2 := exact_Less v lo (hv.up (by decide)) (hl.up (by decide))
  have l3 := exact_Less hi v (hh.up (by decide)) (hv.up (by decide))
  by_cases hok : okP (rv v) (rv lo) (rv hi) c = true
  · rw [if_pos hok]
    have hok2 := hok
    unfold okP at hok2
    simp only [Bool.and_eq_true, decide_eq_true_eq] at hok2
    obtain ⟨⟨⟨b1, b2⟩, b3⟩, b4⟩ := hok2
    rw [decide_eq_true b1] at l1
    rw [decide_eq_false (Rat.not_lt.2 b3)] at l2
    rw [decide_eq_false (Rat.not_lt.2 b4)] at l3
    have kv : okQ 100 (rv v) := okQ_rv hv (by decide)
    have kl : okQ 100 (rv lo) := okQ_rv hl (by decide)
    have kh : okQ 100 (rv hi) := okQ_rv hh (by decide)
    have kc : okQ 10 (c : Rat) := ok_intW (by omega)
    have d1 := rational_Sub v lo (hv.up (by decide)) (hl.up (by decide))
    have d2 := rational_Sub hi lo (hh.up (by decide)) (hl.up (by decide))
    have hne : rv hi - rv lo ≠ 0 := by grind
    have kq := (kv.sub kl).div (kh.sub kl) hne
    have q1 := exact_QuotientQ (rv v - rv lo) (rv hi - rv lo) ((kv.sub kl).mono (by decide)) ((kh.sub kl).mono (by decide)) hne
    have f1 := rational_FromIntW c h1 h2
    have m1 := rational_MulQ _ _ (kq.mono (by decide)) (kc.mono (by decide))
    have g1 := rational_FloorQ _ ((kq.mul kc).mono (by decide))
    have hf := cell_floor b1 b2 b3 b4
    have hcell : cellZ (rv v) (rv lo) (rv hi) c = min ((rv v - rv lo) / (rv hi - rv lo) * c).floor (c - 1) := rfl
    rw [hcell]
    clear hok hcell b1 b3 b4 hne kv kl kh kc kq
    generalize (rv v - rv lo) / (rv hi - rv lo) * (c : Rat) = x at *
    generalize (rv v - rv lo) / (rv hi - rv lo) = y at *
    generalize rv v - rv lo = w at *
    generalize rv hi - rv lo = d at *
    generalize (c : Rat) = cq at *
    generalize x.floor = f at *
    obtain ⟨n, rfl⟩ : ∃ n : Nat, f = n := ⟨f.toNat, by omega⟩
    have t1 := integer_ToIntN n (by omega)
    refine ret_of_awp tab Tryz.func14 rfl rfl (Nat.le_of_ble_eq_true rfl) (fun w0 F0 => ?_)
    repeat' (first
      | (show awpL _ _ _ _ _; first | refine goL ?_ | refine cl 31 tt rfl rfl rfl (hr := l1) (k := ?_) | refine cl 31 tt rfl rfl rfl (hr := l2) (k := ?_) | refine cl 31 tt rfl rfl rfl (hr := l3) (k := ?_) | refine cl 33 tt rfl rfl rfl (hr := d1) (k := ?_) | refine cl 33 tt rfl rfl rfl (hr := d2) (k := ?_) | refine cl 32 tt rfl rfl rfl (hr := q1) (k := ?_) | refine cl 37 tt rfl rfl rfl (hr := f1) (k := ?_) | refine cl 36 tt rfl rfl rfl (hr := m1) (k := ?_) | refine cl 35 tt rfl rfl rfl (hr := g1) (k := ?_) | refine cl 34 tt rfl rfl rfl (hr := t1) (k := ?_) | (refine gdLD rfl rfl (fun _ => ?_) (fun _ => ?_) <;> try (exfalso; omega)) | (refine gdLN rfl rfl (fun _ => ?_) (fun _ => ?_) <;> try (exfalso; omega)) | refine gdL rfl rfl (fun _ => ?_) (fun _ => ?_))
      | (show awp _ _ _ _; first | refine goA ?_ | refine awp_regK 3 8 [10] mixed (by kernel_rfl) (by kernel_rfl) (by kernel_rfl) ?_ | refine awp_reg 4 10 mixed (by kernel_rfl) (by kernel_rfl) ?_ | (refine awp_condD rfl (fun _ => ?_) (fun _ => ?_) <;> try (exfalso; omega)) | (refine awp_condN rfl (fun _ => ?_) (fun _ => ?_) <;> try (exfalso; omega)) | refine awp_cond rfl (fun _ => ?_) (fun _ => ?_))
      | (show andThen _ _ _ _; first | refine goN ?_)
      | (show inBlock _ _ _ _; first | refine goB ?_)
      | (show awpR _ _ _ _ _ _; first | refine goR ?_ | refine clR 31 tt rfl rfl rfl (hr := l1) (k := ?_) | refine clR 31 tt rfl rfl rfl (hr := l2) (k := ?_) | refine clR 31 tt rfl rfl rfl (hr := l3) (k := ?_) | refine clR 33 tt rfl rfl rfl (hr := d1) (k := ?_) | refine clR 33 tt rfl rfl rfl (hr := d2) (k := ?_) | refine clR 32 tt rfl rfl rfl (hr := q1) (k := ?_) | refine clR 37 tt rfl rfl rfl (hr := f1) (k := ?_) | refine clR 36 tt rfl rfl rfl (hr := m1) (k := ?_) | refine clR 35 tt rfl rfl rfl (hr := g1) (k := ?_) | refine clR 34 tt rfl rfl rfl (hr := t1) (k := ?_) | (refine gdRD rfl rfl (fun _ => ?_) (fun _ => ?_) <;> try (exfalso; omega)) | (refine gdRN rfl rfl (fun _ => ?_) (fun _ => ?_) <;> try (exfalso; omega)) | refine gdR rfl rfl (fun _ => ?_) (fun _ => ?_))
      | (show retPost _ _ _ _ _; first | refine finF true rfl rfl sc ?_ | refine finF false rfl rfl sc ?_ | refine finC false rfl rfl sc sc ?_ | refine finN rfl rfl sc ?_ | refine finL true rfl rfl sc rfl (LeR.cons rfl leL LeR.nil) ?_ | refine finE true rfl rfl sc ?_ | refine finE false rfl rfl sc ?_))
    rfl
  · rw [if_neg hok]
    by_cases b1 : rv lo < rv hi
    · rw [decide_eq_true b1] at l1
      by_cases b2 : c < 1
      · clear hok
        refine ret_of_awp tab Tryz.func14 rfl rfl (Nat.le_of_ble_eq_true rfl) (fun w0 F0 => ?_)
        repeat' (first
          | (show awpL _ _ _ _ _; first | refine goL ?_ | refine cl 31 tt rfl rfl rfl (hr := l1) (k := ?_) | (refine gdLD rfl rfl (fun _ => ?_) (fun _ => ?_) <;> try (exfalso; omega)) | (refine gdLN rfl rfl (fun _ => ?_) (fun _ => ?_) <;> try (exfalso; omega)) | refine gdL rfl rfl (fun _ => ?_) (fun _ => ?_))
          | (show awp _ _ _ _; first | refine goA ?_ | refine awp_regK 3 8 [10] mixed (by kernel_rfl) (by kernel_rfl) (by kernel_rfl) ?_ | refine awp_reg 4 10 mixed (by kernel_rfl) (by kernel_rfl) ?_ | (refine awp_condD rfl (fun _ => ?_) (fun _ => ?_) <;> try (exfalso; omega)) | (refine awp_condN rfl (fun _ => ?_) (fun _ => ?_) <;> try (exfalso; omega)) | refine awp_cond rfl (fun _ => ?_) (fun _ => ?_))
          | (show andThen _ _ _ _; first | refine goN ?_)
          | (show inBlock _ _ _ _; first | refine goB ?_)
          | (show awpR _ _ _ _ _ _; first | refine goR ?_ | refine clR 31 tt rfl rfl rfl (hr := l1) (k := ?_) | (refine gdRD rfl rfl (fun _ => ?_) (fun _ => ?_) <;> try (exfalso; omega)) | (refine gdRN rfl rfl (fun _ => ?_) (fun _ => ?_) <;> try (exfalso; omega)) | refine gdR rfl rfl (fun _ => ?_) (fun _ => ?_))
          | (show retPost _ _ _ _ _; first | refine finF true rfl rfl sc ?_ | refine finF false rfl rfl sc ?_ | refine finC false rfl rfl sc sc ?_ | refine finN rfl rfl sc ?_ | refine finL true rfl rfl sc rfl (LeR.cons rfl leL LeR.nil) ?_ | refine finE true rfl rfl sc ?_ | refine finE false rfl rfl sc ?_))
        rfl
      · by_cases b3 : rv v < rv lo
        · rw [decide_eq_true b3] at l2
          clear hok
          refine ret_of_awp tab Tryz.func14 rfl rfl (Nat.le_of_ble_eq_true rfl) (fun w0 F0 => ?_)
          repeat' (first
            | (show awpL _ _ _ _ _; first | refine goL ?_ | refine cl 31 tt rfl rfl rfl (hr := l1) (k := ?_) | refine cl 31 tt rfl rfl rfl (hr := l2) (k := ?_) | (refine gdLD rfl rfl (fun _ => ?_) (fun _ => ?_) <;> try (exfalso; omega)) | (refine gdLN rfl rfl (fun _ => ?_) (fun _ => ?_) <;> try (exfalso; omega)) | refine gdL rfl rfl (fun _ => ?_) (fun _ => ?_))
            | (show awp _ _ _ _; first | refine goA ?_ | refine awp_regK 3 8 [10] mixed (by kernel_rfl) (by kernel_rfl) (by kernel_rfl) ?_ | refine awp_reg 4 10 mixed (by kernel_rfl) (by kernel_rfl) ?_ | (refine awp_condD rfl (fun _ => ?_) (fun _ => ?_) <;> try (exfalso; omega)) | (refine awp_condN rfl (fun _ => ?_) (fun _ => ?_) <;> try (exfalso; omega)) | refine awp_cond rfl (fun _ => ?_) (fun _ => ?_))
            | (show andThen _ _ _ _; first | refine goN ?_)
            | (show inBlock _ _ _ _; first | refine goB ?_)
            | (show awpR _ _ _ _ _ _; first | refine goR ?_ | refine clR 31 tt rfl rfl rfl (hr := l1) (k := ?_) | refine clR 31 tt rfl rfl rfl (hr := l2) (k := ?_) | (refine gdRD rfl rfl (fun _ => ?_) (fun _ => ?_) <;> try (exfalso; omega)) | (refine gdRN rfl rfl (fun _ => ?_) (fun _ => ?_) <;> try (exfalso; omega)) | refine gdR rfl rfl (fun _ => ?_) (fun _ => ?_))
            | (show retPost _ _ _ _ _; first | refine finF true rfl rfl sc ?_ | refine finF false rfl rfl sc ?_ | refine finC false rfl rfl sc sc ?_ | refine finN rfl rfl sc ?_ | refine finL true rfl rfl sc rfl (LeR.cons rfl leL LeR.nil) ?_ | refine finE true rfl rfl sc ?_ | refine finE false rfl rfl sc ?_))
          rfl
        · rw [decide_eq_false b3] at l2
          have b4 : rv hi < rv v := by
            refine Rat.not_le.1 fun h => hok ?_
            unfold okP
            simp only [Bool.and_eq_true, decide_eq_true_eq]
            exact ⟨⟨⟨b1, by omega⟩, Rat.not_lt.1 b3⟩, h⟩
          rw [decide_eq_true b4] at l3
          clear hok
          refine ret_of_awp tab Tryz.func14 rfl rfl (Nat.le_of_ble_eq_true rfl) (fun w0 F0 => ?_)
          repeat' (first
            | (show awpL _ _ _ _ _; first | refine goL ?_ | refine cl 31 tt rfl rfl rfl (hr := l1) (k := ?_) | refine cl 31 tt rfl rfl rfl (hr := l2) (k := ?_) | refine cl 31 tt rfl rfl rfl (hr := l3) (k := ?_) | (refine gdLD rfl rfl (fun _ => ?_) (fun _ => ?_) <;> try (exfalso; omega)) | (refine gdLN rfl rfl (fun _ => ?_) (fun _ => ?_) <;> try (exfalso; omega)) | refine gdL rfl rfl (fun _ => ?_) (fun _ => ?_))
            | (show awp _ _ _ _; first | refine goA ?_ | refine awp_regK 3 8 [10] mixed (by kernel_rfl) (by kernel_rfl) (by kernel_rfl) ?_ | refine awp_reg 4 10 mixed (by kernel_rfl) (by kernel_rfl) ?_ | (refine awp_condD rfl (fun _ => ?_) (fun _ => ?_) <;> try (exfalso; omega)) | (refine awp_condN rfl (fun _ => ?_) (fun _ => ?_) <;> try (exfalso; omega)) | refine awp_cond rfl (fun _ => ?_) (fun _ => ?_))
            | (show andThen _ _ _ _; first | refine goN ?_)
            | (show inBlock _ _ _ _; first | refine goB ?_)
            | (show awpR _ _ _ _ _ _; first | refine goR ?_ | refine clR 31 tt rfl rfl rfl (hr := l1) (k := ?_) | refine clR 31 tt rfl rfl rfl (hr := l2) (k := ?_) | refine clR 31 tt rfl rfl rfl (hr := l3) (k := ?_) | (refine gdRD rfl rfl (fun _ => ?_) (fun _ => ?_) <;> try (exfalso; omega)) | (refine gdRN rfl rfl (fun _ => ?_) (fun _ => ?_) <;> try (exfalso; omega)) | refine gdR rfl rfl (fun _ => ?_) (fun _ => ?_))
            | (show retPost _ _ _ _ _; first | refine finF true rfl rfl sc ?_ | refine finF false rfl rfl sc ?_ | refine finC false rfl rfl sc sc ?_ | refine finN rfl rfl sc ?_ | refine finL true rfl rfl sc rfl (LeR.cons rfl leL LeR.nil) ?_ | refine finE true rfl rfl sc ?_ | refine finE false rfl rfl sc ?_))
          rfl
    · rw [decide_eq_false b1] at l1
      clear hok
      refine ret_of_awp tab Tryz.func14 rfl rfl (Nat.le_of_ble_eq_true rfl) (fun w0 F0 => ?_)
      repeat' (first
        | (show awpL _ _ _ _ _; first | refine goL ?_ | refine cl 31 tt rfl rfl rfl (hr := l1) (k := ?_) | (refine gdLD rfl rfl (fun _ => ?_) (fun _ => ?_) <;> try (exfalso; omega)) | (refine gdLN rfl rfl (fun _ => ?_) (fun _ => ?_) <;> try (exfalso; omega)) | refine gdL rfl rfl (fun _ => ?_) (fun _ => ?_))
        | (show awp _ _ _ _; first | refine goA ?_ | refine awp_regK 3 8 [10] mixed (by kernel_rfl) (by kernel_rfl) (by kernel_rfl) ?_ | refine awp_reg 4 10 mixed (by kernel_rfl) (by kernel_rfl) ?_ | (refine awp_condD rfl (fun _ => ?_) (fun _ => ?_) <;> try (exfalso; omega)) | (refine awp_condN rfl (fun _ => ?_) (fun _ => ?_) <;> try (exfalso; omega)) | refine awp_cond rfl (fun _ => ?_) (fun _ => ?_))
        | (show andThen _ _ _ _; first | refine goN ?_)
        | (show inBlock _ _ _ _; first | refine goB ?_)
        | (show awpR _ _ _ _ _ _; first | refine goR ?_ | refine clR 31 tt rfl rfl rfl (hr := l1) (k := ?_) | (refine gdRD rfl rfl (fun _ => ?_) (fun _ => ?_) <;> try (exfalso; omega)) | (refine gdRN rfl rfl (fun _ => ?_) (fun _ => ?_) <;> try (exfalso; omega)) | refine gdR rfl rfl (fun _ => ?_) (fun _ => ?_))
        | (show retPost _ _ _ _ _; first | refine finF true rfl rfl sc ?_ | refine finF false rfl rfl sc ?_ | refine finC false rfl rfl sc sc ?_ | refine finN rfl rfl sc ?_ | refine finL true rfl rfl sc rfl (LeR.cons rfl leL LeR.nil) ?_ | refine finE true rfl rfl sc ?_ | refine finE false rfl rfl sc ?_))
      rfl
theorem ref03_DivQ (x y : Rat) (hx : okQ 1000000 x) (hy : okQ 1000000 y) (h0 : y ≠ 0) : Ret Tryz.prog 83 [qD x, qD y] (· = .tup [qD (x / y), .int .i64 0]) := by
  have sg := ref03_SignQ y hy
  have hs : y.num.sign ≠ 0 := fun h => h0 (Rat.num_eq_zero.1 (Int.sign_eq_zero_iff_zero.1 h))
  have q := ref03_QuoQ x y hx hy h0
  generalize y.num.sign = s at *
  refine ret_of_awp tab Tryz.func83 rfl rfl (Nat.le_of_ble_eq_true rfl) (fun w0 F0 => ?_)
  repeat' (first
    | (show awpL _ _ _ _ _; first | refine goL ?_ | refine cl 50 tt rfl rfl rfl (hr := sg) (k := ?_) | refine cl 126 tt rfl rfl rfl (hr := q) (k := ?_) | (refine gdLD rfl rfl (fun _ => ?_) (fun _ => ?_) <;> try (exfalso; omega)) | (refine gdLN rfl rfl (fun _ => ?_) (fun _ => ?_) <;> try (exfalso; omega)) | refine gdL rfl rfl (fun _ => ?_) (fun _ => ?_))
    | (show awp _ _ _ _; first | refine goA ?_ | (refine awp_condD rfl (fun _ => ?_) (fun _ => ?_) <;> try (exfalso; omega)) | (refine awp_condN rfl (fun _ => ?_) (fun _ => ?_) <;> try (exfalso; omega)) | refine awp_cond rfl (fun _ => ?_) (fun _ => ?_))
    | (show andThen _ _ _ _; first | refine goN ?_)
    | (show inBlock _ _ _ _; first | refine goB ?_)
    | (show awpR _ _ _ _ _ _; first | refine goR ?_ | refine clR 50 tt rfl rfl rfl (hr := sg) (k := ?_) | refine clR 126 tt rfl rfl rfl (hr := q) (k := ?_) | (refine gdRD rfl rfl (fun _ => ?_) (fun _ => ?_) <;> try (exfalso; omega)) | (refine gdRN rfl rfl (fun _ => ?_) (fun _ => ?_) <;> try (exfalso; omega)) | refine gdR rfl rfl (fun _ => ?_) (fun _ => ?_))
    | (show retPost _ _ _ _ _; first | refine finF true rfl rfl sc ?_ | refine finF false rfl rfl sc ?_ | refine finC false rfl rfl sc sc ?_ | refine finN rfl rfl sc ?_ | refine finL true rfl rfl sc rfl (LeR.cons rfl leL LeR.nil) ?_ | refine finE true rfl rfl sc ?_ | refine finE false rfl rfl sc ?_))
  rfl
theorem ref23_Ratio (x y : Rat) (hx : okQ 1000000 x) (hy : okQ 1000000 y) (h0 : y ≠ 0) : Ret Tryz.prog 40 [qD x, qD y] (· = qD (x / y)) := by
  have d := ref03_DivQ x y hx hy h0
  refine ret_of_awp tab Tryz.func40 rfl rfl (Nat.le_of_ble_eq_true rfl) (fun w0 F0 => ?_)
  repeat' (first
    | (show awpL _ _ _ _ _; first | refine goL ?_ | refine cl 83 tt rfl rfl rfl (hr := d) (k := ?_) | (refine gdLD rfl rfl (fun _ => ?_) (fun _ => ?_) <;> try (exfalso; omega)) | (refine gdLN rfl rfl (fun _ => ?_) (fun _ => ?_) <;> try (exfalso; omega)) | refine gdL rfl rfl (fun _ => ?_) (fun _ => ?_))
    | (show awp _ _ _ _; first | refine goA ?_ | (refine awp_condD rfl (fun _ => ?_) (fun _ => ?_) <;> try (exfalso; omega)) | (refine awp_condN rfl (fun _ => ?_) (fun _ => ?_) <;> try (exfalso; omega)) | refine awp_cond rfl (fun _ => ?_) (fun _ => ?_))
    | (show andThen _ _ _ _; first | refine goN ?_)
    | (show inBlock _ _ _ _; first | refine goB ?_)
    | (show awpR _ _ _ _ _ _; first | refine goR ?_ | refine clR 83 tt rfl rfl rfl (hr := d) (k := ?_) | (refine gdRD rfl rfl (fun _ => ?_) (fun _ => ?_) <;> try (exfalso; omega)) | (refine gdRN rfl rfl (fun _ => ?_) (fun _ => ?_) <;> try (exfalso; omega)) | refine gdR rfl rfl (fun _ => ?_) (fun _ => ?_))
    | (show retPost _ _ _ _ _; first | refine finF true rfl rfl sc ?_ | refine finF false rfl rfl sc ?_ | refine finC false rfl rfl sc sc ?_ | refine finN rfl rfl sc ?_ | refine finL true rfl rfl sc rfl (LeR.cons rfl leL LeR.nil) ?_ | refine finE true rfl rfl sc ?_ | refine finE false rfl rfl sc ?_))
  rfl
theorem ref23_Of (v : Int) (h1 : -9223372036854775808 ≤ v) (h2 : v < 9223372036854775808) : Ret Tryz.prog 43 [.int .i64 v] (· = qD (v : Rat)) := by
  have h := ref03_FromIntW v h1 h2
  refine ret_of_awp tab Tryz.func43 rfl rfl (Nat.le_of_ble_eq_true rfl) (fun w0 F0 => ?_)
  repeat' (first
    | (show awpL _ _ _ _ _; first | refine goL ?_ | refine cl 17 tt rfl rfl rfl (hr := h) (k := ?_) | (refine gdLD rfl rfl (fun _ => ?_) (fun _ => ?_) <;> try (exfalso; omega)) | (refine gdLN rfl rfl (fun _ => ?_) (fun _ => ?_) <;> try (exfalso; omega)) | refine gdL rfl rfl (fun _ => ?_) (fun _ => ?_))
    | (show awp _ _ _ _; first | refine goA ?_ | (refine awp_condD rfl (fun _ => ?_) (fun _ => ?_) <;> try (exfalso; omega)) | (refine awp_condN rfl (fun _ => ?_) (fun _ => ?_) <;> try (exfalso; omega)) | refine awp_cond rfl (fun _ => ?_) (fun _ => ?_))
    | (show andThen _ _ _ _; first | refine goN ?_)
    | (show inBlock _ _ _ _; first | refine goB ?_)
    | (show awpR _ _ _ _ _ _; first | refine goR ?_ | refine clR 17 tt rfl rfl rfl (hr := h) (k := ?_) | (refine gdRD rfl rfl (fun _ => ?_) (fun _ => ?_) <;> try (exfalso; omega)) | (refine gdRN rfl rfl (fun _ => ?_) (fun _ => ?_) <;> try (exfalso; omega)) | refine gdR rfl rfl (fun _ => ?_) (fun _ => ?_))
    | (show retPost _ _ _ _ _; first | refine finF true rfl rfl sc ?_ | refine finF false rfl rfl sc ?_ | refine finC false rfl rfl sc sc ?_ | refine finN rfl rfl sc ?_ | refine finL true rfl rfl sc rfl (LeR.cons rfl leL LeR.nil) ?_ | refine finE true rfl rfl sc ?_ | refine finE false rfl rfl sc ?_))
  rfl
theorem ref40_Place (v lo hi : R3) (c : Int) (hv : RatOk v 100) (hl : RatOk lo 100) (hh : RatOk hi 100) (h1 : -9223372036854775808 ≤ c) (h2 : c < 9223372036854775808) : Ret Tryz.prog 15 [rD v, rD lo, rD hi, .int .i64 c] (· = if okP (rv v) (rv lo) (rv hi) c then .tup [.int .i64 (cellZ (rv v) (rv lo) (rv hi) c), .bool true] else .tup [.int .i64 0, .bool false]) := by
  have l1 := ref03_Compare lo hi (hl.up (by decide)) (hh.up (by decide))
  have l2 := ref03_Compare v lo (hv.up (by decide)) (hl.up (by decide))
  have l3 := ref03_Compare v hi (hv.up (by decide)) (hh.up (by decide))
  have n1 := cmpQ_neg (rv lo) (rv hi)
  have n2 := cmpQ_neg (rv v) (rv lo)
  have n3 := cmpQ_pos (rv v) (rv hi)
  have z3 := cmpQ_zero (rv v) (rv hi)
  obtain ⟨k1, e1⟩ : ∃ k, cmpQ (rv lo) (rv hi) = k := ⟨_, rfl⟩
  obtain ⟨k2, e2⟩ : ∃ k, cmpQ (rv v) (rv lo) = k := ⟨_, rfl⟩
  obtain ⟨k3, e3⟩ : ∃ k, cmpQ (rv v) (rv hi) = k := ⟨_, rfl⟩
  rw [e1] at l1 n1
  rw [e2] at l2 n2
  rw [e3] at l3 n3 z3
  clear e1 e2 e3
  by_cases hok : okP (rv v) (rv lo) (rv hi) c = true
  · rw [if_pos hok]
    have hok2 := hok
    unfold okP at hok2
    simp only [Bool.and_eq_true, decide_eq_true_eq] at hok2
    obtain ⟨⟨⟨b1, b2⟩, b3⟩, b4⟩ := hok2
    have p1 := n1.2 b1
    have p2 := mt n2.1 (Rat.not_lt.2 b3)
    have p3 := mt n3.1 (Rat.not_lt.2 b4)
    clear n1 n2 n3
    by_cases hz : rv v = rv hi
    · have p4 := z3.2 hz
      clear z3
      rw [hz, cell_top b1 b2]
      clear hok hz b1 b3 b4
      refine ret_of_awp tab Tryz.func15 rfl rfl (Nat.le_of_ble_eq_true rfl) (fun w0 F0 => ?_)
      repeat' (first
        | (show awpL _ _ _ _ _; first | refine goL ?_ | refine cl 20 tt rfl rfl rfl (hr := l1) (k := ?_) | refine cl 20 tt rfl rfl rfl (hr := l2) (k := ?_) | refine cl 20 tt rfl rfl rfl (hr := l3) (k := ?_) | (refine gdLD rfl rfl (fun _ => ?_) (fun _ => ?_) <;> try (exfalso; omega)) | (refine gdLN rfl rfl (fun _ => ?_) (fun _ => ?_) <;> try (exfalso; omega)) | refine gdL rfl rfl (fun _ => ?_) (fun _ => ?_))
        | (show awp _ _ _ _; first | refine goA ?_ | refine awp_reg 5 16 mixed (by kernel_rfl) (by kernel_rfl) ?_ | (refine awp_condD rfl (fun _ => ?_) (fun _ => ?_) <;> try (exfalso; omega)) | (refine awp_condN rfl (fun _ => ?_) (fun _ => ?_) <;> try (exfalso; omega)) | refine awp_cond rfl (fun _ => ?_) (fun _ => ?_))
        | (show andThen _ _ _ _; first | refine goN ?_)
        | (show inBlock _ _ _ _; first | refine goB ?_)
        | (show awpR _ _ _ _ _ _; first | refine goR ?_ | refine clR 20 tt rfl rfl rfl (hr := l1) (k := ?_) | refine clR 20 tt rfl rfl rfl (hr := l2) (k := ?_) | refine clR 20 tt rfl rfl rfl (hr := l3) (k := ?_) | (refine gdRD rfl rfl (fun _ => ?_) (fun _ => ?_) <;> try (exfalso; omega)) | (refine gdRN rfl rfl (fun _ => ?_) (fun _ => ?_) <;> try (exfalso; omega)) | refine gdR rfl rfl (fun _ => ?_) (fun _ => ?_))
        | (show retPost _ _ _ _ _; first | refine finF true rfl rfl sc ?_ | refine finF false rfl rfl sc ?_ | refine finC false rfl rfl sc sc ?_ | refine finN rfl rfl sc ?_ | refine finL true rfl rfl sc rfl (LeR.cons rfl leL LeR.nil) ?_ | refine finE true rfl rfl sc ?_ | refine finE false rfl rfl sc ?_))
      rfl
    · have p4 := mt z3.1 hz
      clear z3
      have kv : okQ 100 (rv v) := okQ_rv hv (by decide)
      have kl : okQ 100 (rv lo) := okQ_rv hl (by decide)
      have kh : okQ 100 (rv hi) := okQ_rv hh (by decide)
      have kc : okQ 10 (c : Rat) := ok_intW (by omega)
      have d1 := ref03_Sub v lo (hv.up (by decide)) (hl.up (by decide))
      have d2 := ref03_Sub hi lo (hh.up (by decide)) (hl.up (by decide))
      have hne : rv hi - rv lo ≠ 0 := by grind
      have km := (kv.sub kl).mul kc
      have kq := km.div (kh.sub kl) hne
      have f1 := ref23_Of c h1 h2
      have m1 := ref03_MulQ _ _ ((kv.sub kl).mono (by decide)) (kc.mono (by decide))
      have q1 := ref23_Ratio _ _ (km.mono (by decide)) ((kh.sub kl).mono (by decide)) hne
      have g1 := ref03_FloorQ _ (kq.mono (by decide))
      rw [cell_comm] at q1 g1
      have hf := cell_floor b1 b2 b3 b4
      have hlt := hf.2.2 (by grind)
      have hcell : cellZ (rv v) (rv lo) (rv hi) c = ((rv v - rv lo) / (rv hi - rv lo) * c).floor := by
        unfold cellZ; omega
      rw [hcell]
      clear hok hcell b1 b3 b4 hne kv kl kh kc kq km hz
      generalize (rv v - rv lo) / (rv hi - rv lo) * (c : Rat) = x at *
      generalize (rv v - rv lo) * (c : Rat) = y at *
      generalize rv v - rv lo = w at *
      generalize rv hi - rv lo = d at *
      generalize (c : Rat) = cq at *
      generalize x.floor = f at *
      obtain ⟨n, rfl⟩ : ∃ n : Nat, f = n := ⟨f.toNat, by omega⟩
      have t1 := ref02_ToIntN n (by omega)
      refine ret_of_awp tab Tryz.func15 rfl rfl (Nat.le_of_ble_eq_true rfl) (fun w0 F0 => ?_)
      repeat' (first
        | (show awpL _ _ _ _ _; first | refine goL ?_ | refine cl 20 tt rfl rfl rfl (hr := l1) (k := ?_) | refine cl 20 tt rfl rfl rfl (hr := l2) (k := ?_) | refine cl 20 tt rfl rfl rfl (hr := l3) (k := ?_) | refine cl 42 tt rfl rfl rfl (hr := d1) (k := ?_) | refine cl 42 tt rfl rfl rfl (hr := d2) (k := ?_) | refine cl 40 tt rfl rfl rfl (hr := q1) (k := ?_) | refine cl 43 tt rfl rfl rfl (hr := f1) (k := ?_) | refine cl 41 tt rfl rfl rfl (hr := m1) (k := ?_) | refine cl 39 tt rfl rfl rfl (hr := g1) (k := ?_) | refine cl 38 tt rfl rfl rfl (hr := t1) (k := ?_) | (refine gdLD rfl rfl (fun _ => ?_) (fun _ => ?_) <;> try (exfalso; omega)) | (refine gdLN rfl rfl (fun _ => ?_) (fun _ => ?_) <;> try (exfalso; omega)) | refine gdL rfl rfl (fun _ => ?_) (fun _ => ?_))
        | (show awp _ _ _ _; first | refine goA ?_ | refine awp_reg 5 16 mixed (by kernel_rfl) (by kernel_rfl) ?_ | (refine awp_condD rfl (fun _ => ?_) (fun _ => ?_) <;> try (exfalso; omega)) | (refine awp_condN rfl (fun _ => ?_) (fun _ => ?_) <;> try (exfalso; omega)) | refine awp_cond rfl (fun _ => ?_) (fun _ => ?_))
        | (show andThen _ _ _ _; first | refine goN ?_)
        | (show inBlock _ _ _ _; first | refine goB ?_)
        | (show awpR _ _ _ _ _ _; first | refine goR ?_ | refine clR 20 tt rfl rfl rfl (hr := l1) (k := ?_) | refine clR 20 tt rfl rfl rfl (hr := l2) (k := ?_) | refine clR 20 tt rfl rfl rfl (hr := l3) (k := ?_) | refine clR 42 tt rfl rfl rfl (hr := d1) (k := ?_) | refine clR 42 tt rfl rfl rfl (hr := d2) (k := ?_) | refine clR 40 tt rfl rfl rfl (hr := q1) (k := ?_) | refine clR 43 tt rfl rfl rfl (hr := f1) (k := ?_) | refine clR 41 tt rfl rfl rfl (hr := m1) (k := ?_) | refine clR 39 tt rfl rfl rfl (hr := g1) (k := ?_) | refine clR 38 tt rfl rfl rfl (hr := t1) (k := ?_) | (refine gdRD rfl rfl (fun _ => ?_) (fun _ => ?_) <;> try (exfalso; omega)) | (refine gdRN rfl rfl (fun _ => ?_) (fun _ => ?_) <;> try (exfalso; omega)) | refine gdR rfl rfl (fun _ => ?_) (fun _ => ?_))
        | (show retPost _ _ _ _ _; first | refine finF true rfl rfl sc ?_ | refine finF false rfl rfl sc ?_ | refine finC false rfl rfl sc sc ?_ | refine finN rfl rfl sc ?_ | refine finL true rfl rfl sc rfl (LeR.cons rfl leL LeR.nil) ?_ | refine finE true rfl rfl sc ?_ | refine finE false rfl rfl sc ?_))
      rfl
  · rw [if_neg hok]
    have hn : ¬ (k1 < 0) ∨ c < 1 ∨ k2 < 0 ∨ 0 < k3 := by
      refine Classical.byContradiction fun h => hok ?_
      unfold okP
      simp only [Bool.and_eq_true, decide_eq_true_eq]
      exact ⟨⟨⟨n1.1 (by omega), by omega⟩, Rat.not_lt.1 (mt n2.2 (by omega))⟩, Rat.not_lt.1 (mt n3.2 (by omega))⟩
    clear hok n1 n2 n3 z3
    refine ret_of_awp tab Tryz.func15 rfl rfl (Nat.le_of_ble_eq_true rfl) (fun w0 F0 => ?_)
    repeat' (first
      | (show awpL _ _ _ _ _; first | refine goL ?_ | refine cl 20 tt rfl rfl rfl (hr := l1) (k := ?_) | refine cl 20 tt rfl rfl rfl (hr := l2) (k := ?_) | refine cl 20 tt rfl rfl rfl (hr := l3) (k := ?_) | (refine gdLD rfl rfl (fun _ => ?_) (fun _ => ?_) <;> try (exfalso; omega)) | (refine gdLN rfl rfl (fun _ => ?_) (fun _ => ?_) <;> try (exfalso; omega)) | refine gdL rfl rfl (fun _ => ?_) (fun _ => ?_))
      | (show awp _ _ _ _; first | refine goA ?_ | refine awp_reg 5 16 mixed (by kernel_rfl) (by kernel_rfl) ?_ | (refine awp_condD rfl (fun _ => ?_) (fun _ => ?_) <;> try (exfalso; omega)) | (refine awp_condN rfl (fun _ => ?_) (fun _ => ?_) <;> try (exfalso; omega)) | refine awp_cond rfl (fun _ => ?_) (fun _ => ?_))
      | (show andThen _ _ _ _; first | refine goN ?_)
      | (show inBlock _ _ _ _; first | refine goB ?_)
      | (show awpR _ _ _ _ _ _; first | refine goR ?_ | refine clR 20 tt rfl rfl rfl (hr := l1) (k := ?_) | refine clR 20 tt rfl rfl rfl (hr := l2) (k := ?_) | refine clR 20 tt rfl rfl rfl (hr := l3) (k := ?_) | (refine gdRD rfl rfl (fun _ => ?_) (fun _ => ?_) <;> try (exfalso; omega)) | (refine gdRN rfl rfl (fun _ => ?_) (fun _ => ?_) <;> try (exfalso; omega)) | refine gdR rfl rfl (fun _ => ?_) (fun _ => ?_))
      | (show retPost _ _ _ _ _; first | refine finF true rfl rfl sc ?_ | refine finF false rfl rfl sc ?_ | refine finC false rfl rfl sc sc ?_ | refine finN rfl rfl sc ?_ | refine finL true rfl rfl sc rfl (LeR.cons rfl leL LeR.nil) ?_ | refine finE true rfl rfl sc ?_ | refine finE false rfl rfl sc ?_))
    all_goals rfl
end Go.Proofs.YtoppaphffnojdaaGreat

/-
  Plots of characters: how many values are in each cell. Conditions: as each says.
-/
set_option linter.unusedVariables false
set_option linter.unusedSimpArgs false
namespace Go.Vw
def markZ (n : Int) : Int := if n = 0 then 32 else if 9 < n then 35 else 48 + n
def lineB (l : List Int) : List UInt8 := l.map fun n => UInt8.ofNat (markZ n).toNat
def addC (lo hi : Rat) (c : Int) (l : List Int) (v : Rat) : List Int := if okP v lo hi c then l.set (cellZ v lo hi c).toNat (l.getD (cellZ v lo hi c).toNat 0 + 1) else l
def countsZ (lo hi : Rat) (c : Int) (vs : List Rat) : List Int := vs.foldl (addC lo hi c) (List.replicate c.toNat 0)
theorem addC_len (lo hi : Rat) (c : Int) (l : List Int) (v : Rat) : (addC lo hi c l v).length = l.length := by unfold addC; split <;> simp
theorem foldl_len (lo hi : Rat) (c : Int) : ∀ (vs : List Rat) (l : List Int), (vs.foldl (addC lo hi c) l).length = l.length
  | [], l => rfl
  | v :: vs, l => by rw [List.foldl_cons, foldl_len lo hi c vs, addC_len]
theorem addC_bd {lo hi : Rat} {c : Int} {l : List Int} {k : Int} (h : ∀ x ∈ l, 0 ≤ x ∧ x ≤ k) (hk : 0 ≤ k) (v : Rat) : ∀ x ∈ addC lo hi c l v, 0 ≤ x ∧ x ≤ k + 1 := by
  intro x hx
  unfold addC at hx
  split at hx
  · rcases List.mem_or_eq_of_mem_set hx with hx | hx
    · have := h x hx; omega
    · have hg : 0 ≤ l.getD (cellZ v lo hi c).toNat 0 ∧ l.getD (cellZ v lo hi c).toNat 0 ≤ k := by
        rw [List.getD_eq_getElem?_getD]
        by_cases hi' : (cellZ v lo hi c).toNat < l.length
        · rw [List.getElem?_eq_getElem hi']; exact h _ (List.getElem_mem hi')
        · rw [List.getElem?_eq_none (by omega)]; exact ⟨Int.le_refl _, hk⟩
      omega
  · have := h x hx; omega
theorem take_bd (lo hi : Rat) (c : Int) : ∀ (vs : List Rat) (l : List Int) (k : Int), (∀ x ∈ l, 0 ≤ x ∧ x ≤ k) → 0 ≤ k → ∀ x ∈ vs.foldl (addC lo hi c) l, 0 ≤ x ∧ x ≤ k + vs.length
  | [], l, k, h, hk => by simpa using h
  | v :: vs, l, k, h, hk => by
    rw [List.foldl_cons]
    have := take_bd lo hi c vs (addC lo hi c l v) (k + 1) (addC_bd h hk v) (by omega)
    simp only [List.length_cons]
    intro x hx
    have := this x hx
    omega
theorem counts_bd (lo hi : Rat) (c : Int) (vs : List Rat) : ∀ x ∈ countsZ lo hi c vs, 0 ≤ x ∧ x ≤ vs.length := by
  have := take_bd lo hi c vs (List.replicate c.toNat 0) 0 (by intro x hx; rw [(List.mem_replicate.1 hx).2]; decide) (by decide)
  simpa [countsZ] using this
theorem counts_len (lo hi : Rat) (c : Int) (vs : List Rat) : (countsZ lo hi c vs).length = c.toNat := by
  unfold countsZ; rw [foldl_len, List.length_replicate]
theorem counts_take (lo hi : Rat) (c : Int) (vs : List Rat) {i : Nat} (h : i < vs.length) : countsZ lo hi c (vs.take (i + 1)) = addC lo hi c (countsZ lo hi c (vs.take i)) (vs.getD i 0) := by
  unfold countsZ
  rw [List.take_add_one, List.foldl_append]
  simp [List.getD_eq_getElem?_getD, h]
theorem markZ_bd {n : Int} (h : 0 ≤ n) : 0 ≤ markZ n ∧ markZ n < 256 := by unfold markZ; split <;> (try split) <;> omega
end Go.Vw

set_option linter.unusedVariables false
set_option linter.unusedSimpArgs false
set_option maxHeartbeats 8000000
namespace Go.Proofs.YtoppaphffnojdaaGreat
open Go.Vw
attribute [local irreducible] awp awpL awpR

theorem made_LightW (r : R3) (h : RawR r) : Ret Tryz.prog 8 [rD r] (· = .bool (lightR r)) := by
  obtain ⟨h1, h2, h3, h4⟩ := h
  unfold lightR
  obtain ⟨x, m, d⟩ := r
  simp only at h3 h4 ⊢
  rw [show decide (m.length ≤ 8) = decide ((m.length : Int) ≤ 8) from decide_eq_decide.2 (by omega), show decide (d.length ≤ 8) = decide ((d.length : Int) ≤ 8) from decide_eq_decide.2 (by omega)]
  refine ret_of_awp tab Tryz.func8 rfl rfl (Nat.le_of_ble_eq_true rfl) (fun w0 F0 => ?_)
  repeat' (first
    | (show awpL _ _ _ _ _; first | refine goL ?_ | (refine gdLD rfl rfl (fun _ => ?_) (fun _ => ?_) <;> try (exfalso; omega)) | (refine gdLN rfl rfl (fun _ => ?_) (fun _ => ?_) <;> try (exfalso; omega)) | refine gdL rfl rfl (fun _ => ?_) (fun _ => ?_))
    | (show awp _ _ _ _; first | refine goA ?_ | (refine awp_condD rfl (fun _ => ?_) (fun _ => ?_) <;> try (exfalso; omega)) | (refine awp_condN rfl (fun _ => ?_) (fun _ => ?_) <;> try (exfalso; omega)) | refine awp_cond rfl (fun _ => ?_) (fun _ => ?_))
    | (show andThen _ _ _ _; first | refine goN ?_)
    | (show inBlock _ _ _ _; first | refine goB ?_)
    | (show awpR _ _ _ _ _ _; first | refine goR ?_ | (refine gdRD rfl rfl (fun _ => ?_) (fun _ => ?_) <;> try (exfalso; omega)) | (refine gdRN rfl rfl (fun _ => ?_) (fun _ => ?_) <;> try (exfalso; omega)) | refine gdR rfl rfl (fun _ => ?_) (fun _ => ?_))
    | (show retPost _ _ _ _ _; first | refine finF true rfl rfl sc ?_ | refine finF false rfl rfl sc ?_ | refine finC false rfl rfl sc sc ?_ | refine finN rfl rfl sc ?_ | refine finL true rfl rfl sc rfl (LeR.cons rfl leL LeR.nil) ?_ | refine finE true rfl rfl sc ?_ | refine finE false rfl rfl sc ?_)
    | (show retPostB _ _ _ _ _ _; first | refine finB rfl rfl ?_ ?_ | refine finBT rfl rfl rfl ?_ ?_))
  all_goals first | rfl | (rename_i hc; simp [hc])
theorem plot_mark (n : Int) (h0 : 0 ≤ n) (h1 : n < 1000000) : Ret Tryz.prog 49 [.int .i64 n] (· = .int .u8 (markZ n)) := by
  unfold markZ
  by_cases c1 : n = 0
  · rw [if_pos c1]
    refine ret_of_awp tab Tryz.func49 rfl rfl (Nat.le_of_ble_eq_true rfl) (fun w0 F0 => ?_)
    repeat' (first
      | (show awpL _ _ _ _ _; first | refine goL ?_ | (refine gdLD rfl rfl (fun _ => ?_) (fun _ => ?_) <;> try (exfalso; omega)) | (refine gdLN rfl rfl (fun _ => ?_) (fun _ => ?_) <;> try (exfalso; omega)) | refine gdL rfl rfl (fun _ => ?_) (fun _ => ?_))
      | (show awp _ _ _ _; first | refine goA ?_ | (refine awp_condD rfl (fun _ => ?_) (fun _ => ?_) <;> try (exfalso; omega)) | (refine awp_condN rfl (fun _ => ?_) (fun _ => ?_) <;> try (exfalso; omega)) | refine awp_cond rfl (fun _ => ?_) (fun _ => ?_))
      | (show andThen _ _ _ _; first | refine goN ?_)
      | (show inBlock _ _ _ _; first | refine goB ?_)
      | (show awpR _ _ _ _ _ _; first | refine goR ?_ | (refine gdRD rfl rfl (fun _ => ?_) (fun _ => ?_) <;> try (exfalso; omega)) | (refine gdRN rfl rfl (fun _ => ?_) (fun _ => ?_) <;> try (exfalso; omega)) | refine gdR rfl rfl (fun _ => ?_) (fun _ => ?_))
      | (show retPost _ _ _ _ _; first | refine finF true rfl rfl sc ?_ | refine finF false rfl rfl sc ?_ | refine finC false rfl rfl sc sc ?_ | refine finN rfl rfl sc ?_ | refine finL true rfl rfl sc rfl (LeR.cons rfl leL LeR.nil) ?_ | refine finE true rfl rfl sc ?_ | refine finE false rfl rfl sc ?_)
      | (show retPostB _ _ _ _ _ _; first | refine finB rfl rfl ?_ ?_ | refine finBT rfl rfl rfl ?_ ?_))
    rfl
  rw [if_neg c1]
  by_cases c2 : 9 < n
  · rw [if_pos c2]
    refine ret_of_awp tab Tryz.func49 rfl rfl (Nat.le_of_ble_eq_true rfl) (fun w0 F0 => ?_)
    repeat' (first
      | (show awpL _ _ _ _ _; first | refine goL ?_ | (refine gdLD rfl rfl (fun _ => ?_) (fun _ => ?_) <;> try (exfalso; omega)) | (refine gdLN rfl rfl (fun _ => ?_) (fun _ => ?_) <;> try (exfalso; omega)) | refine gdL rfl rfl (fun _ => ?_) (fun _ => ?_))
      | (show awp _ _ _ _; first | refine goA ?_ | (refine awp_condD rfl (fun _ => ?_) (fun _ => ?_) <;> try (exfalso; omega)) | (refine awp_condN rfl (fun _ => ?_) (fun _ => ?_) <;> try (exfalso; omega)) | refine awp_cond rfl (fun _ => ?_) (fun _ => ?_))
      | (show andThen _ _ _ _; first | refine goN ?_)
      | (show inBlock _ _ _ _; first | refine goB ?_)
      | (show awpR _ _ _ _ _ _; first | refine goR ?_ | (refine gdRD rfl rfl (fun _ => ?_) (fun _ => ?_) <;> try (exfalso; omega)) | (refine gdRN rfl rfl (fun _ => ?_) (fun _ => ?_) <;> try (exfalso; omega)) | refine gdR rfl rfl (fun _ => ?_) (fun _ => ?_))
      | (show retPost _ _ _ _ _; first | refine finF true rfl rfl sc ?_ | refine finF false rfl rfl sc ?_ | refine finC false rfl rfl sc sc ?_ | refine finN rfl rfl sc ?_ | refine finL true rfl rfl sc rfl (LeR.cons rfl leL LeR.nil) ?_ | refine finE true rfl rfl sc ?_ | refine finE false rfl rfl sc ?_)
      | (show retPostB _ _ _ _ _ _; first | refine finB rfl rfl ?_ ?_ | refine finBT rfl rfl rfl ?_ ?_))
    rfl
  · rw [if_neg c2]
    refine ret_of_awp tab Tryz.func49 rfl rfl (Nat.le_of_ble_eq_true rfl) (fun w0 F0 => ?_)
    repeat' (first
      | (show awpL _ _ _ _ _; first | refine goL ?_ | (refine gdLD rfl rfl (fun _ => ?_) (fun _ => ?_) <;> try (exfalso; omega)) | (refine gdLN rfl rfl (fun _ => ?_) (fun _ => ?_) <;> try (exfalso; omega)) | refine gdL rfl rfl (fun _ => ?_) (fun _ => ?_))
      | (show awp _ _ _ _; first | refine goA ?_ | (refine awp_condD rfl (fun _ => ?_) (fun _ => ?_) <;> try (exfalso; omega)) | (refine awp_condN rfl (fun _ => ?_) (fun _ => ?_) <;> try (exfalso; omega)) | refine awp_cond rfl (fun _ => ?_) (fun _ => ?_))
      | (show andThen _ _ _ _; first | refine goN ?_)
      | (show inBlock _ _ _ _; first | refine goB ?_)
      | (show awpR _ _ _ _ _ _; first | refine goR ?_ | (refine gdRD rfl rfl (fun _ => ?_) (fun _ => ?_) <;> try (exfalso; omega)) | (refine gdRN rfl rfl (fun _ => ?_) (fun _ => ?_) <;> try (exfalso; omega)) | refine gdR rfl rfl (fun _ => ?_) (fun _ => ?_))
      | (show retPost _ _ _ _ _; first | refine finF true rfl rfl sc ?_ | refine finF false rfl rfl sc ?_ | refine finC false rfl rfl sc sc ?_ | refine finN rfl rfl sc ?_ | refine finL true rfl rfl sc rfl (LeR.cons rfl leL LeR.nil) ?_ | refine finE true rfl rfl sc ?_ | refine finE false rfl rfl sc ?_)
      | (show retPostB _ _ _ _ _ _; first | refine finB rfl rfl ?_ ?_ | refine finBT rfl rfl rfl ?_ ?_))
    rfl
theorem ref40_mark (n : Int) (h0 : 0 ≤ n) (h1 : n < 1000000) : Ret Tryz.prog 91 [.int .i64 n] (· = .int .u8 (markZ n)) := by
  unfold markZ
  by_cases c1 : n = 0
  · rw [if_pos c1]
    refine ret_of_awp tab Tryz.func91 rfl rfl (Nat.le_of_ble_eq_true rfl) (fun w0 F0 => ?_)
    repeat' (first
      | (show awpL _ _ _ _ _; first | refine goL ?_ | (refine gdLD rfl rfl (fun _ => ?_) (fun _ => ?_) <;> try (exfalso; omega)) | (refine gdLN rfl rfl (fun _ => ?_) (fun _ => ?_) <;> try (exfalso; omega)) | refine gdL rfl rfl (fun _ => ?_) (fun _ => ?_))
      | (show awp _ _ _ _; first | refine goA ?_ | (refine awp_condD rfl (fun _ => ?_) (fun _ => ?_) <;> try (exfalso; omega)) | (refine awp_condN rfl (fun _ => ?_) (fun _ => ?_) <;> try (exfalso; omega)) | refine awp_cond rfl (fun _ => ?_) (fun _ => ?_))
      | (show andThen _ _ _ _; first | refine goN ?_)
      | (show inBlock _ _ _ _; first | refine goB ?_)
      | (show awpR _ _ _ _ _ _; first | refine goR ?_ | (refine gdRD rfl rfl (fun _ => ?_) (fun _ => ?_) <;> try (exfalso; omega)) | (refine gdRN rfl rfl (fun _ => ?_) (fun _ => ?_) <;> try (exfalso; omega)) | refine gdR rfl rfl (fun _ => ?_) (fun _ => ?_))
      | (show retPost _ _ _ _ _; first | refine finF true rfl rfl sc ?_ | refine finF false rfl rfl sc ?_ | refine finC false rfl rfl sc sc ?_ | refine finN rfl rfl sc ?_ | refine finL true rfl rfl sc rfl (LeR.cons rfl leL LeR.nil) ?_ | refine finE true rfl rfl sc ?_ | refine finE false rfl rfl sc ?_)
      | (show retPostB _ _ _ _ _ _; first | refine finB rfl rfl ?_ ?_ | refine finBT rfl rfl rfl ?_ ?_))
    rfl
  rw [if_neg c1]
  by_cases c2 : 9 < n
  · rw [if_pos c2]
    refine ret_of_awp tab Tryz.func91 rfl rfl (Nat.le_of_ble_eq_true rfl) (fun w0 F0 => ?_)
    repeat' (first
      | (show awpL _ _ _ _ _; first | refine goL ?_ | (refine gdLD rfl rfl (fun _ => ?_) (fun _ => ?_) <;> try (exfalso; omega)) | (refine gdLN rfl rfl (fun _ => ?_) (fun _ => ?_) <;> try (exfalso; omega)) | refine gdL rfl rfl (fun _ => ?_) (fun _ => ?_))
      | (show awp _ _ _ _; first | refine goA ?_ | (refine awp_condD rfl (fun _ => ?_) (fun _ => ?_) <;> try (exfalso; omega)) | (refine awp_condN rfl (fun _ => ?_) (fun _ => ?_) <;> try (exfalso; omega)) | refine awp_cond rfl (fun _ => ?_) (fun _ => ?_))
      | (show andThen _ _ _ _; first | refine goN ?_)
      | (show inBlock _ _ _ _; first | refine goB ?_)
      | (show awpR _ _ _ _ _ _; first | refine goR ?_ | (refine gdRD rfl rfl (fun _ => ?_) (fun _ => ?_) <;> try (exfalso; omega)) | (refine gdRN rfl rfl (fun _ => ?_) (fun _ => ?_) <;> try (exfalso; omega)) | refine gdR rfl rfl (fun _ => ?_) (fun _ => ?_))
      | (show retPost _ _ _ _ _; first | refine finF true rfl rfl sc ?_ | refine finF false rfl rfl sc ?_ | refine finC false rfl rfl sc sc ?_ | refine finN rfl rfl sc ?_ | refine finL true rfl rfl sc rfl (LeR.cons rfl leL LeR.nil) ?_ | refine finE true rfl rfl sc ?_ | refine finE false rfl rfl sc ?_)
      | (show retPostB _ _ _ _ _ _; first | refine finB rfl rfl ?_ ?_ | refine finBT rfl rfl rfl ?_ ?_))
    rfl
  · rw [if_neg c2]
    refine ret_of_awp tab Tryz.func91 rfl rfl (Nat.le_of_ble_eq_true rfl) (fun w0 F0 => ?_)
    repeat' (first
      | (show awpL _ _ _ _ _; first | refine goL ?_ | (refine gdLD rfl rfl (fun _ => ?_) (fun _ => ?_) <;> try (exfalso; omega)) | (refine gdLN rfl rfl (fun _ => ?_) (fun _ => ?_) <;> try (exfalso; omega)) | refine gdL rfl rfl (fun _ => ?_) (fun _ => ?_))
      | (show awp _ _ _ _; first | refine goA ?_ | (refine awp_condD rfl (fun _ => ?_) (fun _ => ?_) <;> try (exfalso; omega)) | (refine awp_condN rfl (fun _ => ?_) (fun _ => ?_) <;> try (exfalso; omega)) | refine awp_cond rfl (fun _ => ?_) (fun _ => ?_))
      | (show andThen _ _ _ _; first | refine goN ?_)
      | (show inBlock _ _ _ _; first | refine goB ?_)
      | (show awpR _ _ _ _ _ _; first | refine goR ?_ | (refine gdRD rfl rfl (fun _ => ?_) (fun _ => ?_) <;> try (exfalso; omega)) | (refine gdRN rfl rfl (fun _ => ?_) (fun _ => ?_) <;> try (exfalso; omega)) | refine gdR rfl rfl (fun _ => ?_) (fun _ => ?_))
      | (show retPost _ _ _ _ _; first | refine finF true rfl rfl sc ?_ | refine finF false rfl rfl sc ?_ | refine finC false rfl rfl sc sc ?_ | refine finN rfl rfl sc ?_ | refine finL true rfl rfl sc rfl (LeR.cons rfl leL LeR.nil) ?_ | refine finE true rfl rfl sc ?_ | refine finE false rfl rfl sc ?_)
      | (show retPostB _ _ _ _ _ _; first | refine finB rfl rfl ?_ ?_ | refine finBT rfl rfl rfl ?_ ?_))
    rfl
/-- A part of one list, the rest of another one. -/
def mixL {α : Type} (a r : List α) (i : Nat) : List α := a.take i ++ r.drop i
theorem mixL_set {α : Type} {a r : List α} {i : Nat} (z : α) (h : a.length = r.length) (hi : i < a.length) : (mixL a r i).set i (a.getD i z) = mixL a r (i + 1) := by
  unfold mixL
  rw [List.set_append_right _ _ (by rw [List.length_take]; omega)]
  rw [show i - (a.take i).length = 0 by rw [List.length_take]; omega]
  rw [List.drop_eq_getElem_cons (show i < r.length by omega), List.set_cons_zero, List.take_add_one, List.append_assoc]
  congr 1
  simp [List.getD_eq_getElem?_getD, hi]
theorem mixL_len {α : Type} {a r : List α} {i : Nat} (h : a.length = r.length) (hi : i ≤ a.length) : (mixL a r i).length = r.length := by unfold mixL; simp; omega
theorem mixL_zero {α : Type} (a r : List α) : mixL a r 0 = r := by simp [mixL]
theorem mixL_all {α : Type} {a r : List α} (h : a.length = r.length) : mixL a r a.length = a := by unfold mixL; rw [List.take_of_length_le (Nat.le_refl _), List.drop_of_length_le (by omega), List.append_nil]
theorem plot_blanks (w : Nat) (h : w ≤ 1000) : RetB Tryz.prog 47 [.d (.int .i64 w)] (lookB []) (.own 6 0 w 5 1) (lookB [(6, .data 5 1 eB 0 (List.replicate w (32 : UInt8)))]) := by
  refine retB_of_awp tab [] Tryz.func47 rfl rfl rfl (Nat.le_of_ble_eq_true rfl) rfl trivial (fun w0 F0 A io0 => ?_)
  repeat' (first
    | (show awpL _ _ _ _ _; first | refine goL ?_ | refine stepMake (mm := true) (en := eB) (z := 0) tt rfl rfl rfl rfl rfl rfl rfl rfl rfl rfl rfl rfl leL sc sc ?_ | refine stepMake (mm := false) (en := eB) (z := 0) tt rfl rfl rfl rfl rfl rfl rfl rfl rfl rfl rfl rfl leL sc sc ?_ | (refine gdLD rfl rfl (fun _ => ?_) (fun _ => ?_) <;> try (exfalso; omega)) | (refine gdLN rfl rfl (fun _ => ?_) (fun _ => ?_) <;> try (exfalso; omega)) | refine gdL rfl rfl (fun _ => ?_) (fun _ => ?_))
    | (show awp _ _ _ _; first | refine goA ?_ | (refine awp_condD rfl (fun _ => ?_) (fun _ => ?_) <;> try (exfalso; omega)) | (refine awp_condN rfl (fun _ => ?_) (fun _ => ?_) <;> try (exfalso; omega)) | refine awp_cond rfl (fun _ => ?_) (fun _ => ?_))
    | (show andThen _ _ _ _; first | refine goN ?_)
    | (show inBlock _ _ _ _; first | refine goB ?_)
    | (show awpR _ _ _ _ _ _; first | refine goR ?_ | (refine gdRD rfl rfl (fun _ => ?_) (fun _ => ?_) <;> try (exfalso; omega)) | (refine gdRN rfl rfl (fun _ => ?_) (fun _ => ?_) <;> try (exfalso; omega)) | refine gdR rfl rfl (fun _ => ?_) (fun _ => ?_))
    | (show retPost _ _ _ _ _; first | refine finF true rfl rfl sc ?_ | refine finF false rfl rfl sc ?_ | refine finC false rfl rfl sc sc ?_ | refine finN rfl rfl sc ?_ | refine finL true rfl rfl sc rfl (LeR.cons rfl leL LeR.nil) ?_ | refine finE true rfl rfl sc ?_ | refine finE false rfl rfl sc ?_)
    | (show retPostB _ _ _ _ _ _; first | refine finB rfl rfl ?_ ?_ | refine finBT rfl rfl rfl ?_ ?_))
  refine awp_loop1 (fun (i : Nat) => ([(3, .own 6 0 w 5 1), (8, .d (.int .i64 w)), (9, .d (.int .i64 i))], [(6, .data 5 1 eB 0 (mixL (List.replicate w (32 : UInt8)) (List.replicate w (0 : UInt8)) i))])) (fun i => i ≤ w) (fun i => w - i) 0 (by omega) ⟨rfl, rfl, rfl, rfl⟩ ⟨by rw [mixL_zero]; rfl, trivial⟩ (fun i hi => ?_)
  have hml := mixL_len (a := List.replicate w (32 : UInt8)) (r := List.replicate w (0 : UInt8)) (i := i) (by simp) (by simp; omega)
  rw [List.length_replicate] at hml
  by_cases h3 : i < w
  · have hs := mixL_set (a := List.replicate w (32 : UInt8)) (r := List.replicate w (0 : UInt8)) (i := i) 0 (by simp) (by simp; omega)
    rw [show (List.replicate w (32 : UInt8)).getD i 0 = 32 by simp [List.getD_eq_getElem?_getD, h3]] at hs
    repeat' (first
      | (show awpL _ _ _ _ _; first | refine goL ?_ | (refine gdLD rfl rfl (fun _ => ?_) (fun _ => ?_) <;> try (exfalso; omega)) | (refine gdLN rfl rfl (fun _ => ?_) (fun _ => ?_) <;> try (exfalso; omega)) | refine gdL rfl rfl (fun _ => ?_) (fun _ => ?_))
      | (show awp _ _ _ _; first | refine goA ?_ | (refine awp_condD rfl (fun _ => ?_) (fun _ => ?_) <;> try (exfalso; omega)) | (refine awp_condN rfl (fun _ => ?_) (fun _ => ?_) <;> try (exfalso; omega)) | refine awp_cond rfl (fun _ => ?_) (fun _ => ?_))
      | (show andThen _ _ _ _; first | refine goN ?_)
      | (show inBlock _ _ _ _; first | refine goB ?_)
      | (show awpR _ _ _ _ _ _; first | refine goR ?_ | (refine gdRD rfl rfl (fun _ => ?_) (fun _ => ?_) <;> try (exfalso; omega)) | (refine gdRN rfl rfl (fun _ => ?_) (fun _ => ?_) <;> try (exfalso; omega)) | refine gdR rfl rfl (fun _ => ?_) (fun _ => ?_))
      | (show retPost _ _ _ _ _; first | refine finF true rfl rfl sc ?_ | refine finF false rfl rfl sc ?_ | refine finC false rfl rfl sc sc ?_ | refine finN rfl rfl sc ?_ | refine finL true rfl rfl sc rfl (LeR.cons rfl leL LeR.nil) ?_ | refine finE true rfl rfl sc ?_ | refine finE false rfl rfl sc ?_)
      | (show retPostB _ _ _ _ _ _; first | refine finB rfl rfl ?_ ?_ | refine finBT rfl rfl rfl ?_ ?_))
    exact ⟨i + 1, by omega, by omega, ⟨rfl, rfl, iv (by omega), rfl⟩, by rw [← hs]; rfl, trivial⟩
  · have : i = w := by omega
    subst this
    have hall := mixL_all (a := List.replicate i (32 : UInt8)) (r := List.replicate i (0 : UInt8)) (by simp)
    rw [List.length_replicate] at hall
    rw [hall]
    repeat' (first
      | (show awpL _ _ _ _ _; first | refine goL ?_ | (refine gdLD rfl rfl (fun _ => ?_) (fun _ => ?_) <;> try (exfalso; omega)) | (refine gdLN rfl rfl (fun _ => ?_) (fun _ => ?_) <;> try (exfalso; omega)) | refine gdL rfl rfl (fun _ => ?_) (fun _ => ?_))
      | (show awp _ _ _ _; first | refine goA ?_ | (refine awp_condD rfl (fun _ => ?_) (fun _ => ?_) <;> try (exfalso; omega)) | (refine awp_condN rfl (fun _ => ?_) (fun _ => ?_) <;> try (exfalso; omega)) | refine awp_cond rfl (fun _ => ?_) (fun _ => ?_))
      | (show andThen _ _ _ _; first | refine goN ?_)
      | (show inBlock _ _ _ _; first | refine goB ?_)
      | (show awpR _ _ _ _ _ _; first | refine goR ?_ | (refine gdRD rfl rfl (fun _ => ?_) (fun _ => ?_) <;> try (exfalso; omega)) | (refine gdRN rfl rfl (fun _ => ?_) (fun _ => ?_) <;> try (exfalso; omega)) | refine gdR rfl rfl (fun _ => ?_) (fun _ => ?_))
      | (show retPost _ _ _ _ _; first | refine finF true rfl rfl sc ?_ | refine finF false rfl rfl sc ?_ | refine finC false rfl rfl sc sc ?_ | refine finN rfl rfl sc ?_ | refine finL true rfl rfl sc rfl (LeR.cons rfl leL LeR.nil) ?_ | refine finE true rfl rfl sc ?_ | refine finE false rfl rfl sc ?_)
      | (show retPostB _ _ _ _ _ _; first | refine finB rfl rfl ?_ ?_ | refine finBT rfl rfl rfl ?_ ?_))
    all_goals first | exact leVT | exact ⟨rfl, trivial⟩
theorem getD_map_rv {vs : List R3} {i : Nat} (h : i < vs.length) : (vs.map rv).getD i 0 = rv (vs.getD i r0) := by
  simp [List.getD_eq_getElem?_getD, h]
theorem getD_mem_R {vs : List R3} {i : Nat} {p : R3 → Prop} (h : ∀ r ∈ vs, p r) (hi : i < vs.length) : p (vs.getD i r0) := by
  have e : vs.getD i r0 = vs[i] := by simp [List.getD_eq_getElem?_getD, hi]
  rw [e]; exact h _ (List.getElem_mem hi)
end Go.Proofs.YtoppaphffnojdaaGreat

set_option linter.unusedVariables false
set_option linter.unusedSimpArgs false
set_option maxHeartbeats 4000000
namespace Go.Proofs.YtoppaphffnojdaaGreat
open Go.Vw
attribute [local irreducible] awp awpL awpR

theorem world_Odd (l : List Int) (a : Nat) (hl : l.length ≤ 400) (hx : I64 l) (ha : a ≤ l.length) : ∃ (x : R3) (b : Nat), RatOk x 20 ∧ b ≤ l.length ∧ RetB Tryz.prog 11 [.ptr 1000 0] (lookB [(1000, tp l a)]) (.d (rD x)) (lookB [(1000, tp l b)]) := by
  obtain ⟨q, b, q1, q2, h1⟩ := world_Rat l a hl hx ha
  obtain ⟨r, c, r1, r2, r3, h2⟩ := world_Next l b 24 hl hx q2 (by decide) (by decide)
  have ok := ok_rq q1
  have h1 : RetB Tryz.prog 26 [.ptr 1000 0] (lookB [(1000, tp l a)]) (.d (rD (rq q))) (lookB [(1000, tp l b)]) := h1
  generalize rq q = x at *
  obtain ⟨ng, m, d⟩ := x
  obtain ⟨o1, o2, o3, o4⟩ := ok
  simp only at o1 o2 o3 o4
  by_cases c1 : r = 20
  · subst c1
    refine ⟨(ng, m, [1]), c, ⟨o1, by intro z hz; simp at hz; subst hz; decide, by show m.length < 20; omega, by show 1 < 20; decide⟩, r3, ?_⟩
    refine retB_of_awp tab [1000] Tryz.func11 rfl rfl rfl (Nat.le_of_ble_eq_true rfl) rfl ⟨Nat.le_refl _, trivial⟩ (fun w0 F0 A io0 => ?_)
    repeat' (first
      | (show awpL _ _ _ _ _; first | refine goL ?_ | refine clB 26 [] (h1) tt rfl rfl rfl rfl rfl rfl leVT allB ?_ | refine clB 18 [] (h2) tt rfl rfl rfl rfl rfl rfl leVT allB ?_ | (refine gdLD rfl rfl (fun _ => ?_) (fun _ => ?_) <;> try (exfalso; omega)) | (refine gdLN rfl rfl (fun _ => ?_) (fun _ => ?_) <;> try (exfalso; omega)) | refine gdL rfl rfl (fun _ => ?_) (fun _ => ?_))
      | (show awp _ _ _ _; first | refine goA ?_ | (refine awp_condD rfl (fun _ => ?_) (fun _ => ?_) <;> try (exfalso; omega)) | (refine awp_condN rfl (fun _ => ?_) (fun _ => ?_) <;> try (exfalso; omega)) | refine awp_cond rfl (fun _ => ?_) (fun _ => ?_))
      | (show andThen _ _ _ _; first | refine goN ?_)
      | (show inBlock _ _ _ _; first | refine goB ?_)
      | (show awpR _ _ _ _ _ _; first | refine goR ?_ | (refine gdRD rfl rfl (fun _ => ?_) (fun _ => ?_) <;> try (exfalso; omega)) | (refine gdRN rfl rfl (fun _ => ?_) (fun _ => ?_) <;> try (exfalso; omega)) | refine gdR rfl rfl (fun _ => ?_) (fun _ => ?_))
      | (show retPost _ _ _ _ _; first | refine finF true rfl rfl sc ?_ | refine finF false rfl rfl sc ?_ | refine finC false rfl rfl sc sc ?_ | refine finN rfl rfl sc ?_ | refine finL true rfl rfl sc rfl (LeR.cons rfl leL LeR.nil) ?_ | refine finE true rfl rfl sc ?_ | refine finE false rfl rfl sc ?_)
      | (show retPostB _ _ _ _ _ _; first | refine finB rfl rfl ?_ ?_ | refine finBT rfl rfl rfl ?_ ?_))
    all_goals first | exact leVT | exact LeVT.consD (LeD.agg leL) leVT | exact ⟨rfl, trivial⟩
  by_cases c2 : r = 21
  · subst c2
    refine ⟨(ng, m ++ [0], d), c, ⟨by intro z hz; simp at hz; rcases hz with hz | hz; exact o1 z hz; subst hz; decide, o2, by show (m ++ [0]).length < 20; simp; omega, by show d.length < 20; omega⟩, r3, ?_⟩
    refine retB_of_awp tab [1000] Tryz.func11 rfl rfl rfl (Nat.le_of_ble_eq_true rfl) rfl ⟨Nat.le_refl _, trivial⟩ (fun w0 F0 A io0 => ?_)
    repeat' (first
      | (show awpL _ _ _ _ _; first | refine goL ?_ | refine clB 26 [] (h1) tt rfl rfl rfl rfl rfl rfl leVT allB ?_ | refine clB 18 [] (h2) tt rfl rfl rfl rfl rfl rfl leVT allB ?_ | (refine gdLD rfl rfl (fun _ => ?_) (fun _ => ?_) <;> try (exfalso; omega)) | (refine gdLN rfl rfl (fun _ => ?_) (fun _ => ?_) <;> try (exfalso; omega)) | refine gdL rfl rfl (fun _ => ?_) (fun _ => ?_))
      | (show awp _ _ _ _; first | refine stopA 11 tt ?_)
      | (show awp _ _ _ _; first | refine goA ?_ | (refine awp_condD rfl (fun _ => ?_) (fun _ => ?_) <;> try (exfalso; omega)) | (refine awp_condN rfl (fun _ => ?_) (fun _ => ?_) <;> try (exfalso; omega)) | refine awp_cond rfl (fun _ => ?_) (fun _ => ?_))
      | (show andThen _ _ _ _; first | refine goN ?_)
      | (show inBlock _ _ _ _; first | refine goB ?_)
      | (show awpR _ _ _ _ _ _; first | refine goR ?_ | (refine gdRD rfl rfl (fun _ => ?_) (fun _ => ?_) <;> try (exfalso; omega)) | (refine gdRN rfl rfl (fun _ => ?_) (fun _ => ?_) <;> try (exfalso; omega)) | refine gdR rfl rfl (fun _ => ?_) (fun _ => ?_))
      | (show retPost _ _ _ _ _; first | refine finF true rfl rfl sc ?_ | refine finF false rfl rfl sc ?_ | refine finC false rfl rfl sc sc ?_ | refine finN rfl rfl sc ?_ | refine finL true rfl rfl sc rfl (LeR.cons rfl leL LeR.nil) ?_ | refine finE true rfl rfl sc ?_ | refine finE false rfl rfl sc ?_)
      | (show retPostB _ _ _ _ _ _; first | refine finB rfl rfl ?_ ?_ | refine finBT rfl rfl rfl ?_ ?_))
    refine stopOut ?_
    refine awp_frz 17 rfl ?_
    repeat' (first
      | (show awpL _ _ _ _ _; first | refine goL ?_ | (refine gdLD rfl rfl (fun _ => ?_) (fun _ => ?_) <;> try (exfalso; omega)) | (refine gdLN rfl rfl (fun _ => ?_) (fun _ => ?_) <;> try (exfalso; omega)) | refine gdL rfl rfl (fun _ => ?_) (fun _ => ?_))
      | (show awp _ _ _ _; first | refine goA ?_ | (refine awp_condD rfl (fun _ => ?_) (fun _ => ?_) <;> try (exfalso; omega)) | (refine awp_condN rfl (fun _ => ?_) (fun _ => ?_) <;> try (exfalso; omega)) | refine awp_cond rfl (fun _ => ?_) (fun _ => ?_))
      | (show andThen _ _ _ _; first | refine goN ?_)
      | (show inBlock _ _ _ _; first | refine goB ?_)
      | (show awpR _ _ _ _ _ _; first | refine goR ?_ | (refine gdRD rfl rfl (fun _ => ?_) (fun _ => ?_) <;> try (exfalso; omega)) | (refine gdRN rfl rfl (fun _ => ?_) (fun _ => ?_) <;> try (exfalso; omega)) | refine gdR rfl rfl (fun _ => ?_) (fun _ => ?_))
      | (show retPost _ _ _ _ _; first | refine finF true rfl rfl sc ?_ | refine finF false rfl rfl sc ?_ | refine finC false rfl rfl sc sc ?_ | refine finN rfl rfl sc ?_ | refine finL true rfl rfl sc rfl (LeR.cons rfl leL LeR.nil) ?_ | refine finE true rfl rfl sc ?_ | refine finE false rfl rfl sc ?_)
      | (show retPostB _ _ _ _ _ _; first | refine finB rfl rfl ?_ ?_ | refine finBT rfl rfl rfl ?_ ?_))
    all_goals first | exact leVT | exact LeVT.consD (LeD.agg (LeL.cons (LeD.refl _) (LeL.cons LeD.full (LeL.cons (LeD.refl _) LeL.nil)))) leVT | exact LeVT.consD (LeD.agg leL) leVT | exact ⟨rfl, trivial⟩
  by_cases c3 : r = 22
  · subst c3
    refine ⟨(true, [], []), c, ⟨by intro z hz; simp at hz, by intro z hz; simp at hz, by decide, by decide⟩, r3, ?_⟩
    refine retB_of_awp tab [1000] Tryz.func11 rfl rfl rfl (Nat.le_of_ble_eq_true rfl) rfl ⟨Nat.le_refl _, trivial⟩ (fun w0 F0 A io0 => ?_)
    repeat' (first
      | (show awpL _ _ _ _ _; first | refine goL ?_ | refine clB 26 [] (h1) tt rfl rfl rfl rfl rfl rfl leVT allB ?_ | refine clB 18 [] (h2) tt rfl rfl rfl rfl rfl rfl leVT allB ?_ | (refine gdLD rfl rfl (fun _ => ?_) (fun _ => ?_) <;> try (exfalso; omega)) | (refine gdLN rfl rfl (fun _ => ?_) (fun _ => ?_) <;> try (exfalso; omega)) | refine gdL rfl rfl (fun _ => ?_) (fun _ => ?_))
      | (show awp _ _ _ _; first | refine goA ?_ | (refine awp_condD rfl (fun _ => ?_) (fun _ => ?_) <;> try (exfalso; omega)) | (refine awp_condN rfl (fun _ => ?_) (fun _ => ?_) <;> try (exfalso; omega)) | refine awp_cond rfl (fun _ => ?_) (fun _ => ?_))
      | (show andThen _ _ _ _; first | refine goN ?_)
      | (show inBlock _ _ _ _; first | refine goB ?_)
      | (show awpR _ _ _ _ _ _; first | refine goR ?_ | (refine gdRD rfl rfl (fun _ => ?_) (fun _ => ?_) <;> try (exfalso; omega)) | (refine gdRN rfl rfl (fun _ => ?_) (fun _ => ?_) <;> try (exfalso; omega)) | refine gdR rfl rfl (fun _ => ?_) (fun _ => ?_))
      | (show retPost _ _ _ _ _; first | refine finF true rfl rfl sc ?_ | refine finF false rfl rfl sc ?_ | refine finC false rfl rfl sc sc ?_ | refine finN rfl rfl sc ?_ | refine finL true rfl rfl sc rfl (LeR.cons rfl leL LeR.nil) ?_ | refine finE true rfl rfl sc ?_ | refine finE false rfl rfl sc ?_)
      | (show retPostB _ _ _ _ _ _; first | refine finB rfl rfl ?_ ?_ | refine finBT rfl rfl rfl ?_ ?_))
    all_goals first | exact leVT | exact LeVT.consD (LeD.agg leL) leVT | exact ⟨rfl, trivial⟩
  by_cases c4 : r = 23
  · subst c4
    refine ⟨(false, [2], [4]), c, ⟨by intro z hz; simp at hz; subst hz; decide, by intro z hz; simp at hz; subst hz; decide, by decide, by decide⟩, r3, ?_⟩
    refine retB_of_awp tab [1000] Tryz.func11 rfl rfl rfl (Nat.le_of_ble_eq_true rfl) rfl ⟨Nat.le_refl _, trivial⟩ (fun w0 F0 A io0 => ?_)
    repeat' (first
      | (show awpL _ _ _ _ _; first | refine goL ?_ | refine clB 26 [] (h1) tt rfl rfl rfl rfl rfl rfl leVT allB ?_ | refine clB 18 [] (h2) tt rfl rfl rfl rfl rfl rfl leVT allB ?_ | (refine gdLD rfl rfl (fun _ => ?_) (fun _ => ?_) <;> try (exfalso; omega)) | (refine gdLN rfl rfl (fun _ => ?_) (fun _ => ?_) <;> try (exfalso; omega)) | refine gdL rfl rfl (fun _ => ?_) (fun _ => ?_))
      | (show awp _ _ _ _; first | refine goA ?_ | (refine awp_condD rfl (fun _ => ?_) (fun _ => ?_) <;> try (exfalso; omega)) | (refine awp_condN rfl (fun _ => ?_) (fun _ => ?_) <;> try (exfalso; omega)) | refine awp_cond rfl (fun _ => ?_) (fun _ => ?_))
      | (show andThen _ _ _ _; first | refine goN ?_)
      | (show inBlock _ _ _ _; first | refine goB ?_)
      | (show awpR _ _ _ _ _ _; first | refine goR ?_ | (refine gdRD rfl rfl (fun _ => ?_) (fun _ => ?_) <;> try (exfalso; omega)) | (refine gdRN rfl rfl (fun _ => ?_) (fun _ => ?_) <;> try (exfalso; omega)) | refine gdR rfl rfl (fun _ => ?_) (fun _ => ?_))
      | (show retPost _ _ _ _ _; first | refine finF true rfl rfl sc ?_ | refine finF false rfl rfl sc ?_ | refine finC false rfl rfl sc sc ?_ | refine finN rfl rfl sc ?_ | refine finL true rfl rfl sc rfl (LeR.cons rfl leL LeR.nil) ?_ | refine finE true rfl rfl sc ?_ | refine finE false rfl rfl sc ?_)
      | (show retPostB _ _ _ _ _ _; first | refine finB rfl rfl ?_ ?_ | refine finBT rfl rfl rfl ?_ ?_))
    all_goals first | exact leVT | exact LeVT.consD (LeD.agg leL) leVT | exact ⟨rfl, trivial⟩
  · refine ⟨(ng, m, d), c, ⟨o1, o2, by show m.length < 20; omega, by show d.length < 20; omega⟩, r3, ?_⟩
    refine retB_of_awp tab [1000] Tryz.func11 rfl rfl rfl (Nat.le_of_ble_eq_true rfl) rfl ⟨Nat.le_refl _, trivial⟩ (fun w0 F0 A io0 => ?_)
    repeat' (first
      | (show awpL _ _ _ _ _; first | refine goL ?_ | refine clB 26 [] (h1) tt rfl rfl rfl rfl rfl rfl leVT allB ?_ | refine clB 18 [] (h2) tt rfl rfl rfl rfl rfl rfl leVT allB ?_ | (refine gdLD rfl rfl (fun _ => ?_) (fun _ => ?_) <;> try (exfalso; omega)) | (refine gdLN rfl rfl (fun _ => ?_) (fun _ => ?_) <;> try (exfalso; omega)) | refine gdL rfl rfl (fun _ => ?_) (fun _ => ?_))
      | (show awp _ _ _ _; first | refine goA ?_ | (refine awp_condD rfl (fun _ => ?_) (fun _ => ?_) <;> try (exfalso; omega)) | (refine awp_condN rfl (fun _ => ?_) (fun _ => ?_) <;> try (exfalso; omega)) | refine awp_cond rfl (fun _ => ?_) (fun _ => ?_))
      | (show andThen _ _ _ _; first | refine goN ?_)
      | (show inBlock _ _ _ _; first | refine goB ?_)
      | (show awpR _ _ _ _ _ _; first | refine goR ?_ | (refine gdRD rfl rfl (fun _ => ?_) (fun _ => ?_) <;> try (exfalso; omega)) | (refine gdRN rfl rfl (fun _ => ?_) (fun _ => ?_) <;> try (exfalso; omega)) | refine gdR rfl rfl (fun _ => ?_) (fun _ => ?_))
      | (show retPost _ _ _ _ _; first | refine finF true rfl rfl sc ?_ | refine finF false rfl rfl sc ?_ | refine finC false rfl rfl sc sc ?_ | refine finN rfl rfl sc ?_ | refine finL true rfl rfl sc rfl (LeR.cons rfl leL LeR.nil) ?_ | refine finE true rfl rfl sc ?_ | refine finE false rfl rfl sc ?_)
      | (show retPostB _ _ _ _ _ _; first | refine finB rfl rfl ?_ ?_ | refine finBT rfl rfl rfl ?_ ?_))
    all_goals first | exact leVT | exact LeVT.consD (LeD.agg leL) leVT | exact ⟨rfl, trivial⟩
end Go.Proofs.YtoppaphffnojdaaGreat

set_option linter.unusedVariables false
set_option linter.unusedSimpArgs false
set_option maxHeartbeats 8000000
namespace Go.Proofs.YtoppaphffnojdaaGreat
open Go.Vw
attribute [local irreducible] awp awpL awpR

/-- The error that plots have in common. -/
def chk (n : Nat) (lo hi : Rat) (w h : Int) : Int := if n < 1 ∨ 64 < n then 6 else if ¬ lo < hi ∨ w < 1 ∨ 100 < w ∨ h < 1 ∨ 50 < h then 1 else 0
theorem plot_check (vs : List R3) (lo hi : R3) (w h : Int) (hn : vs.length < 9223372036854775807) (hl : RatOk lo 100) (hh : RatOk hi 100) : Ret Tryz.prog 46 [rsD vs, rD lo, rD hi, .int .i64 w, .int .i64 h] (· = .int .i64 (chk vs.length (rv lo) (rv hi) w h)) := by
  have l1 := exact_Less lo hi (hl.up (by decide)) (hh.up (by decide))
  unfold chk
  by_cases c1 : vs.length < 1 ∨ 64 < vs.length
  · rw [if_pos c1]
    refine ret_of_awp tab Tryz.func46 rfl rfl (Nat.le_of_ble_eq_true rfl) (fun w0 F0 => ?_)
    repeat' (first
      | (show awpL _ _ _ _ _; first | refine goL ?_ | (refine gdLD rfl rfl (fun _ => ?_) (fun _ => ?_) <;> try (exfalso; omega)) | (refine gdLN rfl rfl (fun _ => ?_) (fun _ => ?_) <;> try (exfalso; omega)) | refine gdL rfl rfl (fun _ => ?_) (fun _ => ?_))
      | (show awp _ _ _ _; first | refine goA ?_ | (refine awp_condD rfl (fun _ => ?_) (fun _ => ?_) <;> try (exfalso; omega)) | (refine awp_condN rfl (fun _ => ?_) (fun _ => ?_) <;> try (exfalso; omega)) | refine awp_cond rfl (fun _ => ?_) (fun _ => ?_))
      | (show andThen _ _ _ _; first | refine goN ?_)
      | (show inBlock _ _ _ _; first | refine goB ?_)
      | (show awpR _ _ _ _ _ _; first | refine goR ?_ | (refine gdRD rfl rfl (fun _ => ?_) (fun _ => ?_) <;> try (exfalso; omega)) | (refine gdRN rfl rfl (fun _ => ?_) (fun _ => ?_) <;> try (exfalso; omega)) | refine gdR rfl rfl (fun _ => ?_) (fun _ => ?_))
      | (show retPost _ _ _ _ _; first | refine finF true rfl rfl sc ?_ | refine finF false rfl rfl sc ?_ | refine finC false rfl rfl sc sc ?_ | refine finN rfl rfl sc ?_ | refine finL true rfl rfl sc rfl (LeR.cons rfl leL LeR.nil) ?_ | refine finE true rfl rfl sc ?_ | refine finE false rfl rfl sc ?_)
      | (show retPostB _ _ _ _ _ _; first | refine finB rfl rfl ?_ ?_ | refine finBT rfl rfl rfl ?_ ?_))
    all_goals rfl
  rw [if_neg c1]
  by_cases c2 : rv lo < rv hi
  · rw [decide_eq_true c2] at l1
    by_cases c3 : w < 1 ∨ 100 < w ∨ h < 1 ∨ 50 < h
    · rw [if_pos (.inr c3)]
      refine ret_of_awp tab Tryz.func46 rfl rfl (Nat.le_of_ble_eq_true rfl) (fun w0 F0 => ?_)
      repeat' (first
        | (show awpL _ _ _ _ _; first | refine goL ?_ | refine cl 31 tt rfl rfl rfl (hr := l1) (k := ?_) | (refine gdLD rfl rfl (fun _ => ?_) (fun _ => ?_) <;> try (exfalso; omega)) | (refine gdLN rfl rfl (fun _ => ?_) (fun _ => ?_) <;> try (exfalso; omega)) | refine gdL rfl rfl (fun _ => ?_) (fun _ => ?_))
        | (show awp _ _ _ _; first | refine goA ?_ | (refine awp_condD rfl (fun _ => ?_) (fun _ => ?_) <;> try (exfalso; omega)) | (refine awp_condN rfl (fun _ => ?_) (fun _ => ?_) <;> try (exfalso; omega)) | refine awp_cond rfl (fun _ => ?_) (fun _ => ?_))
        | (show andThen _ _ _ _; first | refine goN ?_)
        | (show inBlock _ _ _ _; first | refine goB ?_)
        | (show awpR _ _ _ _ _ _; first | refine goR ?_ | refine clR 31 tt rfl rfl rfl (hr := l1) (k := ?_) | (refine gdRD rfl rfl (fun _ => ?_) (fun _ => ?_) <;> try (exfalso; omega)) | (refine gdRN rfl rfl (fun _ => ?_) (fun _ => ?_) <;> try (exfalso; omega)) | refine gdR rfl rfl (fun _ => ?_) (fun _ => ?_))
        | (show retPost _ _ _ _ _; first | refine finF true rfl rfl sc ?_ | refine finF false rfl rfl sc ?_ | refine finC false rfl rfl sc sc ?_ | refine finN rfl rfl sc ?_ | refine finL true rfl rfl sc rfl (LeR.cons rfl leL LeR.nil) ?_ | refine finE true rfl rfl sc ?_ | refine finE false rfl rfl sc ?_)
        | (show retPostB _ _ _ _ _ _; first | refine finB rfl rfl ?_ ?_ | refine finBT rfl rfl rfl ?_ ?_))
      all_goals rfl
    · rw [if_neg (fun h => h.elim (fun h => h c2) c3)]
      refine ret_of_awp tab Tryz.func46 rfl rfl (Nat.le_of_ble_eq_true rfl) (fun w0 F0 => ?_)
      repeat' (first
        | (show awpL _ _ _ _ _; first | refine goL ?_ | refine cl 31 tt rfl rfl rfl (hr := l1) (k := ?_) | (refine gdLD rfl rfl (fun _ => ?_) (fun _ => ?_) <;> try (exfalso; omega)) | (refine gdLN rfl rfl (fun _ => ?_) (fun _ => ?_) <;> try (exfalso; omega)) | refine gdL rfl rfl (fun _ => ?_) (fun _ => ?_))
        | (show awp _ _ _ _; first | refine goA ?_ | (refine awp_condD rfl (fun _ => ?_) (fun _ => ?_) <;> try (exfalso; omega)) | (refine awp_condN rfl (fun _ => ?_) (fun _ => ?_) <;> try (exfalso; omega)) | refine awp_cond rfl (fun _ => ?_) (fun _ => ?_))
        | (show andThen _ _ _ _; first | refine goN ?_)
        | (show inBlock _ _ _ _; first | refine goB ?_)
        | (show awpR _ _ _ _ _ _; first | refine goR ?_ | refine clR 31 tt rfl rfl rfl (hr := l1) (k := ?_) | (refine gdRD rfl rfl (fun _ => ?_) (fun _ => ?_) <;> try (exfalso; omega)) | (refine gdRN rfl rfl (fun _ => ?_) (fun _ => ?_) <;> try (exfalso; omega)) | refine gdR rfl rfl (fun _ => ?_) (fun _ => ?_))
        | (show retPost _ _ _ _ _; first | refine finF true rfl rfl sc ?_ | refine finF false rfl rfl sc ?_ | refine finC false rfl rfl sc sc ?_ | refine finN rfl rfl sc ?_ | refine finL true rfl rfl sc rfl (LeR.cons rfl leL LeR.nil) ?_ | refine finE true rfl rfl sc ?_ | refine finE false rfl rfl sc ?_)
        | (show retPostB _ _ _ _ _ _; first | refine finB rfl rfl ?_ ?_ | refine finBT rfl rfl rfl ?_ ?_))
      all_goals rfl
  · rw [decide_eq_false c2] at l1
    rw [if_pos (.inl c2)]
    refine ret_of_awp tab Tryz.func46 rfl rfl (Nat.le_of_ble_eq_true rfl) (fun w0 F0 => ?_)
    repeat' (first
      | (show awpL _ _ _ _ _; first | refine goL ?_ | refine cl 31 tt rfl rfl rfl (hr := l1) (k := ?_) | (refine gdLD rfl rfl (fun _ => ?_) (fun _ => ?_) <;> try (exfalso; omega)) | (refine gdLN rfl rfl (fun _ => ?_) (fun _ => ?_) <;> try (exfalso; omega)) | refine gdL rfl rfl (fun _ => ?_) (fun _ => ?_))
      | (show awp _ _ _ _; first | refine goA ?_ | (refine awp_condD rfl (fun _ => ?_) (fun _ => ?_) <;> try (exfalso; omega)) | (refine awp_condN rfl (fun _ => ?_) (fun _ => ?_) <;> try (exfalso; omega)) | refine awp_cond rfl (fun _ => ?_) (fun _ => ?_))
      | (show andThen _ _ _ _; first | refine goN ?_)
      | (show inBlock _ _ _ _; first | refine goB ?_)
      | (show awpR _ _ _ _ _ _; first | refine goR ?_ | refine clR 31 tt rfl rfl rfl (hr := l1) (k := ?_) | (refine gdRD rfl rfl (fun _ => ?_) (fun _ => ?_) <;> try (exfalso; omega)) | (refine gdRN rfl rfl (fun _ => ?_) (fun _ => ?_) <;> try (exfalso; omega)) | refine gdR rfl rfl (fun _ => ?_) (fun _ => ?_))
      | (show retPost _ _ _ _ _; first | refine finF true rfl rfl sc ?_ | refine finF false rfl rfl sc ?_ | refine finC false rfl rfl sc sc ?_ | refine finN rfl rfl sc ?_ | refine finL true rfl rfl sc rfl (LeR.cons rfl leL LeR.nil) ?_ | refine finE true rfl rfl sc ?_ | refine finE false rfl rfl sc ?_)
      | (show retPostB _ _ _ _ _ _; first | refine finB rfl rfl ?_ ?_ | refine finBT rfl rfl rfl ?_ ?_))
    all_goals rfl
theorem ref40_check (vs : List R3) (lo hi : R3) (w h : Int) (hn : vs.length < 9223372036854775807) (hl : RatOk lo 100) (hh : RatOk hi 100) : Ret Tryz.prog 52 [rsD vs, rD lo, rD hi, .int .i64 w, .int .i64 h] (· = .int .i64 (chk vs.length (rv lo) (rv hi) w h)) := by
  have l1 := ref03_Compare lo hi (hl.up (by decide)) (hh.up (by decide))
  have hk := cmpQ_neg (rv lo) (rv hi)
  obtain ⟨k, e⟩ : ∃ k, cmpQ (rv lo) (rv hi) = k := ⟨_, rfl⟩
  rw [e] at l1 hk
  clear e
  unfold chk
  simp only [← hk]
  by_cases c1 : vs.length < 1 ∨ 64 < vs.length
  · rw [if_pos c1]
    refine ret_of_awp tab Tryz.func52 rfl rfl (Nat.le_of_ble_eq_true rfl) (fun w0 F0 => ?_)
    repeat' (first
      | (show awpL _ _ _ _ _; first | refine goL ?_ | (refine gdLD rfl rfl (fun _ => ?_) (fun _ => ?_) <;> try (exfalso; omega)) | (refine gdLN rfl rfl (fun _ => ?_) (fun _ => ?_) <;> try (exfalso; omega)) | refine gdL rfl rfl (fun _ => ?_) (fun _ => ?_))
      | (show awp _ _ _ _; first | refine goA ?_ | (refine awp_condD rfl (fun _ => ?_) (fun _ => ?_) <;> try (exfalso; omega)) | (refine awp_condN rfl (fun _ => ?_) (fun _ => ?_) <;> try (exfalso; omega)) | refine awp_cond rfl (fun _ => ?_) (fun _ => ?_))
      | (show andThen _ _ _ _; first | refine goN ?_)
      | (show inBlock _ _ _ _; first | refine goB ?_)
      | (show awpR _ _ _ _ _ _; first | refine goR ?_ | (refine gdRD rfl rfl (fun _ => ?_) (fun _ => ?_) <;> try (exfalso; omega)) | (refine gdRN rfl rfl (fun _ => ?_) (fun _ => ?_) <;> try (exfalso; omega)) | refine gdR rfl rfl (fun _ => ?_) (fun _ => ?_))
      | (show retPost _ _ _ _ _; first | refine finF true rfl rfl sc ?_ | refine finF false rfl rfl sc ?_ | refine finC false rfl rfl sc sc ?_ | refine finN rfl rfl sc ?_ | refine finL true rfl rfl sc rfl (LeR.cons rfl leL LeR.nil) ?_ | refine finE true rfl rfl sc ?_ | refine finE false rfl rfl sc ?_)
      | (show retPostB _ _ _ _ _ _; first | refine finB rfl rfl ?_ ?_ | refine finBT rfl rfl rfl ?_ ?_))
    all_goals rfl
  rw [if_neg c1]
  by_cases c3 : ¬ k < 0 ∨ w < 1 ∨ 100 < w ∨ h < 1 ∨ 50 < h
  · rw [if_pos c3]
    clear hk
    refine ret_of_awp tab Tryz.func52 rfl rfl (Nat.le_of_ble_eq_true rfl) (fun w0 F0 => ?_)
    repeat' (first
      | (show awpL _ _ _ _ _; first | refine goL ?_ | refine cl 20 tt rfl rfl rfl (hr := l1) (k := ?_) | (refine gdLD rfl rfl (fun _ => ?_) (fun _ => ?_) <;> try (exfalso; omega)) | (refine gdLN rfl rfl (fun _ => ?_) (fun _ => ?_) <;> try (exfalso; omega)) | refine gdL rfl rfl (fun _ => ?_) (fun _ => ?_))
      | (show awp _ _ _ _; first | refine goA ?_ | (refine awp_condD rfl (fun _ => ?_) (fun _ => ?_) <;> try (exfalso; omega)) | (refine awp_condN rfl (fun _ => ?_) (fun _ => ?_) <;> try (exfalso; omega)) | refine awp_cond rfl (fun _ => ?_) (fun _ => ?_))
      | (show andThen _ _ _ _; first | refine goN ?_)
      | (show inBlock _ _ _ _; first | refine goB ?_)
      | (show awpR _ _ _ _ _ _; first | refine goR ?_ | refine clR 20 tt rfl rfl rfl (hr := l1) (k := ?_) | (refine gdRD rfl rfl (fun _ => ?_) (fun _ => ?_) <;> try (exfalso; omega)) | (refine gdRN rfl rfl (fun _ => ?_) (fun _ => ?_) <;> try (exfalso; omega)) | refine gdR rfl rfl (fun _ => ?_) (fun _ => ?_))
      | (show retPost _ _ _ _ _; first | refine finF true rfl rfl sc ?_ | refine finF false rfl rfl sc ?_ | refine finC false rfl rfl sc sc ?_ | refine finN rfl rfl sc ?_ | refine finL true rfl rfl sc rfl (LeR.cons rfl leL LeR.nil) ?_ | refine finE true rfl rfl sc ?_ | refine finE false rfl rfl sc ?_)
      | (show retPostB _ _ _ _ _ _; first | refine finB rfl rfl ?_ ?_ | refine finBT rfl rfl rfl ?_ ?_))
    all_goals rfl
  · rw [if_neg c3]
    clear hk
    refine ret_of_awp tab Tryz.func52 rfl rfl (Nat.le_of_ble_eq_true rfl) (fun w0 F0 => ?_)
    repeat' (first
      | (show awpL _ _ _ _ _; first | refine goL ?_ | refine cl 20 tt rfl rfl rfl (hr := l1) (k := ?_) | (refine gdLD rfl rfl (fun _ => ?_) (fun _ => ?_) <;> try (exfalso; omega)) | (refine gdLN rfl rfl (fun _ => ?_) (fun _ => ?_) <;> try (exfalso; omega)) | refine gdL rfl rfl (fun _ => ?_) (fun _ => ?_))
      | (show awp _ _ _ _; first | refine goA ?_ | (refine awp_condD rfl (fun _ => ?_) (fun _ => ?_) <;> try (exfalso; omega)) | (refine awp_condN rfl (fun _ => ?_) (fun _ => ?_) <;> try (exfalso; omega)) | refine awp_cond rfl (fun _ => ?_) (fun _ => ?_))
      | (show andThen _ _ _ _; first | refine goN ?_)
      | (show inBlock _ _ _ _; first | refine goB ?_)
      | (show awpR _ _ _ _ _ _; first | refine goR ?_ | refine clR 20 tt rfl rfl rfl (hr := l1) (k := ?_) | (refine gdRD rfl rfl (fun _ => ?_) (fun _ => ?_) <;> try (exfalso; omega)) | (refine gdRN rfl rfl (fun _ => ?_) (fun _ => ?_) <;> try (exfalso; omega)) | refine gdR rfl rfl (fun _ => ?_) (fun _ => ?_))
      | (show retPost _ _ _ _ _; first | refine finF true rfl rfl sc ?_ | refine finF false rfl rfl sc ?_ | refine finC false rfl rfl sc sc ?_ | refine finN rfl rfl sc ?_ | refine finL true rfl rfl sc rfl (LeR.cons rfl leL LeR.nil) ?_ | refine finE true rfl rfl sc ?_ | refine finE false rfl rfl sc ?_)
      | (show retPostB _ _ _ _ _ _; first | refine finB rfl rfl ?_ ?_ | refine finBT rfl rfl rfl ?_ ?_))
    all_goals rfl
theorem plot_counts (vs : List R3) (lo hi : R3) (c : Nat) (hn : vs.length < 1000000) (hvs : ∀ r ∈ vs, RatOk r 100) (hl : RatOk lo 100) (hh : RatOk hi 100) (hc : c ≤ 1000) : Ret Tryz.prog 48 [rsD vs, rD lo, rD hi, .int .i64 c] (· = i64s (countsZ (rv lo) (rv hi) c (vs.map rv))) := by
  refine ret_of_awp tab Tryz.func48 rfl rfl (Nat.le_of_ble_eq_true rfl) (fun w0 F0 => ?_)
  repeat' (first
    | (show awpL _ _ _ _ _; first | refine goL ?_ | (refine gdLD rfl rfl (fun _ => ?_) (fun _ => ?_) <;> try (exfalso; omega)) | (refine gdLN rfl rfl (fun _ => ?_) (fun _ => ?_) <;> try (exfalso; omega)) | refine gdL rfl rfl (fun _ => ?_) (fun _ => ?_))
    | (show awp _ _ _ _; first | refine goA ?_ | (refine awp_condD rfl (fun _ => ?_) (fun _ => ?_) <;> try (exfalso; omega)) | (refine awp_condN rfl (fun _ => ?_) (fun _ => ?_) <;> try (exfalso; omega)) | refine awp_cond rfl (fun _ => ?_) (fun _ => ?_))
    | (show andThen _ _ _ _; first | refine goN ?_)
    | (show inBlock _ _ _ _; first | refine goB ?_)
    | (show awpR _ _ _ _ _ _; first | refine goR ?_ | (refine gdRD rfl rfl (fun _ => ?_) (fun _ => ?_) <;> try (exfalso; omega)) | (refine gdRN rfl rfl (fun _ => ?_) (fun _ => ?_) <;> try (exfalso; omega)) | refine gdR rfl rfl (fun _ => ?_) (fun _ => ?_))
    | (show retPost _ _ _ _ _; first | refine finF true rfl rfl sc ?_ | refine finF false rfl rfl sc ?_ | refine finC false rfl rfl sc sc ?_ | refine finN rfl rfl sc ?_ | refine finL true rfl rfl sc rfl (LeR.cons rfl leL LeR.nil) ?_ | refine finE true rfl rfl sc ?_ | refine finE false rfl rfl sc ?_)
    | (show retPostB _ _ _ _ _ _; first | refine finB rfl rfl ?_ ?_ | refine finBT rfl rfl rfl ?_ ?_))
  refine awp_loop1 (fun (i : Nat) => ([(3, .d (.int .i64 c)), (5, .ptr 5 0), (6, .ptr 6 0), (9, .own 15 0 c 3 1), (16, .d (rsD vs)), (17, .d (.int .i64 vs.length)), (18, .d (.int .i64 i))], [(5, .box 27 ((rC lo).map V.d)), (6, .box 27 ((rC hi).map V.d)), (15, .data 3 1 (eI .i64) 0 (countsZ (rv lo) (rv hi) c ((vs.map rv).take i)))])) (fun i => i ≤ vs.length) (fun i => vs.length - i) 0 (by omega) ⟨rfl, rfl, rfl, rfl, rfl, rfl, rfl, rfl⟩ ⟨rfl, rfl, rfl, trivial⟩ (fun i hi' => ?_)
  have hlen := counts_len (rv lo) (rv hi) c ((vs.map rv).take i)
  rw [Int.toNat_natCast] at hlen
  by_cases h3 : i < vs.length
  · have hp := plot_Place (vs.getD i r0) lo hi c (getD_mem_R hvs h3) hl hh (by omega) (by omega)
    have ht := counts_take (rv lo) (rv hi) c (vs.map rv) (i := i) (by rw [List.length_map]; exact h3)
    rw [getD_map_rv h3] at ht
    have hb := counts_bd (rv lo) (rv hi) c ((vs.map rv).take i)
    rw [List.length_take, List.length_map] at hb
    unfold addC at ht
    generalize countsZ (rv lo) (rv hi) c ((vs.map rv).take i) = acc at *
    cases hk : okP (rv (vs.getD i r0)) (rv lo) (rv hi) c
    · rw [hk] at ht hp
      rw [if_neg (by decide)] at ht hp
      clear hb hk
      repeat' (first
        | (show awpL _ _ _ _ _; first | refine goL ?_ | refine cl 14 tt rfl rfl rfl (hr := hp) (k := ?_) | (refine gdLD rfl rfl (fun _ => ?_) (fun _ => ?_) <;> try (exfalso; omega)) | (refine gdLN rfl rfl (fun _ => ?_) (fun _ => ?_) <;> try (exfalso; omega)) | refine gdL rfl rfl (fun _ => ?_) (fun _ => ?_))
        | (show awp _ _ _ _; first | refine goA ?_ | (refine awp_condD rfl (fun _ => ?_) (fun _ => ?_) <;> try (exfalso; omega)) | (refine awp_condN rfl (fun _ => ?_) (fun _ => ?_) <;> try (exfalso; omega)) | refine awp_cond rfl (fun _ => ?_) (fun _ => ?_))
        | (show andThen _ _ _ _; first | refine goN ?_)
        | (show inBlock _ _ _ _; first | refine goB ?_)
        | (show awpR _ _ _ _ _ _; first | refine goR ?_ | refine clR 14 tt rfl rfl rfl (hr := hp) (k := ?_) | (refine gdRD rfl rfl (fun _ => ?_) (fun _ => ?_) <;> try (exfalso; omega)) | (refine gdRN rfl rfl (fun _ => ?_) (fun _ => ?_) <;> try (exfalso; omega)) | refine gdR rfl rfl (fun _ => ?_) (fun _ => ?_))
        | (show retPost _ _ _ _ _; first | refine finF true rfl rfl sc ?_ | refine finF false rfl rfl sc ?_ | refine finC false rfl rfl sc sc ?_ | refine finN rfl rfl sc ?_ | refine finL true rfl rfl sc rfl (LeR.cons rfl leL LeR.nil) ?_ | refine finE true rfl rfl sc ?_ | refine finE false rfl rfl sc ?_)
        | (show retPostB _ _ _ _ _ _; first | refine finB rfl rfl ?_ ?_ | refine finBT rfl rfl rfl ?_ ?_))
      exact ⟨i + 1, by omega, by omega, ⟨rfl, rfl, rfl, rfl, rfl, rfl, iv (by omega), rfl⟩, rfl, rfl, by rw [ht]; rfl, trivial⟩
    · have hci := cell_in hk
      rw [hk] at ht hp
      rw [if_pos rfl] at ht hp
      have hlt : (cellZ (rv (vs.getD i r0)) (rv lo) (rv hi) c).toNat < acc.length := by omega
      have hg : 0 ≤ acc.getD (cellZ (rv (vs.getD i r0)) (rv lo) (rv hi) c).toNat 0 ∧ acc.getD (cellZ (rv (vs.getD i r0)) (rv lo) (rv hi) c).toNat 0 ≤ (min i vs.length : Nat) := by
        have := hb _ (List.getElem_mem hlt)
        rw [List.getD_eq_getElem?_getD, List.getElem?_eq_getElem hlt]
        exact this
      clear hb hk
      generalize cellZ (rv (vs.getD i r0)) (rv lo) (rv hi) c = z at *
      repeat' (first
        | (show awpL _ _ _ _ _; first | refine goL ?_ | refine cl 14 tt rfl rfl rfl (hr := hp) (k := ?_) | (refine gdLD rfl rfl (fun _ => ?_) (fun _ => ?_) <;> try (exfalso; omega)) | (refine gdLN rfl rfl (fun _ => ?_) (fun _ => ?_) <;> try (exfalso; omega)) | refine gdL rfl rfl (fun _ => ?_) (fun _ => ?_))
        | (show awp _ _ _ _; first | refine goA ?_ | (refine awp_condD rfl (fun _ => ?_) (fun _ => ?_) <;> try (exfalso; omega)) | (refine awp_condN rfl (fun _ => ?_) (fun _ => ?_) <;> try (exfalso; omega)) | refine awp_cond rfl (fun _ => ?_) (fun _ => ?_))
        | (show andThen _ _ _ _; first | refine goN ?_)
        | (show inBlock _ _ _ _; first | refine goB ?_)
        | (show awpR _ _ _ _ _ _; first | refine goR ?_ | refine clR 14 tt rfl rfl rfl (hr := hp) (k := ?_) | (refine gdRD rfl rfl (fun _ => ?_) (fun _ => ?_) <;> try (exfalso; omega)) | (refine gdRN rfl rfl (fun _ => ?_) (fun _ => ?_) <;> try (exfalso; omega)) | refine gdR rfl rfl (fun _ => ?_) (fun _ => ?_))
        | (show retPost _ _ _ _ _; first | refine finF true rfl rfl sc ?_ | refine finF false rfl rfl sc ?_ | refine finC false rfl rfl sc sc ?_ | refine finN rfl rfl sc ?_ | refine finL true rfl rfl sc rfl (LeR.cons rfl leL LeR.nil) ?_ | refine finE true rfl rfl sc ?_ | refine finE false rfl rfl sc ?_)
        | (show retPostB _ _ _ _ _ _; first | refine finB rfl rfl ?_ ?_ | refine finBT rfl rfl rfl ?_ ?_))
      exact ⟨i + 1, by omega, by omega, ⟨rfl, rfl, rfl, rfl, rfl, rfl, iv (by omega), rfl⟩, rfl, rfl, by rw [ht]; rfl, trivial⟩
  · have e : (vs.map rv).take i = vs.map rv := List.take_of_length_le (by rw [List.length_map]; omega)
    rw [e] at hlen ⊢
    repeat' (first
      | (show awpL _ _ _ _ _; first | refine goL ?_ | (refine gdLD rfl rfl (fun _ => ?_) (fun _ => ?_) <;> try (exfalso; omega)) | (refine gdLN rfl rfl (fun _ => ?_) (fun _ => ?_) <;> try (exfalso; omega)) | refine gdL rfl rfl (fun _ => ?_) (fun _ => ?_))
      | (show awp _ _ _ _; first | refine goA ?_ | (refine awp_condD rfl (fun _ => ?_) (fun _ => ?_) <;> try (exfalso; omega)) | (refine awp_condN rfl (fun _ => ?_) (fun _ => ?_) <;> try (exfalso; omega)) | refine awp_cond rfl (fun _ => ?_) (fun _ => ?_))
      | (show andThen _ _ _ _; first | refine goN ?_)
      | (show inBlock _ _ _ _; first | refine goB ?_)
      | (show awpR _ _ _ _ _ _; first | refine goR ?_ | (refine gdRD rfl rfl (fun _ => ?_) (fun _ => ?_) <;> try (exfalso; omega)) | (refine gdRN rfl rfl (fun _ => ?_) (fun _ => ?_) <;> try (exfalso; omega)) | refine gdR rfl rfl (fun _ => ?_) (fun _ => ?_))
      | (show retPost _ _ _ _ _; first | refine finF true rfl rfl sc ?_ | refine finF false rfl rfl sc ?_ | refine finC false rfl rfl sc sc ?_ | refine finN rfl rfl sc ?_ | refine finL true rfl rfl sc rfl (LeR.cons rfl leL LeR.nil) ?_ | refine finE true rfl rfl sc ?_ | refine finE false rfl rfl sc ?_)
      | (show retPostB _ _ _ _ _ _; first | refine finB rfl rfl ?_ ?_ | refine finBT rfl rfl rfl ?_ ?_))
    all_goals rfl
theorem ref40_counts (vs : List R3) (lo hi : R3) (c : Nat) (hn : vs.length < 1000000) (hvs : ∀ r ∈ vs, RatOk r 100) (hl : RatOk lo 100) (hh : RatOk hi 100) (hc : c ≤ 1000) : Ret Tryz.prog 100 [rsD vs, rD lo, rD hi, .int .i64 c] (· = i64s (countsZ (rv lo) (rv hi) c (vs.map rv))) := by
  refine ret_of_awp tab Tryz.func100 rfl rfl (Nat.le_of_ble_eq_true rfl) (fun w0 F0 => ?_)
  repeat' (first
    | (show awpL _ _ _ _ _; first | refine goL ?_ | (refine gdLD rfl rfl (fun _ => ?_) (fun _ => ?_) <;> try (exfalso; omega)) | (refine gdLN rfl rfl (fun _ => ?_) (fun _ => ?_) <;> try (exfalso; omega)) | refine gdL rfl rfl (fun _ => ?_) (fun _ => ?_))
    | (show awp _ _ _ _; first | refine goA ?_ | (refine awp_condD rfl (fun _ => ?_) (fun _ => ?_) <;> try (exfalso; omega)) | (refine awp_condN rfl (fun _ => ?_) (fun _ => ?_) <;> try (exfalso; omega)) | refine awp_cond rfl (fun _ => ?_) (fun _ => ?_))
    | (show andThen _ _ _ _; first | refine goN ?_)
    | (show inBlock _ _ _ _; first | refine goB ?_)
    | (show awpR _ _ _ _ _ _; first | refine goR ?_ | (refine gdRD rfl rfl (fun _ => ?_) (fun _ => ?_) <;> try (exfalso; omega)) | (refine gdRN rfl rfl (fun _ => ?_) (fun _ => ?_) <;> try (exfalso; omega)) | refine gdR rfl rfl (fun _ => ?_) (fun _ => ?_))
    | (show retPost _ _ _ _ _; first | refine finF true rfl rfl sc ?_ | refine finF false rfl rfl sc ?_ | refine finC false rfl rfl sc sc ?_ | refine finN rfl rfl sc ?_ | refine finL true rfl rfl sc rfl (LeR.cons rfl leL LeR.nil) ?_ | refine finE true rfl rfl sc ?_ | refine finE false rfl rfl sc ?_)
    | (show retPostB _ _ _ _ _ _; first | refine finB rfl rfl ?_ ?_ | refine finBT rfl rfl rfl ?_ ?_))
  refine awp_loop1 (fun (i : Nat) => ([(3, .d (.int .i64 c)), (5, .ptr 5 0), (6, .ptr 6 0), (9, .own 15 0 c 3 1), (16, .d (rsD vs)), (17, .d (.int .i64 vs.length)), (18, .d (.int .i64 i))], [(5, .box 27 ((rC lo).map V.d)), (6, .box 27 ((rC hi).map V.d)), (15, .data 3 1 (eI .i64) 0 (countsZ (rv lo) (rv hi) c ((vs.map rv).take i)))])) (fun i => i ≤ vs.length) (fun i => vs.length - i) 0 (by omega) ⟨rfl, rfl, rfl, rfl, rfl, rfl, rfl, rfl⟩ ⟨rfl, rfl, rfl, trivial⟩ (fun i hi' => ?_)
  have hlen := counts_len (rv lo) (rv hi) c ((vs.map rv).take i)
  rw [Int.toNat_natCast] at hlen
  by_cases h3 : i < vs.length
  · have hp := ref40_Place (vs.getD i r0) lo hi c (getD_mem_R hvs h3) hl hh (by omega) (by omega)
    have ht := counts_take (rv lo) (rv hi) c (vs.map rv) (i := i) (by rw [List.length_map]; exact h3)
    rw [getD_map_rv h3] at ht
    have hb := counts_bd (rv lo) (rv hi) c ((vs.map rv).take i)
    rw [List.length_take, List.length_map] at hb
    unfold addC at ht
    generalize countsZ (rv lo) (rv hi) c ((vs.map rv).take i) = acc at *
    cases hk : okP (rv (vs.getD i r0)) (rv lo) (rv hi) c
    · rw [hk] at ht hp
      rw [if_neg (by decide)] at ht hp
      clear hb hk
      repeat' (first
        | (show awpL _ _ _ _ _; first | refine goL ?_ | refine cl 15 tt rfl rfl rfl (hr := hp) (k := ?_) | (refine gdLD rfl rfl (fun _ => ?_) (fun _ => ?_) <;> try (exfalso; omega)) | (refine gdLN rfl rfl (fun _ => ?_) (fun _ => ?_) <;> try (exfalso; omega)) | refine gdL rfl rfl (fun _ => ?_) (fun _ => ?_))
        | (show awp _ _ _ _; first | refine goA ?_ | (refine awp_condD rfl (fun _ => ?_) (fun _ => ?_) <;> try (exfalso; omega)) | (refine awp_condN rfl (fun _ => ?_) (fun _ => ?_) <;> try (exfalso; omega)) | refine awp_cond rfl (fun _ => ?_) (fun _ => ?_))
        | (show andThen _ _ _ _; first | refine goN ?_)
        | (show inBlock _ _ _ _; first | refine goB ?_)
        | (show awpR _ _ _ _ _ _; first | refine goR ?_ | refine clR 15 tt rfl rfl rfl (hr := hp) (k := ?_) | (refine gdRD rfl rfl (fun _ => ?_) (fun _ => ?_) <;> try (exfalso; omega)) | (refine gdRN rfl rfl (fun _ => ?_) (fun _ => ?_) <;> try (exfalso; omega)) | refine gdR rfl rfl (fun _ => ?_) (fun _ => ?_))
        | (show retPost _ _ _ _ _; first | refine finF true rfl rfl sc ?_ | refine finF false rfl rfl sc ?_ | refine finC false rfl rfl sc sc ?_ | refine finN rfl rfl sc ?_ | refine finL true rfl rfl sc rfl (LeR.cons rfl leL LeR.nil) ?_ | refine finE true rfl rfl sc ?_ | refine finE false rfl rfl sc ?_)
        | (show retPostB _ _ _ _ _ _; first | refine finB rfl rfl ?_ ?_ | refine finBT rfl rfl rfl ?_ ?_))
      exact ⟨i + 1, by omega, by omega, ⟨rfl, rfl, rfl, rfl, rfl, rfl, iv (by omega), rfl⟩, rfl, rfl, by rw [ht]; rfl, trivial⟩
    · have hci := cell_in hk
      rw [hk] at ht hp
      rw [if_pos rfl] at ht hp
      have hlt : (cellZ (rv (vs.getD i r0)) (rv lo) (rv hi) c).toNat < acc.length := by omega
      have hg : 0 ≤ acc.getD (cellZ (rv (vs.getD i r0)) (rv lo) (rv hi) c).toNat 0 ∧ acc.getD (cellZ (rv (vs.getD i r0)) (rv lo) (rv hi) c).toNat 0 ≤ (min i vs.length : Nat) := by
        have := hb _ (List.getElem_mem hlt)
        rw [List.getD_eq_getElem?_getD, List.getElem?_eq_getElem hlt]
        exact this
      clear hb hk
      generalize cellZ (rv (vs.getD i r0)) (rv lo) (rv hi) c = z at *
      repeat' (first
        | (show awpL _ _ _ _ _; first | refine goL ?_ | refine cl 15 tt rfl rfl rfl (hr := hp) (k := ?_) | (refine gdLD rfl rfl (fun _ => ?_) (fun _ => ?_) <;> try (exfalso; omega)) | (refine gdLN rfl rfl (fun _ => ?_) (fun _ => ?_) <;> try (exfalso; omega)) | refine gdL rfl rfl (fun _ => ?_) (fun _ => ?_))
        | (show awp _ _ _ _; first | refine goA ?_ | (refine awp_condD rfl (fun _ => ?_) (fun _ => ?_) <;> try (exfalso; omega)) | (refine awp_condN rfl (fun _ => ?_) (fun _ => ?_) <;> try (exfalso; omega)) | refine awp_cond rfl (fun _ => ?_) (fun _ => ?_))
        | (show andThen _ _ _ _; first | refine goN ?_)
        | (show inBlock _ _ _ _; first | refine goB ?_)
        | (show awpR _ _ _ _ _ _; first | refine goR ?_ | refine clR 15 tt rfl rfl rfl (hr := hp) (k := ?_) | (refine gdRD rfl rfl (fun _ => ?_) (fun _ => ?_) <;> try (exfalso; omega)) | (refine gdRN rfl rfl (fun _ => ?_) (fun _ => ?_) <;> try (exfalso; omega)) | refine gdR rfl rfl (fun _ => ?_) (fun _ => ?_))
        | (show retPost _ _ _ _ _; first | refine finF true rfl rfl sc ?_ | refine finF false rfl rfl sc ?_ | refine finC false rfl rfl sc sc ?_ | refine finN rfl rfl sc ?_ | refine finL true rfl rfl sc rfl (LeR.cons rfl leL LeR.nil) ?_ | refine finE true rfl rfl sc ?_ | refine finE false rfl rfl sc ?_)
        | (show retPostB _ _ _ _ _ _; first | refine finB rfl rfl ?_ ?_ | refine finBT rfl rfl rfl ?_ ?_))
      exact ⟨i + 1, by omega, by omega, ⟨rfl, rfl, rfl, rfl, rfl, rfl, iv (by omega), rfl⟩, rfl, rfl, by rw [ht]; rfl, trivial⟩
  · have e : (vs.map rv).take i = vs.map rv := List.take_of_length_le (by rw [List.length_map]; omega)
    rw [e] at hlen ⊢
    repeat' (first
      | (show awpL _ _ _ _ _; first | refine goL ?_ | (refine gdLD rfl rfl (fun _ => ?_) (fun _ => ?_) <;> try (exfalso; omega)) | (refine gdLN rfl rfl (fun _ => ?_) (fun _ => ?_) <;> try (exfalso; omega)) | refine gdL rfl rfl (fun _ => ?_) (fun _ => ?_))
      | (show awp _ _ _ _; first | refine goA ?_ | (refine awp_condD rfl (fun _ => ?_) (fun _ => ?_) <;> try (exfalso; omega)) | (refine awp_condN rfl (fun _ => ?_) (fun _ => ?_) <;> try (exfalso; omega)) | refine awp_cond rfl (fun _ => ?_) (fun _ => ?_))
      | (show andThen _ _ _ _; first | refine goN ?_)
      | (show inBlock _ _ _ _; first | refine goB ?_)
      | (show awpR _ _ _ _ _ _; first | refine goR ?_ | (refine gdRD rfl rfl (fun _ => ?_) (fun _ => ?_) <;> try (exfalso; omega)) | (refine gdRN rfl rfl (fun _ => ?_) (fun _ => ?_) <;> try (exfalso; omega)) | refine gdR rfl rfl (fun _ => ?_) (fun _ => ?_))
      | (show retPost _ _ _ _ _; first | refine finF true rfl rfl sc ?_ | refine finF false rfl rfl sc ?_ | refine finC false rfl rfl sc sc ?_ | refine finN rfl rfl sc ?_ | refine finL true rfl rfl sc rfl (LeR.cons rfl leL LeR.nil) ?_ | refine finE true rfl rfl sc ?_ | refine finE false rfl rfl sc ?_)
      | (show retPostB _ _ _ _ _ _; first | refine finB rfl rfl ?_ ?_ | refine finBT rfl rfl rfl ?_ ?_))
    all_goals rfl
theorem lineB_len (l : List Int) : (lineB l).length = l.length := List.length_map ..
theorem lineB_getD {l : List Int} {i : Nat} (h : i < l.length) : (lineB l).getD i 0 = UInt8.ofNat (markZ (l.getD i 0)).toNat := by
  unfold lineB
  simp [List.getD_eq_getElem?_getD, h]
theorem getD_bd {l : List Int} {i : Nat} {k : Int} (h : ∀ x ∈ l, 0 ≤ x ∧ x ≤ k) (hi : i < l.length) : 0 ≤ l.getD i 0 ∧ l.getD i 0 ≤ k := by
  have e : l.getD i 0 = l[i] := by simp [List.getD_eq_getElem?_getD, hi]
  rw [e]; exact h _ (List.getElem_mem hi)
theorem plot_Strip (vs : List R3) (lo hi : R3) (c : Int) (hn : vs.length < 9223372036854775807) (hvs : vs.length ≤ 64 → ∀ r ∈ vs, RatOk r 100) (hl : RatOk lo 100) (hh : RatOk hi 100) (h1 : -9223372036854775808 ≤ c) (h2 : c < 9223372036854775808) : Ret Tryz.prog 19 [rsD vs, rD lo, rD hi, .int .i64 c] (· = if chk vs.length (rv lo) (rv hi) c 1 = 0 then .tup [.str (lineB (countsZ (rv lo) (rv hi) c (vs.map rv)) ++ [10]), .int .i64 0] else .tup [.str [], .int .i64 (chk vs.length (rv lo) (rv hi) c 1)]) := by
  have hk := plot_check vs lo hi c 1 hn hl hh
  by_cases he : chk vs.length (rv lo) (rv hi) c 1 = 0
  · rw [if_pos he]
    rw [he] at hk
    have hlen : 1 ≤ vs.length ∧ vs.length ≤ 64 ∧ 1 ≤ c ∧ c ≤ 100 := by
      unfold chk at he
      split at he
      · exact absurd he (by decide)
      · split at he
        · exact absurd he (by decide)
        · rename_i n1 n2
          have n3 : ¬ (c < 1 ∨ 100 < c) := fun h => n2 (.inr (h.elim .inl fun h => .inr (.inl h)))
          omega
    obtain ⟨w, rfl⟩ : ∃ w : Nat, c = w := ⟨c.toNat, by omega⟩
    have hb0 := plot_blanks w (by omega)
    have hb : RetB Tryz.prog 47 [.d (.int .i64 w)] (lookB []) (.own 500 0 w 5 1) (lookB [(500, .data 5 1 eB 0 (List.replicate w (32 : UInt8)))]) := hb0.ren [(6, 500)]
    have hcn := plot_counts vs lo hi w (by omega) (hvs (by omega)) hl hh (by omega)
    have hbd := counts_bd (rv lo) (rv hi) w (vs.map rv)
    have hcl := counts_len (rv lo) (rv hi) w (vs.map rv)
    rw [List.length_map] at hbd
    rw [Int.toNat_natCast] at hcl
    generalize countsZ (rv lo) (rv hi) w (vs.map rv) = cz at *
    clear he hb0
    refine ret_of_awp tab Tryz.func19 rfl rfl (Nat.le_of_ble_eq_true rfl) (fun w0 F0 => ?_)
    repeat' (first
      | (show awpL _ _ _ _ _; first | refine goL ?_ | refine clB 47 [500] (hb) tt rfl rfl rfl rfl rfl rfl leVT allB ?_ | refine cl 46 tt rfl rfl rfl (hr := hk) (k := ?_) | refine cl 48 tt rfl rfl rfl (hr := hcn) (k := ?_) | (refine gdLD rfl rfl (fun _ => ?_) (fun _ => ?_) <;> try (exfalso; omega)) | (refine gdLN rfl rfl (fun _ => ?_) (fun _ => ?_) <;> try (exfalso; omega)) | refine gdL rfl rfl (fun _ => ?_) (fun _ => ?_))
      | (show awp _ _ _ _; first | refine goA ?_ | (refine awp_condD rfl (fun _ => ?_) (fun _ => ?_) <;> try (exfalso; omega)) | (refine awp_condN rfl (fun _ => ?_) (fun _ => ?_) <;> try (exfalso; omega)) | refine awp_cond rfl (fun _ => ?_) (fun _ => ?_))
      | (show andThen _ _ _ _; first | refine goN ?_)
      | (show inBlock _ _ _ _; first | refine goB ?_)
      | (show awpR _ _ _ _ _ _; first | refine goR ?_ | refine clR 46 tt rfl rfl rfl (hr := hk) (k := ?_) | refine clR 48 tt rfl rfl rfl (hr := hcn) (k := ?_) | (refine gdRD rfl rfl (fun _ => ?_) (fun _ => ?_) <;> try (exfalso; omega)) | (refine gdRN rfl rfl (fun _ => ?_) (fun _ => ?_) <;> try (exfalso; omega)) | refine gdR rfl rfl (fun _ => ?_) (fun _ => ?_))
      | (show retPost _ _ _ _ _; first | refine finF true rfl rfl sc ?_ | refine finF false rfl rfl sc ?_ | refine finC false rfl rfl sc sc ?_ | refine finN rfl rfl sc ?_ | refine finL true rfl rfl sc rfl (LeR.cons rfl leL LeR.nil) ?_ | refine finE true rfl rfl sc ?_ | refine finE false rfl rfl sc ?_)
      | (show retPostB _ _ _ _ _ _; first | refine finB rfl rfl ?_ ?_ | refine finBT rfl rfl rfl ?_ ?_))
    refine awp_loop1 (fun (i : Nat) => ([(11, .own 500 0 w 5 1), (28, .d (i64s cz)), (29, .d (.int .i64 w)), (30, .d (.int .i64 i))], [(500, .data 5 1 eB 0 (mixL (lineB cz) (List.replicate w (32 : UInt8)) i))])) (fun i => i ≤ w) (fun i => w - i) 0 (by omega) ⟨rfl, rfl, by rw [← hcl]; rfl, rfl, rfl⟩ ⟨by rw [mixL_zero]; rfl, trivial⟩ (fun i hi' => ?_)
    have hml := mixL_len (a := lineB cz) (r := List.replicate w (32 : UInt8)) (i := i) (by rw [lineB_len]; simp; omega) (by rw [lineB_len]; omega)
    rw [List.length_replicate] at hml
    by_cases h3 : i < w
    · have hs := mixL_set (a := lineB cz) (r := List.replicate w (32 : UInt8)) (i := i) 0 (by rw [lineB_len]; simp; omega) (by rw [lineB_len]; omega)
      rw [lineB_getD (by omega)] at hs
      have hg := getD_bd hbd (show i < cz.length by omega)
      have hm := plot_mark (cz.getD i 0) hg.1 (by omega)
      have hm2 := markZ_bd hg.1
      clear hbd
      repeat' (first
        | (show awpL _ _ _ _ _; first | refine goL ?_ | refine cl 49 tt rfl rfl rfl (hr := hm) (k := ?_) | (refine gdLD rfl rfl (fun _ => ?_) (fun _ => ?_) <;> try (exfalso; omega)) | (refine gdLN rfl rfl (fun _ => ?_) (fun _ => ?_) <;> try (exfalso; omega)) | refine gdL rfl rfl (fun _ => ?_) (fun _ => ?_))
        | (show awp _ _ _ _; first | refine goA ?_ | (refine awp_condD rfl (fun _ => ?_) (fun _ => ?_) <;> try (exfalso; omega)) | (refine awp_condN rfl (fun _ => ?_) (fun _ => ?_) <;> try (exfalso; omega)) | refine awp_cond rfl (fun _ => ?_) (fun _ => ?_))
        | (show andThen _ _ _ _; first | refine goN ?_)
        | (show inBlock _ _ _ _; first | refine goB ?_)
        | (show awpR _ _ _ _ _ _; first | refine goR ?_ | refine clR 49 tt rfl rfl rfl (hr := hm) (k := ?_) | (refine gdRD rfl rfl (fun _ => ?_) (fun _ => ?_) <;> try (exfalso; omega)) | (refine gdRN rfl rfl (fun _ => ?_) (fun _ => ?_) <;> try (exfalso; omega)) | refine gdR rfl rfl (fun _ => ?_) (fun _ => ?_))
        | (show retPost _ _ _ _ _; first | refine finF true rfl rfl sc ?_ | refine finF false rfl rfl sc ?_ | refine finC false rfl rfl sc sc ?_ | refine finN rfl rfl sc ?_ | refine finL true rfl rfl sc rfl (LeR.cons rfl leL LeR.nil) ?_ | refine finE true rfl rfl sc ?_ | refine finE false rfl rfl sc ?_)
        | (show retPostB _ _ _ _ _ _; first | refine finB rfl rfl ?_ ?_ | refine finBT rfl rfl rfl ?_ ?_))
      exact ⟨i + 1, by omega, by omega, ⟨rfl, rfl, rfl, iv (by omega), rfl⟩, by rw [← hs]; rfl, trivial⟩
    · have : i = w := by omega
      subst this
      have hall := mixL_all (a := lineB cz) (r := List.replicate i (32 : UInt8)) (by rw [lineB_len]; simp; omega)
      rw [lineB_len, hcl] at hall
      rw [hall] at hml ⊢
      have hcut : cut 0 i (lineB cz) = lineB cz := by unfold cut; rw [List.drop_zero]; exact List.take_of_length_le (by omega)
      have hcl2 : (cut 0 i (lineB cz)).length = i := by rw [hcut]; exact hml
      repeat' (first
        | (show awpL _ _ _ _ _; first | refine goL ?_ | (refine gdLD rfl rfl (fun _ => ?_) (fun _ => ?_) <;> try (exfalso; omega)) | (refine gdLN rfl rfl (fun _ => ?_) (fun _ => ?_) <;> try (exfalso; omega)) | refine gdL rfl rfl (fun _ => ?_) (fun _ => ?_))
        | (show awp _ _ _ _; first | refine goA ?_ | (refine awp_condD rfl (fun _ => ?_) (fun _ => ?_) <;> try (exfalso; omega)) | (refine awp_condN rfl (fun _ => ?_) (fun _ => ?_) <;> try (exfalso; omega)) | refine awp_cond rfl (fun _ => ?_) (fun _ => ?_))
        | (show andThen _ _ _ _; first | refine goN ?_)
        | (show inBlock _ _ _ _; first | refine goB ?_)
        | (show awpR _ _ _ _ _ _; first | refine goR ?_ | (refine gdRD rfl rfl (fun _ => ?_) (fun _ => ?_) <;> try (exfalso; omega)) | (refine gdRN rfl rfl (fun _ => ?_) (fun _ => ?_) <;> try (exfalso; omega)) | refine gdR rfl rfl (fun _ => ?_) (fun _ => ?_))
        | (show retPost _ _ _ _ _; first | refine finF true rfl rfl sc ?_ | refine finF false rfl rfl sc ?_ | refine finC false rfl rfl sc sc ?_ | refine finN rfl rfl sc ?_ | refine finL true rfl rfl sc rfl (LeR.cons rfl leL LeR.nil) ?_ | refine finE true rfl rfl sc ?_ | refine finE false rfl rfl sc ?_)
        | (show retPostB _ _ _ _ _ _; first | refine finB rfl rfl ?_ ?_ | refine finBT rfl rfl rfl ?_ ?_))
      all_goals rw [hcut]
  · rw [if_neg he]
    generalize chk vs.length (rv lo) (rv hi) c 1 = e at *
    refine ret_of_awp tab Tryz.func19 rfl rfl (Nat.le_of_ble_eq_true rfl) (fun w0 F0 => ?_)
    repeat' (first
      | (show awpL _ _ _ _ _; first | refine goL ?_ | refine cl 46 tt rfl rfl rfl (hr := hk) (k := ?_) | (refine gdLD rfl rfl (fun _ => ?_) (fun _ => ?_) <;> try (exfalso; omega)) | (refine gdLN rfl rfl (fun _ => ?_) (fun _ => ?_) <;> try (exfalso; omega)) | refine gdL rfl rfl (fun _ => ?_) (fun _ => ?_))
      | (show awp _ _ _ _; first | refine goA ?_ | (refine awp_condD rfl (fun _ => ?_) (fun _ => ?_) <;> try (exfalso; omega)) | (refine awp_condN rfl (fun _ => ?_) (fun _ => ?_) <;> try (exfalso; omega)) | refine awp_cond rfl (fun _ => ?_) (fun _ => ?_))
      | (show andThen _ _ _ _; first | refine goN ?_)
      | (show inBlock _ _ _ _; first | refine goB ?_)
      | (show awpR _ _ _ _ _ _; first | refine goR ?_ | refine clR 46 tt rfl rfl rfl (hr := hk) (k := ?_) | (refine gdRD rfl rfl (fun _ => ?_) (fun _ => ?_) <;> try (exfalso; omega)) | (refine gdRN rfl rfl (fun _ => ?_) (fun _ => ?_) <;> try (exfalso; omega)) | refine gdR rfl rfl (fun _ => ?_) (fun _ => ?_))
      | (show retPost _ _ _ _ _; first | refine finF true rfl rfl sc ?_ | refine finF false rfl rfl sc ?_ | refine finC false rfl rfl sc sc ?_ | refine finN rfl rfl sc ?_ | refine finL true rfl rfl sc rfl (LeR.cons rfl leL LeR.nil) ?_ | refine finE true rfl rfl sc ?_ | refine finE false rfl rfl sc ?_)
      | (show retPostB _ _ _ _ _ _; first | refine finB rfl rfl ?_ ?_ | refine finBT rfl rfl rfl ?_ ?_))
    all_goals rfl
theorem plot_StripE (vs : List R3) (lo hi : R3) (c : Int) (hn : vs.length < 9223372036854775807) : True := trivial
end Go.Proofs.YtoppaphffnojdaaGreat

set_option linter.unusedVariables false
set_option linter.unusedSimpArgs false
set_option maxHeartbeats 8000000
namespace Go.Proofs.YtoppaphffnojdaaGreat
open Go.Vw
attribute [local irreducible] awp awpL awpR

theorem law40_awake : Ret Tryz.prog 9 [] (· = .bool true) := by
  have f0 := ref03_FromIntW 0 (by decide) (by decide)
  have f1 := ref03_FromIntW 1 (by decide) (by decide)
  have f4 := ref03_FromIntW 4 (by decide) (by decide)
  have k0 : okQ 10 ((0 : Int) : Rat) := ok_intW (by decide)
  have k1 : okQ 10 ((1 : Int) : Rat) := ok_intW (by decide)
  have k4 : okQ 10 ((4 : Int) : Rat) := ok_intW (by decide)
  have hs := plot_Strip [rq ((0 : Int) : Rat), rq ((1 : Int) : Rat), rq ((1 : Int) : Rat), rq ((4 : Int) : Rat)] (rq ((0 : Int) : Rat)) (rq ((4 : Int) : Rat)) 4 (by decide) (fun _ r hr => by
    simp only [List.mem_cons, List.not_mem_nil, or_false] at hr
    rcases hr with h | h | h | h <;> rw [h]
    · exact ok_rq (k0.mono (by decide))
    · exact ok_rq (k1.mono (by decide))
    · exact ok_rq (k1.mono (by decide))
    · exact ok_rq (k4.mono (by decide))) (ok_rq (k0.mono (by decide))) (ok_rq (k4.mono (by decide))) (by decide) (by decide)
  rw [List.map_cons, List.map_cons, List.map_cons, List.map_cons, List.map_nil, rv_rq, rv_rq, rv_rq] at hs
  rw [if_pos (by decide +kernel)] at hs
  rw [show lineB (countsZ ((0 : Int) : Rat) ((4 : Int) : Rat) 4 [((0 : Int) : Rat), ((1 : Int) : Rat), ((1 : Int) : Rat), ((4 : Int) : Rat)]) ++ [10] = [49, 50, 32, 49, 10] by decide +kernel] at hs
  clear k0 k1 k4
  generalize ((0 : Int) : Rat) = q0 at *
  generalize ((1 : Int) : Rat) = q1 at *
  generalize ((4 : Int) : Rat) = q4 at *
  refine ret_of_awp tab Tryz.func9 rfl rfl (Nat.le_of_ble_eq_true rfl) (fun w0 F0 => ?_)
  repeat' (first
    | (show awpL _ _ _ _ _; first | refine goL ?_ | refine cl 17 tt rfl rfl rfl (hr := f0) (k := ?_) | refine cl 17 tt rfl rfl rfl (hr := f1) (k := ?_) | refine cl 17 tt rfl rfl rfl (hr := f4) (k := ?_) | refine cl 19 tt rfl rfl rfl (hr := hs) (k := ?_) | (refine gdLD rfl rfl (fun _ => ?_) (fun _ => ?_) <;> try (exfalso; omega)) | (refine gdLN rfl rfl (fun _ => ?_) (fun _ => ?_) <;> try (exfalso; omega)) | refine gdL rfl rfl (fun _ => ?_) (fun _ => ?_))
    | (show awp _ _ _ _; first | refine goA ?_ | (refine awp_condD rfl (fun _ => ?_) (fun _ => ?_) <;> try (exfalso; omega)) | (refine awp_condN rfl (fun _ => ?_) (fun _ => ?_) <;> try (exfalso; omega)) | refine awp_cond rfl (fun _ => ?_) (fun _ => ?_))
    | (show andThen _ _ _ _; first | refine goN ?_)
    | (show inBlock _ _ _ _; first | refine goB ?_)
    | (show awpR _ _ _ _ _ _; first | refine goR ?_ | refine clR 17 tt rfl rfl rfl (hr := f0) (k := ?_) | refine clR 17 tt rfl rfl rfl (hr := f1) (k := ?_) | refine clR 17 tt rfl rfl rfl (hr := f4) (k := ?_) | refine clR 19 tt rfl rfl rfl (hr := hs) (k := ?_) | (refine gdRD rfl rfl (fun _ => ?_) (fun _ => ?_) <;> try (exfalso; omega)) | (refine gdRN rfl rfl (fun _ => ?_) (fun _ => ?_) <;> try (exfalso; omega)) | refine gdR rfl rfl (fun _ => ?_) (fun _ => ?_))
    | (show retPost _ _ _ _ _; first | refine finF true rfl rfl sc ?_ | refine finF false rfl rfl sc ?_ | refine finC false rfl rfl sc sc ?_ | refine finN rfl rfl sc ?_ | refine finL true rfl rfl sc rfl (LeR.cons rfl leL LeR.nil) ?_ | refine finE true rfl rfl sc ?_ | refine finE false rfl rfl sc ?_))
  rfl
end Go.Proofs.YtoppaphffnojdaaGreat
