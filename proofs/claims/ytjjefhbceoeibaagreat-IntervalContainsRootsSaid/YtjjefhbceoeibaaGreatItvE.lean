/-
  Intervals of rational numbers: how long the results are. Conditions: as each says.
-/
import Derived.Test.YtjjefhbceoeibaaGreatA10
import Derived.Test.YtjjefhbceoeibaaGreatA11
set_option linter.unusedVariables false
set_option linter.unusedSimpArgs false
namespace Go.Vw
theorem okQ_one : okQ 2 1 := ⟨by show (limbs 1).length < 2; rw [limbs_one]; decide, by show (limbs 1).length < 2; rw [limbs_one]; decide⟩
theorem okI.mono {k l : Nat} {i : I2} (h : okI k i) (hl : k ≤ l) : okI l i := ⟨h.1.mono hl, h.2.mono hl⟩
theorem hullL_okI {k : Nat} {x : Rat} {l : List Rat} (h : ∀ q ∈ x :: l, okQ k q) : okI k (hullL x l) :=
  hullL_ok l x x (h x (by simp)) (h x (by simp)) fun q hq => h q (by simp [hq])
theorem mulI_ok {k l : Nat} {a b : I2} (ha : okI k a) (hb : okI l b) : okI (k + l) (mulI a b) := by
  refine hullL_okI ?_
  intro x hx
  simp only [List.mem_cons, List.not_mem_nil, or_false] at hx
  rcases hx with h | h | h | h <;> rw [h]
  · exact ha.1.mul hb.1
  · exact ha.1.mul hb.2
  · exact ha.2.mul hb.1
  · exact ha.2.mul hb.2
theorem addI_ok {k l : Nat} {a b : I2} (ha : okI k a) (hb : okI l b) : okI (k + l) (addI a b) := ⟨ha.1.add hb.1, ha.2.add hb.2⟩
theorem subI_ok {k l : Nat} {a b : I2} (ha : okI k a) (hb : okI l b) : okI (k + l) (subI a b) := ⟨ha.1.sub hb.2, ha.2.sub hb.1⟩
theorem sqI_ok {k : Nat} {a : I2} (ha : okI k a) (hk : 1 < k) : okI (k + k) (sqI a) := by
  have h : okI (k + k) (hullL (a.1 * a.1) [a.2 * a.2]) := by
    refine hullL_okI ?_
    intro x hx
    simp only [List.mem_cons, List.not_mem_nil, or_false] at hx
    rcases hx with h | h <;> rw [h]
    · exact ha.1.mul ha.1
    · exact ha.2.mul ha.2
  unfold sqI
  split
  · exact ⟨okQ_zero (by omega), h.2⟩
  · exact h
theorem divI_ok {k l : Nat} {a b : I2} (ha : okI k a) (hb : okI l b) (hle : b.1 ≤ b.2) (h0 : containsI b 0 = false) : okI (k + (2 + l)) (divI a b) := by
  have h1 := (in_inv h0 (in_lo hle)).1
  have h2 := (in_inv h0 (in_hi hle)).1
  exact mulI_ok ha ⟨okQ_one.div hb.2 h2, okQ_one.div hb.1 h1⟩
theorem divI_le (a b : I2) : (divI a b).1 ≤ (divI a b).2 := mulI_le _ _
theorem hullI_ok {k : Nat} {a b : I2} (ha : okI k a) (hb : okI k b) : okI k (hullI a b) := by
  refine hullL_okI ?_
  intro x hx
  simp only [List.mem_cons, List.not_mem_nil, or_false] at hx
  rcases hx with h | h | h | h <;> rw [h]
  · exact ha.1
  · exact ha.2
  · exact hb.1
  · exact hb.2
theorem meetI_ok {k : Nat} {a b m : I2} (ha : okI k a) (hb : okI k b) (h : meetI a b = some m) : okI k m := by
  rw [(meetI_some h).2.2.2]
  exact ⟨okQ_maxQ ha.1 hb.1, okQ_minQ ha.2 hb.2⟩
theorem rootI_ok {v : Rat} {n k : Nat} (h : okQ k v) (hn : n ≤ 128) (hk : 1 < k) : okI (k + 20 + 10 + (2 + 10)) (rootI v n) := by
  have hl : okQ (k + 20 + 10) (rootLo v n) := (okQ_natI (rootN_len h hn) (by omega)).div (okQ_two hn) (twoQ_ne n)
  have hs := okQ_one.div (okQ_two hn) (twoQ_ne n)
  unfold rootI
  split
  · exact ⟨hl.mono (by omega), hl.mono (by omega)⟩
  · exact ⟨hl.mono (by omega), hl.add hs⟩
theorem num_nonneg' {q : Rat} (h : 0 ≤ q) : 0 ≤ q.num := Rat.num_nonneg.2 h
theorem sign_zero_iff {q : Rat} : q.num.sign = 0 ↔ q = 0 := by rw [Int.sign_eq_zero_iff_zero, Rat.num_eq_zero]
end Go.Vw
