/-
  Matrices of rational numbers: the elimination as the specification has it, where each pivot stands in its place. Conditions: as each says.
-/
import Derived.Test.YtcblkjmnigbiiaaDoorRatsQ
set_option linter.unusedVariables false
set_option linter.unusedSimpArgs false
namespace Go.Vw
@[reducible] def qC (q : Rat) : List D := rC (rq q)
@[reducible] def qD (q : Rat) : D := rD (rq q)
@[reducible] def qsD (l : List Rat) : D := .sl 3 qC 0 l
@[reducible] def eQ (l : List Rat) : List D := [qsD l]
@[reducible] def qssD (l : List (List Rat)) : D := .sl 1 eQ [] l

def timesQ (l : List Rat) (c : Rat) : List Rat := l.map (· * c)
def plusQ (a b : List Rat) : List Rat := List.zipWith (· + ·) a b
def at2 (m : List (List Rat)) (i j : Nat) : Rat := (m.getD i []).getD j 0
def scaleQ (m : List (List Rat)) (j : Nat) : List (List Rat) := m.set j (timesQ (m.getD j []) (1 / at2 m j j))
def elimRow (m : List (List Rat)) (j i : Nat) : List Rat := if i = j then m.getD j [] else plusQ (m.getD i []) (timesQ (m.getD j []) (-(at2 m i j)))
def elimI (m : List (List Rat)) (j i : Nat) : List (List Rat) := (List.range i).map (elimRow m j) ++ m.drop i
def redQ (m : List (List Rat)) (j : Nat) : List (List Rat) := elimI (scaleQ m j) j m.length

theorem elimI_len {m : List (List Rat)} {j i : Nat} (h : i ≤ m.length) : (elimI m j i).length = m.length := by simp [elimI]; omega
theorem elimI_zero (m : List (List Rat)) (j : Nat) : elimI m j 0 = m := by simp [elimI]
theorem elimI_get_i {m : List (List Rat)} {j i : Nat} (h : i < m.length) : (elimI m j i).getD i [] = m.getD i [] := by
  simp [elimI, List.getD_eq_getElem?_getD, List.getElem?_append_right]
theorem elimI_get_j {m : List (List Rat)} {j i : Nat} (h : j < m.length) (hi : i ≤ m.length) : (elimI m j i).getD j [] = m.getD j [] := by
  by_cases e : j < i
  · simp [elimI, List.getD_eq_getElem?_getD, List.getElem?_append_left, e, elimRow]
  · rw [List.getD_eq_getElem?_getD, elimI, List.getElem?_append_right (by simp; omega)]
    simp [List.getD_eq_getElem?_getD, List.getElem?_drop]
    rw [show i + (j - i) = j by omega]
theorem elimI_set {m : List (List Rat)} {j i : Nat} (h : i < m.length) : (elimI m j i).set i (elimRow m j i) = elimI m j (i + 1) := by
  apply List.ext_getElem?
  intro k
  rw [List.getElem?_set]
  by_cases e : i = k
  · subst e
    rw [if_pos rfl, if_pos (by rw [elimI_len (by omega)]; omega)]
    rw [elimI, List.getElem?_append_left (by simp)]
    simp
  · rw [if_neg e]
    by_cases e2 : k < i
    · rw [elimI, elimI, List.getElem?_append_left (by simpa using e2), List.getElem?_append_left (by simp; omega)]
      simp [e2, show k < i + 1 by omega]
    · rw [elimI, elimI, List.getElem?_append_right (by simp; omega), List.getElem?_append_right (by simp; omega)]
      simp only [List.getElem?_drop, List.length_map, List.length_range]
      congr 1; omega
theorem elimI_keep {m : List (List Rat)} {j : Nat} (h : j < m.length) : elimI m j (j + 1) = elimI m j j := by
  rw [← elimI_set h]
  have e : elimRow m j j = m.getD j [] := by simp [elimRow]
  rw [e]
  apply List.ext_getElem?
  intro k
  rw [List.getElem?_set]
  by_cases e : j = k
  · subst e
    rw [if_pos rfl, if_pos (by rw [elimI_len (by omega)]; omega)]
    have h1 := elimI_get_i (j := j) h
    rw [List.getD_eq_getElem?_getD, List.getD_eq_getElem?_getD] at h1
    rw [List.getD_eq_getElem?_getD]
    have l1 : j < (elimI m j j).length := by rw [elimI_len (by omega)]; omega
    rw [List.getElem?_eq_getElem l1, List.getElem?_eq_getElem h] at h1
    rw [List.getElem?_eq_getElem l1, List.getElem?_eq_getElem h]
    simp at h1 ⊢
    exact h1.symm
  · rw [if_neg e]

/-- A number of two machine words at most. -/
def smallQ (q : Rat) : Prop := q.num.natAbs < 18446744073709551616 ∧ q.den < 18446744073709551616
theorem limbs_len2 {n : Nat} (h : n < 18446744073709551616) : (limbs n).length < 1000 := Nat.lt_of_le_of_lt (length_limbs_le (n := n) (k := 2) (by rw [B_val]; exact h)) (by decide)
theorem limbs_len4 {n : Nat} (h : n < 18446744073709551616 * 18446744073709551616) : (limbs n).length < 1000 := Nat.lt_of_le_of_lt (length_limbs_le (n := n) (k := 4) (by rw [B_val]; exact h)) (by decide)
theorem smallQ.ok {q : Rat} (h : smallQ q) : okQ 1000000 q := ⟨Nat.lt_trans (limbs_len2 h.1) (by decide), Nat.lt_trans (limbs_len2 h.2) (by decide)⟩
theorem smallQ.neg {q : Rat} (h : smallQ q) : smallQ (-q) := by unfold smallQ at *; rw [show (-q).num = -q.num from rfl, show (-q).den = q.den from rfl, Int.natAbs_neg]; exact h
theorem smallQ.one : smallQ 1 := by unfold smallQ; decide
theorem num_mul_le (x y : Rat) : (x * y).num.natAbs ≤ x.num.natAbs * y.num.natAbs ∧ (x * y).den ≤ x.den * y.den := by
  rw [Rat.num_mul, Rat.den_mul, ← Int.natAbs_mul]
  refine ⟨?_, Nat.div_le_self _ _⟩
  have hd : ((((x.num * y.num).natAbs.gcd (x.den * y.den) : Nat)) : Int) ∣ x.num * y.num := Int.ofNat_dvd_left.2 (Nat.gcd_dvd_left _ _)
  rw [Int.natAbs_ediv_of_dvd hd]
  exact Nat.div_le_self _ _
theorem smallQ.mul {x y : Rat} (hx : smallQ x) (hy : smallQ y) : okQ 1000000 (x * y) := by
  obtain ⟨h1, h2⟩ := num_mul_le x y
  exact ⟨Nat.lt_trans (limbs_len4 (Nat.lt_of_le_of_lt h1 (Nat.mul_lt_mul'' hx.1 hy.1))) (by decide), Nat.lt_trans (limbs_len4 (Nat.lt_of_le_of_lt h2 (Nat.mul_lt_mul'' hx.2 hy.2))) (by decide)⟩
theorem smallQ.inv {x : Rat} (hx : smallQ x) : smallQ (1 / x) := by
  unfold smallQ at *
  rw [Rat.div_def, Rat.one_mul, Rat.num_inv, Rat.den_inv]
  refine ⟨?_, ?_⟩
  · rw [Int.natAbs_mul, Int.natAbs_natCast]
    refine Nat.lt_of_le_of_lt (Nat.mul_le_mul_right _ (show x.num.sign.natAbs ≤ 1 from ?_)) (by omega)
    rw [Int.natAbs_sign]; split <;> omega
  · split <;> omega

def goodB (n : Nat) (m : List (List Rat)) : Bool := Nat.beq m.length n && m.all fun r => Nat.beq r.length n && r.all fun q => Nat.blt q.num.natAbs 18446744073709551616 && Nat.blt q.den 18446744073709551616
structure GoodM (n : Nat) (m : List (List Rat)) : Prop where
  len : m.length = n
  row : ∀ i, i < n → (m.getD i []).length = n
  small : ∀ i, i < n → ∀ q ∈ m.getD i [], smallQ q
theorem goodB_spec {n : Nat} {m : List (List Rat)} (h : goodB n m = true) : GoodM n m := by
  simp only [goodB, Bool.and_eq_true, List.all_eq_true, Nat.blt_eq] at h
  obtain ⟨h1, h2⟩ := h
  have h1 := Nat.eq_of_beq_eq_true h1
  have mem : ∀ i, i < n → m.getD i [] ∈ m := fun i hi => by
    rw [List.getD_eq_getElem?_getD, List.getElem?_eq_getElem (by omega)]; exact List.getElem_mem _
  exact ⟨h1, fun i hi => Nat.eq_of_beq_eq_true (h2 _ (mem i hi)).1, fun i hi q hq => (h2 _ (mem i hi)).2 q hq⟩
theorem GoodM.at2 {n : Nat} {m : List (List Rat)} (h : GoodM n m) {i j : Nat} (hi : i < n) (hj : j < n) : smallQ (at2 m i j) := by
  refine h.small i hi _ ?_
  unfold Vw.at2
  have hr := h.row i hi
  generalize m.getD i [] = r at *
  rw [List.getD_eq_getElem?_getD, List.getElem?_eq_getElem (by omega)]; exact List.getElem_mem _
/-- The run keeps to small numbers, and each pivot stands in its place. -/
def okRun (n : Nat) : Nat → List (List Rat) → Rat → Bool
  | 0, m, _ => goodB n m
  | k + 1, m, f => !(decide (at2 m (n - (k + 1)) (n - (k + 1)) = 0)) && Nat.blt f.num.natAbs 18446744073709551616 && Nat.blt f.den 18446744073709551616 && goodB n m && goodB n (scaleQ m (n - (k + 1))) && okRun n k (redQ m (n - (k + 1))) (f * at2 m (n - (k + 1)) (n - (k + 1)))
/-- The matrix and the factor before column j. -/
def mAt (m : List (List Rat)) : Nat → List (List Rat)
  | 0 => m
  | j + 1 => redQ (mAt m j) j
def facAt (m : List (List Rat)) : Nat → Rat
  | 0 => 1
  | j + 1 => facAt m j * at2 (mAt m j) j j
structure RunOk (n : Nat) (m : List (List Rat)) : Prop where
  good : ∀ j, j ≤ n → GoodM n (mAt m j)
  piv : ∀ j, j < n → at2 (mAt m j) j j ≠ 0
  fac : ∀ j, j < n → smallQ (facAt m j)
  scaled : ∀ j, j < n → GoodM n (scaleQ (mAt m j) j)
theorem okRun_spec {n : Nat} {m : List (List Rat)} (h : okRun n n m 1 = true) : RunOk n m := by
  have key : ∀ k, k ≤ n → okRun n k (mAt m (n - k)) (facAt m (n - k)) = true := by
    intro k hk
    have aux : ∀ d, d ≤ n → okRun n (n - d) (mAt m d) (facAt m d) = true := by
      intro d
      induction d with
      | zero => intro _; exact h
      | succ d ih =>
        intro hd
        have := ih (by omega)
        rw [show n - d = (n - (d + 1)) + 1 by omega, okRun] at this
        rw [show n - (n - (d + 1) + 1) = d by omega] at this
        simp only [Bool.and_eq_true] at this
        exact this.2
    have := aux (n - k) (by omega)
    rwa [show n - (n - k) = k by omega] at this
  have step : ∀ j, j < n → (at2 (mAt m j) j j ≠ 0 ∧ smallQ (facAt m j)) ∧ GoodM n (mAt m j) ∧ GoodM n (scaleQ (mAt m j) j) := by
    intro j hj
    have := key (n - j) (by omega)
    rw [show n - j = (n - j - 1) + 1 by omega, okRun] at this
    rw [show n - (n - j - 1 + 1) = j by omega] at this
    simp only [Bool.and_eq_true, Bool.not_eq_true', decide_eq_false_iff_not, Nat.blt_eq] at this
    obtain ⟨⟨⟨⟨⟨h1, h2⟩, h3⟩, h4⟩, h5⟩, _⟩ := this
    exact ⟨⟨h1, h2, h3⟩, goodB_spec h4, goodB_spec h5⟩
  refine ⟨fun j hj => ?_, fun j hj => (step j hj).1.1, fun j hj => (step j hj).1.2, fun j hj => (step j hj).2.2⟩
  rcases Nat.lt_or_ge j n with h | h
  · exact (step j h).2.1
  · have := key 0 (by omega)
    rw [show j = n by omega]
    rw [okRun, Nat.sub_zero] at this
    exact goodB_spec this
theorem scaleQ_len (m : List (List Rat)) (j : Nat) : (scaleQ m j).length = m.length := by simp [scaleQ]
end Go.Vw
