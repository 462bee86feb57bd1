/-
  Lists of limbs, more: digit by digit. Conditions: none.
-/
import Derived.Test.YtcblkjmnigbiiaaDoorLimbs
namespace Go.Vw

theorem val_take_succ (l : List Nat) (i : Nat) : val (l.take (i + 1)) = val (l.take i) + B ^ i * l.getD i 0 := by
  by_cases h : i < l.length
  · rw [List.take_add_one, val_append]
    simp [List.getD, h, val, Nat.min_eq_left (Nat.le_of_lt h)]
  · simp [List.getD, List.getElem?_eq_none (Nat.le_of_not_lt h), List.take_of_length_le (Nat.le_of_not_lt h), List.take_of_length_le (show l.length ≤ i + 1 by omega)]
theorem val_take_all (l : List Nat) {i : Nat} (h : l.length ≤ i) : val (l.take i) = val l := by rw [List.take_of_length_le h]
theorem val_snoc (l : List Nat) (x : Nat) : val (l ++ [x]) = val l + B ^ l.length * x := by rw [val_append]; simp [val]
theorem WF.snoc {l : List Nat} (h : WF l) {x : Nat} (hx : x < B) : WF (l ++ [x]) := WF.append h fun y hy => by simp at hy; omega
theorem WF.set {l : List Nat} (h : WF l) (i : Nat) {x : Nat} (hx : x < B) : WF (l.set i x) := fun y hy => by
  rcases List.mem_or_eq_of_mem_set hy with h1 | h1
  · exact h y h1
  · omega
theorem wf_takeL {l : List Nat} (h : WF l) : WF (takeL l) := by unfold takeL; split; exact h; exact WF.nil
theorem takeL_le (l : List Nat) : (takeL l).length ≤ l.length := by unfold takeL; split <;> simp
theorem val_takeL (l : List Nat) : val (takeL l) = nv l := rfl
theorem B_val : B = 4294967296 := rfl

/-- The drop from a place on, and the digit before it. -/
theorem val_split (l : List Nat) (i : Nat) (h : i < l.length) : val l = val (l.take i) + B ^ i * (l.getD i 0 + B * val (l.drop (i + 1))) := by
  conv => lhs; rw [← List.take_append_drop i l, val_append]
  rw [List.length_take, Nat.min_eq_left (Nat.le_of_lt h), List.drop_eq_getElem_cons h]
  simp [val, List.getD, h]

def cmpN (m n : Nat) : Int := if m < n then -1 else if n < m then 1 else 0

theorem cmpN_neg (m n : Nat) : cmpN m n < 0 ↔ m < n := by unfold cmpN; split; omega; split <;> omega
theorem cmpN_zero (m n : Nat) : cmpN m n = 0 ↔ m = n := by unfold cmpN; split; omega; split <;> omega
theorem cmpN_le (m n : Nat) : cmpN m n ≤ 0 ↔ m ≤ n := by unfold cmpN; split; omega; split <;> omega

theorem val_lt_of {a b : List Nat} (ha : WF a) {i : Nat} (h1 : i < a.length) (h2 : i < b.length) (hd : a.drop (i + 1) = b.drop (i + 1)) (h : a.getD i 0 < b.getD i 0) : val a < val b := by
  rw [val_split a i h1, val_split b i h2, hd]
  have h3 := val_lt (ha.take i)
  rw [List.length_take, Nat.min_eq_left (Nat.le_of_lt h1)] at h3
  have : B ^ i * (a.getD i 0 + 1 + B * val (b.drop (i + 1))) ≤ B ^ i * (b.getD i 0 + B * val (b.drop (i + 1))) := Nat.mul_le_mul_left _ (by omega)
  have h4 : B ^ i * (a.getD i 0 + 1 + B * val (b.drop (i + 1))) = B ^ i + B ^ i * (a.getD i 0 + B * val (b.drop (i + 1))) := by
    rw [show a.getD i 0 + 1 + B * val (b.drop (i + 1)) = 1 + (a.getD i 0 + B * val (b.drop (i + 1))) by omega, Nat.mul_add, Nat.mul_one]
  omega
theorem drop_eq_of {a b : List Nat} {i : Nat} (h1 : i < a.length) (h2 : i < b.length) (hd : a.drop (i + 1) = b.drop (i + 1)) (h : a.getD i 0 = b.getD i 0) : a.drop i = b.drop i := by
  rw [List.drop_eq_getElem_cons h1, List.drop_eq_getElem_cons h2, hd]
  simp [List.getD, h1, h2] at h
  rw [h]
theorem lt_of_length {m n : Nat} (h : (limbs m).length < (limbs n).length) : m < n := by
  refine Nat.lt_of_not_le fun hh => ?_
  have := length_limbs_le (Nat.lt_of_le_of_lt hh (lt_pow_length m))
  omega
theorem nv_lt {l : List Nat} (h : WF l) : nv l < B ^ l.length := by
  have := val_lt (wf_takeL h)
  exact Nat.lt_of_lt_of_le this (Nat.pow_le_pow_right (by decide) (takeL_le l))
theorem length_limbs_nv {l : List Nat} (h : WF l) : (limbs (nv l)).length ≤ l.length := length_limbs_le (nv_lt h)
theorem limbs_len_mono {m n : Nat} (h : m ≤ n) : (limbs m).length ≤ (limbs n).length := length_limbs_le (Nat.lt_of_le_of_lt h (lt_pow_length n))
end Go.Vw
